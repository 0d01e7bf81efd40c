import Derived.ProofKit
import Derived.OpenShut
import Derived.ShutString
import Derived.SizedLaws
import Derived.LaidLaws
import Derived.Lay
import Derived.LaidMore
import Derived.Stop.LaidErr
import Derived.Test.YtgkdenejkcngnaaGreatDoorPv2
set_option maxRecDepth 100000
set_option maxHeartbeats 8000000
namespace Go.Proofs.YtgkdenejkcngnaaGreatDoor
open Go.RowKit
open Value renaming int→Vi
open IntKind renaming i64→Vk
open Go.Proofs.Tryz
variable {a:Act}{K:Act→World→Prop}{d d':Af}{listed:Array Bool}{af:Array Edge}{ops:Array Oper}{x:Bl}{D:DataW Value}{Q:Exit→Act→World→Prop}{fn:Func}{h:Hd}{bad from_ num:Int}{E bs:List (List UInt8)}{L:List Aq}{fs fs':List Bl}{zs:List Int}{us vs:List Nat}{rest:List Oper}{b body l n raw t:List UInt8}{cs:List Value}{B N base c f first g i j k m more most p r segEv size stride u:Nat}{A A' S:Nat→Prop}{o:Oper}{P:Program}{q:Tmp}{bv mv rv sv v v' v1:Value}{W W' X w w' w0 w1 w2:World}
theorem frameSize_any (n:Nat) (w:World) (hn:n≤16384):Calls prog 100 #[Vi Vk (n:Int)] w fun e w'=>e= .returned (Vi Vk (n+20:Nat))∧w=w':=by
 go_enter func100,ntmps100;go_wp2;go_ret;exact⟨by simp;omega,rfl⟩
theorem i64_or_nat (a b:Nat) (ha:a<4294967296) (hb:b<4294967296):bits .or .i64 (a:Int) (b:Int)=((a ||| b:Nat):Int):=by
 have hx:a ||| b<2^32:=Nat.or_lt_two_pow (by omega) (by omega)
 show IntKind.i64.wrap ((BitVec.ofInt 64 (a:Int) ||| BitVec.ofInt 64 (b:Int)).toNat:Int)=_;rw [BitVec.toNat_or,ofInt_u64 a (by omega),ofInt_u64 b (by omega),ν];omega
theorem or256 {x y:UInt8}:bits .or .i64 (x.toNat:Int) ((y.toNat:Int)*256)=((x.toNat+y.toNat*256:Nat):Int):=by
 have h1:x.toNat<256:=x.toNat_lt;have h2:y.toNat<256:=y.toNat_lt;rw [show (y.toNat:Int)*256=((y.toNat*2^8:Nat):Int) by omega,i64_or_nat _ _ (by omega) (by omega),or_add (k:=8) (by omega)]
theorem or8 (x:UInt8) (hu:u<256^k) (hk:k<8):bits .or .u64 (u:Int) (IntKind.u64.wrap ((x.toNat:Int)*2^(8*k)))=((u+x.toNat*256^k:Nat):Int):=by
 have e:(256:Nat)^k=2^(8*k):=by rw [Nat.pow_mul]
 have hx:x.toNat<256:=x.toNat_lt;have h8:(256:Nat)^(k+1)≤256^8:=Nat.pow_le_pow_right (by decide) (by omega);have h88:(256:Nat)^8=18446744073709551616:=by decide
 have hm:x.toNat*256^k≤255*256^k:=Nat.mul_le_mul_right _ (by omega);rw [Nat.pow_succ] at h8;have hs:u+x.toNat*256^k<18446744073709551616:=by omega
 rw [e] at hu hs ⊢;exact or64 hu hs
theorem Nf {x:UInt8} (h:l[i]? =some x):Ci l i=x.toNat:=by unfold Ci;rw [List.getD_eq_getElem?_getD,h];rfl
theorem leNat_take {x:UInt8} (h:l[k]? =some x):Hi (l.take (k+1))=Hi (l.take k)+x.toNat*256^k:=by
 obtain⟨hk,rfl⟩:=List.getElem?_eq_some_iff.1 h;rw [List.take_succ_eq_append_getElem hk,leNat_snoc,ω,Nat.min_eq_left (by omega)]
theorem leNat_take_lt (l:List UInt8) (k:Nat):Hi (l.take k)<256^k:=
 Nat.lt_of_lt_of_le (leNat_lt _) (Nat.pow_le_pow_right (by decide) (by rw [ω];omega))
theorem peek_short (h:b.length<16):Db b=(0,0,0,60):=by unfold Db;rw [κ h]
theorem peek_mark (h: ¬ b.length<16) (h1:Ci b 0≠165):Db b=(0,0,0,61):=by unfold Db;rw [γ h,κ h1]
theorem peek_sum (h: ¬ b.length<16) (h1: ¬ Ci b 0≠165) (h2:K3 (b.take 16)=false):Db b=(0,0,0,62):=by unfold Db;rw [γ h,γ h1,κ h2]
theorem Pn (h: ¬ b.length<16) (h1: ¬ Ci b 0≠165) (h2: ¬ K3 (b.take 16)=false) (h3:Ci b 1=0∨7<Ci b 1∨16384<Ci b 2+Ci b 3*256∨1099511627776<Hi ((b.drop 4).take 8)):Db b=(0,0,0,63):=by
 unfold Db;rw [γ h,γ h1,γ h2,κ h3]
theorem peek_good (h: ¬ b.length<16) (h1: ¬ Ci b 0≠165) (h2: ¬ K3 (b.take 16)=false) (h3: ¬ (Ci b 1=0∨7<Ci b 1∨16384<Ci b 2+Ci b 3*256∨1099511627776<Hi ((b.drop 4).take 8))):
  Db b=(Ci b 1,Hi ((b.drop 4).take 8),Ci b 2+Ci b 3*256+20,0):=by
 unfold Db;rw [γ h,γ h1,γ h2,γ h3]
def PeekPost (w:World) (r:Nat×Nat×Nat×Int) (e:Ending) (w':World):Prop:=e= .returned (.tuple #[Vi Vk (r.1:Int),Vi Vk (r.2.1:Int),Vi Vk (r.2.2.1:Int),Vi Vk r.2.2.2])∧Below w.heap.size w w'
theorem peek_any (l:List UInt8) (v:Value) (w:World) (hv:B7 w v l) (hl:l.length≤9223372036854775807) (hn:Bh w):
  Calls prog 97 #[v] w (PeekPost w (Db l)):=by
 rcases h16:decide (l.length<16) with _|_
 ·have hnl: ¬ l.length<16:=Γ h16;have HNL:=Qh hnl;have q1: ¬ (l.length:Int)<16:=by omega
  have hle:16≤l.length:=by omega
  have HBR:=Qh hv;have HCL:=Qh (fun oa' cap' (hv:B7 w (.slice oa' 16 cap') (l.take 16))=>closed_any (l.take 16) _ w hv (by rw [ω];omega) hn);obtain⟨oa,cap,rfl,hlc,hc⟩:=hv;obtain⟨b,off,rfl,hcell⟩:=hc (by rintro rfl;simp at hnl);have HC:=Qh hcell;obtain⟨x0,hx0,_,_⟩:=Pj l 0 (by omega);obtain⟨x1,hx1,_,_⟩:=Pj l 1 (by omega);obtain⟨x2,hx2,_,_⟩:=Pj l 2 (by omega);obtain⟨x3,hx3,_,_⟩:=Pj l 3 (by omega);have c0:w.cell? ⟨b,off,none⟩=some (.int .u8 (x0.toNat:Int)):=hcell 0 x0 hx0;have HB0:=Qh (Nf hx0);have HB1:=Qh (Nf hx1);have HB2:=Qh (Nf hx2);have HB3:=Qh (Nf hx3);have HX1:=Qh hx1;have HX2:=Qh hx2;have HX3:=Qh hx3;clear hc hcell hx0 hx1 hx2 hx3 hn h16 hnl;go_enter func97,ntmps97;rcases hm:((x0.toNat:Int) != 165) with _|_
  ·have HM:=Qs (¬ Ci l 0≠165) (by rw [HB0.out];simp at hm;omega);go_wp2_with (with_reducible refine Pv rfl (.tmp 20) (.const (Vi Vk 16)) rfl (some ⟨b,off,none⟩) cap 16 l rfl rfl HBR.out hle ?_);intro oa' cap' hbr;go_wp2_with fail;refine(HCL.out oa' cap' hbr).mono ?_;rintro e w1 ⟨rfl,hb1⟩;have HBw:=Qh hb1;have c1:=cell_later hb1 (HC.out 1 x1 HX1.out);have c2:=cell_later hb1 (HC.out 2 x2 HX2.out);have c3:=cell_later hb1 (HC.out 3 x3 HX3.out);clear hb1 hbr HCL c0;rcases hck:K3 (l.take 16) with _|_
   ·have HE:=Qh (peek_sum HNL.out HM.out hck);go_wp2;refine π (v:= .tuple #[Vi Vk 0,Vi Vk 0,Vi Vk 0,Vi Vk 62]) (by simp [results,results97,go_sem]) rfl ⟨by rw [HE.out];rfl,HBw.out⟩
   ·have HK:=Qs (¬ K3 (l.take 16)=false) (by rw [hck];decide);obtain⟨nn,hnn⟩: ∃ nn,nn=x2.toNat+x3.toNat*256:=⟨_,rfl⟩;have n7:= @or256 x2 x3;rw [←hnn] at n7;have HN:=Qh hnn;have t3:x3.toNat<256:=x3.toNat_lt;have t2:x2.toNat<256:=x2.toNat_lt;have t1:x1.toNat<256:=x1.toNat_lt;clear hck hnn;go_wp2
    go_quiet (fail)
    have HB2w:=Qh (Below.next HBw.out (Ac w1 nq));have c1:(w1.drewN nq).cell? ⟨b,off+1,none⟩=some (.int .u8 (x1.toNat:Int)):=c1;generalize w1.drewN nq=w2 at*;clear n7 c2 c3 HBw;go_wp2;go_loopw [7,34] (fun sv iv wr=> ∃ k:Nat,k≤8∧iv= Vi Vk k∧sv= .int .u64 ((Hi ((l.drop 4).take k):Nat):Int)∧Below w.heap.size w wr) (fun _ iv _=>8 - (intOf iv).toNat)
    case atStart=>exact⟨0,by omega,rfl,rfl,HB2w.out⟩
    case round=>
     clear HB2w c1;obtain⟨k,hk,rfl,rfl,hb⟩:=hrel;have HBr:=Qh hb;clear hb;by_cases hlt:k<8
     ·obtain⟨x,hx,_,_⟩:=Pj l (4+k) (by omega);have q2:(k:Int)<8:=by omega
      have c1:=cell_later HBr.out (HC.out (4+k) x hx);have HX:=Qs (Hi ((l.drop 4).take (k+1))=Hi ((l.drop 4).take k)+x.toNat*256^k) (leNat_take (by rw [List.getElem?_drop];exact hx));have hsl:=leNat_take_lt (l.drop 4) k;obtain⟨s,hs⟩: ∃ s,s=Hi ((l.drop 4).take k):=⟨_,rfl⟩;rw [←hs] at HX hsl ⊢;have n1:=or8 x hsl hlt;obtain⟨s2,hs2⟩: ∃ s2,s2=s+x.toNat*256^k:=⟨_,rfl⟩;rw [←hs2] at HX n1;have tx:x.toNat<256:=x.toNat_lt;have n3:IntKind.u64.wrap (x.toNat:Int)=(x.toNat:Int):=by rw [IntKind.wrap_u64];omega
      have hidx:(4:Int)+(k:Int)<(l.length:Int):=by omega
      clear hs hs2 hsl hx;go_wp2;go_roundw
      case rel=>exact⟨k+1,by omega,by go_num,by rw [HX.out],HBr.out⟩
      case measure=>simp [intOf];omega
     ·obtain rfl:k=8:=by omega
      have c1:=cell_later HBr.out (HC.out 1 x1 HX1.out);obtain⟨s,hs⟩: ∃ s,s=Hi ((l.drop 4).take 8):=⟨_,rfl⟩;rw [←hs];have HS:=Qh hs.symm;have hs64:s<18446744073709551616:=by rw [hs];exact leNat_take_lt (l.drop 4) 8
      clear hs hlt;rcases g1:((x1.toNat:Int)==0) with _|_
      ·rcases g2:decide ((7:Int)<(x1.toNat:Int)) with _|_
       ·rcases g3:decide ((16384:Int)<(nn:Int)) with _|_
        ·rcases g4:decide ((1099511627776:Int)<(s:Int)) with _|_
         ·have h1: ¬ x1.toNat=0:=by simp at g1;omega
          have h2:=Γ g2;have h3:=Γ g3;have h4:=Γ g4;have HE:=Qh (peek_good HNL.out HM.out HK.out (by rw [HB1.out,HB2.out,HB3.out,←HN.out,HS.out];omega));rw [HB1.out,HB2.out,HB3.out,←HN.out,HS.out] at HE;have n5:IntKind.i64.wrap (s:Int)=(s:Int):=by rw [ν];omega
          have hnn:nn≤16384:=by omega
          clear h1 h2 h3 h4;go_wp2_with fail;refine(frameSize_any nn _ hnn).mono ?_;rintro e w3 ⟨rfl,rfl⟩;go_wp2;refine π (v:= .tuple #[Vi Vk (x1.toNat:Int),Vi Vk (s:Int),Vi Vk ((nn+20:Nat):Int),Vi Vk 0]) (by simp [results,results97,go_sem]) rfl ⟨by rw [HE.out],HBr.out⟩
         ·have h4:=ψ g4;have HE:=Qh (Pn HNL.out HM.out HK.out (by rw [HB1.out,HB2.out,HB3.out,←HN.out,HS.out];omega));go_wp2;refine π (v:= .tuple #[Vi Vk 0,Vi Vk 0,Vi Vk 0,Vi Vk 63]) (by simp [results,results97,go_sem]) rfl ⟨by rw [HE.out];rfl,HBr.out⟩
        ·have h3:=ψ g3;have HE:=Qh (Pn HNL.out HM.out HK.out (by rw [HB1.out,HB2.out,HB3.out,←HN.out,HS.out];omega));go_wp2;refine π (v:= .tuple #[Vi Vk 0,Vi Vk 0,Vi Vk 0,Vi Vk 63]) (by simp [results,results97,go_sem]) rfl ⟨by rw [HE.out];rfl,HBr.out⟩
       ·have h2:=ψ g2;have HE:=Qh (Pn HNL.out HM.out HK.out (by rw [HB1.out,HB2.out,HB3.out,←HN.out,HS.out];omega));go_wp2;refine π (v:= .tuple #[Vi Vk 0,Vi Vk 0,Vi Vk 0,Vi Vk 63]) (by simp [results,results97,go_sem]) rfl ⟨by rw [HE.out];rfl,HBr.out⟩
      ·have h1:x1.toNat=0:=by simp at g1;omega
       have H1:=Qh h1;clear h1;have HE:=Qh (Pn HNL.out HM.out HK.out (by rw [HB1.out,HB2.out,HB3.out,←HN.out,HS.out];exact .inl H1.out));go_wp2;refine π (v:= .tuple #[Vi Vk 0,Vi Vk 0,Vi Vk 0,Vi Vk 63]) (by simp [results,results97,go_sem]) rfl ⟨by rw [HE.out];rfl,HBr.out⟩
  ·have HM:=Qs (Ci l 0≠165) (by rw [HB0.out];simp at hm;omega);have HE:=Qh (peek_mark HNL.out HM.out);go_wp2;refine π (v:= .tuple #[Vi Vk 0,Vi Vk 0,Vi Vk 0,Vi Vk 61]) (by simp [results,results97,go_sem]) rfl ⟨by rw [HE.out];rfl,χ _ _⟩
 ·have HE:=Qh (peek_short (ψ h16));have q1:(l.length:Int)<16:=by have:=ψ h16;omega
  obtain⟨oa,cap,rfl,hlc,hc⟩:=hv;clear hc h16 hn;go_enter func97,ntmps97;go_wp2;refine π (v:= .tuple #[Vi Vk 0,Vi Vk 0,Vi Vk 0,Vi Vk 60]) (by simp [results,results97,go_sem]) rfl ⟨by rw [HE.out];rfl,χ _ _⟩
section
variable {ops : Array Oper} {rest : List Oper} {o : Oper} {a : Act} {Q : Exit → Act → World → Prop}
theorem wpList_appDat (hgd:o.guard=none) (s y:Operand) (ho:o.op= .call {callee:= .builtin .append,args:= #[s,y],argTypes:= #[39,39]}) {x:Value} {m:List UInt8}
  (hs:a.eval s=v) (hy:a.eval y=x) (h:Ju w v l) (hx:B7 w x m) (hl:l.length+m.length≤140737488355328)
  (hK: ∀ v' w',Ju w' v' (l++m)→w.grownBy w' (Be v)→(∀ g,Be v'=some g→Be v=some g∨g=w.heap.size)→v'.oneCell'=true→wpList prog ops Q rest (a.put o.dst v') w'):wpList prog ops Q (o::rest) a w:=by
 refine wpList_plain hgd fun K hKK=> ?_;obtain⟨v',w',hr,h1,h2,h3,h4⟩:=append_dat h hx hl o.type;unfold Oper.wp;simp [execOp,ho,resolve,invoke,builtin,hs,hy,hr,Result.andThen];exact hKK _ _ (hK v' w' h1 h2 h3 h4)
end
theorem As.turned (h:As A w v l) (ht:Ab S w w') (hS: ∀ k,A k→ ¬ S k):As A w' v l:=by
 obtain⟨oa,cap,h1,h2,h3⟩:=h;exact⟨oa,cap,h1,h2,fun hn=>by obtain⟨b,off,e,ha,hc⟩:=h3 hn;exact⟨b,off,e,ha,fun i x hx=>ht.cell (hc i x hx) (hS b ha)⟩⟩
theorem Dz.putData {w3:World} {s:Aq}  (hb:w2.heap[s.blk]? =some (.cells (Lm s) 109 (0,0))) (hd:Ju w2 v l) (hv:Be v≠some s.blk) (hw:w3=w2.setCell ⟨s.blk,0,none⟩ v):
  Dz w3 ⟨{s.fil with data:=l},s.blk,v⟩:=by
 subst hw;refine⟨?_,hd.kept fun g hg=> ?_⟩
 ·have e:(Lm s).setIfInBounds 0 v=Lm ⟨{s.fil with data:=l},s.blk,v⟩:=rfl;rw [←e];simp only [World.setCell];rw [Array.getElem?_modify];simp [hb]
 ·simp only [World.setCell];rw [Array.getElem?_modify,γ (fun e=>hv (by rw [hg,e]))]
theorem Mp (w:World) (f m:Nat) (d:Af) (L:List Aq) (h:Bv w f m d L) (hs:d.steps<4611686018427387904) (n b:List UInt8) (bv:Value) (hb:As (fun k=> ¬ foot f m L k) w bv b):
  Calls prog 70 #[.pointer (some ⟨f,0,none⟩),.string ⟨n.toArray⟩,bv] w fun e w'=>e= .returned (Vi Vk (Bi d (Ae n b)).2.2.2)∧A1 w f m L (Bi d (Ae n b)).1 w':=by
 have HO:=Qh (La w f m d L h n);have HH:=Qh h;have HBR:=Qh hb;obtain⟨ob,bcap,rfl,hbl,hbc⟩:=hb;clear hbc;by_cases he:Av d n=0
 case neg=>
  have HE:=Qs (Bi d (Ae n b)=(d,[],0,Av d n)) (by rw [Di (by simp [Ae]) (by rw [Ja,κ he];exact he),Ja,κ he]);have t1:(Av d n != 0)=true:=by simpa using he
  generalize Av d n=e0 at*;clear he h;go_enter func70,ntmps70;go_wp2_with (go_at_call 59;refine HO.out.mono ?_;rintro e w1 ⟨rfl,rfl⟩);go_ret;rw [HE.out];exact⟨rfl,A1.same HH.out⟩
 obtain⟨s,hs1,ha,hv,hr,hsm,hsn⟩:=Ps h he;have c1:w.cell? ⟨f,1,none⟩=some (Vi Vk d.room):=h.hd.c1;have c2:w.cell? ⟨f,2,none⟩=some (Vi Vk (usedF d.files:Int)):=h.hd.c2;have hrm:=h.ok.room;have hus:=h.ok.used;have hw:IntKind.i64.wrap (d.room - (usedF d.files:Int))=d.room - (usedF d.files:Int):=by rw [ν];omega
 by_cases hfull:d.room - (usedF d.files:Int)<(b.length:Int)
 case pos=>
  have HE:=Qs (Bi d (Ae n b)=(d,[],0,54)) (by
   have hb:Ge d (Ae n b)=54:=by rw [Ja,γ (by simpa using he),κ (by simpa using hfull)]
   rw [Di (by simp [Ae]) (by rw [hb];decide),hb])
  have t2:decide (d.room - (usedF d.files:Int)<(b.length:Int))=true:=by simpa using hfull
  rw [he,hv] at HO;clear he h hs1 ha hv hr hsm hsn hfull hrm hus;go_enter func70,ntmps70;go_wp2_with (go_at_call 59;refine HO.out.mono ?_;rintro e w1 ⟨rfl,rfl⟩)
  go_quiet (fail)
  go_wp2;go_ret;rw [HE.out];have:=HH.out.below (Ac w nq);exact⟨rfl,L,this,Ab.below (Ac _ _),fun _ h=> .inl h⟩
 have t2:decide (d.room - (usedF d.files:Int)<(b.length:Int))=false:=by simpa using hfull
 have hbar:Ge d (Ae n b)=0:=by rw [Ja,γ (by simpa using he),γ (by simpa using hfull)]
 have ha':Bf (Ar d).files n=some s.fil:=by rw [Bo];exact ha
 have hrise:Fs (Ar d).files:=by rw [Bo];exact h.ok.rise
 have hchg:Iq (Ar d) (Ae n b)={Ar d with files:=Fd n (fun _=>⟨s.fil.name,s.fil.data++b,s.fil.safe⟩) (Ar d).files}:=by
  rw [chg_set (x:=s.fil) hrise ha' (by simp [Ae]) (by simp [Ae]) (by simp [Ae])];rfl
 have HE:=Qh (show Bi d (Ae n b)=({Ar d with files:=Fd n (fun _=>⟨s.fil.name,s.fil.data++b,s.fil.safe⟩) (Ar d).files},[],0,if d.fuse=1 then 3 else 0) by
  rw [Is (by simp [Ae]) hbar,hchg];by_cases hf:d.fuse=1
  ·simp [hf,Ae]
  ·simp [hf])
 have HSL:=Qs (D9 L n=some s∧s.fil.name=n∧Bf (Ar d).files n=some s.fil∧s∈L) ⟨hs1,hsn,ha',hsm⟩;have hlen:=Fg (B8 ha).2;have HN:=Qs (s.fil.data.length+b.length≤67108864∧(usedF (Ar d).files:Int)+b.length≤d.room) (by rw [Bo];omega);have hw2:IntKind.i64.wrap ((usedF (Ar d).files:Int)+(b.length:Int))=(usedF (Ar d).files:Int)+(b.length:Int):=by rw [Bo,ν];omega
 rw [he,hv] at HO;have HF0:=Qs (∀ x:Bool,decide (d.fuse=1)=x→decide ((Ex d).fuse=1)=x) (fun x hx=>hx);have HS:=Qh (fun k=>Om (w.drewN k) f m (Ex d) (h.hd.below (Ac w k)) h.ok.fuse.1 h.ok.fuse.2 h.ok.steps hs);clear he h hs1 ha hv hr hsm hsn hfull hrm hus hbar ha' hrise hchg hlen;go_enter func70,ntmps70;go_wp2_with (go_at_call 59;refine HO.out.mono ?_;rintro e w1 ⟨rfl,rfl⟩)
 go_quiet (fail)
 go_wp2_with fail;have HW1:=Qh (HH.out.below (Ac w nq));refine(HS.out nq).mono ?_;rintro e w1 ⟨rfl,hh,ht⟩;have H1:=Qh (HW1.out.stepped hh ht);have HT:=Qs (Ab (foot f m L) w w1) ((Ab.below (Ac w nq)).trans ht fun k hk=> .inl (.inl hk));have HB1:=Qh (HBR.out.turned HT.out fun _ hk=>hk);have hsl:=H1.out.body.slot s HSL.out.2.2.2;have hap:=H1.out.body.apart.2.1 s HSL.out.2.2.2;have HSLT:=Qh hsl;have HAP:=Qh hap;have c0:=hsl.c0;clear hh ht hsl hap HS HO c1 c2 HW1 hw;obtain⟨sv,hsv⟩: ∃ sv,sv=s.sl:=⟨_,rfl⟩;obtain⟨l0,hl0⟩: ∃ l0,l0=s.fil.data:=⟨_,rfl⟩;have HDA:=Qs (Ju w1 sv l0) (by rw [hsv,hl0];exact HSLT.out.2);have hln:l0.length+b.length≤140737488355328:=by have:=HN.out.1;rw [hl0];omega
 rw [←hsv] at c0;have HSV:=Qh hsv;have HL0:=Qh hl0;clear hsv hl0;go_wp2_with (at_builtin;refine wpList_appDat rfl _ _ rfl rfl rfl HDA.out HB1.out.brow hln ?_);intro v2 w2 hd2 hg2 hb2 ho2;have HD2:=Qh hd2;have HG2:=Qh hg2;have HBK:=Qh hb2;have hblk:w2.heap[s.blk]? =some (.cells (Lm s) 109 (0,0)):=by
  rw [hg2.block s.blk HSLT.out.lt (by rw [HSV.out];exact fun e=>HAP.out.2.2.2.2 e.symm)];exact HSLT.out.1
 have k0:w2.cell? ⟨s.blk,0,none⟩=some s.sl:=by simp [World.cell?,hblk,Lm]
 have f0:w2.frozen? ⟨s.blk,0,none⟩=false:=by simp [World.frozen?,hblk]
 have HBL:=Qh hblk;clear hd2 hg2 hb2 hblk c0;go_wp2_with (with_reducible refine Cc rfl 39 (.tmp 41) (.tmp 39) rfl s.blk 0 v2 s.sl (by kernel_rfl) ho2 rfl rfl k0 f0 ?_);intro w3 hw3;have HV2:=Qh (show Be v2≠some s.blk from fun e=>by
  rcases HBK.out s.blk e with h1|h1
  ·rw [HSV.out] at h1;exact HAP.out.2.2.2.2 h1
  ·have:=HSLT.out.lt;omega)
 have HX:=Qh (Dz.putData HBL.out HD2.out HV2.out hw3.out);have HT3:=Qh (show Ab (fun k=>k=f∨k=s.blk∨Be s.sl=some k) w1 w3 by
  rw [hw3.out];exact(Ab.grown (S:=fun k=>k=f∨k=s.blk∨Be s.sl=some k) HG2.out fun k hk=> .inr (.inr (by rw [←HSV.out];exact hk))).trans (Ab.setCell (S:=fun k=>k=f∨k=s.blk∨Be s.sl=some k) _ ⟨s.blk,0,none⟩ _ (.inr (.inl rfl))) fun i h=> .inl h)
 have HH3:=Qs (E7 w3 f m (Ex (Ar d))) (by
  rw [hw3.out];exact(H1.out.hd.kept (HG2.out.block f H1.out.hd.lt (by rw [HSV.out];exact fun e=>HAP.out.2.2.1 e.symm))).otherCell HAP.out.1.symm 0 v2)
 have c2:w3.cell? ⟨f,2,none⟩=some (Vi Vk (usedF (Ar d).files:Int)):=HH3.out.c2;have f2:=HH3.out.free 2;clear hw3 k0 f0 HBL HG2 HB1;have HEND:=Qs (A1 w f m L (Bi d (Ae n b)).1 (w3.setCell ⟨f,2,none⟩ (Vi Vk ((usedF (Ar d).files:Int)+(b.length:Int))))) (by
  rw [HE.out];have hfd:Be v2≠some f:=fun e=>by
   rcases HBK.out f e with h1|h1
   ·rw [HSV.out] at h1;exact HAP.out.2.2.1 h1
   ·have:=H1.out.hd.lt;omega
  have hu:=If (f':=⟨s.fil.name,s.fil.data++b,s.fil.safe⟩) H1.out.ok.rise HSL.out.2.2.1 HSL.out.2.1;have hsf:=H1.out.ok.safe s.fil (B8 HSL.out.2.2.1).2;refine A1.setFile (x:=⟨⟨s.fil.name,s.fil.data++b,s.fil.safe⟩,s.blk,v2⟩) H1.out HT.out HSL.out.1 HSL.out.2.1 rfl (HT3.out.trans (Ab.setCell (S:=fun k=>k=f) _ ⟨f,2,none⟩ _ rfl) fun i h=> .inl (.inl h)) ?_ (fun g hg=> ?_) ?_ rfl ?_
  ·have hX:=HX.out;rw [HL0.out] at hX;refine hX.kept ?_ fun g hg=> ?_
   ·simp only [World.setCell];rw [Array.getElem?_modify,γ (fun e=>HAP.out.1 e.symm)]
   ·simp only [World.setCell];rw [Array.getElem?_modify,γ (fun e=>hfd (by rw [e];exact hg))]
  ·rcases HBK.out g hg with h1|h1
   ·exact .inl (by rw [←HSV.out];exact h1)
   ·exact .inr (by omega)
  ·have e:Ex {Ar d with files:=Fd n (fun _=>⟨s.fil.name,s.fil.data++b,s.fil.safe⟩) (Ar d).files}={Ex (Ar d) with used:=(usedF (Ar d).files:Int)+(b.length:Int)}:=by
    unfold Ex;simp only [Hd.mk.injEq,true_and,and_true];simp only [ζ] at hu;omega
   rw [e];exact HH3.out.set 2 _ rfl
  ·refine H1.out.ok.setFile HSL.out.2.2.1 HSL.out.2.1 ⟨hsf.1,?_⟩ ?_
   ·simp only [ζ];omega
   ·have:=HN.out.2;simp only [ζ];rw [M7];omega)
 rcases hfz:decide (d.fuse=1) with _|_
 ·have HF:=Qh (HF0.out _ hfz);have HER:=Qs ((Bi d (Ae n b)).2.2.2=0) (by rw [HE.out];simp only;rw [γ (by simpa using hfz)]);rw [show decide ((Ex d).fuse=1)=false from HF.out];clear hfz HE HX HT3 HH3 HF0;go_wp2;go_ret;exact⟨by rw [HER.out];rfl,HEND.out⟩
 ·have HF:=Qh (HF0.out _ hfz);have HER:=Qs ((Bi d (Ae n b)).2.2.2=3) (by rw [HE.out];simp only;rw [κ (by simpa using hfz)]);rw [show decide ((Ex d).fuse=1)=true from HF.out];clear hfz HE HX HT3 HH3 HF0;go_wp2;go_ret;exact⟨by rw [HER.out];rfl,HEND.out⟩
theorem cut_any (w:World) (f m:Nat) (d:Af) (L:List Aq) (h:Bv w f m d L) (hs:d.steps<4611686018427387904) (n:List UInt8) (k:Int):
  Calls prog 94 #[.pointer (some ⟨f,0,none⟩),.string ⟨n.toArray⟩,Vi Vk k] w fun e w'=>e= .returned (Vi Vk (Bi d (Dk n k)).2.2.2)∧A1 w f m L (Bi d (Dk n k)).1 w':=by
 have HO:=Qh (La w f m d L h n);have HH:=Qh h;by_cases he:Av d n=0
 case neg=>
  have HE:=Qs (Bi d (Dk n k)=(d,[],0,Av d n)) (by rw [Di (by simp [Dk]) (by rw [bar_cut,κ he];exact he),bar_cut,κ he]);have t1:(Av d n != 0)=true:=by simpa using he
  generalize Av d n=e0 at*;clear he h;go_enter func94,ntmps94;go_wp2_with (go_at_call 59;refine HO.out.mono ?_;rintro e w1 ⟨rfl,rfl⟩);go_ret;rw [HE.out];exact⟨rfl,A1.same HH.out⟩
 obtain⟨s,hs1,ha,hv,hr,hsm,hsn⟩:=Ps h he;have hbar:Ge d (Dk n k)=if decide (k<0) || decide ((s.fil.data.length:Int)<k) then 1 else 0:=by rw [bar_cut,γ (by simpa using he),ha]
 have hsl:=h.body.slot s hsm;obtain⟨ao,cap,hsh,hlc,_⟩:=hsl.2.shape;have c0:w.cell? ⟨s.blk,0,none⟩=some (.slice ao s.fil.data.length cap):=by rw [←hsh];exact hsl.c0
 rw [he,hv] at HO;by_cases hbad:k<0∨(s.fil.data.length:Int)<k
 case pos=>
  have HE:=Qs (Bi d (Dk n k)=(d,[],0,1)) (by
   have hb:Ge d (Dk n k)=1:=by rw [hbar,κ (by simpa using hbad)]
   rw [Di (by simp [Dk]) (by rw [hb];decide),hb])
  rcases h1:decide (k<0) with _|_
  ·have h2:decide ((s.fil.data.length:Int)<k)=true:=by simp at h1 ⊢;omega
   clear he h hs1 ha hv hr hsm hsn hbar hsl hbad hsh;go_enter func94,ntmps94;go_wp2_with (go_at_call 59;refine HO.out.mono ?_;rintro e w1 ⟨rfl,rfl⟩);go_ret;rw [HE.out];exact⟨rfl,A1.same HH.out⟩
  ·clear he h hs1 ha hv hr hsm hsn hbar hsl hbad hsh;go_enter func94,ntmps94;go_wp2_with (go_at_call 59;refine HO.out.mono ?_;rintro e w1 ⟨rfl,rfl⟩);go_ret;rw [HE.out];exact⟨rfl,A1.same HH.out⟩
 have t1:decide (k<0)=false:=by simp;omega
 have t2:decide ((s.fil.data.length:Int)<k)=false:=by simp;omega
 obtain⟨q,rfl⟩:=Int.eq_ofNat_of_zero_le (show 0≤k by omega);have hq:q≤s.fil.data.length:=by omega
 have hb0:Ge d (Dk n q)=0:=by rw [hbar,t1,t2];rfl
 have HD:=Qh (Is (d:=d) (o:=Dk n q) (by simp [Dk]) hb0);have HS:=Qh (Om w f m (Ex d) h.hd h.ok.fuse.1 h.ok.fuse.2 h.ok.steps hs);by_cases hf:d.fuse=1
 ·have HF:=Qh (Ir (ξ hf));have HE:=Qs (Bi d (Dk n q)=(Ar d,[],0,3)) (by rw [HD.out,κ hf,γ (by simp [Dk]),κ hf]);have hq2: ¬ s.fil.data.length<q:=by omega
  clear h hs he hs1 ha hv hr hsm hsn hf HD hbar hbad hsl hsh hb0 hq;go_enter func94,ntmps94;go_wp2_with (first|(go_at_call 59;refine HO.out.mono ?_;rintro e w1 ⟨rfl,rfl⟩)|(go_at_call 84;refine HS.out.mono ?_;rw [HF.out];rintro e w1 ⟨rfl,hh,ht⟩));go_ret;rw [HE.out];exact⟨rfl,A1.stepped HH.out hh ht⟩
 ·have HF:=Qh (Ir (ρ hf));have ha':Bf (Ar d).files n=some s.fil:=by rw [Bo];exact ha
  have HE:=Qh (show Bi d (Dk n q)=({Ar d with files:=Fd n (fun _=>⟨s.fil.name,s.fil.data.take q,if (q:Int)<s.fil.safe then (q:Int) else s.fil.safe⟩) (Ar d).files},[],0,0) by
   rw [HD.out,γ hf,γ hf,chg_set (x:=s.fil) (by rw [Bo];exact h.ok.rise) ha' (by simp [Dk]) (by simp [Dk]) (by simp [Dk])];rfl)
  have HSL:=Qs (D9 L n=some s∧s.fil.name=n∧Bf (Ar d).files n=some s.fil∧s∈L) ⟨hs1,hsn,ha',hsm⟩;have hlen:=Fg (B8 ha).2;have hus:=h.ok.used;have hrm:=h.ok.room;have HN:=Qs ((s.fil.data.length:Int)≤usedF (Ar d).files∧(usedF (Ar d).files:Int)≤d.room∧d.room≤67108864) (by rw [Bo];omega);have hw1:IntKind.i64.wrap ((s.fil.data.length:Int) - (q:Int))=(s.fil.data.length:Int) - (q:Int):=by rw [ν];omega
  have hw2:IntKind.i64.wrap ((usedF (Ar d).files:Int) - ((s.fil.data.length:Int) - (q:Int)))=(usedF (Ar d).files:Int) - ((s.fil.data.length:Int) - (q:Int)):=by rw [Bo,ν];omega
  have HQ:=Qh hq;clear h hs he hs1 ha hv hr hsm hsn hf HD hbar hbad hsl hb0 ha' hlen hus hrm;go_enter func94,ntmps94;go_wp2_with (first|(go_at_call 59;refine HO.out.mono ?_;rintro e w1 ⟨rfl,rfl⟩));go_at_call 84;refine HS.out.mono ?_;rw [HF.out];rintro e w1 ⟨rfl,hh,ht⟩;have H0:=Qh (HH.out.stepped hh ht);have H1:=Qs (Bv w1.drew f m (Ar d) L) (H0.out.below (Ac w1 1));have HT:=Qs (Ab (foot f m L) w w1.drew) ((ht.mono fun _ hk=> .inl hk).trans (Ab.below (Ac w1 1)) fun _ h=> .inl h);have hsl:=H0.out.body.slot s HSL.out.2.2.2;clear c0;have c0:w1.cell? ⟨s.blk,0,none⟩=some (.slice ao s.fil.data.length cap):=by rw [←hsh];exact hsl.c0
  have c2:w1.cell? ⟨f,2,none⟩=some (Vi Vk (usedF (Ar d).files:Int)):=H0.out.hd.c2;have f2:=H0.out.hd.free 2;clear hh ht hsl HS HO;go_wp2_with fail;go_still_tail 14,(by kernel_rfl);refine Cc rfl 3 (.tmp 45) (.tmp 43) rfl f 2 (Vi Vk ((usedF (Ar d).files:Int) - ((s.fil.data.length:Int) - (q:Int)))) (Vi Vk (usedF (Ar d).files:Int)) (by kernel_rfl) rfl rfl rfl c2 f2 ?_;intro w2 hw2';have HB2:=Qh (show E7 w2 f m {Ex (Ar d) with used:=(usedF (Ar d).files:Int) - ((s.fil.data.length:Int) - (q:Int))}∧F3 w2 f m L∧Ab (fun k=>k=f) w1.drew w2 by
   rw [hw2'.out];exact⟨H1.out.hd.set 2 _ rfl,H1.out.body.setHd 2 _,Ab.setCell _ _ _ rfl⟩)
  have hsl2:=HB2.out.2.1.slot s HSL.out.2.2.2;have HAP:=Qh (HB2.out.2.1.apart.2.1 s HSL.out.2.2.2);have k0:w2.cell? ⟨s.blk,0,none⟩=some (.slice ao s.fil.data.length cap):=by rw [←hsh];exact hsl2.c0
  have k1:=hsl2.c1;have g0:=hsl2.free 0;have g1:=hsl2.free 1;have HS2:=Qh hsl2;clear hw2' c0 c2 f2 hw1 hw2 hsl2 t1 t2 hq;have q1:(q:Int)≤(s.fil.data.length:Int):=by have:=HQ.out;omega
  have q2:(s.fil.data.length:Int)≤(cap:Int):=by omega
  go_wp2;go_ret;rw [HE.out];obtain⟨ao',cap',hsh',hdc,hdb⟩:=datAt_cut HS2.out.2 q HQ.out;have hao:ao'=ao:=by rw [hsh] at hsh';cases hsh';rfl
  subst hao;have hmin:min s.fil.safe (q:Int)=if (q:Int)<s.fil.safe then (q:Int) else s.fil.safe:=by split<;>omega
  have hdn:Be (.slice ao' q q)≠some s.blk:=fun e=>HAP.out.2.2.2.2 (hdb _ e);have hdf: ∀ g,Be (.slice ao' q q)=some g→Be s.sl=some g:=hdb;have hX:=Dz.putData HS2.out.1 hdc hdn rfl;have hX2:=hX.putSafe (if (q:Int)<s.fil.safe then (q:Int) else s.fil.safe) hdn;have hlq:(s.fil.data.take q).length=q:=by rw [ω];have:=HQ.out;omega
  have hu:=If (f':=⟨s.fil.name,s.fil.data.take q,if (q:Int)<s.fil.safe then (q:Int) else s.fil.safe⟩) H1.out.ok.rise HSL.out.2.2.1 HSL.out.2.1;have hsf:=H1.out.ok.safe s.fil (B8 HSL.out.2.2.1).2;rw [hmin];refine⟨rfl,A1.setFile (x:=⟨⟨s.fil.name,s.fil.data.take q,if (q:Int)<s.fil.safe then (q:Int) else s.fil.safe⟩,s.blk,.slice ao' q q⟩) H1.out HT.out HSL.out.1 HSL.out.2.1 rfl ?_ hX2 (fun g hg=> .inl (hdb g hg)) ?_ rfl ?_⟩
  ·exact((HB2.out.2.2.mono (S':=fun k=>k=f∨k=s.blk∨Be s.sl=some k) fun _ hk=> .inl hk).trans (Ab.setCell (S:=fun k=>k=s.blk) _ ⟨s.blk,0,none⟩ _ rfl) fun i h=> .inl (.inr (.inl h))).trans (Ab.setCell (S:=fun k=>k=s.blk) _ ⟨s.blk,1,none⟩ _ rfl) fun i h=> .inl (.inr (.inl h))
  ·have e:Ex {Ar d with files:=Fd n (fun _=>⟨s.fil.name,s.fil.data.take q,if (q:Int)<s.fil.safe then (q:Int) else s.fil.safe⟩) (Ar d).files}={Ex (Ar d) with used:=(usedF (Ar d).files:Int) - ((s.fil.data.length:Int) - (q:Int))}:=by
    unfold Ex;simp only [Hd.mk.injEq,true_and,and_true];simp only [hlq] at hu;have:=HQ.out;omega
   rw [e];exact(HB2.out.1.otherCell HAP.out.1.symm 0 _).otherCell HAP.out.1.symm 1 _
  ·refine H1.out.ok.setFile HSL.out.2.2.1 HSL.out.2.1 ?_ ?_
   ·simp only [hlq];split<;>omega
   ·have:=H1.out.ok.used;have:=HQ.out;simp only [hlq];omega
theorem As.low (h:As A w v l):As (fun k=>A k∧k<w.heap.size) w v l:=by
 obtain⟨oa',cap',e1,e2,e3⟩:=h;refine⟨oa',cap',e1,e2,fun hne=> ?_⟩;obtain⟨b',off',e4,ha,hcell⟩:=e3 hne;refine⟨b',off',e4,⟨ha,?_⟩,hcell⟩;obtain⟨x,hx⟩:=List.exists_mem_of_ne_nil _ hne;obtain⟨i,hi⟩:=List.getElem?_of_mem hx;exact World.block_lt_of_cell? w _ (hcell i x hi)
theorem As.one (h:As A w v l):v.oneCell'=true:=by obtain⟨_,_,e,_⟩:=h;rw [e];rfl
theorem Bw (h:Below B w0 w) (hg:B≤g) (cs:Array Value):Below B w0 (w.setRow g cs):=
 ⟨h.os,h.tape,h.output,by simpa using h.size,fun k hk=>by rw [setRow_other _ _ _ _ (by omega)];exact h.block k hk⟩
section
variable {w W W' : World} {d d' : Af} {fv fv' : Value} {o : Ls} {bv kv : Value}
end
section
variable {A : Nat → Prop} {w W W' : World} {d : Af} {fv : Value} {o : Ls} {bv kv : Value} {g : Nat} {f f' : Bl} {dv dv' : Value} {fs fs' : List Bl} {v v' : Value}
end
section
open Go.RowKit Go.ChangeShapes Go.WideShapes
def N8 (P:Program) (t:TypeId) (n:Nat) {α:Type} (R:World→List Value→α→Prop):Prop:=
 ∀ {H:Type} (enc:TypeId×Value→H) (W:World) (fuel:Nat) (cs:List Value) (x:DataW H×List MemPlace),
  DataW.trod enc P W 0 (fun _=>true) true fuel t cs=some x→(x.1.weights P t).all (· ≤reachBytes)=true→cs.length=n∧ ∃ a,R W cs a
def RInt (k:IntKind) (_:World) (cs:List Value) (a:Int):Prop:=cs=[.int k a]∧(Lit.int k a).wf=true
def RStr (_:World) (cs:List Value) (l:List UInt8):Prop:=cs=[.string ⟨l.toArray⟩]∧l.length≤reachBytes
def Row {α:Type} (n bytes:Nat) (R:World→List Value→α→Prop) (w:World) (v:Value) (xs:List α):Prop:=
 ∃ oa cap,v= .slice oa xs.length cap∧xs.length≤cap∧cap≤maxLen∧cap*bytes≤reachBytes∧
  (xs≠ []→ ∃ b off,oa=some ⟨b,off,none⟩∧ ∀ (i:Nat) x,xs[i]? =some x→ ∃ cs,cs.length=n∧(∀ (j:Nat) u,cs[j]? =some u→w.cell? ⟨b,off+i*n+j,none⟩=some u)∧R w cs x)
def RRow {α:Type} (n bytes:Nat) (R:World→List Value→α→Prop) (w:World) (cs:List Value) (xs:List α):Prop:= ∃ v,cs=[v]∧Row n bytes R w v xs
theorem El {t:TypeId} {k:IntKind} (h:P.underlying t=some (.int k)):N8 P t 1 (RInt k):=by
 intro H enc W fuel cs x hx _;obtain⟨n,rfl,rfl,hw⟩:=DataW.trod_int h hx;exact⟨rfl,n,rfl,hw⟩
theorem opens_str {t:TypeId} (h:P.underlying t=some .string):N8 P t 1 RStr:=by
 intro H enc W fuel cs x hx hz;obtain⟨s,rfl,rfl,_⟩:=DataW.trod_string h hx;refine⟨rfl,s.data.toList,by simp,?_⟩;simpa [DataW.weights] using hz
theorem cells?_spec {a:Addr} {n:Nat}  (h:W.cells? base a n=some cs):cs.length=n∧ ∀ (j:Nat) u,cs[j]? =some u→W.cell? (a.add j)=some u:=by
 obtain⟨_,hl,hc⟩:=World.cells?_some h;refine⟨hl,fun j u hj=> ?_⟩;rw [←hj];exact hc j (by have:=getElem?_lt hj;omega)
theorem weightsAll_mem {H:Type} {P:Program} {e:TypeId}: ∀ {ds:List (DataW H)} {d:DataW H},d∈ds→ ∀ n∈d.weights P e,n∈DataW.weightsAll P e ds
 |d0::ds,d,hm,n,hn=>by
  simp only [DataW.weightsAll,List.mem_append]
  rcases Δ.1 hm with rfl|hm
  ·exact .inl hn
  ·exact .inr (weightsAll_mem hm n hn)
theorem opens_slice {P:Program} {t e:TypeId} {n bytes:Nat} {α:Type} {R:World→List Value→α→Prop} (ht:P.underlying t=some (.slice e)) (hc:P.cellsOf e=n) (hb:P.bytesOf e=bytes) (hn:0<n)
  (he:N8 P e n R):N8 P t 1 (RRow n bytes R):=by
 intro H enc W fuel cs x hx hz;rcases DataW.trod_slice ht hx with⟨rfl,rfl⟩|⟨a,len,cap,elems,rest,m,_,rfl,rfl,_,hl,hm,hel,hat,hsp,_⟩
 ·exact⟨rfl,[],_,rfl,none,0,rfl,μ _,by decide,by simp,fun h=>absurd rfl h⟩
 ·obtain⟨hrest,_⟩:=hsp rfl;simp only [DataW.weights,ht,List.all_cons,List.all_append,Bool.and_eq_true,decide_eq_true_eq,List.length_map] at hz;obtain⟨hz0,hz1,_⟩:=hz;have key: ∀ i,i<len→ ∃ (a':α) (cs':List Value),cs'.length=n∧(∀ (j:Nat) u,cs'[j]? =some u→W.cell? ((a.add (i*n)).add j)=some u)∧R W cs' a':=by
   intro i hi;have h1:=hat i hi;rw [hc] at h1;have hlt:i<elems.length:=by omega
   rw [Θ hlt] at h1;obtain⟨cs',hcs',hx'⟩:=Option.bind_eq_some_iff.1 h1;obtain⟨_,hs2⟩:=cells?_spec hcs';obtain⟨h3,a',h4⟩:=he enc W m cs' elems[i] hx' (by
    rw [List.all_eq_true];intro k hk;exact List.all_eq_true.1 hz1 k (weightsAll_mem (List.mem_map.2 ⟨elems[i],List.getElem_mem hlt,rfl⟩) k hk))
   exact⟨a',cs',h3,hs2,h4⟩
  obtain⟨xs,hxl,hxs⟩: ∃ xs:List α,xs.length=len∧ ∀ (i:Nat) x,xs[i]? =some x→ ∃ cs':List Value,cs'.length=n∧(∀ (j:Nat) u,cs'[j]? =some u→W.cell? ((a.add (i*n)).add j)=some u)∧R W cs' x:=by
   have: ∀ k,k≤len→ ∃ xs:List α,xs.length=k∧ ∀ (i:Nat) x,xs[i]? =some x→ ∃ cs':List Value,cs'.length=n∧(∀ (j:Nat) u,cs'[j]? =some u→W.cell? ((a.add (i*n)).add j)=some u)∧R W cs' x:=by
    intro k
    induction k with
    |zero=>intro _;exact⟨[],rfl,by simp⟩
    |succ k ih=>
     intro hk;obtain⟨xs,h1,h2⟩:=ih (by omega);obtain⟨x,cs',h3⟩:=key k (by omega);refine⟨xs++[x],by simp [h1],fun i y hy=> ?_⟩;by_cases hi:i<xs.length
     ·rw [List.getElem?_append_left hi] at hy;exact h2 i y hy
     ·have hik:i=k:=by have:=getElem?_lt hy;simp at this;omega
      subst hik;rw [List.getElem?_append_right (by omega),h1] at hy;simp at hy;subst hy;exact⟨cs',h3⟩
   exact this len (μ _)
  refine⟨rfl,xs,_,rfl,some a,cap,by rw [hxl],by omega,hm,by rw [←hb];rw [hel,hrest,show len+(cap - len)=cap by omega] at hz0;exact hz0,fun hne=> ?_⟩;obtain⟨b,off,spot⟩:=a;have hpos:0<xs.length:=Ψ.2 hne;have hspot:spot=none:=by
   obtain⟨cs',h1,h2,_⟩:=hxs 0 _ (Θ hpos);have h3:=h2 0 _ (Θ (show 0<cs'.length by omega));have:=World.cell?_spot h3;simpa [Addr.add] using this
  subst hspot;refine⟨b,off,rfl,fun i x hi=> ?_⟩;obtain⟨cs',h1,h2,h3⟩:=hxs i x hi;refine⟨cs',h1,fun j u hj=> ?_,h3⟩;have:=h2 j u hj;rwa [Cr,Cr] at this
def OpensAll (P:Program) (off:Nat) (fs:List Field) {α:Type} (R:World→List Value→α→Prop):Prop:=
 ∀ {H:Type} (enc:TypeId×Value→H) (W:World) (fuel:Nat) (cs:List Value) (xs:List (DataW H×List MemPlace)),
  (∀ (i:Nat) (f:Field),fs[i]? =some f→DataW.trod enc P W 0 (fun _=>true) true fuel f.type ((cs.drop f.offset).take (P.cellsOf f.type))=xs[i]?)→xs.length=fs.length→
  (DataW.weightsEach P (fs.map (·.type)) (xs.map (·.1))).all (· ≤reachBytes)=true→ ∃ a,R W (cs.drop off) a
def RNil (_:World) (_:List Value) (_:Unit):Prop:=True
def In {α β:Type} (n:Nat) (R:World→List Value→α→Prop) (S:World→List Value→β→Prop) (w:World) (cs:List Value) (x:α×β):Prop:=R w (cs.take n) x.1∧S w (cs.drop n) x.2
theorem opens_nil {off:Nat}:OpensAll P off [] RNil:=fun _ _ _ _ _ _ _ _=>⟨(),trivial⟩
theorem Cp {P:Program} {off n:Nat} {f:Field} {fs:List Field} {α β:Type} {R:World→List Value→α→Prop} {S:World→List Value→β→Prop} (ho:f.offset=off) (hn:P.cellsOf f.type=n)
  (h:N8 P f.type n R) (hs:OpensAll P (off+n) fs S):OpensAll P off (f::fs) (In n R S):=by
 intro H enc W fuel cs xs hx hl hz;cases xs with
 |nil=>simp at hl
 |cons x xs=>
  simp only [List.map_cons,DataW.weightsEach,List.all_append,Bool.and_eq_true] at hz;have h0:=hx 0 f rfl;rw [ho,hn] at h0;obtain⟨_,a,ha⟩:=h enc W fuel _ x (by simpa using h0) hz.1;obtain⟨b,hb⟩:=hs enc W fuel cs xs (fun i g hg=>by simpa using hx (i+1) g (by simpa using hg)) (by simpa using hl) hz.2;exact⟨(a,b),ha,by rw [List.drop_drop];exact hb⟩
theorem Pk {t:TypeId} {n:Nat} {fs:Array Field} {α:Type} {R:World→List Value→α→Prop} (ht:P.underlying t=some (.struct fs)) (hc:P.cellsOf t=n) (h:OpensAll P 0 fs.toList R):
  N8 P t n R:=by
 intro H enc W fuel cs x hx hz;obtain⟨xs,m,rfl,rfl,hl,hxl,hat⟩:=DataW.trod_struct ht hx;simp only [DataW.weights,ht] at hz;obtain⟨a,ha⟩:=h enc W m cs xs (fun i f hf=>hat i f (by simpa using hf)) (by simpa using hxl) hz;exact⟨hl.trans hc,a,by simpa using ha⟩
end
section
open Go.RowKit Go.ChangeShapes Go.WideShapes
theorem open_struct_by {H:Type} {enc:TypeId×Value→H}  {n:Nat} {t:TypeId} {fs:Array Field}  {d:DataW H} {p:List MemPlace} {α:Type} {R:World→List Value→α→Prop}
  (ho:N8 P t n R) (ht:P.underlying t=some (.struct fs)) (hok:Value.okWide P W .any base t v) (h:DataW.Trod enc P W 0 (fun _=>true) true t v d p) (hz:(d.weights P t).all (· ≤reachBytes)=true):
  ∃ cs a,v= .agg cs∧cs.size=n∧R W cs.toList a:=by
 obtain⟨cs,rfl,_⟩:=okWide_struct ht hok;obtain⟨fuel,hf⟩:=h;obtain⟨h1,a,ha⟩:=ho enc W fuel _ _ hf hz;exact⟨cs,a,rfl,by simpa [Value.cells] using h1,by simpa [Value.cells] using ha⟩
theorem open_slice_by {H:Type} {enc:TypeId×Value→H}  {n bytes:Nat} {t e:TypeId}  {d:DataW H} {p:List MemPlace} {α:Type} {R:World→List Value→α→Prop}
  (ho:N8 P t 1 (RRow n bytes R)) (ht:P.underlying t=some (.slice e)) (hok:Value.okWide P W .any base t v) (h:DataW.Trod enc P W 0 (fun _=>true) true t v d p) (hz:(d.weights P t).all (· ≤reachBytes)=true):
  ∃ xs,Row n bytes R W v xs:=by
 obtain⟨a,len,cap,rfl⟩:=okWide_slice ht hok;obtain⟨fuel,hf⟩:=h;obtain⟨_,xs,v',hv,hr⟩:=ho enc W fuel _ _ hf hz;simp [Value.cells] at hv;exact⟨xs,by rw [hv];exact hr⟩
end
section
structure Pl where
 fresh:Bool
 man:Da
 remove:List (List UInt8)
 cut:Int
 last:Int
def Bk:Af→List Ls→Af×Int
 |d,[]=>(d,0)
 |d,o::r=>if (Bi d o).2.2.2=0 then Bk (Bi d o).1 r else ((Bi d o).1,(Bi d o).2.2.2)
theorem runD_append: ∀ (a b:List Ls) (d:Af),Bk d (a++b)=if (Bk d a).2=0 then Bk (Bk d a).1 b else Bk d a
 | [],b,d=>by simp [Bk]
 |o::a,b,d=>by
  rw [List.cons_append,Bk,Bk]
  by_cases h:(Bi d o).2.2.2=0
  ·rw [κ h,κ h,runD_append a b]
  ·rw [γ h,γ h]
   simp only [γ h]
def Ic:List UInt8:=[109,97,110,105,102,101,115,116]
def Bm:List UInt8:=[109,97,110,105,102,101,115,116,46,116,109,112]
def Et (n:List UInt8) (g:Sg) (m:Da):List Ls:=
 [Ak n,Ae n (Hs g.num g.first).1,Ag n,Ak Bm,Ae Bm (Ct m).1,Ag Bm,An Bm Ic]
def cutOps (n:List UInt8) (k:Int) (x:Option Bl):List Ls:=
 match x with
 |none=>[]
 |some f=>if k<(f.data.length:Int) then [Dk n k] else []
def Je (p:Pl):List Ls:=p.remove.map Bb
def Ah (m:Da):Sg:=m.segs.getLast?.getD ⟨0,0,0,0⟩
def A9 (m:Da):List UInt8:=Ad (Ah m).num
def M4 (d:Af) (p:Pl):List Ls:=
 Je p++if p.fresh then Et (A9 p.man) (Ah p.man) p.man
  else Ek (A9 p.man)::(cutOps (A9 p.man) p.cut (if p.remove.any (fun x=>x==A9 p.man) then none else Bf d.files (A9 p.man))++[Ag (A9 p.man)])
def tailOps (d:Af) (p:Pl):List Ls:=
 if p.fresh then Et (A9 p.man) (Ah p.man) p.man
  else Ek (A9 p.man)::(cutOps (A9 p.man) p.cut (Bf d.files (A9 p.man))++[Ag (A9 p.man)])
def B1 (d:Af) (p:Pl):Af×Int:=
 if Cy p.man then Bk d (M4 d p) else (d,1)
theorem take_at (fs:List Bl):Bf (takeF n fs) n=none:=by
 unfold Bf takeF;rw [List.find?_eq_none];intro x hx;have:=(List.mem_filter.1 hx).2;simpa using this
theorem doD_remove (h:(Bi d (Bb n)).2.2.2=0):(Bi d (Bb n)).1.files=takeF n d.files:=by
 by_cases hb:Ge d (Bb n)=0
 ·rw [Is (by simp [Bb]) hb] at h ⊢;by_cases hf:d.fuse=1
  ·simp only [κ hf] at h;omega
  ·simp only [γ hf];rw [Mq] at hb;obtain⟨_,_,x,ha⟩:=Kq hb;unfold Iq;rw [γ (by simp [Bb]),Bo];show (match Bf d.files n with|none=>Ar d|some f=>_).files=_;rw [ha];simp [Bb]
 ·rw [Di (by simp [Bb]) hb] at h;exact absurd h hb
theorem rem_at (n:List UInt8): ∀ (l:List (List UInt8)) (d:Af),(Bk d (l.map Bb)).2=0→Bf (Bk d (l.map Bb)).1.files n=if l.any (fun x=>x==n) then none else Bf d.files n
 | [],d,_=>by simp [Bk]
 |x::l,d,h=>by
  rw [List.map_cons,Bk] at h ⊢
  by_cases h0:(Bi d (Bb x)).2.2.2=0
  ·rw [κ h0] at h ⊢
   rw [rem_at n l _ h,doD_remove h0,List.any_cons]
   by_cases hx:x=n
   ·subst hx
    rw [take_at]
    simp
   ·rw [show (x==n)=false by simpa using hx,at_take hx,Bool.false_or]
  ·rw [γ h0] at h
   exact absurd h h0
theorem size_refused (h:Bf d.files n=none):(Bi d (Ek n)).2.2.2≠0:=by
 have he:Av d n≠0:=fun e=>by
  obtain⟨_,_,x,hx⟩:=Kq e;rw [h] at hx;cases hx
 rw [Di (by simp [Ek]) (by rw [bar_size];exact he),bar_size];exact he
theorem refOps_run (d:Af) (p:Pl):Bk d (M4 d p)=if (Bk d (Je p)).2=0 then Bk (Bk d (Je p)).1 (tailOps (Bk d (Je p)).1 p) else Bk d (Je p):=by
 unfold M4 tailOps;rw [runD_append];by_cases h:(Bk d (Je p)).2=0
 ·rw [κ h,κ h];rcases p.fresh
  ·simp only [Bool.false_eq_true,if_false];have ha:=rem_at (A9 p.man) p.remove d h;rcases hx:Bf (Bk d (Je p)).1.files (A9 p.man) with _|f
   ·have:=size_refused hx;rw [Bk,γ this,Bk,γ this]
   ·rw [show (Bk d (p.remove.map Bb))=Bk d (Je p) from rfl,hx] at ha;rw [←ha]
  ·rfl
 ·rw [γ h,γ h]
theorem Bx (d:Af) (o:Ls):(Bi d o).1.steps≤d.steps+1∧d.steps≤(Bi d o).1.steps:=by
 have hc: ∀ x:Af,(Iq x o).steps=x.steps:=fun x=>by
  unfold Iq;split
  ·rfl
  ·split
   ·rfl
   ·split
    ·rfl
    ·split<;>rfl
 unfold Bi;split
 ·exact⟨by simp;omega,by simp⟩
 ·split
  ·exact⟨by simp;omega,by simp⟩
  ·split
   ·exact⟨by simp;omega,by simp⟩
   ·split
    ·exact⟨by simp;omega,by simp⟩
    ·split
     ·exact⟨by simp;omega,by simp⟩
     ·split
      ·exact⟨by simp;omega,by simp⟩
      ·split
       ·split
        ·simp only [hc];exact⟨by omega,by omega⟩
        ·exact⟨by simp;omega,by simp⟩
       ·simp only [hc];exact⟨by omega,by omega⟩
open Go.RowKit Go.ChangeShapes Go.WideShapes
theorem u8_of {z:Int} (h:(Lit.int .u8 z).wf=true):((UInt8.ofNat z.toNat).toNat:Int)=z:=by
 have h':0≤z∧z≤255:=by simpa [Lit.wf,show IntKind.u8.min=0 from by decide,show IntKind.u8.max=255 from by decide] using h
 rw [UInt8.toNat_ofNat'];omega
def Gf (p:Pl) (sv rv:Value):Array Value:= #[.bool p.fresh,Vi Vk p.man.gen,Vi Vk p.man.next,Vi Vk p.man.floor,Vi Vk p.man.snap,Vi Vk p.man.snapSeq,sv,rv,Vi Vk p.cut,Vi Vk p.last]
@[reducible] def plV (p : Pl) (sv rv : Value) : Value := .agg #[.bool p.fresh, Vi Vk p.man.gen, Vi Vk p.man.next, Vi Vk p.man.floor, Vi Vk p.man.snap, Vi Vk p.man.snapSeq, sv, rv, Vi Vk p.cut, Vi Vk p.last]
end
def Ei (m:Da):List Ls:=[Ak Bm,Ae Bm (Ct m).1,Ag Bm,An Bm Ic]
def Fj (w:World) (f m:Nat) (L:List Aq) (r:Af×Int) (e:Ending) (w':World):Prop:=e= .returned (Vi Vk r.2)∧A1 w f m L r.1 w'
theorem Bh.turned (h:Bh w) (ht:Ab S w w') (hS: ¬ S 1) (hg:1<w.heap.size):Bh w':=by
 have hb:=ht.block 1 hg hS;unfold Bh Lib.TabIs World.var? at*;simp only [show prog.globalNamed "daybook/crc.nibbles" =some 1 by kernel_rfl,Option.bind_some,hb] at*;exact h
theorem saveC1 (w:World) (f m:Nat) (d:Af) (L:List Aq) (h:Bv w f m d L) (hs:d.steps<4611686018427387904) (b:Nat) (hc:w.cell? ⟨b,0,none⟩=some (.pointer (some ⟨f,0,none⟩))):
  Calls prog 167 #[.pointer (some ⟨b,0,none⟩)] w fun e w'=>e= .returned (Vi Vk (Bi d (Ak Bm)).2.2.2)∧A1 w f m L (Bi d (Ak Bm)).1 w':=by
 have HC:=Qh (create_any w f m d L h hs Bm);clear h;go_enter func167,ntmps167;go_wp2_with fail;refine HC.out.mono ?_;rintro e w' ⟨rfl,hp⟩;have HP:=Qh hp;clear hp;go_wp2;go_ret;exact⟨rfl,HP.out⟩
theorem saveC2 (w:World) (f m:Nat) (d:Af) (L:List Aq) (h:Bv w f m d L) (hs:d.steps<4611686018427387904) (b b':Nat) (hc:w.cell? ⟨b,0,none⟩=some (.pointer (some ⟨f,0,none⟩))) (bv:Value) (bs:List UInt8) (hb:As (fun k=> ¬ foot f m L k) w bv bs) (hc':w.cell? ⟨b',0,none⟩=some bv):
  Calls prog 168 #[.pointer (some ⟨b,0,none⟩),.pointer (some ⟨b',0,none⟩)] w fun e w'=>e= .returned (Vi Vk (Bi d (Ae Bm bs)).2.2.2)∧A1 w f m L (Bi d (Ae Bm bs)).1 w':=by
 have HC:=Qh (Mp w f m d L h hs Bm bs bv hb);clear h hb;go_enter func168,ntmps168;go_wp2_with fail;refine HC.out.mono ?_;rintro e w' ⟨rfl,hp⟩;have HP:=Qh hp;clear hp;go_wp2;go_ret;exact⟨rfl,HP.out⟩
theorem saveC3 (w:World) (f m:Nat) (d:Af) (L:List Aq) (h:Bv w f m d L) (hs:d.steps<4611686018427387904) (b:Nat) (hc:w.cell? ⟨b,0,none⟩=some (.pointer (some ⟨f,0,none⟩))):
  Calls prog 169 #[.pointer (some ⟨b,0,none⟩)] w fun e w'=>e= .returned (Vi Vk (Bi d (Ag Bm)).2.2.2)∧A1 w f m L (Bi d (Ag Bm)).1 w':=by
 have HC:=Qh (Lg w f m d L h hs Bm);clear h;go_enter func169,ntmps169;go_wp2_with fail;refine HC.out.mono ?_;rintro e w' ⟨rfl,hp⟩;have HP:=Qh hp;clear hp;go_wp2;go_ret;exact⟨rfl,HP.out⟩
theorem saveC4 (w:World) (f m:Nat) (d:Af) (L:List Aq) (h:Bv w f m d L) (hs:d.steps<4611686018427387904) (b:Nat) (hc:w.cell? ⟨b,0,none⟩=some (.pointer (some ⟨f,0,none⟩))):
  Calls prog 170 #[.pointer (some ⟨b,0,none⟩)] w fun e w'=>e= .returned (Vi Vk (Bi d (An Bm Ic)).2.2.2)∧A1 w f m L (Bi d (An Bm Ic)).1 w':=by
 have HC:=Qh (rename_any w f m d L h hs Bm Ic);clear h;go_enter func170,ntmps170;go_wp2_with fail;refine HC.out.mono ?_;rintro e w' ⟨rfl,hp⟩;have HP:=Qh hp;clear hp;go_wp2;go_ret;exact⟨rfl,HP.out⟩
theorem A1.cell (h:A1 w f m L d' w') {p:Addr}  (hc:w.cell? p=some v) (hn: ¬ foot f m L p.block):w'.cell? p=some v:=by
 obtain⟨L',_,ht,_⟩:=h;exact ht.cell hc hn
theorem Ch {o:Ls} {r:List Ls} (h:(Bi d o).2.2.2≠0):Bk d (o::r)=((Bi d o).1,(Bi d o).2.2.2):=by rw [Bk,γ h]
theorem Dx {o:Ls} {r:List Ls} (h:(Bi d o).2.2.2=0):Bk d (o::r)=Bk (Bi d o).1 r:=by rw [Bk,κ h]
theorem save_any (w:World) (f m:Nat) (d:Af) (L:List Aq) (h:Bv w f m d L) (hs:d.steps+4<4611686018427387904) (mn:Da) (sv:Value) (hr:Oa w sv mn.segs) (hn:Bh w) (hok:Cy mn=true):
  Calls prog 136 #[.pointer (some ⟨f,0,none⟩),mnV mn sv] w (Fj w f m L (Bk d (Ei mn))):=by
 have HH:=Qh h;have HST:=Qh hs;obtain⟨oa,cap,rfl,hl1,hl2,hc⟩:=hr;have HR:=Qs (Oa w (.slice oa mn.segs.length cap) mn.segs) ⟨oa,cap,rfl,hl1,hl2,hc⟩;have HB0:=Qh (Below.next (Aa w (.cells #[.pointer (some ⟨f,0,none⟩)] 31)) (Aa _ (.cells (B3 mn (.slice oa mn.segs.length cap)) 69)));have hbx:(w.alloc (.cells #[.pointer (some ⟨f,0,none⟩)] 31)).cell? ⟨w.heap.size,0,none⟩=some (.pointer (some ⟨f,0,none⟩)):=by rw [World.cell?_alloc_new];rfl
 have HX0:=Qh (cell_later (Aa _ (.cells (B3 mn (.slice oa mn.segs.length cap)) 69)) hbx);have HMB:=Qs (At ((w.alloc (.cells #[.pointer (some ⟨f,0,none⟩)] 31)).alloc (.cells (B3 mn (.slice oa mn.segs.length cap)) 69)) (w.heap.size+1) mn (.slice oa mn.segs.length cap)) (by
  have:=Ca (w.alloc (.cells #[.pointer (some ⟨f,0,none⟩)] 31)) mn (.slice oa mn.segs.length cap);rwa [show (w.alloc (.cells #[.pointer (some ⟨f,0,none⟩)] 31)).heap.size=w.heap.size+1 by simp] at this)
 simp only [B3] at HMB;have HENC:=Qh (manEncode_any mn (.slice oa mn.segs.length cap) _ (HR.out.below HB0.out) (hn.below HB0.out));have HENE:=Qs ((Ct mn).2=0) (by rw [encMan_ok hok]);have hmf: ∀ (fn:Fn) (first cap:Array Value) (w:World),(Instr.makeFunc fn first cap).run prog w= .ok (.func fn first cap) w:=fun _ _ _ _=>rfl;have hfw:=h.lt;have HFW:=Qh hfw;clear hc hn hok h hs hbx hfw;obtain⟨er,her⟩: ∃ er,er=Ct mn:=⟨_,rfl⟩;rw [←her] at HENC HENE;have HER:=Qh her;clear her;go_enter func136,ntmps136;go_wp2_with (with_reducible refine Co rfl (.tmp 3) rfl (w.heap.size+1) mn (.slice oa mn.segs.length cap) rfl HMB.out ?_);refine HENC.out.mono ?_;rintro e w1 ⟨v1,rfl,ho1,hb1⟩;rw [HENE.out];obtain⟨o1,cap1,rfl,_,_⟩:=Aj ho1;have HO1:=Qh ho1;have HB1:=Qh (Below.next HB0.out hb1);have HX1:=Qh (cell_later hb1 HX0.out);clear ho1 hb1 HENC HX0 HB0;go_wp2;have hb5:(w1.alloc (.cells #[.slice o1 er.1.length cap1] 39)).cell? ⟨w1.heap.size,0,none⟩=some (.slice o1 er.1.length cap1):=by rw [World.cell?_alloc_new];rfl
 have sz5:(w1.alloc (.cells #[.slice o1 er.1.length cap1] 39)).heap.size=w1.heap.size+1:=by simp
 have HBW:=Qh (Below.next (Aa w1 (.cells #[.slice o1 er.1.length cap1] 39)) (Aa _ (.cells #[.func (.func 167) #[] #[.pointer (some ⟨w.heap.size,0,none⟩)],.func (.func 168) #[] #[.pointer (some ⟨w.heap.size,0,none⟩),.pointer (some ⟨w1.heap.size,0,none⟩)],.func (.func 169) #[] #[.pointer (some ⟨w.heap.size,0,none⟩)],.func (.func 170) #[] #[.pointer (some ⟨w.heap.size,0,none⟩)]] 60)));have HC2:=Qh (cell_later HBW.out HX1.out);have HC5:=Qh (cell_later (Aa _ (.cells #[.func (.func 167) #[] #[.pointer (some ⟨w.heap.size,0,none⟩)],.func (.func 168) #[] #[.pointer (some ⟨w.heap.size,0,none⟩),.pointer (some ⟨w1.heap.size,0,none⟩)],.func (.func 169) #[] #[.pointer (some ⟨w.heap.size,0,none⟩)],.func (.func 170) #[] #[.pointer (some ⟨w.heap.size,0,none⟩)]] 60)) hb5);have HGC:=Qh (fun(j:Nat) (v:Value) (hj:(#[.func (.func 167) #[] #[.pointer (some ⟨w.heap.size,0,none⟩)],.func (.func 168) #[] #[.pointer (some ⟨w.heap.size,0,none⟩),.pointer (some ⟨w1.heap.size,0,none⟩)],.func (.func 169) #[] #[.pointer (some ⟨w.heap.size,0,none⟩)],.func (.func 170) #[] #[.pointer (some ⟨w.heap.size,0,none⟩)]]:Array Value)[j]? =some v)=>show ((w1.alloc (.cells #[.slice o1 er.1.length cap1] 39)).alloc (.cells #[.func (.func 167) #[] #[.pointer (some ⟨w.heap.size,0,none⟩)],.func (.func 168) #[] #[.pointer (some ⟨w.heap.size,0,none⟩),.pointer (some ⟨w1.heap.size,0,none⟩)],.func (.func 169) #[] #[.pointer (some ⟨w.heap.size,0,none⟩)],.func (.func 170) #[] #[.pointer (some ⟨w.heap.size,0,none⟩)]] 60)).cell? ⟨w1.heap.size+1,j,none⟩=some v by
  have:=World.cell?_alloc_new (w1.alloc (.cells #[.slice o1 er.1.length cap1] 39)) #[.func (.func 167) #[] #[.pointer (some ⟨w.heap.size,0,none⟩)],.func (.func 168) #[] #[.pointer (some ⟨w.heap.size,0,none⟩),.pointer (some ⟨w1.heap.size,0,none⟩)],.func (.func 169) #[] #[.pointer (some ⟨w.heap.size,0,none⟩)],.func (.func 170) #[] #[.pointer (some ⟨w.heap.size,0,none⟩)]] 60 j;rw [sz5] at this;rw [this];exact hj)
 have HBV:=Qh ((F8 (A:=fun k=>w.heap.size≤k) HO1.out (fun k hk=>by simp at hk;omega)).below HBW.out);have HBW0:=Qh (Below.next HB1.out HBW.out);have HLO:=Qs (w.heap.size≤w1.heap.size) HB1.out.size;have HF4:=Qh (HH.out.below HBW0.out);have hmf':=Qh hmf;clear hb5 sz5 hmf HO1 HB1 HX1 HBW;have HNF:=Qh (fun k (hk:w.heap.size≤k)=>show ¬ foot f m L k from fun hf=>by have:=HFW.out k hf;omega);generalize ((w1.alloc (.cells #[.slice o1 er.1.length cap1] 39)).alloc (.cells #[.func (.func 167) #[] #[.pointer (some ⟨w.heap.size,0,none⟩)],.func (.func 168) #[] #[.pointer (some ⟨w.heap.size,0,none⟩),.pointer (some ⟨w1.heap.size,0,none⟩)],.func (.func 169) #[] #[.pointer (some ⟨w.heap.size,0,none⟩)],.func (.func 170) #[] #[.pointer (some ⟨w.heap.size,0,none⟩)]] 60))=W4 at*;have HQ:=Qh (fun(d':Af) (W:World) (hp:A1 W4 f m L d' W)=>show A1 w f m L d' W from hp.then (Ab.below HBW0.out) (fun _ h=> .inl h))
 have HCL:=Qh (fun(d':Af) (W:World) (hp:A1 W4 f m L d' W)=>show W.cell? ⟨w.heap.size,0,none⟩=some (.pointer (some ⟨f,0,none⟩))∧W.cell? ⟨w1.heap.size,0,none⟩=some (.slice o1 er.1.length cap1)∧ ∀ (j:Nat) (v:Value),(#[.func (.func 167) #[] #[.pointer (some ⟨w.heap.size,0,none⟩)],.func (.func 168) #[] #[.pointer (some ⟨w.heap.size,0,none⟩),.pointer (some ⟨w1.heap.size,0,none⟩)],.func (.func 169) #[] #[.pointer (some ⟨w.heap.size,0,none⟩)],.func (.func 170) #[] #[.pointer (some ⟨w.heap.size,0,none⟩)]]:Array Value)[j]? =some v→W.cell? ⟨w1.heap.size+1,j,none⟩=some v from
  ⟨hp.cell HC2.out (HNF.out _ (μ _)),hp.cell HC5.out (HNF.out _ HLO.out),fun j v hj=>hp.cell (HGC.out j v hj) (HNF.out _ (η HLO.out (Nat.le_succ _)))⟩)
 have HP0:=Qh (A1.same HF4.out);have HS0:=Qs (d.steps≤d.steps+0) (by omega);obtain⟨d0,hd0⟩: ∃ x,x=d:=⟨_,rfl⟩;have HRUN:=Qs (Bk d (Ei mn)=Bk d0 [Ak Bm,Ae Bm er.1,Ag Bm,An Bm Ic]) (by rw [hd0,HER.out];rfl);rw [←hd0] at HP0;have HS:=Qs (d0.steps<4611686018427387904) (by rw [hd0];have:=HST.out;omega);have HST':=Qs (d0.steps+4<4611686018427387904) (by rw [hd0];exact HST.out);clear hd0 HST;refine wp_loop_rounds 5 ?_;rw [rounds_succ];have g0:=(HCL.out _ _ HP0.out).2.2 0 _ rfl;obtain⟨L0,hfs0,ht0,hsub0⟩:=HP0.out;have HCJ:=Qh (saveC1 _ f m _ L0 hfs0 HS.out w.heap.size (HCL.out _ _ HP0.out).1);have HTJ:=Qh ht0;have HSJ:=Qh hsub0;clear hfs0 ht0 hsub0;go_wp2_with fail;refine HCJ.out.mono ?_;rintro e W5 ⟨rfl,hp⟩;have HPn:=Qh (hp.then HTJ.out HSJ.out);clear hp HCJ g0;by_cases he0:(Bi d0 (Ak Bm)).2.2.2=0
 case neg=>
  have tn:((Bi d0 (Ak Bm)).2.2.2 != 0)=true:=by simpa using he0
  have HE:=Qs (Bk d (Ei mn)=((Bi d0 (Ak Bm)).1,(Bi d0 (Ak Bm)).2.2.2)) (by rw [HRUN.out,Ch he0]);have HF:=Qh (HQ.out _ _ HPn.out);clear he0;generalize (Bi d0 (Ak Bm)).2.2.2=ev at*;go_wp2;go_ret;unfold Fj;rw [HE.out];exact⟨rfl,HF.out⟩
 have HRUN:=Qs (Bk d (Ei mn)=Bk (Bi d0 (Ak Bm)).1 [Ae Bm er.1,Ag Bm,An Bm Ic]) (by rw [HRUN.out,Dx he0]);have HS:=Qs ((Bi d0 (Ak Bm)).1.steps<4611686018427387904) (by have h1:=(Bx d0 (Ak Bm)).1;have:=HST'.out;omega);rw [he0];clear he0;have HSB:=Qs ((Bi d0 (Ak Bm)).1.steps≤4611686018427387900+0) (by have h1:=(Bx d0 (Ak Bm)).1;have:=HST'.out;omega);obtain⟨d1,hdn⟩: ∃ x,x=(Bi d0 (Ak Bm)).1:=⟨_,rfl⟩;rw [←hdn] at HPn HRUN HS HSB;clear hdn HTJ HSJ;have HP1:=HPn;clear HPn;go_wp2;rw [rounds_succ];have g1:=(HCL.out _ _ HP1.out).2.2 1 _ rfl;obtain⟨L1,hfs1,ht1,hsub1⟩:=HP1.out;have HBVj:=Qh (show As (fun k=> ¬ foot f m L1 k) _ (.slice o1 er.1.length cap1) er.1 from(HBV.out.low.turned ht1 (fun k hk hf=>HNF.out k hk.1 hf)).mono (fun k hk hf=>by
  rcases hsub1 k hf with h1|h1
  ·exact HNF.out k hk.1 h1
  ·have:=hk.2;omega))
 have HCJ:=Qh (saveC2 _ f m _ L1 hfs1 HS.out w.heap.size w1.heap.size (HCL.out _ _ HP1.out).1 _ _ HBVj.out (HCL.out _ _ HP1.out).2.1);have HTJ:=Qh ht1;have HSJ:=Qh hsub1;clear hfs1 ht1 hsub1;go_wp2_with fail;refine HCJ.out.mono ?_;rintro e W6 ⟨rfl,hp⟩;have HPn:=Qh (hp.then HTJ.out HSJ.out);clear hp HCJ g1;by_cases he1:(Bi d1 (Ae Bm er.1)).2.2.2=0
 case neg=>
  have tn:((Bi d1 (Ae Bm er.1)).2.2.2 != 0)=true:=by simpa using he1
  have HE:=Qs (Bk d (Ei mn)=((Bi d1 (Ae Bm er.1)).1,(Bi d1 (Ae Bm er.1)).2.2.2)) (by rw [HRUN.out,Ch he1]);have HF:=Qh (HQ.out _ _ HPn.out);clear he1;generalize (Bi d1 (Ae Bm er.1)).2.2.2=ev at*;go_wp2;go_ret;unfold Fj;rw [HE.out];exact⟨rfl,HF.out⟩
 have HRUN:=Qs (Bk d (Ei mn)=Bk (Bi d1 (Ae Bm er.1)).1 [Ag Bm,An Bm Ic]) (by rw [HRUN.out,Dx he1]);have HS:=Qs ((Bi d1 (Ae Bm er.1)).1.steps<4611686018427387904) (by have h1:=(Bx d1 (Ae Bm er.1)).1;have:=HSB.out;omega);rw [he1];clear he1;have HSB:=Qs ((Bi d1 (Ae Bm er.1)).1.steps≤4611686018427387900+1) (by have h1:=(Bx d1 (Ae Bm er.1)).1;have:=HSB.out;omega);obtain⟨d2,hdn⟩: ∃ x,x=(Bi d1 (Ae Bm er.1)).1:=⟨_,rfl⟩;rw [←hdn] at HPn HRUN HS HSB;clear hdn HTJ HSJ;have HP2:=HPn;clear HPn;go_wp2;rw [rounds_succ];have g2:=(HCL.out _ _ HP2.out).2.2 2 _ rfl;obtain⟨L2,hfs2,ht2,hsub2⟩:=HP2.out;have HCJ:=Qh (saveC3 _ f m _ L2 hfs2 HS.out w.heap.size (HCL.out _ _ HP2.out).1);have HTJ:=Qh ht2;have HSJ:=Qh hsub2;clear hfs2 ht2 hsub2;go_wp2_with fail;refine HCJ.out.mono ?_;rintro e W7 ⟨rfl,hp⟩;have HPn:=Qh (hp.then HTJ.out HSJ.out);clear hp HCJ g2;by_cases he2:(Bi d2 (Ag Bm)).2.2.2=0
 case neg=>
  have tn:((Bi d2 (Ag Bm)).2.2.2 != 0)=true:=by simpa using he2
  have HE:=Qs (Bk d (Ei mn)=((Bi d2 (Ag Bm)).1,(Bi d2 (Ag Bm)).2.2.2)) (by rw [HRUN.out,Ch he2]);have HF:=Qh (HQ.out _ _ HPn.out);clear he2;generalize (Bi d2 (Ag Bm)).2.2.2=ev at*;go_wp2;go_ret;unfold Fj;rw [HE.out];exact⟨rfl,HF.out⟩
 have HRUN:=Qs (Bk d (Ei mn)=Bk (Bi d2 (Ag Bm)).1 [An Bm Ic]) (by rw [HRUN.out,Dx he2]);have HS:=Qs ((Bi d2 (Ag Bm)).1.steps<4611686018427387904) (by have h1:=(Bx d2 (Ag Bm)).1;have:=HSB.out;omega);rw [he2];clear he2;have HSB:=Qs ((Bi d2 (Ag Bm)).1.steps≤4611686018427387900+2) (by have h1:=(Bx d2 (Ag Bm)).1;have:=HSB.out;omega);obtain⟨d3,hdn⟩: ∃ x,x=(Bi d2 (Ag Bm)).1:=⟨_,rfl⟩;rw [←hdn] at HPn HRUN HS HSB;clear hdn HTJ HSJ;have HP3:=HPn;clear HPn;go_wp2;rw [rounds_succ];have g3:=(HCL.out _ _ HP3.out).2.2 3 _ rfl;obtain⟨L3,hfs3,ht3,hsub3⟩:=HP3.out;have HCJ:=Qh (saveC4 _ f m _ L3 hfs3 HS.out w.heap.size (HCL.out _ _ HP3.out).1);have HTJ:=Qh ht3;have HSJ:=Qh hsub3;clear hfs3 ht3 hsub3;go_wp2_with fail;refine HCJ.out.mono ?_;rintro e W8 ⟨rfl,hp⟩;have HPn:=Qh (hp.then HTJ.out HSJ.out);clear hp HCJ g3;by_cases he3:(Bi d3 (An Bm Ic)).2.2.2=0
 case neg=>
  have tn:((Bi d3 (An Bm Ic)).2.2.2 != 0)=true:=by simpa using he3
  have HE:=Qs (Bk d (Ei mn)=((Bi d3 (An Bm Ic)).1,(Bi d3 (An Bm Ic)).2.2.2)) (by rw [HRUN.out,Ch he3]);have HF:=Qh (HQ.out _ _ HPn.out);clear he3;generalize (Bi d3 (An Bm Ic)).2.2.2=ev at*;go_wp2;go_ret;unfold Fj;rw [HE.out];exact⟨rfl,HF.out⟩
 have HRUN:=Qs (Bk d (Ei mn)=Bk (Bi d3 (An Bm Ic)).1 []) (by rw [HRUN.out,Dx he3]);have HS:=Qs ((Bi d3 (An Bm Ic)).1.steps<4611686018427387904) (by have h1:=(Bx d3 (An Bm Ic)).1;have:=HSB.out;omega);rw [he3];clear he3;have HSB:=Qs ((Bi d3 (An Bm Ic)).1.steps≤4611686018427387900+3) (by have h1:=(Bx d3 (An Bm Ic)).1;have:=HSB.out;omega);obtain⟨d4,hdn⟩: ∃ x,x=(Bi d3 (An Bm Ic)).1:=⟨_,rfl⟩;rw [←hdn] at HPn HRUN HS HSB;clear hdn HTJ HSJ;have HP4:=HPn;clear HPn;go_wp2;rw [rounds_succ];have HF:=Qh (HQ.out _ _ HP4.out);go_wp2;go_ret;unfold Fj;rw [HRUN.out];exact⟨rfl,HF.out⟩
def SegB (w:World) (b:Nat):Prop:= ∃ cs fr,w.heap[b]? =some (.cells cs 72 fr)
theorem SegB.keep {b:Nat} (h:SegB w b) (hk:w'.heap[b]? =w.heap[b]?):SegB w' b:=by
 obtain⟨cs,fr,e⟩:=h;exact⟨cs,fr,hk.trans e⟩
theorem SegB.lt {b:Nat} (h:SegB w b):b<w.heap.size:=by
 obtain⟨cs,fr,e⟩:=h;exact(δ.1 e).1
def Fu (A:Nat→Prop) (w:World) (v:Value) (l:List Sg):Prop:=
 ∃ oa cap,v= .slice oa l.length cap∧l.length≤cap∧cap≤9223372036854775807∧ ∀ (i:Nat) g,l[i]? =some g→ ∃ b off,oa=some ⟨b,off,none⟩∧(A b∧SegB w b)∧w.rangeAt b (off+i*4) (B4 g).toList
theorem Fu.row {l:List Sg} (h:Fu A w v l):Oa w v l:=by
 obtain⟨oa,cap,h1,h2,h3,h4⟩:=h;exact⟨oa,cap,h1,h2,h3,fun i g hg=>by obtain⟨b,off,e,_,hc⟩:=h4 i g hg;exact⟨b,off,e,hc⟩⟩
theorem Fu.turned {l:List Sg} (h:Fu A w v l) (ht:Ab S w w') (hS: ∀ k,A k→ ¬ S k):Fu A w' v l:=by
 obtain⟨oa,cap,h1,h2,h3,h4⟩:=h;exact⟨oa,cap,h1,h2,h3,fun i g hg=>by obtain⟨b,off,e,⟨ha,hs⟩,hc⟩:=h4 i g hg;exact⟨b,off,e,⟨ha,hs.keep (ht.block b hs.lt (hS b ha))⟩,fun j u hj=>ht.cell (hc j u hj) (hS b ha)⟩⟩
theorem Fu.below {l:List Sg} (h:Fu A w v l) (hb:Below w.heap.size w w'):Fu A w' v l:=by
 obtain⟨oa,cap,h1,h2,h3,h4⟩:=h;exact⟨oa,cap,h1,h2,h3,fun i g hg=>by obtain⟨b,off,e,⟨ha,hs⟩,hc⟩:=h4 i g hg;exact⟨b,off,e,⟨ha,hs.keep (hb.block b hs.lt)⟩,Bs hc hb⟩⟩
theorem Fu.mono {l:List Sg} (h:Fu A w v l) (hA: ∀ k,A k→A' k):Fu A' w v l:=by
 obtain⟨oa,cap,h1,h2,h3,h4⟩:=h;exact⟨oa,cap,h1,h2,h3,fun i g hg=>by obtain⟨b,off,e,ha,hc⟩:=h4 i g hg;exact⟨b,off,e,⟨hA b ha.1,ha.2⟩,hc⟩⟩
theorem Fu.low {l:List Sg} (h:Fu A w v l):Fu (fun k=>A k∧k<w.heap.size) w v l:=by
 obtain⟨oa,cap,h1,h2,h3,h4⟩:=h;exact⟨oa,cap,h1,h2,h3,fun i g hg=>by obtain⟨b,off,e,ha,hc⟩:=h4 i g hg;exact⟨b,off,e,⟨⟨ha.1,ha.2.lt⟩,ha.2⟩,hc⟩⟩
theorem A1.block (h:A1 w f m L d' w')  (hk:k<w.heap.size) (hn: ¬ foot f m L k):w'.heap[k]? =w.heap[k]? :=by
 obtain⟨L',_,ht,_⟩:=h;exact ht.block k hk hn
theorem Bh.lt (h:Bh w):1<w.heap.size:=World.block_lt_of_cell? w _ (h.at 0 (by decide))
theorem A1.nib (h:A1 w f m L d' w') (hn:Bh w) (hg: ¬ foot f m L 1):Bh w':=by
 obtain⟨L',_,ht,_⟩:=h;exact hn.turned ht hg hn.lt
def Ft (w:World) (b:Nat) (g:Sg):Prop:=w.heap[b]? =some (.cells (B4 g) 72 (0,0))
theorem Ft.range {b:Nat} {g:Sg} (h:Ft w b g):w.rangeAt b 0 (B4 g).toList:=fun j u hj=>by
 unfold Ft at h
 simp only [World.cell?,h,Nat.zero_add]
 simpa using hj
theorem Ft.c0 {b:Nat} {g:Sg} (h:Ft w b g):w.cell? ⟨b,0,none⟩=some (Vi Vk g.num):=h.range 0 _ rfl
theorem begin_any (w:World) (f m:Nat) (d:Af) (L:List Aq) (h:Bv w f m d L) (hs:d.steps+8<4611686018427387904) (n:List UInt8) (g:Sg) (mn:Da) (sv:Value) (hr:Fu (fun k=> ¬ foot f m L k) w sv mn.segs) (hn:Bh w) (hg: ¬ foot f m L 1) (hok:Cy mn=true):
  Calls prog 93 #[.pointer (some ⟨f,0,none⟩),.string ⟨n.toArray⟩,sgV g,mnV mn sv] w (Fj w f m L (Bk d (Et n g mn))):=by
 have HH:=Qh h;have HST:=Qh hs;have HOK:=Qh hok;have HNG:=Qh hg;have HRI:=Qh hr;have HNB:=Qh hn;have hfw:=h.lt;have HFW:=Qh hfw;obtain⟨oa,cap,rfl,hl1,hl2,hc⟩:=hr;have HB0:=Qh (Below.next (Aa w (.cells (B4 g) 72)) (Aa _ (.cells (B3 mn (.slice oa mn.segs.length cap)) 69)));have HMB:=Qs (At ((w.alloc (.cells (B4 g) 72)).alloc (.cells (B3 mn (.slice oa mn.segs.length cap)) 69)) (w.heap.size+1) mn (.slice oa mn.segs.length cap)) (by
  have:=Ca (w.alloc (.cells (B4 g) 72)) mn (.slice oa mn.segs.length cap);rwa [show (w.alloc (.cells (B4 g) 72)).heap.size=w.heap.size+1 by simp] at this)
 have HHD:=Qh (header_any g.num g.first _ (hn.below HB0.out));clear hc hn hok h hs hg hfw;obtain⟨er,her⟩: ∃ er,er=Hs g.num g.first:=⟨_,rfl⟩;rw [←her] at HHD;have HER:=Qh her;clear her;go_enter func93,ntmps93;go_wp2_with fail;refine HHD.out.mono ?_;rintro e w1 ⟨v1,rfl,ho1,hb1⟩;obtain⟨o1,cap1,rfl,_,_⟩:=Aj ho1;have HBW0:=Qh (Below.next HB0.out hb1);have HF4:=Qh (HH.out.below HBW0.out);have HM1:=Qh (HMB.out.below hb1);have HBV:=Qh (F8 (A:=fun k=>w.heap.size≤k) ho1 (fun k hk=>by simp at hk;omega));have HNB1:=Qh (HNB.out.below HBW0.out);have HRI1:=Qh (HRI.out.below HBW0.out);clear ho1 hb1 HB0 HMB HHD HNB HRI;have HNF:=Qh (fun k (hk:w.heap.size≤k)=>show ¬ foot f m L k from fun hf=>by have:=HFW.out k hf;omega);have HQ:=Qh (fun(d':Af) (W:World) (hp:A1 w1 f m L d' W)=>show A1 w f m L d' W from hp.then (Ab.below HBW0.out) (fun _ h=> .inl h));have HP0:=Qh (A1.same HF4.out);obtain⟨d0,hd0⟩: ∃ x,x=d:=⟨_,rfl⟩;have HRUN:=Qs (Bk d (Et n g mn)=Bk d0 ([Ak n,Ae n er.1,Ag n]++Ei mn)) (by rw [hd0,HER.out];rfl);rw [←hd0] at HP0;have HS:=Qs (d0.steps<4611686018427387904) (by rw [hd0];have:=HST.out;omega);have HSB:=Qs (d0.steps≤4611686018427387895) (by rw [hd0];have:=HST.out;omega);simp only [List.cons_append,List.nil_append] at HRUN;clear hd0 HST;obtain⟨L0,hfs0,ht0,hsub0⟩:=HP0.out;have HCJ:=Qh (create_any _ f m _ L0 hfs0 HS.out n);have HTJ:=Qh ht0;have HSJ:=Qh hsub0;clear hfs0 ht0 hsub0;go_wp2_with fail;refine HCJ.out.mono ?_;rintro e W5 ⟨rfl,hp⟩;have HPn:=Qh (hp.then HTJ.out HSJ.out);clear hp HCJ;by_cases he0:(Bi d0 (Ak n)).2.2.2=0
 case neg=>
  have tn:((Bi d0 (Ak n)).2.2.2 != 0)=true:=by simpa using he0
  have HE:=Qs (Bk d (Et n g mn)=((Bi d0 (Ak n)).1,(Bi d0 (Ak n)).2.2.2)) (by rw [HRUN.out,Ch he0]);have HF:=Qh (HQ.out _ _ HPn.out);clear he0;generalize (Bi d0 (Ak n)).2.2.2=ev at*;go_wp2;go_ret;unfold Fj;rw [HE.out];exact⟨rfl,HF.out⟩
 have HRUN:=Qs (Bk d (Et n g mn)=Bk (Bi d0 (Ak n)).1 (Ae n er.1::Ag n::Ei mn)) (by rw [HRUN.out,Dx he0]);have HS:=Qs ((Bi d0 (Ak n)).1.steps<4611686018427387904) (by have h1:=(Bx d0 (Ak n)).1;have:=HSB.out;omega);have HSB:=Qs ((Bi d0 (Ak n)).1.steps≤4611686018427387895+1) (by have h1:=(Bx d0 (Ak n)).1;have:=HSB.out;omega);rw [he0];clear he0;obtain⟨d1,hdn⟩: ∃ x,x=(Bi d0 (Ak n)).1:=⟨_,rfl⟩;rw [←hdn] at HPn HRUN HS HSB;clear hdn HTJ HSJ;have HP1:=HPn;clear HPn;obtain⟨L1,hfs1,ht1,hsub1⟩:=HP1.out;have HBVj:=Qh (show As (fun k=> ¬ foot f m L1 k) _ (.slice o1 er.1.length cap1) er.1 from(HBV.out.low.turned ht1 (fun k hk hf=>HNF.out k hk.1 hf)).mono (fun k hk hf=>by
  rcases hsub1 k hf with h1|h1
  ·exact HNF.out k hk.1 h1
  ·have:=hk.2;omega))
 have HCJ:=Qh (Mp _ f m _ L1 hfs1 HS.out n er.1 (.slice o1 er.1.length cap1) HBVj.out);have HTJ:=Qh ht1;have HSJ:=Qh hsub1;clear hfs1 ht1 hsub1;go_wp2_with fail;refine HCJ.out.mono ?_;rintro e W6 ⟨rfl,hp⟩;have HPn:=Qh (hp.then HTJ.out HSJ.out);clear hp HCJ;by_cases he1:(Bi d1 (Ae n er.1)).2.2.2=0
 case neg=>
  have tn:((Bi d1 (Ae n er.1)).2.2.2 != 0)=true:=by simpa using he1
  have HE:=Qs (Bk d (Et n g mn)=((Bi d1 (Ae n er.1)).1,(Bi d1 (Ae n er.1)).2.2.2)) (by rw [HRUN.out,Ch he1]);have HF:=Qh (HQ.out _ _ HPn.out);clear he1;generalize (Bi d1 (Ae n er.1)).2.2.2=ev at*;go_wp2;go_ret;unfold Fj;rw [HE.out];exact⟨rfl,HF.out⟩
 have HRUN:=Qs (Bk d (Et n g mn)=Bk (Bi d1 (Ae n er.1)).1 (Ag n::Ei mn)) (by rw [HRUN.out,Dx he1]);have HS:=Qs ((Bi d1 (Ae n er.1)).1.steps<4611686018427387904) (by have h1:=(Bx d1 (Ae n er.1)).1;have:=HSB.out;omega);have HSB:=Qs ((Bi d1 (Ae n er.1)).1.steps≤4611686018427387895+2) (by have h1:=(Bx d1 (Ae n er.1)).1;have:=HSB.out;omega);rw [he1];clear he1;obtain⟨d2,hdn⟩: ∃ x,x=(Bi d1 (Ae n er.1)).1:=⟨_,rfl⟩;rw [←hdn] at HPn HRUN HS HSB;clear hdn HTJ HSJ;have HP2:=HPn;clear HPn;obtain⟨L2,hfs2,ht2,hsub2⟩:=HP2.out;have HCJ:=Qh (Lg _ f m _ L2 hfs2 HS.out n);have HTJ:=Qh ht2;have HSJ:=Qh hsub2;clear hfs2 ht2 hsub2;go_wp2_with fail;refine HCJ.out.mono ?_;rintro e W7 ⟨rfl,hp⟩;have HPn:=Qh (hp.then HTJ.out HSJ.out);clear hp HCJ;by_cases he2:(Bi d2 (Ag n)).2.2.2=0
 case neg=>
  have tn:((Bi d2 (Ag n)).2.2.2 != 0)=true:=by simpa using he2
  have HE:=Qs (Bk d (Et n g mn)=((Bi d2 (Ag n)).1,(Bi d2 (Ag n)).2.2.2)) (by rw [HRUN.out,Ch he2]);have HF:=Qh (HQ.out _ _ HPn.out);clear he2;generalize (Bi d2 (Ag n)).2.2.2=ev at*;go_wp2;go_ret;unfold Fj;rw [HE.out];exact⟨rfl,HF.out⟩
 have HRUN:=Qs (Bk d (Et n g mn)=Bk (Bi d2 (Ag n)).1 (Ei mn)) (by rw [HRUN.out,Dx he2]);have HS:=Qs ((Bi d2 (Ag n)).1.steps<4611686018427387904) (by have h1:=(Bx d2 (Ag n)).1;have:=HSB.out;omega);have HSB:=Qs ((Bi d2 (Ag n)).1.steps≤4611686018427387895+3) (by have h1:=(Bx d2 (Ag n)).1;have:=HSB.out;omega);rw [he2];clear he2;obtain⟨d3,hdn⟩: ∃ x,x=(Bi d2 (Ag n)).1:=⟨_,rfl⟩;rw [←hdn] at HPn HRUN HS HSB;clear hdn HTJ HSJ;have HP3:=HPn;clear HPn;have HM3:=Qs (At W7 (w.heap.size+1) mn (.slice oa mn.segs.length cap)) (by
  unfold At;rw [HP3.out.block HM1.out.lt (HNF.out _ (Nat.le_succ _))];exact HM1.out)
 obtain⟨L3,hfs3,ht3,hsub3⟩:=HP3.out;have HSV:=Qh (save_any _ f m _ L3 hfs3 (by have:=HSB.out;omega) mn (.slice oa mn.segs.length cap) (HRI1.out.turned ht3 (fun k hk hf=>hk hf)).row (HP3.out.nib HNB1.out HNG.out) HOK.out);have HTJ:=Qh ht3;have HSJ:=Qh hsub3;clear hfs3 ht3 hsub3;go_wp2_with (with_reducible refine Co rfl (.tmp 7) rfl (w.heap.size+1) mn (.slice oa mn.segs.length cap) rfl HM3.out ?_);refine HSV.out.mono ?_;rintro e W9 ⟨rfl,hp⟩;have HF:=Qh (HQ.out _ _ (hp.then HTJ.out HSJ.out));clear hp;rw [←HRUN.out];rw [←HRUN.out] at HF;generalize Bk d (Et n g mn)=rr at*;go_wp2;go_ret;exact⟨rfl,HF.out⟩
def StIn (A:Nat→Prop) (w:World) (v:Value) (l:List (List UInt8)):Prop:=
 ∃ oa cap,v= .slice oa l.length cap∧l.length≤cap∧cap≤9223372036854775807∧ ∀ (i:Nat) x,l[i]? =some x→ ∃ b off,oa=some ⟨b,off,none⟩∧A b∧w.cell? ⟨b,off+i,none⟩=some (.string ⟨x.toArray⟩)
theorem StIn.below {l:List (List UInt8)} (h:StIn A w v l) (hb:Below w.heap.size w w'):StIn A w' v l:=by
 obtain⟨oa,cap,h1,h2,h3,h4⟩:=h;exact⟨oa,cap,h1,h2,h3,fun i g hg=>by obtain⟨b,off,e,ha,hc⟩:=h4 i g hg;exact⟨b,off,e,ha,cell_later hb hc⟩⟩
theorem StIn.mono {l:List (List UInt8)} (h:StIn A w v l) (hA: ∀ k,A k→A' k):StIn A' w v l:=by
 obtain⟨oa,cap,h1,h2,h3,h4⟩:=h;exact⟨oa,cap,h1,h2,h3,fun i g hg=>by obtain⟨b,off,e,ha,hc⟩:=h4 i g hg;exact⟨b,off,e,hA b ha,hc⟩⟩
def Cb (w:World) (b:Nat) (p:Pl) (sv rv:Value):Prop:=w.heap[b]? =some (.cells (Gf p sv rv) 75 (0,0))
theorem Cb.lt {b:Nat} {p:Pl}  (h:Cb w b p sv rv):b<w.heap.size:=(δ.1 h).1
theorem Cb.cell {b:Nat} {p:Pl}  (h:Cb w b p sv rv) (j:Nat):w.cell? ⟨b,j,none⟩=(Gf p sv rv)[j]? :=by unfold Cb at h;simp [World.cell?,h]
theorem Cb.kept {b:Nat} {p:Pl}  (h:Cb w b p sv rv) (hk:w'.heap[b]? =w.heap[b]?):Cb w' b p sv rv:=by unfold Cb at *;rw [hk];exact h
theorem Cb.below {b:Nat} {p:Pl}  (h:Cb w b p sv rv) (hb:Below w.heap.size w w'):Cb w' b p sv rv:=h.kept (hb.block b h.lt)
theorem Cb.c0 {b:Nat} {p:Pl}  (h:Cb w b p sv rv):w.cell? ⟨b,0,none⟩=some (.bool p.fresh):=h.cell 0
theorem Cb.c6 {b:Nat} {p:Pl}  (h:Cb w b p sv rv):w.cell? ⟨b,6,none⟩=some sv:=h.cell 6
theorem Cb.c7 {b:Nat} {p:Pl}  (h:Cb w b p sv rv):w.cell? ⟨b,7,none⟩=some rv:=h.cell 7
theorem Cb.c8 {b:Nat} {p:Pl}  (h:Cb w b p sv rv):w.cell? ⟨b,8,none⟩=some (Vi Vk p.cut):=h.cell 8
theorem Cb.man {b:Nat} {p:Pl}  (h:Cb w b p sv rv):w.rangeAt b 1 (B3 p.man sv).toList:=fun j u hj=>by
 rw [show (⟨b,1+j,none⟩:Addr)=⟨b,j+1,none⟩ by rw [Nat.add_comm],h.cell]
 have hl:j<6:=by have:=(List.getElem?_eq_some_iff.1 hj).1;simpa [B3] using this
 rcases (show j=0∨j=1∨j=2∨j=3∨j=4∨j=5 by omega) with rfl|rfl|rfl|rfl|rfl|rfl<;>simpa [B3,Gf] using hj
theorem Hv (w:World) (p:Pl) (sv rv:Value):Cb (w.alloc (.cells (Gf p sv rv) 75)) w.heap.size p sv rv:=σ w _
theorem Kv (hgd:o.guard=none) (x:Operand) (ho:o.op= .load 69 x)
  (b off:Nat) (m:Da) (sv:Value) (hx:a.eval x= .pointer (some ⟨b,off,none⟩)) (hE:w.rangeAt b off (B3 m sv).toList)
  (h:wpList prog ops Q rest (a.put o.dst (mnV m sv)) w):wpList prog ops Q (o::rest) a w:=
 wpList_load_mid hgd 69 x ho b off hx (B3 m sv).toList _ hE underlying69 rfl Ko h
theorem A1.after {w'':World} (h:A1 w f m L d' w') (hb:Below w'.heap.size w' w''):A1 w f m L d' w'':=by
 obtain⟨L',h1,h2,h3⟩:=h;exact⟨L',h1.below hb,h2.trans (Ab.below hb) (fun _ h=> .inl h),h3⟩
theorem runD_one (d:Af) (o:Ls):Bk d [o]=((Bi d o).1,(Bi d o).2.2.2):=by
 by_cases h:(Bi d o).2.2.2=0
 ·rw [Dx h,Bk,h]
 ·rw [Ch h]
theorem drop_map_cons {l:List (List UInt8)}  {x:List UInt8} (h:l[k]? =some x):(l.drop k).map Bb=Bb x::(l.drop (k+1)).map Bb:=by
 rw [dropF_cons h,List.map_cons]
theorem recApply_good (w:World) (f m:Nat) (d:Af) (L:List Aq) (h:Bv w f m d L) (p:Pl) (sv rv:Value) (hs:Fu (fun k=> ¬ foot f m L k) w sv p.man.segs) (hr:StIn (fun k=> ¬ foot f m L k) w rv p.remove)
  (hn:Bh w) (hg: ¬ foot f m L 1) (hst:d.steps+p.remove.length+16<4611686018427387904) (hok:Cy p.man=true):
  Calls prog 58 #[.pointer (some ⟨f,0,none⟩),plV p sv rv] w (Fj w f m L (B1 d p)):=by
 have HH:=Qh h;have HST:=Qh hst;have HOK:=Qh hok;have HNG:=Qh hg;have HNB:=Qh hn;have HFW:=Qh h.lt;have HSI:=Qh hs;obtain⟨ob,bcap,rfl,hl1,hl2,hcs⟩:=hs;obtain⟨oa,cap,rfl,hl3,hl4,hcr⟩:=hr;have HCR:=Qh hcr;have HAP:=Qs (B1 d p=Bk d (M4 d p)) (by unfold B1;rw [hok];rfl);have HV:=Qh (Pf p.man (.slice ob p.man.segs.length bcap) _ (HSI.out.row.below (Aa w (.cells (Gf p (.slice ob p.man.segs.length bcap) (.slice oa p.remove.length cap)) 75))));rw [hok] at HV;have HB0:=Qh (Aa w (.cells (Gf p (.slice ob p.man.segs.length bcap) (.slice oa p.remove.length cap)) 75));have HPB:=Qh (Hv w p (.slice ob p.man.segs.length bcap) (.slice oa p.remove.length cap));have hlast: ∃ (j:Nat) (g:Sg),p.man.segs.length=j+1∧p.man.segs[j]? =some g∧Ah p.man=g:=by
  obtain⟨g,h1,_,_,_,_⟩:=Mt _ _ _ _ (Cj hok).chain;rcases hx:p.man.segs.length with _|j
  ·rw [List.length_eq_zero_iff.1 hx] at h1;cases h1
  ·refine⟨j,g,rfl,?_,?_⟩
   ·rw [List.getLast?_eq_getElem?,hx] at h1;simpa using h1
   ·unfold Ah;rw [h1];rfl
 clear h hst hok hg hn hcs hcr;go_enter func58,ntmps58;go_wp2_with fail;go_at_call 91;refine HV.out.mono ?_;rintro e w1 ⟨rfl,hb1⟩;have HBW:=Qh (Below.next HB0.out hb1);have HP1:=Qh (HPB.out.below hb1);have HF1:=Qh (HH.out.below HBW.out);have HSI1:=Qh (HSI.out.below HBW.out);have HNB1:=Qh (HNB.out.below HBW.out);have HNF:=Qh (fun k (hk:w.heap.size≤k)=>show ¬ foot f m L k from fun hf=>by have:=HFW.out k hf;omega);have HQ:=Qh (fun(d':Af) (W:World) (hp:A1 w1 f m L d' W)=>show A1 w f m L d' W from hp.then (Ab.below HBW.out) (fun _ h=> .inl h));have r7:=HP1.out.c7;clear hb1 HV HB0 HPB HSI HNB;go_wp2;go_loopw [6,7,24] (fun _ _ iv wr=> ∃ (k:Nat) (dk:Af),k≤p.remove.length∧iv= Vi Vk k∧Hid (A1 w1 f m L dk wr)∧Hid (Bk d (Je p)=Bk dk ((p.remove.drop k).map Bb))∧Hid (dk.steps≤d.steps+k)) (fun _ _ iv _=>p.remove.length - (intOf iv).toNat)
 case atStart=>exact⟨0,d,θ _,rfl,Qh (A1.same HF1.out),Qh rfl,Qh (by omega)⟩
 case round=>
  clear r7;obtain⟨k,dk,hk,rfl,HP,HRM,HSK⟩:=hrel;by_cases hlt:k<p.remove.length
  ·obtain⟨x,hx,_,_⟩:=Pj p.remove k hlt;have q1:(k:Int)<(p.remove.length:Int):=by omega
   obtain⟨b,off,rfl,hnb,hcx⟩:=HCR.out k x hx;have cn:wr.cell? ⟨b,off+k,none⟩=some (.string ⟨x.toArray⟩):=HP.out.cell (cell_later HBW.out hcx) hnb;obtain⟨Lk,hfk,htk,hsk⟩:=HP.out;have HRV:=Qh (remove_any wr f m dk Lk hfk (by have:=HSK.out;have:=HST.out;omega) x);have HTJ:=Qh htk;have HSJ:=Qh hsk;have HDC:=Qh (drop_map_cons hx);clear hx hnb hcx hfk htk hsk;go_wp2_with fail;refine HRV.out.mono ?_;rintro e w3 ⟨rfl,hp⟩;have HPn:=Qh (hp.then HTJ.out HSJ.out);clear hp HRV HTJ HSJ cn;by_cases he:(Bi dk (Bb x)).2.2.2=0
   ·have HRM:=Qs (Bk d (Je p)=Bk (Bi dk (Bb x)).1 ((p.remove.drop (k+1)).map Bb)) (by rw [HRM.out,HDC.out,Dx he]);have HSK:=Qs ((Bi dk (Bb x)).1.steps≤d.steps+(k+1:Nat)) (by have:=(Bx dk (Bb x)).1;have:=HSK.out;omega);rw [he];clear he;go_wp2;go_roundw
    case rel=>exact⟨k+1,_,by omega,by go_num,HPn,HRM,HSK⟩
    case measure=>simp [intOf];omega
   ·have tn:((Bi dk (Bb x)).2.2.2 != 0)=true:=by simpa using he
    have HE:=Qs (B1 d p=((Bi dk (Bb x)).1,(Bi dk (Bb x)).2.2.2)) (by
     have h1:Bk d (Je p)=((Bi dk (Bb x)).1,(Bi dk (Bb x)).2.2.2):=by rw [HRM.out,HDC.out,Ch he]
     rw [HAP.out,refOps_run,γ (by rw [h1];exact he),h1])
    have HF:=Qh (HQ.out _ _ HPn.out);clear he;generalize (Bi dk (Bb x)).2.2.2=ev at*;go_wp2;go_ret;unfold Fj;rw [HE.out];exact⟨rfl,HF.out⟩
  ·obtain rfl:k=p.remove.length:=by omega
   have HRUN0:=Qs (B1 d p=Bk dk (tailOps dk p)) (by
    have h1:Bk d (Je p)=(dk,0):=by rw [HRM.out,List.drop_of_length_le (μ _)];rfl
    rw [HAP.out,refOps_run,h1];rfl)
   have HSD:=Qs (dk.steps+16<4611686018427387904) (by have:=HSK.out;have:=HST.out;omega);clear HRM HSK;obtain⟨j,g,hjl,hjg,hlg⟩:=hlast;have HLG:=Qh hlg;have HPB:=Qh (HP1.out.kept (HP.out.block HP1.out.lt (HNF.out _ (μ _))));have hw1:IntKind.i64.wrap ((p.man.segs.length:Int) - 1)=(j:Int):=by rw [ν];omega
   have q1:(j:Int)<(p.man.segs.length:Int):=by omega
   obtain⟨oa',cap',e1,_,_,hcs⟩:=HSI1.out;simp only [Value.slice.injEq] at e1;obtain⟨rfl,_,rfl⟩:=e1;obtain⟨b,off,rfl,⟨hnb,_⟩,hrg⟩:=hcs j g hjg;have HRG:=Qs (wr.rangeAt b (off+j*4) (B4 g).toList) (fun i u hi=>HP.out.cell (hrg i u hi) hnb);have r6:=HPB.out.c6;clear hjg hlg hcs hnb hrg hjl;go_wp2_with (with_reducible refine Bc rfl (.tmp 43) rfl b (off+j*4) g rfl HRG.out ?_);have HB5:=Qh (Aa wr (.cells (B4 g) 72));have HS5:=Qs (Ft (wr.alloc (.cells (B4 g) 72)) wr.heap.size g) (σ wr _);refine(Jm g.num _).mono ?_;rintro e w5 ⟨rfl,hb5⟩;have HP5:=Qh ((HP.out.after HB5.out).after hb5);have HPB5:=Qh ((HPB.out.below HB5.out).below hb5);have HSB5:=Qs (Ft w5 wr.heap.size g) (by unfold Ft;rw [hb5.block _ (δ.1 HS5.out).1];exact HS5.out);have r0:=HPB5.out.c0;have HSN:=Qs (A9 p.man=Ad g.num) (by unfold A9;rw [HLG.out]);obtain⟨n,hnn⟩: ∃ n,n=Ad g.num:=⟨_,rfl⟩;have HNN:=Qh hnn;rw [←hnn];clear hb5 r6 hw1 HB5 HS5 HP hnn;obtain⟨L5,hf5,ht5,hs5⟩:=HP5.out;have HF5:=Qh hf5;have HT5:=Qh ht5;have HS5:=Qh hs5;have HQ5:=Qh (fun(d':Af) (W:World) (hp:A1 w5 f m L5 d' W)=>show A1 w f m L d' W from HQ.out _ _ (hp.then HT5.out HS5.out));have HNG5:=Qh (show ¬ foot f m L5 1 from fun hf=>by
    rcases HS5.out _ hf with h1|h1
    ·exact HNG.out h1
    ·have:=HNB1.out.lt;omega)
   have HNB5:=Qh (HP5.out.nib HNB1.out HNG.out);have HSI5:=Qh (show Fu (fun k=> ¬ foot f m L5 k) w5 (.slice (some ⟨b,off,none⟩) p.man.segs.length bcap) p.man.segs from(HSI1.out.low.turned HT5.out (fun k hk hf=>hk.1 hf)).mono (fun k hk hf=>by
    rcases HS5.out k hf with h1|h1
    ·exact hk.1 h1
    ·have:=hk.2;omega))
   clear hf5 ht5 hs5;rcases hfr:p.fresh with _|_
   case true=>
    have HRUN:=Qs (B1 d p=Bk dk (Et n g p.man)) (by rw [HRUN0.out];unfold tailOps;rw [hfr,HSN.out,HLG.out,HNN.out];rfl);rw [hfr] at r0;have HBG:=Qh (begin_any w5 f m dk L5 HF5.out (by have:=HSD.out;omega) n g p.man (.slice (some ⟨b,off,none⟩) p.man.segs.length bcap) HSI5.out HNB5.out HNG5.out HOK.out);have HSR:=Qh HSB5.out.range;have HMR:=Qh HPB5.out.man;clear hfr;go_wp2_with (first|(with_reducible refine Bc rfl (.tmp 8) rfl wr.heap.size 0 g rfl HSR.out ?_)|(with_reducible refine Kv rfl (.tmp 53) rfl w.heap.size 1 p.man (.slice (some ⟨b,off,none⟩) p.man.segs.length bcap) rfl HMR.out ?_));refine HBG.out.mono ?_;rintro e w6 ⟨rfl,hp⟩;have HF:=Qh (HQ5.out _ _ hp);clear hp;rw [←HRUN.out];rw [←HRUN.out] at HF;generalize B1 d p=rr at*;go_wp2;go_ret;exact⟨rfl,HF.out⟩
   rw [hfr] at r0;have HRUNS:=Qs (B1 d p=Bk dk (Ek n::(cutOps n p.cut (Bf dk.files n)++[Ag n]))) (by rw [HRUN0.out];unfold tailOps;rw [hfr,HSN.out,HNN.out];rfl);have HSZ:=Qh (Ol w5 f m dk L5 HF5.out n);have r8:=HPB5.out.c8;clear hfr;by_cases hop:Av dk n=0
   case neg=>
    have hE1:Bi dk (Ek n)=(dk,[],0,Av dk n):=by rw [Mw,κ hop]
    have HE:=Qs (B1 d p=(dk,Av dk n)) (by rw [HRUNS.out,Ch (by rw [hE1];exact hop),hE1]);rw [hE1] at HSZ;have tn:(Av dk n != 0)=true:=by simpa using hop
    have HF:=Qh (HQ5.out _ _ (A1.same HF5.out));clear hop hE1;generalize Av dk n=ev at*;go_wp2_with fail;refine HSZ.out.mono ?_;rintro e w6 ⟨rfl,rfl⟩;go_wp2;go_ret;unfold Fj;rw [HE.out];exact⟨rfl,HF.out⟩
   obtain⟨_,_,x,hax⟩:=Kq hop;have hE1:Bi dk (Ek n)=(dk,[],(x.data.length:Int),0):=by rw [Mw,γ (by simpa using hop),hax]
   have HRUNT:=Qs (B1 d p=Bk dk (cutOps n p.cut (some x)++[Ag n])) (by rw [HRUNS.out,Dx (by rw [hE1]),hE1,hax]);rw [hE1] at HSZ;clear hop hE1 hax;go_wp2_with fail;refine HSZ.out.mono ?_;rintro e w6 ⟨rfl,rfl⟩;have HP0:=Qh (A1.same HF5.out);have HQ:=HQ5;have HS:=Qs (dk.steps<4611686018427387904) (by have:=HSD.out;omega);have HSB:=Qs (dk.steps≤4611686018427387887) (by have:=HSD.out;omega);obtain⟨d0,hd0⟩: ∃ y,y=dk:=⟨_,rfl⟩;rw [←hd0] at HP0 HS HSB HRUNT;clear hd0 HSZ HQ5 HRUNS HRUN0;rcases hcut:decide (p.cut<(x.data.length:Int)) with _|_
   case true=>
    have HRUN:=Qs (B1 d p=Bk d0 (Dk n p.cut::[Ag n])) (by rw [HRUNT.out];show Bk d0 ((if p.cut<(x.data.length:Int) then [Dk n p.cut] else [])++[Ag n])=_;rw [κ (by simpa using hcut)];rfl);obtain⟨L0,hfs0,ht0,hsub0⟩:=HP0.out;have HCJ:=Qh (cut_any _ f m _ L0 hfs0 HS.out n p.cut);have HTJ:=Qh ht0;have HSJ:=Qh hsub0;clear hfs0 ht0 hsub0;go_wp2_with fail;refine HCJ.out.mono ?_;rintro e W5 ⟨rfl,hp⟩;have HPn:=Qh (hp.then HTJ.out HSJ.out);clear hp HCJ;by_cases he0:(Bi d0 (Dk n p.cut)).2.2.2=0
    case neg=>
     have tn:((Bi d0 (Dk n p.cut)).2.2.2 != 0)=true:=by simpa using he0
     have HE:=Qs (B1 d p=((Bi d0 (Dk n p.cut)).1,(Bi d0 (Dk n p.cut)).2.2.2)) (by rw [HRUN.out,Ch he0]);have HF:=Qh (HQ.out _ _ HPn.out);clear he0;generalize (Bi d0 (Dk n p.cut)).2.2.2=ev at*;go_wp2;go_ret;unfold Fj;rw [HE.out];exact⟨rfl,HF.out⟩
    have HRUN:=Qs (B1 d p=Bk (Bi d0 (Dk n p.cut)).1 ([Ag n])) (by rw [HRUN.out,Dx he0]);have HS:=Qs ((Bi d0 (Dk n p.cut)).1.steps<4611686018427387904) (by have h1:=(Bx d0 (Dk n p.cut)).1;have:=HSB.out;omega);have HSB:=Qs ((Bi d0 (Dk n p.cut)).1.steps≤4611686018427387887+1) (by have h1:=(Bx d0 (Dk n p.cut)).1;have:=HSB.out;omega);rw [he0];clear he0;obtain⟨d1,hdn⟩: ∃ x,x=(Bi d0 (Dk n p.cut)).1:=⟨_,rfl⟩;rw [←hdn] at HPn HRUN HS HSB;clear hdn HTJ HSJ;have HP1:=HPn;clear HPn;obtain⟨L8,hfs,ht,hsub⟩:=HP1.out;have HCJ:=Qh (Lg _ f m _ L8 hfs HS.out n);have HTJ:=Qh ht;have HSJ:=Qh hsub;clear hfs ht hsub;go_wp2_with fail;refine HCJ.out.mono ?_;rintro e W9 ⟨rfl,hp⟩;have HF:=Qh (HQ.out _ _ (hp.then HTJ.out HSJ.out));have HE:=Qs (B1 d p=((Bi d1 (Ag n)).1,(Bi d1 (Ag n)).2.2.2)) (by rw [HRUN.out,runD_one]);clear hp HCJ;generalize (Bi d1 (Ag n)).2.2.2=ev at*;go_wp2;go_ret;unfold Fj;rw [HE.out];exact⟨rfl,HF.out⟩
   have HRUN:=Qs (B1 d p=Bk d0 [Ag n]) (by rw [HRUNT.out];show Bk d0 ((if p.cut<(x.data.length:Int) then [Dk n p.cut] else [])++[Ag n])=_;rw [γ (by simpa using hcut)];rfl);obtain⟨L8,hfs,ht,hsub⟩:=HP0.out;have HCJ:=Qh (Lg _ f m _ L8 hfs HS.out n);have HTJ:=Qh ht;have HSJ:=Qh hsub;clear hfs ht hsub;go_wp2_with fail;refine HCJ.out.mono ?_;rintro e W9 ⟨rfl,hp⟩;have HF:=Qh (HQ.out _ _ (hp.then HTJ.out HSJ.out));have HE:=Qs (B1 d p=((Bi d0 (Ag n)).1,(Bi d0 (Ag n)).2.2.2)) (by rw [HRUN.out,runD_one]);clear hp HCJ;generalize (Bi d0 (Ag n)).2.2.2=ev at*;go_wp2;go_ret;unfold Fj;rw [HE.out];exact⟨rfl,HF.out⟩
theorem Ft.c1 {b:Nat} {g:Sg} (h:Ft w b g):w.cell? ⟨b,1,none⟩=some (Vi Vk g.first):=h.range 1 _ rfl
theorem refOps_len (d:Af) (p:Pl):(M4 d p).length≤p.remove.length+7:=by
 unfold M4 Je;rw [ζ,List.length_map];split
 ·simp [Et]
 ·simp only [τ,ζ,Φ];have:(cutOps (A9 p.man) p.cut (if p.remove.any (fun x=>x==A9 p.man) then none else Bf d.files (A9 p.man))).length≤1:=by
   unfold cutOps;split
   ·simp
   ·split<;>simp
  omega
section
variable {w W W' : World} {p : Pl} {sv rv : Value} {dk d' : Af} {vk fv' : Value}
end
theorem plInfo:(prog.info? 75).map (·.size)=some 10:=by kernel_rfl
theorem Na (hgd:o.guard=none) (x:Operand) (ho:o.op= .load 75 x)
  (g:Nat) (p:Pl) (sv rv:Value) (hx:a.eval x= .pointer (some ⟨g,0,none⟩)) (hE:Cb w g p sv rv)
  (h:wpList prog ops Q rest (a.put o.dst (plV p sv rv)) w):wpList prog ops Q (o::rest) a w:=
 wpList_load_row hgd 75 x ho g hx 75 (Gf p sv rv) (0,0) _ hE underlying75 rfl plInfo h
def Ap:Da:=⟨1,2,0,0,0,[⟨1,1,0,0⟩]⟩
def zeroM:Da:=⟨0,0,0,0,0,[]⟩
def planF:Pl:=⟨true,Ap,[],22,0⟩
def Ay:Pl:=⟨false,zeroM,[],0,0⟩
theorem firstM_ok:Cy Ap=true:=by decide
theorem D6 {n:Nat} (h:n<128):(A7 n).length=1:=by rw [A7,dif_pos h];rfl
theorem G3:(Hs 1 1).1.length=22∧(Ct Ap).1.length=29:=by
 refine⟨?_,?_⟩
 ·rw [hdrEnc_ok (by decide) (by decide) (by decide) (by decide)];simp only [Az,ζ];rw [D6 (by decide)]
 ·rw [encMan_ok firstM_ok];simp only [Az];show (A7 8++(A7 2++(A7 0++(A7 0++(A7 0++(A7 1++(A7 1++(A7 0++(A7 0++[]))))))))).length+20=29;simp only [ζ,D6 (show 8<128 by decide),D6 (show 2<128 by decide),D6 (show 1<128 by decide),D6 (show 0<128 by decide),Φ]
theorem mnCs_all (m:Da) (v:Value) (h:v.oneCell'=true):(B3 m v).all (·.oneCell')=true:=
 Array.all_eq_true_iff_forall_mem.2 (by
  intro u hu
  simp only [B3,List.mem_toArray,Δ,Ω,or_false] at hu
  rcases hu with rfl|rfl|rfl|rfl|rfl|rfl<;>first|rfl|assumption)
theorem At.row {m m':Da} {sv':Value} (h:At w g m sv):At (w.setRow g (B3 m' sv')) g m' sv':=setRow_heap w g _ _ _ _ h
theorem Bp (hgd:o.guard=none) (x y:Operand) (ho:o.op= .store 69 x y)
  (g:Nat) (m m':Da) (sv sv':Value) (hx:a.eval x= .pointer (some ⟨g,0,none⟩)) (hy:a.eval y=mnV m' sv') (hE:At w g m sv) (h1:sv'.oneCell'=true)
  (h: ∀ W,Hid (W=w.setRow g (B3 m' sv'))→wpList prog ops Q rest (a.put o.dst undef) W):wpList prog ops Q (o::rest) a w:=
 wpList_store_row hgd 69 x y ho g (B3 m' sv') hx hy 69 (B3 m sv) hE Ko rfl (mnCs_all m' sv' h1) (h _ (Qh rfl))
theorem plCs_all (p:Pl) (v v':Value) (h:v.oneCell'=true) (h':v'.oneCell'=true):(Gf p v v').all (·.oneCell')=true:=
 Array.all_eq_true_iff_forall_mem.2 (by
  intro u hu
  simp only [Gf,List.mem_toArray,Δ,Ω,or_false] at hu
  rcases hu with rfl|rfl|rfl|rfl|rfl|rfl|rfl|rfl|rfl|rfl<;>first|rfl|assumption)
theorem Cb.row {p p':Pl} {sv' rv':Value} (h:Cb w g p sv rv):Cb (w.setRow g (Gf p' sv' rv')) g p' sv' rv':=setRow_heap w g _ _ _ _ h
theorem Bz (hgd:o.guard=none) (x y:Operand) (ho:o.op= .store 75 x y)
  (g:Nat) (p p':Pl) (sv rv sv' rv':Value) (hx:a.eval x= .pointer (some ⟨g,0,none⟩)) (hy:a.eval y=plV p' sv' rv') (hE:Cb w g p sv rv) (h1:sv'.oneCell'=true) (h2:rv'.oneCell'=true)
  (h: ∀ W,Hid (W=w.setRow g (Gf p' sv' rv'))→wpList prog ops Q rest (a.put o.dst undef) W):wpList prog ops Q (o::rest) a w:=
 wpList_store_row hgd 75 x y ho g (Gf p' sv' rv') hx hy 75 (Gf p sv rv) hE plInfo rfl (plCs_all p' sv' rv' h1 h2) (h _ (Qh rfl))
theorem run_load_mn {m:Da}  (hE:At w g m sv):(loadVar 69 ⟨g,0,none⟩).run prog w= .ok (mnV m sv) w:=
 run_loadVar_row (P:=prog) w g 69 69 (B3 m sv) (0,0) _ hE underlying69 rfl Ko
theorem run_load_pl {p:Pl}  (hE:Cb w g p sv rv):(loadVar 75 ⟨g,0,none⟩).run prog w= .ok (plV p sv rv) w:=
 run_loadVar_row (P:=prog) w g 75 75 (Gf p sv rv) (0,0) _ hE underlying75 rfl plInfo
theorem results_mn1 {p:Tmp} (h:fn.results= #[.cell p 69]) (tmps:Array Value) (w:World) (g:Nat) (m:Da) (sv:Value)
  (hp:tmps.getD p undef= .pointer (some ⟨g,0,none⟩)) (hE:At w g m sv):(results fn tmps).run prog w= .ok (mnV m sv) w:=by
 have hl:=run_load_mn hE;have hp':tmps[p]?.getD undef= .pointer (some ⟨g,0,none⟩):=by simpa using hp
 simp [results,h,hp',asAddr,hl]
theorem Cz {p:Tmp} (h:fn.results= #[.cell p 75,.tmp q]) (tmps:Array Value) (w:World) (g:Nat) (P:Pl) (sv rv x:Value)
  (hp:tmps.getD p undef= .pointer (some ⟨g,0,none⟩)) (hq:tmps.getD q undef=x) (hE:Cb w g P sv rv):(results fn tmps).run prog w= .ok (.tuple #[plV P sv rv,x]) w:=by
 have hl:=run_load_pl hE;have hp':tmps[p]?.getD undef= .pointer (some ⟨g,0,none⟩):=by simpa using hp
 have hq':tmps[q]?.getD undef=x:=by simpa using hq
 simp [results,h,hp',hq',asAddr,hl]
theorem first_any (w:World):Calls prog 129 #[] w fun e w'=> ∃ sv,e= .returned (mnV Ap sv)∧Fu (fun k=>w.heap.size≤k) w' sv Ap.segs∧sv.oneCell'=true∧Below w.heap.size w w':=by
 have HM:=Qh ((Ca w Ap (.slice (some ⟨w.heap.size+1,0,none⟩) 1 1)).below (Aa _ (.cells (B4 ⟨1,1,0,0⟩) 72)));have HB:=Qh (Below.next (Aa w (.cells (B3 Ap (.slice (some ⟨w.heap.size+1,0,none⟩) 1 1)) 69)) (Aa _ (.cells (B4 ⟨1,1,0,0⟩) 72)))
 have HS:=Qh (show Fu (fun k=>w.heap.size≤k) ((w.alloc (.cells (B3 Ap (.slice (some ⟨w.heap.size+1,0,none⟩) 1 1)) 69)).alloc (.cells (B4 ⟨1,1,0,0⟩) 72)) (.slice (some ⟨w.heap.size+1,0,none⟩) 1 1) Ap.segs from
  ⟨_,1,rfl,μ _,by decide,fun i g hg=>⟨w.heap.size+1,0,rfl,⟨Nat.le_succ _,_,_,by have:=σ (w.alloc (.cells (B3 Ap (.slice (some ⟨w.heap.size+1,0,none⟩) 1 1)) 69)) (.cells (B4 ⟨1,1,0,0⟩) 72);rwa [show (w.alloc (.cells (B3 Ap (.slice (some ⟨w.heap.size+1,0,none⟩) 1 1)) 69)).heap.size=w.heap.size+1 by simp] at this⟩,fun j u hj=>by
   match i,hg with
   |0,hg=>
    simp [Ap] at hg;subst hg;have:=World.cell?_alloc_new (w.alloc (.cells (B3 Ap (.slice (some ⟨w.heap.size+1,0,none⟩) 1 1)) 69)) (B4 ⟨1,1,0,0⟩) 72 j;rw [show (w.alloc (.cells (B3 Ap (.slice (some ⟨w.heap.size+1,0,none⟩) 1 1)) 69)).heap.size=w.heap.size+1 by simp] at this;rw [Nat.zero_mul,Nat.add_zero,Nat.zero_add,this];simpa using hj⟩⟩)
 go_enter func129,ntmps129;go_wp2;exact π (v:=mnV Ap (.slice (some ⟨w.heap.size+1,0,none⟩) 1 1)) (results_mn1 rfl _ _ w.heap.size Ap (.slice (some ⟨w.heap.size+1,0,none⟩) 1 1) rfl HM.out) rfl ⟨_,rfl,HS.out,rfl,HB.out⟩
theorem manSize_any (m:Da) (sv:Value) (w:World) (hr:Oa w sv m.segs) (hn:Bh w):Calls prog 81 #[mnV m sv] w fun e w'=>e= .returned (Vi Vk ((Ct m).1.length:Int))∧Below w.heap.size w w':=by
 have HB0:=Qh (Aa w (.cells (B3 m sv) 69));have HE:=Qh (manEncode_any m sv _ (hr.below HB0.out) (hn.below HB0.out));have HM:=Qh (Ca w m sv);simp only [B3] at HM HE;clear hr hn;obtain⟨en,hen⟩: ∃ y,y=Ct m:=⟨_,rfl⟩;rw [←hen] at HE;rw [←hen];clear hen;go_enter func81,ntmps81;go_wp2_with (with_reducible refine Co rfl (.tmp 1) rfl w.heap.size m sv rfl HM.out ?_);refine HE.out.mono ?_;rintro e w1 ⟨v1,rfl,ho1,hb1⟩;obtain⟨o1,cap1,rfl,_,_⟩:=Aj ho1;have HB:=Qh (Below.next HB0.out hb1);clear ho1 hb1 HE HM;go_wp2;go_ret;exact⟨rfl,HB.out⟩
theorem Bv.turned (h:Bv w f m d L) (ht:Ab S w w') (hS: ∀ k,foot f m L k→ ¬ S k):Bv w' f m d L:=
 ⟨h.hd.kept (ht.block f h.hd.lt (hS f (.inl rfl))),h.body.turned h.hd.lt ht (fun k _ hk=>hS k hk),h.fil,h.ok⟩
def sgCells (l:List Sg):List Value:=l.flatMap fun g=>(B4 g).toList
theorem J3 (l:List Sg):(sgCells l).length=l.length*4:=by
 unfold sgCells
 induction l with
 |nil=>simp
 |cons x r ih=>rw [List.flatMap_cons,ζ,ih,τ];simp [B4];omega
theorem M6: ∀ (rs:List Sg) (i:Nat) (r:Sg),rs[i]? =some r→ ∀ (j:Nat) u,(B4 r)[j]? =some u→(sgCells rs)[i*4+j]? =some u
 | [],i,r,h,_,_,_=>by simp at h
 |x::rs,0,r,h,j,u,hj=>by
  simp at h;subst h
  have hl:j<4:=by have:=(δ.1 hj).1;simpa [B4] using this
  unfold sgCells
  rw [List.flatMap_cons,Nat.zero_mul,Nat.zero_add,List.getElem?_append_left (by simpa [B4] using hl)]
  simpa using hj
 |x::rs,i+1,r,h,j,u,hj=>by
  have:=M6 rs i r (by simpa using h) j u hj
  unfold sgCells at this ⊢
  rw [List.flatMap_cons,List.getElem?_append_right (by simp [B4];omega)]
  rw [←this]
  congr 1
  simp [B4];omega
theorem own_typ {n off l:Nat} {a} {xs:List Value}  (h:w.ownsRow B 72 4 v n xs) (hv:v= .slice (some ⟨g,off,a⟩) l c):SegB w g:=by
 obtain⟨_,⟨rfl,_⟩|⟨g',cap,cur,rfl,_,e,_⟩⟩:=h
 ·cases hv
 ·simp only [Value.slice.injEq,Option.some.injEq,Addr.mk.injEq] at hv;obtain⟨⟨rfl,_⟩,_⟩:=hv;exact⟨_,_,e⟩
theorem sgIn_own {l:List Sg} (h:w.ownsRow B 72 4 v l.length (sgCells l)) (hA: ∀ k,B≤k→A k):Fu A w v l:=by
 by_cases hn:l=[]
 ·subst hn;obtain⟨oa,cap,rfl,h1,h2⟩:=Aj h;exact⟨oa,cap,rfl,h1,by unfold maxLen at h2;omega,fun i g hg=>by simp at hg⟩
 ·obtain⟨g,cap,rfl,hB,_,h1,h2,h3⟩:=Dr h (Ψ.2 hn);exact⟨_,cap,rfl,h1,by unfold maxLen at h2;omega,fun i x hx=>⟨g,0,rfl,⟨hA g hB,own_typ h rfl⟩,fun j u hj=>by rw [Nat.zero_add];exact h3 _ _ (M6 l i x hx j u (by simpa using hj))⟩⟩
def zeroSg:Value:= .agg #[Vi Vk 0,Vi Vk 0,Vi Vk 0,Vi Vk 0]
theorem infoSg:(prog.info? 72).map (fun i=>(i.zero,i.size,i.bytes))=some (some zeroSg,4,32):=by kernel_rfl
theorem At.set {m:Da} {sv':Value} (h:At w g m sv) (e:(B3 m sv).setIfInBounds 5 sv'=B3 m sv'):At (w.setCell ⟨g,5,none⟩ sv') g m sv':=by
 unfold At at h ⊢;rw [←e];simp only [World.setCell];rw [Array.getElem?_modify];simp [h]
theorem At.otherCell {m:Da}  (h:At w g m sv) (hn:g≠k) (j:Nat) (v:Value):At (w.setCell ⟨k,j,none⟩ v) g m sv:=by
 unfold At at h ⊢;simp only [World.setCell];rw [Array.getElem?_modify];simp [h,Ne.symm hn]
theorem At.free {m:Da}  (h:At w g m sv) (j:Nat):w.frozen? ⟨g,j,none⟩=false:=by unfold At at h;simp [World.frozen?,h]
theorem Ba (hb:Below B w0 w) (ht:Ab S w w') (hS: ∀ k,S k→B≤k) (hB:B≤w.heap.size):Below B w0 w':=
 ⟨ht.os.trans hb.os,ht.tape.trans hb.tape,ht.output.trans hb.output,η hb.size ht.size,fun k hk=>(ht.block k (Nat.lt_of_lt_of_le hk hB) (fun hc=>by have:=hS k hc;omega)).trans (hb.block k hk)⟩
theorem stIn_own {l:List (List UInt8)} (h:w.ownsRow B 9 1 v l.length (l.map fun s=> .string ⟨s.toArray⟩)) (hA: ∀ k,B≤k→A k):StIn A w v l:=by
 by_cases hn:l=[]
 ·subst hn;obtain⟨oa,cap,rfl,h1,h2⟩:=Aj h;exact⟨oa,cap,rfl,h1,by unfold maxLen at h2;omega,fun i g hg=>by simp at hg⟩
 ·obtain⟨g,cap,rfl,hB,_,h1,h2,h3⟩:=Dr h (Ψ.2 hn);exact⟨_,cap,rfl,h1,by unfold maxLen at h2;omega,fun i x hx=>⟨g,0,rfl,hA g hB,by rw [Nat.zero_add];exact h3 _ _ (by rw [List.getElem?_map,hx];rfl)⟩⟩
theorem StIn.turned {l:List (List UInt8)} (h:StIn A w v l) (ht:Ab S w w') (hS: ∀ k,A k→ ¬ S k):StIn A w' v l:=by
 obtain⟨oa,cap,h1,h2,h3,h4⟩:=h;exact⟨oa,cap,h1,h2,h3,fun i g hg=>by obtain⟨b,off,e,ha,hc⟩:=h4 i g hg;exact⟨b,off,e,ha,ht.cell hc (hS b ha)⟩⟩
theorem row_setCell {b:Nat} {cs:Array Value} {ty:TypeId} (h:w.heap[b]? =some (.cells cs ty (0,0))) (j:Nat) (v:Value):(w.setCell ⟨b,j,none⟩ v).heap[b]? =some (.cells (cs.setIfInBounds j v) ty (0,0)):=by
 simp [World.setCell,Array.getElem?_modify,h]
theorem Ax (w:World) (g:Nat) (cs:Array Value):Ab (fun k=>k=g) w (w.setRow g cs):=⟨rfl,rfl,rfl,by simp,fun k _ hn=>setRow_other _ _ _ _ hn⟩
theorem frInfo:(prog.info? 101).map (·.size)=some 3:=by kernel_rfl
theorem frCs_all (k s:Int) (v:Value) (h:v.oneCell'=true):(Ha k s v).all (·.oneCell')=true:=
 Array.all_eq_true_iff_forall_mem.2 (by
  intro u hu
  simp only [Ha,List.mem_toArray,Δ,Ω,or_false] at hu
  rcases hu with rfl|rfl|rfl<;>first|rfl|assumption)
theorem Eq.lt {k s:Int}  (h:Eq w g k s bv):g<w.heap.size:=(δ.1 h).1
theorem Eq.row {k s k' s':Int} {bv':Value} (h:Eq w g k s bv):Eq (w.setRow g (Ha k' s' bv')) g k' s' bv':=setRow_heap w g _ _ _ _ h
theorem C9 (hgd:o.guard=none) (x y:Operand) (ho:o.op= .store 101 x y)
  (g:Nat) (k s k' s':Int) (bv bv':Value) (hx:a.eval x= .pointer (some ⟨g,0,none⟩)) (hy:a.eval y=frV k' s' bv') (hE:Eq w g k s bv) (h1:bv'.oneCell'=true)
  (h: ∀ W,Eq W g k' s' bv'→Ab (fun k=>k=g) w W→wpList prog ops Q rest (a.put o.dst undef) W):wpList prog ops Q (o::rest) a w:=
 wpList_store_row hgd 101 x y ho g (Ha k' s' bv') hx hy 101 (Ha k s bv) hE frInfo rfl (frCs_all k' s' bv' h1) (h _ hE.row (Ax _ _ _))
theorem run_load_fr {k s:Int}  (hE:Eq w g k s bv):(loadVar 101 ⟨g,0,none⟩).run prog w= .ok (frV k s bv) w:=
 run_loadVar_row (P:=prog) w g 101 101 (Ha k s bv) (0,0) _ hE underlying101 rfl frInfo
theorem wpList_load_fr (hgd:o.guard=none) (x:Operand) (ho:o.op= .load 101 x)
  (g:Nat) (k s:Int) (bv:Value) (hx:a.eval x= .pointer (some ⟨g,0,none⟩)) (hE:Eq w g k s bv)
  (h:wpList prog ops Q rest (a.put o.dst (frV k s bv)) w):wpList prog ops Q (o::rest) a w:=
 wpList_load_row hgd 101 x ho g hx 101 (Ha k s bv) (0,0) _ hE underlying101 rfl frInfo h
theorem Ns {p r:Tmp} (h:fn.results= #[.cell p 101,.tmp q,.tmp r]) (tmps:Array Value) (w:World) (g:Nat) (k s:Int) (bv x y:Value)
  (hp:tmps.getD p undef= .pointer (some ⟨g,0,none⟩)) (hq:tmps.getD q undef=x) (hr:tmps.getD r undef=y) (hE:Eq w g k s bv):(results fn tmps).run prog w= .ok (.tuple #[frV k s bv,x,y]) w:=by
 have hl:=run_load_fr hE;have hp':tmps[p]?.getD undef= .pointer (some ⟨g,0,none⟩):=by simpa using hp
 have hq':tmps[q]?.getD undef=x:=by simpa using hq
 have hr':tmps[r]?.getD undef=y:=by simpa using hr
 simp [results,h,hp',hq',hr',asAddr,hl]
theorem Nr {p:Tmp} (h:fn.results= #[.cell p 101,.tmp q]) (tmps:Array Value) (w:World) (g:Nat) (k s:Int) (bv x:Value)
  (hp:tmps.getD p undef= .pointer (some ⟨g,0,none⟩)) (hq:tmps.getD q undef=x) (hE:Eq w g k s bv):(results fn tmps).run prog w= .ok (.tuple #[frV k s bv,x]) w:=by
 have hl:=run_load_fr hE;have hp':tmps[p]?.getD undef= .pointer (some ⟨g,0,none⟩):=by simpa using hp
 have hq':tmps[q]?.getD undef=x:=by simpa using hq
 simp [results,h,hp',hq',asAddr,hl]
section
variable {ops : Array Oper} {rest : List Oper} {o : Oper} {a : Act} {w : World} {Q : Exit → Act → World → Prop}
theorem wpList_cut_lhm (hgd:o.guard=none) (x y z u:Operand) (ho:o.op= .slice 39 x (some y) (some z) (some u)) (oa:Option Addr) (cap lo hi n:Nat) (l:List UInt8) (hx:a.eval x= .slice oa l.length cap) (hy:a.eval y= Vi Vk (lo:Int)) (hz:a.eval z= Vi Vk (hi:Int)) (hu:a.eval u= Vi Vk (hi:Int))
  (hv:B7 w (.slice oa l.length cap) l) (h1:lo≤hi) (h2:hi≤l.length) (hn:Hid (hi - lo=n)) (h: ∀ oa' cap',B7 w (.slice oa' n cap') ((l.take hi).drop lo)→wpList prog ops Q rest (a.put o.dst (.slice oa' n cap')) w):wpList prog ops Q (o::rest) a w:=by
 have hv':=hv;obtain⟨_,c',e,hl',_⟩:=hv';simp only [Value.slice.injEq,true_and] at e;obtain⟨rfl,rfl⟩:=e;have hb:=Jv (lo:=lo) (hi:=hi) (mx:=hi) hv h1 h2 (μ _);refine wpList_plain hgd fun K hK=> ?_;unfold Oper.wp execOp;simp only [ho,hx,hy,hz,hu,Option.map_some,Id,run_cut_lhm oa l.length cap lo hi hi h1 (μ _) (η h2 hl'),Sem.run_bind,Sem.run_pure,Result.andThen_ok];have hn':=hn.out;subst hn';exact hK _ _ (h _ _ hb)
end
def DecPost (w:World) (r:J6×Nat×Int) (e:Ending) (w':World):Prop:= ∃ bv,e= .returned (.tuple #[frV (r.1.k:Int) (r.1.s:Int) bv,Vi Vk (r.2.1:Int),Vi Vk r.2.2])∧As (fun k=>w.heap.size≤k) w' bv r.1.body∧Below w.heap.size w w'
theorem decF_bad {s n:Nat} {e:Int} (h:Db b=(k,s,n,e)) (he:e≠0):Cg b=(N7,0,e):=by unfold Cg;rw [h,κ he]
theorem decF_torn {s n:Nat} (h:Db b=(k,s,n,0)) (hn:b.length<n):Cg b=(N7,0,60):=by unfold Cg;rw [h,γ (fun h=>h rfl),κ hn]
theorem decF_sum {s n:Nat} (h:Db b=(k,s,n,0)) (hn: ¬ b.length<n) (hc:K3 ((b.take n).drop 16)=false):Cg b=(N7,0,62):=by unfold Cg;rw [h,γ (fun h=>h rfl),γ hn,κ hc]
theorem decF_good {s n:Nat} (h:Db b=(k,s,n,0)) (hn: ¬ b.length<n) (hc: ¬ K3 ((b.take n).drop 16)=false):Cg b=(⟨k,s,((b.take n).drop 16).take (n - 20)⟩,n,0):=by unfold Cg;rw [h,γ (fun h=>h rfl),γ hn,γ hc]
theorem Ho (A:Nat→Prop) (w:World):As A w (.slice none 0 0) []:=⟨none,0,rfl,μ _,fun h=>absurd rfl h⟩
theorem L6 (l:List UInt8) (v:Value) (w:World) (hv:B7 w v l) (hl:l.length≤9223372036854775807) (hn:Bh w):
  Calls prog 61 #[v] w (DecPost w (Cg l)):=by
 have HB0:=Qh (Aa w (.cells (Ha 0 0 (.slice none 0 0)) 101));have HF0:=Qh (Ff w 0 0 (.slice none 0 0));have HPK:=Qh (peek_any l v _ (hv.below HB0.out) hl (hn.below HB0.out));have HNB:=Qh hn;have HV:=Qh (fun W (hb:Below w.heap.size w W)=>hv.below hb);have HPF:=Qh (@peekF_fine l);obtain⟨oa,cap,rfl,hlc,hc⟩:=hv;simp only [Ha] at HB0 HF0 HPK;obtain⟨r,hr⟩: ∃ r,r=Db l:=⟨_,rfl⟩;rw [←hr] at HPK HPF;have HR:=Qh hr.symm;clear hc hr hn;obtain⟨k,s,sz,e0⟩:=r;unfold PeekPost at HPK;go_enter func61,ntmps61;go_wp2_with fail;refine HPK.out.mono ?_;rintro e w1 ⟨rfl,hb1⟩;have HB1:=Qh (Below.next HB0.out hb1);have HF1:=Qh (HF0.out.below hb1);clear hb1 HB0 HF0 HPK;rcases he0:(e0 != 0) with _|_
 ·have he00:e0=0:=by simpa using he0
  subst he00;obtain⟨_,hk1,hk7,hs1,hz1,hz2⟩:=HPF.out rfl;obtain⟨m,hm⟩: ∃ m,sz=m+20:=⟨sz - 20,by omega⟩;obtain⟨m4,hm4⟩: ∃ m4,m4=m+4:=⟨_,rfl⟩;rcases hlt:decide (l.length<sz) with _|_
  ·have hle:sz≤l.length:=by have:=Γ hlt;omega
   have HNT:=Qs (¬ l.length<sz) (by omega);have HM4:=Qs (sz - 16=m4) (by omega);have hlo:16≤sz:=by omega
   have HBR:=Qh (HV.out w1 HB1.out);have q4:(m4:Int) - 4=(m:Int):=by omega
   obtain⟨rs,hrs⟩: ∃ rs,rs=(l.take sz).drop 16:=⟨_,rfl⟩;have HRS:=Qh hrs;have HRL:=Qs (rs.length=m4) (by rw [hrs,Λ,ω];omega);have hml:m≤m4:=by omega
   have HML:=Qs (sz - 20=m) (by omega);have hmb:m≤16384:=by omega
   clear hrs hm hm4 he0 HPF hk1 hk7 hs1 hz1 hz2;go_wp2_with (with_reducible refine wpList_cut_lhm rfl (.tmp 26) (.const (Vi Vk 16)) (.tmp 27) (.tmp 28) rfl oa cap 16 sz m4 l rfl rfl rfl rfl HBR.out hlo hle HM4 ?_);intro oa' cap' hbr;rw [←HRS.out] at hbr;have HRB:=Qh hbr;have HCL:=Qh (closed_any rs _ w1 hbr (by rw [HRL.out];omega) (HNB.out.below HB1.out));clear hbr;go_wp2_with fail;refine HCL.out.mono ?_;rintro e w2 ⟨rfl,hb2⟩;have HB2:=Qh (Below.next HB1.out hb2);have HF2:=Qh (HF1.out.below hb2);have HRB2:=Qh (HRB.out.below hb2);clear hb2 HCL HB1 HF1 HRB HBR;rcases hck:K3 rs with _|_
   ·have HE:=Qh (decF_sum HR.out HNT.out (by rw [←HRS.out];exact hck));go_wp2_with (with_reducible refine C9 rfl (.tmp 2) (.tmp 33) rfl w.heap.size 0 0 0 0 (.slice none 0 0) (.slice none 0 0) rfl rfl HF2.out rfl ?_);intro w3 hf3 ht3;have HF3:=Qh hf3;have HB3:=Qh (Ba HB2.out ht3 (fun k hk=>by omega) HB2.out.size);clear hf3 ht3;go_wp2;refine π (v:= .tuple #[frV 0 0 (.slice none 0 0),Vi Vk 0,Vi Vk 62]) (Ns rfl _ _ w.heap.size 0 0 (.slice none 0 0) _ _ rfl rfl rfl HF3.out) rfl ⟨_,by rw [HE.out];rfl,by rw [HE.out];exact Ho _ _,HB3.out⟩
   ·have HE:=Qh (decF_good HR.out HNT.out (by rw [←HRS.out,hck];decide));rw [←HRS.out,HML.out] at HE;have HRB2':=Qs (B7 w2 (.slice oa' rs.length cap') rs) (by rw [HRL.out];exact HRB2.out);have HCN:=Qh (fun W oa2 cap2 (hb:B7 W (.slice oa2 m cap2) (rs.take m))=>clone_any (rs.take m) (.slice oa2 m cap2) W hb (by rw [ω];omega));have hmr:m≤rs.length:=by rw [HRL.out];exact hml
    have HX:=Qs (Value.slice oa' m4 cap'= .slice oa' rs.length cap') (by rw [HRL.out]);clear hck;go_wp2_with (refine Pv rfl (.tmp 36) (.tmp 39) rfl oa' cap' m rs HX.out rfl HRB2'.out hmr ?_);intro oa2 cap2 hbr2;go_wp2_with fail;refine(HCN.out w2 oa2 cap2 hbr2).mono ?_;rintro e w3 ⟨v3,rfl,ho3,hb3⟩;have HB3:=Qh (Below.next HB2.out hb3);have HF3:=Qh (HF2.out.below hb3);have HO3:=Qh (F8 (A:=fun k=>w2.heap.size≤k) ho3 (fun _ h=>h));obtain⟨o3,cap3,e3,_,_⟩:=Aj ho3;rw [show (rs.take m).length=m by rw [ω];omega] at e3;subst e3;have hg2:=HF2.out.lt;clear ho3 hb3 hbr2 HCN HRB2 HRB2' HX;go_wp2_with (with_reducible refine C9 rfl (.tmp 2) (.tmp 42) rfl w.heap.size 0 0 k s (.slice none 0 0) (.slice o3 m cap3) rfl rfl HF3.out rfl ?_);intro w4 hf4 ht4;have HF4:=Qh hf4;have HB4:=Qh (Ba HB3.out ht4 (fun k hk=>by omega) HB3.out.size);have HO4:=Qh ((HO3.out.turned ht4 (fun k hk he=>by omega)).mono (A':=fun k=>w.heap.size≤k) (fun k hk=>by omega));clear hf4 ht4 HO3 HB3 HF3;go_wp2;refine π (v:= .tuple #[frV k s (.slice o3 m cap3),Vi Vk sz,Vi Vk 0]) (Ns rfl _ _ w.heap.size k s (.slice o3 m cap3) _ _ rfl rfl rfl HF4.out) rfl ⟨_,by rw [HE.out],by rw [HE.out];exact HO4.out,HB4.out⟩
  ·have hle:l.length<sz:=by have:=ψ hlt;omega
   have HE:=Qh (decF_torn HR.out hle);clear hle hm hm4;go_wp2_with (with_reducible refine C9 rfl (.tmp 2) (.tmp 25) rfl w.heap.size 0 0 0 0 (.slice none 0 0) (.slice none 0 0) rfl rfl HF1.out rfl ?_);intro w3 hf3 ht3;have HF3:=Qh hf3;have HB3:=Qh (Ba HB1.out ht3 (fun k hk=>by omega) HB1.out.size);clear hf3 ht3;go_wp2;refine π (v:= .tuple #[frV 0 0 (.slice none 0 0),Vi Vk 0,Vi Vk 60]) (Ns rfl _ _ w.heap.size 0 0 (.slice none 0 0) _ _ rfl rfl rfl HF3.out) rfl ⟨_,by rw [HE.out];rfl,by rw [HE.out];exact Ho _ _,HB3.out⟩
 ·have HE:=Qh (decF_bad HR.out (show e0≠0 by simpa using he0));go_wp2_with (with_reducible refine C9 rfl (.tmp 2) (.tmp 19) rfl w.heap.size 0 0 0 0 (.slice none 0 0) (.slice none 0 0) rfl rfl HF1.out rfl ?_);intro w3 hf3 ht3;have HF3:=Qh hf3;have HB3:=Qh (Ba HB1.out ht3 (fun k hk=>by omega) HB1.out.size);clear hf3 ht3;go_wp2;refine π (v:= .tuple #[frV 0 0 (.slice none 0 0),Vi Vk 0,Vi Vk e0]) (Ns rfl _ _ w.heap.size 0 0 (.slice none 0 0) _ _ rfl rfl rfl HF3.out) rfl ⟨_,by rw [HE.out];rfl,by rw [HE.out];exact Ho _ _,HB3.out⟩
def Dq (b:List UInt8) (kind:Nat):J6×Int:=if (Cg b).2.2≠0 then (N7,(Cg b).2.2) else if (Cg b).1.k≠kind∨(Cg b).2.1≠b.length then (N7,63) else ((Cg b).1,0)
def WholePost (w:World) (r:J6×Int) (e:Ending) (w':World):Prop:= ∃ bv,e= .returned (.tuple #[frV (r.1.k:Int) (r.1.s:Int) bv,Vi Vk r.2])∧As (fun k=>w.heap.size≤k) w' bv r.1.body∧Below w.heap.size w w'
theorem As.low1 (h:As A w v l):As (fun k=>A k∧k<w.heap.size) w v l:=h.low
theorem whole_any (l:List UInt8) (v:Value) (kind:Nat) (w:World) (hv:B7 w v l) (hl:l.length≤9223372036854775807) (hn:Bh w):
  Calls prog 107 #[v,Vi Vk (kind:Int)] w (WholePost w (Dq l kind)):=by
 have HB0:=Qh (Aa w (.cells (Ha 0 0 (.slice none 0 0)) 101));have HF0:=Qh (Ff w 0 0 (.slice none 0 0));have HD:=Qh (L6 l v _ (hv.below HB0.out) hl (hn.below HB0.out));obtain⟨oa,cap,rfl,hlc,hc⟩:=hv;have HW:=Qs (Dq l kind=if (Cg l).2.2≠0 then (N7,(Cg l).2.2) else if (Cg l).1.k≠kind∨(Cg l).2.1≠l.length then (N7,63) else ((Cg l).1,0)) rfl;simp only [Ha] at HB0 HF0 HD;obtain⟨r,hr⟩: ∃ r,r=Cg l:=⟨_,rfl⟩;rw [←hr] at HD HW;clear hc hr hn;obtain⟨⟨k,s,body⟩,sz,e0⟩:=r;unfold DecPost at HD;go_enter func107,ntmps107;go_wp2_with fail;refine HD.out.mono ?_;rintro e w1 ⟨bv,rfl,hbv,hb1⟩;have HB1:=Qh (Below.next HB0.out hb1);have HF1:=Qh (HF0.out.below hb1);have HBV:=Qh (hbv.low1.mono (A':=fun x=>(w.heap.size<x)∧x<w1.heap.size) (fun x hx=>⟨by have:=hx.1;simp at this;omega,hx.2⟩));have HFz:=Qh (Ff w1 0 0 (.slice none 0 0));have HBz:=Qh (Aa w1 (.cells (Ha 0 0 (.slice none 0 0)) 101));have hone:=hbv.one;simp only [Ha] at HFz HBz;have hsz:=HF1.out.lt;clear hbv hb1 HB0 HF0 HD;go_wp2_with (with_reducible refine C9 rfl (.tmp 6) (.tmp 12) rfl w1.heap.size 0 0 (k:Int) (s:Int) (.slice none 0 0) bv rfl rfl HFz.out hone ?_);intro w2 hf2 ht2;have HF2:=Qh hf2;have HB2:=Qh (Ba (HB1.out.trans (HBz.out.mono HB1.out.size)) ht2 (fun x hx=>by have:=HB1.out.size;omega) (by have:=HB1.out.size;have:=HBz.out.size;omega));have HFr:=Qs (Eq w2 w.heap.size 0 0 (.slice none 0 0)) (by
  unfold Eq;rw [ht2.block _ (Nat.lt_of_lt_of_le hsz HBz.out.size) (by omega)];exact HF1.out.below HBz.out)
 have HV2:=Qh ((HBV.out.below HBz.out).turned ht2 (fun x hx he=>by have:=hx.2;omega));have c0:w2.cell? ⟨w1.heap.size,0,none⟩=some (Vi Vk (k:Int)):=HF2.out.c0;clear hf2 ht2 HB1 HF1 HBV HFz HBz;generalize w1.heap.size=g at*;rcases he0:(e0 != 0) with _|_
 ·have he00:e0=0:=by simpa using he0
  subst he00;rcases hk:((k:Int) != (kind:Int)) with _|_
  ·have HK:=Qs (k=kind) (by simp at hk;omega);rcases hz:((sz:Int) != (l.length:Int)) with _|_
   ·have HZ:=Qs (sz=l.length) (by simp at hz;omega);have HE:=Qs (Dq l kind=(⟨k,s,body⟩,0)) (by rw [HW.out];simp [HK.out,HZ.out]);go_wp2_with (first|(with_reducible refine wpList_load_fr rfl (.tmp 6) rfl g (k:Int) (s:Int) bv rfl HF2.out ?_)|(with_reducible refine C9 rfl (.tmp 4) (.tmp 32) rfl w.heap.size 0 0 (k:Int) (s:Int) (.slice none 0 0) bv rfl rfl HFr.out hone ?_));intro w3 hf3 ht3;have HF3:=Qh hf3;have HB3:=Qh (Ba HB2.out ht3 (fun x hx=>by omega) HB2.out.size);have HV3:=Qh ((HV2.out.turned ht3 (fun x hx he=>by have:=hx.1;omega)).mono (A':=fun x=>w.heap.size≤x) (fun x hx=>by have:=hx.1;omega));clear hf3 ht3;go_wp2;refine π (v:= .tuple #[frV k s bv,Vi Vk 0]) (Nr rfl _ _ w.heap.size k s bv _ rfl rfl HF3.out) rfl ⟨_,by rw [HE.out],by rw [HE.out];exact HV3.out,HB3.out⟩
   ·have HE:=Qs (Dq l kind=(N7,63)) (by rw [HW.out,γ (fun h=>h rfl),κ (.inr (by simp at hz;omega))]);go_wp2_with (with_reducible refine C9 rfl (.tmp 4) (.tmp 31) rfl w.heap.size 0 0 0 0 (.slice none 0 0) (.slice none 0 0) rfl rfl HFr.out rfl ?_);intro w3 hf3 ht3;have HF3:=Qh hf3;have HB3:=Qh (Ba HB2.out ht3 (fun x hx=>by omega) HB2.out.size);clear hf3 ht3;go_wp2;refine π (v:= .tuple #[frV 0 0 (.slice none 0 0),Vi Vk 63]) (Nr rfl _ _ w.heap.size 0 0 (.slice none 0 0) _ rfl rfl HF3.out) rfl ⟨_,by rw [HE.out];rfl,by rw [HE.out];exact Ho _ _,HB3.out⟩
  ·have HE:=Qs (Dq l kind=(N7,63)) (by rw [HW.out,γ (fun h=>h rfl),κ (.inl (by simp at hk;omega))]);go_wp2_with (with_reducible refine C9 rfl (.tmp 4) (.tmp 31) rfl w.heap.size 0 0 0 0 (.slice none 0 0) (.slice none 0 0) rfl rfl HFr.out rfl ?_);intro w3 hf3 ht3;have HF3:=Qh hf3;have HB3:=Qh (Ba HB2.out ht3 (fun x hx=>by omega) HB2.out.size);clear hf3 ht3;go_wp2;refine π (v:= .tuple #[frV 0 0 (.slice none 0 0),Vi Vk 63]) (Nr rfl _ _ w.heap.size 0 0 (.slice none 0 0) _ rfl rfl HF3.out) rfl ⟨_,by rw [HE.out];rfl,by rw [HE.out];exact Ho _ _,HB3.out⟩
 ·have HE:=Qs (Dq l kind=(N7,e0)) (by rw [HW.out];rw [κ (show e0≠0 by simpa using he0)]);go_wp2_with (with_reducible refine C9 rfl (.tmp 4) (.tmp 18) rfl w.heap.size 0 0 0 0 (.slice none 0 0) (.slice none 0 0) rfl rfl HFr.out rfl ?_);intro w3 hf3 ht3;have HF3:=Qh hf3;have HB3:=Qh (Ba HB2.out ht3 (fun x hx=>by omega) HB2.out.size);clear hf3 ht3;go_wp2;refine π (v:= .tuple #[frV 0 0 (.slice none 0 0),Vi Vk e0]) (Nr rfl _ _ w.heap.size 0 0 (.slice none 0 0) _ rfl rfl HF3.out) rfl ⟨_,by rw [HE.out];rfl,by rw [HE.out];exact Ho _ _,HB3.out⟩
def Hh:Nat→List UInt8→Nat→List (Nat×J6)
 |0,_,_=>[]
 |n+1,b,at_=>if at_<b.length∧(Cg (b.drop at_)).2.2=0 then (at_,(Cg (b.drop at_)).1)::Hh n b (at_+(Cg (b.drop at_)).2.1) else []
def frs (b:List UInt8):List (Nat×J6):=Hh b.length b 0
theorem Jn {b:List UInt8} (h:(Cg b).2.2=0):(Cg b).2.1=(Cg b).1.body.length+20∧(Cg b).1.body.length≤16384∧(Cg b).2.1≤b.length∧1≤(Cg b).1.k∧(Cg b).1.k≤7∧(Cg b).1.s≤1099511627776:=by
 unfold Cg at h ⊢;split at h
 ·rename_i h1;exact absurd h h1
 ·rename_i h1;rw [γ h1];have hp:=peekF_fine (b:=b) (by simpa using h1);split at h
  ·exact absurd h (by decide)
  ·rename_i h2;rw [γ h2];split at h
   ·exact absurd h (by decide)
   ·rename_i h3;rw [γ h3];simp only [ω,Λ];omega
theorem O7 {n:Nat} {b:List UInt8} {p:Nat} (h1:p<b.length) (h2:(Cg (b.drop p)).2.2=0):Hh (n+1) b p=(p,(Cg (b.drop p)).1)::Hh n b (p+(Cg (b.drop p)).2.1):=by rw [Hh,κ ⟨h1,h2⟩]
theorem Oc {b:List UInt8} {p:Nat} (h1:b.length≤p): ∀ n,Hh n b p=[]
 |0=>rfl
 |n+1=>by rw [Hh,γ (by omega)]
theorem frsGo_bad {b:List UInt8} {p:Nat} (h2:(Cg (b.drop p)).2.2≠0): ∀ n,Hh n b p=[]
 |0=>rfl
 |n+1=>by rw [Hh,γ (fun h=>h2 h.2)]
structure I3 where
 pos:Nat
 sz:Nat
 f:J6
def Im (p:I3) (v:Value):Array Value:= #[Vi Vk (p.pos:Int),Vi Vk (p.sz:Int),Vi Vk (p.f.k:Int),Vi Vk (p.f.s:Int),v]
@[reducible] def pcV (p : I3) (v : Value) : Value := .agg #[Vi Vk (p.pos : Int), Vi Vk (p.sz : Int), Vi Vk (p.f.k : Int), Vi Vk (p.f.s : Int), v]
def Nq (xs:List (I3×Value)):List Value:=xs.flatMap fun x=>(Im x.1 x.2).toList
theorem pcCells_snoc (xs:List (I3×Value)) (x:I3×Value):Nq (xs++[x])=Nq xs++(Im x.1 x.2).toList:=by simp [Nq]
theorem pcCells_at: ∀ (xs:List (I3×Value)) (i:Nat) (x:I3×Value),xs[i]? =some x→ ∀ (j:Nat) u,(Im x.1 x.2)[j]? =some u→(Nq xs)[i*5+j]? =some u
 | [],i,x,h=>by simp at h
 |y::ys,0,x,h=>by
  intro j u hj
  simp at h;subst h
  have hl:j<5:=by have:=(δ.1 hj).1;simpa [Im] using this
  unfold Nq
  rw [List.flatMap_cons,Nat.zero_mul,Nat.zero_add,List.getElem?_append_left (by simpa [Im] using hl)]
  simpa using hj
 |y::ys,i+1,x,h=>by
  intro j u hj
  have:=pcCells_at ys i x (by simpa using h) j u hj
  unfold Nq at this ⊢
  rw [List.flatMap_cons,List.getElem?_append_right (by simp [Im];omega)]
  rw [←this]
  congr 1
  simp [Im];omega
def Ny (A:Nat→Prop) (w:World) (v:Value) (ps:List I3):Prop:=
 ∃ oa cap,v= .slice oa ps.length cap∧ps.length≤cap∧cap≤maxLen∧(ps≠ []→ ∃ b off,oa=some ⟨b,off,none⟩∧A b∧ ∀ (i:Nat) p,ps[i]? =some p→ ∃ dv,w.rangeAt b (off+i*5) (Im p dv).toList∧As A w dv p.f.body)
theorem Ny.below {ps:List I3} (h:Ny A w v ps) (hb:Below w.heap.size w w'):Ny A w' v ps:=by
 obtain⟨oa,cap,h1,h2,h3,h4⟩:=h;refine⟨oa,cap,h1,h2,h3,fun hn=> ?_⟩;obtain⟨b,off,e,ha,hc⟩:=h4 hn;refine⟨b,off,e,ha,fun i p hp=> ?_⟩;obtain⟨dv,h5,h6⟩:=hc i p hp;exact⟨dv,Bs h5 hb,h6.below hb⟩
theorem Ny.mono {ps:List I3} (h:Ny A w v ps) (hA: ∀ k,A k→A' k):Ny A' w v ps:=by
 obtain⟨oa,cap,h1,h2,h3,h4⟩:=h;refine⟨oa,cap,h1,h2,h3,fun hn=> ?_⟩;obtain⟨b,off,e,ha,hc⟩:=h4 hn;refine⟨b,off,e,hA b ha,fun i p hp=> ?_⟩;obtain⟨dv,h5,h6⟩:=hc i p hp;exact⟨dv,h5,h6.mono hA⟩
theorem Ny.shape {ps:List I3} (h:Ny A w v ps): ∃ oa cap,v= .slice oa ps.length cap∧ps.length≤cap∧cap≤9223372036854775807∧
  ∀ (i:Nat) p,ps[i]? =some p→ ∃ b off,oa=some ⟨b,off,none⟩∧A b∧ ∃ dv,w.rangeAt b (off+i*5) (Im p dv).toList∧As A w dv p.f.body:=by
 obtain⟨oa,cap,rfl,h2,h3,h4⟩:=h;refine⟨oa,cap,rfl,h2,by unfold maxLen at h3;omega,fun i p hp=> ?_⟩;obtain⟨b,off,rfl,ha,h6⟩:=h4 (by rintro rfl;simp at hp);exact⟨b,off,rfl,ha,h6 i p hp⟩
def Mn (w:World) (B:Nat) (v:Value) (xs:List (I3×Value)):Prop:=
 w.ownsRow B 103 5 v xs.length (Nq xs)∧ ∀ x∈xs,As (fun k=>B≤k∧k<w.heap.size∧v.ownBlock≠some k) w x.2 x.1.f.body
theorem pcOwn_nil (w:World) (B:Nat):Mn w B (.slice none 0 0) []:=⟨⟨rfl,.inl ⟨rfl,rfl⟩⟩,fun _ h=>by cases h⟩
theorem As.turned' (h:As A w v l) (ht:Ab S w w') (hS: ∀ k,A k→k<w.heap.size→ ¬ S k):As A w' v l:=by
 obtain⟨oa,cap,h1,h2,h3⟩:=h;refine⟨oa,cap,h1,h2,fun hn=> ?_⟩;obtain⟨b,off,e,ha,hc⟩:=h3 hn;refine⟨b,off,e,ha,fun i x hx=> ?_⟩;have:=hc i x hx;have hlt:b<w.heap.size:=by
  unfold World.cell? at this;rcases Nat.lt_or_ge b w.heap.size with h|h
  ·exact h
  ·rw [Array.getElem?_eq_none h] at this;simp at this
 unfold World.cell? at this ⊢;rw [ht.block b hlt (hS b ha hlt)];exact this
theorem Mn.turned {xs:List (I3×Value)} (h:Mn w B v xs) (ht:Ab S w w') (hS: ∀ k,S k→k<B∨w.heap.size≤k):Mn w' B v xs:=by
 refine⟨⟨h.1.1,?_⟩,fun x hx=>(As.turned' (h.2 x hx) ht (fun k hk hlt hs=>by have:=hS k hs;omega)).mono fun k hk=>⟨hk.1,Nat.lt_of_lt_of_le hk.2.1 ht.size,hk.2.2⟩⟩;rcases h.1.2 with hn|⟨g,cap,cur,rfl,hb1,hg,rest⟩
 ·exact .inl hn
 ·have hlt:=(δ.1 hg).1;exact .inr ⟨g,cap,cur,rfl,hb1,by rw [ht.block _ hlt (fun hs=>by have:=hS _ hs;omega)];exact hg,rest⟩
theorem Mn.below {xs:List (I3×Value)} (h:Mn w B v xs) (hb:Below w.heap.size w w'):Mn w' B v xs:=
 h.turned (S:=fun _=>False) (Ab.below hb) (fun _ h=>h.elim)
theorem As.kept (h:As A w v l) (hk:Fr B w w'):As A w' v l:=by
 obtain⟨oa,cap,h1,h2,h3⟩:=h;refine⟨oa,cap,h1,h2,fun hn=> ?_⟩;obtain⟨b,off,e,ha,hc⟩:=h3 hn;exact⟨b,off,e,ha,fun i x hx=>hk.cell (hc i x hx)⟩
theorem Mn.kept {B':Nat} {xs:List (I3×Value)} (h:Mn w B v xs) (hk:Fr B' w w'):Mn w' B v xs:=by
 refine⟨⟨h.1.1,?_⟩,fun x hx=>((h.2 x hx).kept hk).mono fun k hk'=>⟨hk'.1,Nat.lt_of_lt_of_le hk'.2.1 hk.size,hk'.2.2⟩⟩;rcases h.1.2 with hn|⟨g,cap,cur,rfl,hb1,hg,rest⟩
 ·exact .inl hn
 ·exact .inr ⟨g,cap,cur,rfl,hb1,hk.blk hg,rest⟩
theorem Mn.pcIn {xs:List (I3×Value)} (h:Mn w B v xs) (hA: ∀ k,B≤k→A k):Ny A w v (xs.map (·.1)):=by
 by_cases hn:xs=[]
 ·subst hn;rcases h.1.2 with⟨rfl,_⟩|⟨g,cap,cur,rfl,_,_,h1,h2,_⟩
  ·exact⟨none,0,rfl,μ _,by decide,fun h=>absurd rfl h⟩
  ·exact⟨_,cap,rfl,h1,h2,fun h=>absurd rfl h⟩
 ·obtain⟨g,cap,rfl,hB,_,h1,h2,h3⟩:=Dr h.1 (Ψ.2 hn);refine⟨_,cap,by rw [List.length_map],by rw [List.length_map];exact h1,h2,fun _=>⟨g,0,rfl,hA g hB,fun i p hp=> ?_⟩⟩;rw [List.getElem?_map] at hp;obtain⟨x,hx,rfl⟩:=Option.map_eq_some_iff.1 hp;exact⟨x.2,fun j u hj=>by rw [Nat.zero_add];exact h3 _ _ (pcCells_at xs i x hx j u (by simpa using hj)),(h.2 x (List.mem_of_getElem? hx)).mono fun k hk=>hA k hk.1⟩
theorem pcInfo:(prog.info? 103).map (·.size)=some 5:=by kernel_rfl
def zeroPc:Value:= .agg #[Vi Vk 0,Vi Vk 0,Vi Vk 0,Vi Vk 0,.slice none 0 0]
theorem infoPc:(prog.info? 103).map (fun i=>(i.zero,i.size,i.bytes))=some (some zeroPc,5,56):=by kernel_rfl
theorem I6 (w:World) (base:Nat) (t ty e:TypeId) (i:TypeInfo) (z:Value) (size bytes:Nat) (ht:P.underlying t=some (.slice e)) (hi:P.info? e=some i) (hz:i.zero=some z)
  (hsize:i.size=size) (hby:i.bytes=bytes) (hzs:z.cells.size=size) (hsz:0<size) (v:Value) (n:Nat) (xs:List Value) (hown:w.ownsRow base e size v n xs)
  (a:Addr) (m c:Nat) (news:List Value) (hl:news.length=m*size) (hnews: ∀ j u,news[j]? =some u→w.cell? (a.add j)=some u) (h1: ∀ u∈news,u.oneCell'=true)
  (h63:n+m≤maxLen) (hbytes:(n+m)*bytes≤140737488355328) (hbase:base≤w.heap.size) (hm:0<m):
  ∃ v' w',(Builtin.append_ #[t,t] ty #[v,.slice (some a) m c]).run P w= .ok v' w'∧w'.ownsRow base e size v' (n+m) (xs++news)∧w.grownBy w' v.ownBlock∧(v'.ownBlock=v.ownBlock∨v'.ownBlock=some w.heap.size):=by
 obtain⟨v',w',hr,h2,h3,_⟩:=run_append_own (P:=P) w base t ty e i z size bytes ht hi hz hsize hby hzs hsz v n xs hown a m c news hl hnews h1 h63 hbytes hbase;refine⟨v',w',hr,h2,h3,?_⟩;subst hsize;subst hby;have hsmall:n+m≤9223372036854775807:=by simp only [maxLen] at h63;omega
 rcases hown.2 with⟨rfl,rfl⟩|⟨g,cap,cur,rfl,hbg,hg,hnc,hcm,hcs,htake⟩
 ·have h:=run_append_nil (P:=P) w t ty e i z ht hi hz a m c news hl hnews (by omega) (by omega) (by have hb:=hbytes;simp only [Nat.zero_add] at hb;omega);rw [hr] at h;injection h with h _;right;rw [h];rfl
 ·by_cases hroom:n+m≤cap
  ·have hfit:n*i.size+news.length≤cur.size:=by rw [hl,hcs,←Nat.add_mul];exact Nat.mul_le_mul_right _ hroom
   have h:=run_append_room (P:=P) w t ty e i ht hi g n cap cur hg a m c news hl hnews h1 hroom hfit;rw [hr] at h;injection h with h _;left;rw [h];rfl
  ·have holds: ∀ j u,xs[j]? =some u→w.cell? ((⟨g,0,none⟩:Addr).add j)=some u:=hown.cells (g:=g) rfl;have h:=run_append_grow (P:=P) w t ty e i z ht hi hz ⟨g,0,none⟩ n cap xs hown.1 holds a m c news hl hnews (by omega) (by omega) (growslice_fits (by omega) hbytes);rw [hr] at h;injection h with h _;right;rw [h];rfl
theorem Em (w:World)  (hgd:o.guard=none) (s x:Operand) (t:TypeId)
  (ho:o.op= .call {callee:= .builtin .append,args:= #[s,x],argTypes:= #[t,t]})
  (base:Nat) (e:TypeId) (i:TypeInfo) (z:Value) (size bytes:Nat) (ht:P.underlying t=some (.slice e)) (hi:P.info? e=some i) (hz:i.zero=some z)
  (hsize:i.size=size) (hby:i.bytes=bytes) (hzs:z.cells.size=size) (hsz:0<size)
  (v:Value) (n:Nat) (xs:List Value) (hs:a.eval s=v) (hown:w.ownsRow base e size v n xs)
  (ad:Addr) (m c:Nat) (news:List Value) (hx:a.eval x= .slice (some ad) m c) (hl:news.length=m*size) (hnews: ∀ j u,news[j]? =some u→w.cell? (ad.add j)=some u) (h1: ∀ u∈news,u.oneCell'=true)
  (h63:n+m≤maxLen) (hbytes:(n+m)*bytes≤140737488355328) (hbase:base≤w.heap.size) (hm:0<m)
  (h: ∀ v' w',w'.ownsRow base e size v' (n+m) (xs++news)→w.grownBy w' v.ownBlock→(v'.ownBlock=v.ownBlock∨v'.ownBlock=some w.heap.size)→wpList P ops Q rest (a.put o.dst v') w'):wpList P ops Q (o::rest) a w:=
 wpList_plain hgd fun K hK=>by
  obtain⟨v',w',hr,h2,h3,h4⟩:=I6 (P:=P) w base t o.type e i z size bytes ht hi hz hsize hby hzs hsz v n xs hown ad m c news hl hnews h1 h63 hbytes hbase hm
  unfold Oper.wp execOp
  simp only [ho,resolve,invoke,builtin,Sem.run_bind,Sem.run_pure,Result.andThen_ok,List.map_toArray,List.map_cons,List.map_nil,hs,hx,hr]
  exact hK _ _ (h v' w' h2 h3 h4)
theorem wpList_appPl (hgd:o.guard=none) (s y:Operand) (ho:o.op= .call {callee:= .builtin .append,args:= #[s,y],argTypes:= #[89,89]})  {xs:List (I3×Value)} {p:I3} {dv:Value}
  (hs:a.eval s=v) (hy:a.eval y= .slice (some ⟨w.heap.size,0,none⟩) 1 1) (hown:Mn w B v xs) (hB:B≤w.heap.size) (hd:As (fun k=>B≤k∧k<w.heap.size∧v.ownBlock≠some k) w dv p.f.body) (hl:xs.length+1≤1000000000)
  (h: ∀ v' w',Mn w' B v' (xs++[(p,dv)])→Below B w w'→Ab (fun k=>v.ownBlock=some k) w w'→v'.oneCell'=true→wpList prog ops Q rest (a.put o.dst v') w'):wpList prog ops Q (o::rest) a (w.alloc (.cells #[Vi Vk (p.pos:Int),Vi Vk (p.sz:Int),Vi Vk (p.f.k:Int),Vi Vk (p.f.s:Int),dv] 103)):=by
 obtain⟨i0,hi,hz0,hz1,hz2⟩:=info_parts infoPc;have hb:=Aa w (.cells #[Vi Vk (p.pos:Int),Vi Vk (p.sz:Int),Vi Vk (p.f.k:Int),Vi Vk (p.f.s:Int),dv] 103);have h1d:dv.oneCell'=true:=by obtain⟨_,_,e,_,_⟩:=hd;rw [e];rfl
 refine Em _ hgd s y 89 ho B 103 i0 zeroPc 5 56 underlying89 hi hz0 hz1 hz2 rfl (by decide) v xs.length (Nq xs) hs (A2 hown.1 hb) ⟨w.heap.size,0,none⟩ 1 1 (Im p dv).toList hy rfl (fun j u hj=> ?_) (fun u hu=> ?_) (by unfold maxLen;omega) (by omega) (η hB hb.size) (by decide) ?_
 ·rw [Cr,Nat.zero_add,World.cell?_alloc_new];simpa [Im] using hj
 ·simp [Im] at hu;rcases hu with rfl|rfl|rfl|rfl|rfl
  ·rfl
  ·rfl
  ·rfl
  ·rfl
  ·exact h1d
 ·intro v' w' hown' hg hnew;have hb2:=Cm (A2 hown.1 hb) (η hB hb.size) hg;have hrow: ∀ (x:Value) (l:List UInt8),As (fun k=>B≤k∧k<w.heap.size∧v.ownBlock≠some k) w x l→As (fun k=>B≤k∧k<w'.heap.size∧v'.ownBlock≠some k) w' x l:=fun x l hx=>by
   obtain⟨oa,cap,e1,e2,e3⟩:=hx.below hb;refine⟨oa,cap,e1,e2,fun hn=> ?_⟩;obtain⟨b,off,e4,ha,hc⟩:=e3 hn;refine⟨b,off,e4,⟨ha.1,Nat.lt_of_lt_of_le ha.2.1 (η hb.size hg.size),fun e=> ?_⟩,fun i u hu=>hg.cell (hc i u hu) fun e=>ha.2.2 e.symm⟩;have:=ha.2.1;rcases hnew with h|h
   ·rw [h] at e;exact ha.2.2 e
   ·rw [h] at e;have e':=φ e;have:=hb.size;omega
  have hone:v'.oneCell'=true:=by obtain⟨_,_,e,_⟩:=Aj hown';rw [e];rfl
  refine h v' w' ⟨?_,fun x hx=> ?_⟩ ((hb.mono hB).trans hb2) ⟨hg.os.trans hb.os,hg.tape.trans hb.tape,hg.output.trans hb.output,η hb.size hg.size,fun k hk hne=> ?_⟩ hone
  ·rw [ζ,pcCells_snoc];exact hown'
  ·rcases List.mem_append.1 hx with hx|hx
   ·exact hrow _ _ (hown.2 x hx)
   ·simp at hx;rw [hx];exact hrow _ _ hd
  ·rw [hg.block k (Nat.lt_of_lt_of_le hk hb.size) (fun e=>hne e.symm)];exact hb.block k hk
attribute [local go_sem] Oper.semAt_some
def EachKeep (g:Nat) (v:Value) (b:List UInt8) (W:World):Prop:=W.cell? ⟨g,0,none⟩=some v∧B7 W v b∧Bh W
abbrev FrX:=Nat×J6×Value
def frEnc (x:FrX):Array Value:= #[Vi Vk (x.1:Int),frV (x.2.1.k:Int) (x.2.1.s:Int) x.2.2]
def Jc (xs:List FrX):List (Nat×J6):=xs.map fun x=>(x.1,x.2.1)
def FrR (b:List UInt8) (pre:List FrX) (x:FrX) (Wo W:World):Prop:=Jc (pre++[x]) <+: frs b∧As (fun k=>Wo.heap.size≤k∧k<W.heap.size) W x.2.2 x.2.1.body∧x.2.1.body.length≤16384∧x.1≤9223372036854775807∧x.2.1.k≤7∧x.2.1.s≤1099511627776
theorem Jo (xs:List FrX) (x:FrX):Jc (xs++[x])=Jc xs++[(x.1,x.2.1)]:=by simp [Jc]
theorem Fr.ofBelow (h:Below W.heap.size W W'):Fr B W W':=⟨h.os,h.tape,h.output,h.size,fun k _ hk _=>(h.block k (δ.1 hk).1).trans hk⟩
theorem each_any (oa:Option Addr) (n cap:Nat) (w:World):Calls prog 64 #[.slice oa n cap] w fun e w'=>e= .returned (.func (.func 99) #[] #[.pointer (some ⟨w.heap.size,0,none⟩)])∧w'=w.alloc (.cells #[.slice oa n cap] 39):=by
 have hmk: ∀ (fn:Fn) (first cap:Array Value) (W:World),(Instr.makeFunc fn first cap).run prog W= .ok (.func fn first cap) W:=fun _ _ _ _=>rfl;go_enter func64,ntmps64;go_wp2;go_ret;exact⟨rfl,rfl⟩
theorem each1_seq (b:List UInt8) (oa:Option Addr) (cap g:Nat) (w:World) (Kp:World→World→Prop) (hl:b.length≤4611686018427387904) (Kd:World→Prop) (hE:Kd w) (hKE: ∀ W,Kd W→EachKeep g (.slice oa b.length cap) b W) (hKB: ∀ W W',Kd W→Below W.heap.size W W'→Kd W')
  (hK: ∀ W W',w.heap.size≤W.heap.size→Kd W→Kp W W'→Kd W'∧W.heap.size≤W'.heap.size):
  SeqR prog 99 #[.pointer (some ⟨g,0,none⟩)] frEnc (FrR b) Kp (fun xs=>Jc xs=frs b) (fun pre=>pre≠ []∧Jc pre <+: frs b) w:=fun l J Jx W hW hJ hJx hY h0=>by
 have HE:=Qh (hKB _ _ hE hW)
 have HKE:=Qh hKE
 have HKB:=Qh hKB
 have HW:=Qh hW
 have HK:=Qh hK
 have HY:=Qh hY
 have HJ:=Qh hJ
 have H0:=Qh h0
 clear hE hK hKE hKB hY hJ hJx h0 hW
 refine callsIn_of_wp func99 rfl trivial ?_ rfl
 simp only [ntmps99,List.size_toArray,τ,Φ,Nat.reduceAdd,Nat.reduceSub,Array.replicate_succ,Array.replicate_zero,List.push_toArray,List.append_toArray,List.nil_append,List.cons_append]
 gi_wp2
 gi_loopw [3] (fun i wr=> ∃ (p n:Nat) (pre:List FrX),i= Vi Vk (p:Int)∧Hid (J pre wr)∧Hid (Kd wr)∧Hid (W.heap.size≤wr.heap.size)∧p≤b.length∧Hid (b.length - p≤n∧frs b=Jc pre++Hh n b p)) (fun i _=>b.length - (intOf i).toNat)
 case atStart=>exact⟨0,b.length,[],rfl,H0,HE,Qh (μ _),θ _,Qh ⟨by omega,rfl⟩⟩
 case round=>
  obtain⟨p,n,pre,rfl,HJr,HEr,HSr,hp,HFr⟩:=hrel
  clear H0 HE
  have c0:=(HKE.out _ HEr.out).1
  by_cases hlt:p<b.length
  ·have q1:(p:Int)<(b.length:Int):=by omega
   have hlc:b.length≤cap:=by obtain⟨_,_,e,h,_⟩:=(HKE.out _ HEr.out).2.1;simp only [Value.slice.injEq,true_and] at e;obtain⟨_,rfl⟩:=e;exact h
   have hcp: ¬ cap=p:=by omega
   have HBR:=Qh (show B7 wr (.slice (oa.map fun x=>x.add p) (b.length - p) (cap - p)) (b.drop p) by
    have h:=Jv (lo:=p) (hi:=b.length) (mx:=cap) (HKE.out _ HEr.out).2.1 (by omega) (μ _) hlc
    rw [List.take_length] at h
    simpa [sliced,hcp] using h)
   clear hlc
   have HDV:=Qh (fun oa' cap' (hv:B7 wr (.slice oa' (b.length - p) cap') (b.drop p))=>L6 (b.drop p) _ wr hv (by rw [Λ];omega) (HKE.out _ HEr.out).2.2)
   have HFN:=Qh (@Jn (b.drop p))
   have HST:=Qh (fun h2=> @O7 (n - 1) b p hlt h2)
   have HBD:=Qh (fun h2=> @frsGo_bad b p h2 n)
   obtain⟨r,hr⟩: ∃ r,r=Cg (b.drop p):=⟨_,rfl⟩
   rw [←hr] at HDV HFN HST HBD
   clear hr
   obtain⟨⟨k,s,body⟩,sz,e0⟩:=r
   unfold DecPost at HDV
   gi_wp2_with fail
   refine⟨trivial,(callsIn_wide.2 (HDV.out _ _ HBR.out)).mono ?_⟩
   rintro e w2 ⟨bv,rfl,hbv,hb2⟩
   have HB2:=Qh hb2
   have HBV:=Qh hbv.low1
   obtain⟨ob,bcap,rfl,hbl,_⟩:=hbv
   have HB3:=Qh (hb2.trans ((Aa w2 (.cells (Ha (k:Int) (s:Int) (.slice ob body.length bcap)) 101)).mono hb2.size))
   have HF3:=Qh (Ff w2 (k:Int) (s:Int) (.slice ob body.length bcap))
   have HV3:=Qh (HBV.out.below (Aa w2 (.cells (Ha (k:Int) (s:Int) (.slice ob body.length bcap)) 101)))
   simp only [Ha] at HB3 HF3 HV3
   clear hb2 HBR HDV
   rcases he0:(e0 != 0) with _|_
   ·have he00:e0=0:=by simpa using he0
    subst he00
    obtain⟨hz,hbl2,hzl,hk1,hk7,hs1⟩:=HFN.out rfl
    have HFS:=Qh (HST.out rfl)
    obtain⟨n',hn'⟩: ∃ n',n=n'+1:=⟨n - 1,by have:=HFr.out.1;omega⟩
    have HN:=Qh hn'
    have HZ:=Qh hz
    rw [Λ] at hzl
    have hps:p+sz≤b.length:=by omega
    have hwp:IntKind.i64.wrap ((p:Int)+(sz:Int))=((p+sz:Nat):Int):=by rw [ν];omega
    have HPX:=Qs (Jc (pre++[(p,⟨k,s,body⟩,.slice ob body.length bcap)]) <+: frs b) (by
     rw [HFr.out.2,HN.out,Jo]
     have h:=HFS.out
     rw [HN.out,Nat.add_sub_cancel] at h
     rw [h]
     exact(List.prefix_append_right_inj _).2 ⟨_,rfl⟩)
    have HR:=Qh (show FrR b pre (p,⟨k,s,body⟩,.slice ob body.length bcap) wr (w2.alloc (.cells #[Vi Vk (k:Int),Vi Vk (s:Int),.slice ob body.length bcap] 101)) from
     ⟨HPX.out,HV3.out.mono fun x hx=>⟨by have:=hx.1;omega,by have:=hx.2;simp;omega⟩,hbl2,by show p≤_;omega,hk7,hs1⟩)
    have HS3:=Qh (η HSr.out HB3.out.size)
    have HE3:=Qh (HKB.out _ _ HEr.out HB3.out)
    have HW3:=Qh (η HW.out.size HS3.out)
    have c00:=HF3.out.c0
    have c01:=HF3.out.c1
    have c02:=HF3.out.c2
    have hy0:=HY.out pre (p,⟨k,s,body⟩,.slice ob body.length bcap) wr _ HJr.out HSr.out (Fr.ofBelow HB3.out) HR.out
    obtain⟨fn,tmps,assign,body',hy,hR⟩:=hy0
    simp only [frEnc] at hy
    clear hz hzl hn' HFN HST HBD hbl
    gi_wp2
    refine hR.mono ?_
    rintro e W3 (⟨rfl,hJ3,hk3⟩|⟨rfl,hJx3⟩)
    ·obtain⟨hE3,hs3⟩:=HK.out _ _ HW3.out HE3.out hk3
     have HE4:=Qh hE3
     have HS4:=Qh (η HS3.out hs3)
     have HJ4:=Qh hJ3
     clear hE3 hs3 hJ3 hk3 hy hR HE3 c00 c01 c02 HF3 HV3 HB3 HBV
     gi_wp2
     go_roundw
     case rel=>exact⟨p+sz,n',pre++[(p,⟨k,s,body⟩,.slice ob body.length bcap)],by go_num,HJ4,HE4,HS4,hps,Qh ⟨by have:=HFr.out.1;have:=HN.out;have:=HZ.out;omega,by rw [HFr.out.2,HN.out,Jo];have h:=HFS.out;rw [HN.out,Nat.add_sub_cancel] at h;rw [h,List.append_assoc];rfl⟩⟩
     case measure=>have:=HZ.out;simp [intOf];omega
    ·gi_wp2
     refine π (results_none rfl _ _ _) rfl ?_
     exact⟨⟨_,rfl⟩,.inr ⟨_,⟨by simp,HPX.out⟩,hJx3⟩⟩
   ·have HFE:=Qs (Jc pre=frs b) (by rw [HFr.out.2,HBD.out (by simpa using he0),List.append_nil])
    have HJ3:=Qh (HJ.out _ _ _ HJr.out (Fr.ofBelow HB3.out))
    clear HF3 HV3 HBV HB3 HFN HST HBD
    gi_wp2
    refine⟨fun f h=>(by cases h),?_⟩
    gi_wp2
    refine π (results_none rfl _ _ _) rfl ?_
    exact⟨⟨_,rfl⟩,.inl ⟨_,HFE.out,HJ3.out⟩⟩
  ·obtain rfl:p=b.length:=by omega
   have HFE:=Qs (Jc pre=frs b) (by rw [HFr.out.2,Oc (μ _),List.append_nil])
   gi_wp2
   go_end0
   exact⟨⟨_,rfl⟩,.inl ⟨_,HFE.out,HJr.out⟩⟩
def Hm (w:World) (g:Nat) (p:I3) (v:Value):Prop:=w.heap[g]? =some (.cells (Im p v) 103 (0,0))
theorem Hm.lt {p:I3}  (h:Hm w g p v):g<w.heap.size:=(δ.1 h).1
theorem Hm.cell {p:I3}  (h:Hm w g p v) (j:Nat):w.cell? ⟨g,j,none⟩=(Im p v)[j]? :=cell_of_row w g j _ _ _ h
theorem pcCs_all (p:I3) (v:Value) (h:v.oneCell'=true):(Im p v).all (·.oneCell')=true:=
 Array.all_eq_true_iff_forall_mem.2 (by
  intro u hu
  simp only [Im,List.mem_toArray,Δ,Ω,or_false] at hu
  rcases hu with rfl|rfl|rfl|rfl|rfl<;>first|rfl|assumption)
theorem run_load_plc {p:I3}  (hE:Hm w g p v):(loadVar 103 ⟨g,0,none⟩).run prog w= .ok (pcV p v) w:=
 run_loadVar_row (P:=prog) w g 103 103 (Im p v) (0,0) _ hE underlying103 rfl pcInfo
theorem wpList_load_plc (hgd:o.guard=none) (x:Operand) (ho:o.op= .load 103 x)
  (g:Nat) (p:I3) (v:Value) (hx:a.eval x= .pointer (some ⟨g,0,none⟩)) (hE:Hm w g p v)
  (h:wpList prog ops Q rest (a.put o.dst (pcV p v)) w):wpList prog ops Q (o::rest) a w:=
 wpList_load_row hgd 103 x ho g hx 103 (Im p v) (0,0) _ hE underlying103 rfl pcInfo h
theorem results_plc1 {r:Tmp} (h:fn.results= #[.cell r 103]) (tmps:Array Value) (w:World) (g:Nat) (p:I3) (v:Value)
  (hr:tmps.getD r undef= .pointer (some ⟨g,0,none⟩)) (hE:Hm w g p v):(results fn tmps).run prog w= .ok (pcV p v) w:=by
 have hl:=run_load_plc hE;have hr':tmps[r]?.getD undef= .pointer (some ⟨g,0,none⟩):=by simpa using hr
 simp [results,h,hr',asAddr,hl]
theorem placed_any (pos z k s:Nat) (body:List UInt8) (oa:Option Addr) (cap:Nat) (w:World) (hl:body.length≤16384) (hz:Hid (z=body.length+20)):
  Calls prog 65 #[Vi Vk (pos:Int),frV (k:Int) (s:Int) (.slice oa body.length cap)] w fun e w'=>e= .returned (pcV ⟨pos,z,⟨k,s,body⟩⟩ (.slice oa body.length cap))∧Below w.heap.size w w':=by
 have HB:=Qh (Below.next (Aa w (.cells (Ha (k:Int) (s:Int) (.slice oa body.length cap)) 101)) (Aa _ (.cells #[Vi Vk 0,Vi Vk 0,Vi Vk 0,Vi Vk 0,.slice none 0 0] 103)));have HF:=Qh ((Ff w (k:Int) (s:Int) (.slice oa body.length cap)).below (Aa _ (.cells #[Vi Vk 0,Vi Vk 0,Vi Vk 0,Vi Vk 0,.slice none 0 0] 103)));have HZ:=Qh (σ (w.alloc (.cells (Ha (k:Int) (s:Int) (.slice oa body.length cap)) 101)) (.cells #[Vi Vk 0,Vi Vk 0,Vi Vk 0,Vi Vk 0,.slice none 0 0] 103));rw [show (w.alloc (.cells (Ha (k:Int) (s:Int) (.slice oa body.length cap)) 101)).heap.size=w.heap.size+1 by simp] at HZ;have HS:=Qh (fun W=>frameSize_any body.length W hl);rw [←hz.out] at HS;simp only [Ha] at HB HF HZ;go_enter func65,ntmps65;go_wp2_with fail;generalize (w.alloc (.cells #[Vi Vk (k:Int),Vi Vk (s:Int),.slice oa body.length cap] 101)).alloc (.cells #[Vi Vk 0,Vi Vk 0,Vi Vk 0,Vi Vk 0,.slice none 0 0] 103)=W1 at*;have HS1:=Qs (w.heap.size+2≤W1.heap.size) (by have:=(δ.1 HZ.out).1;omega);have HFB:=Qh (fun W (h:Below (w.heap.size+1) W1 W)=>(show Eq W w.heap.size (k:Int) (s:Int) (.slice oa body.length cap) by unfold Eq;rw [h.block _ (by omega)];exact HF.out));refine ε (S:=fun w'=>Below (w.heap.size+1) W1 w') (by kernel_rfl) ((Ac W1 1).mono (by have:=HS1.out;omega)) (fun hHeld=> ?_);have FX1:=Qh (fun(wF:World) (hSw:(fun w'=>Below (w.heap.size+1) W1 w') wF)=>((HFB.out _ hSw).c2));refine tf FX1 0 rfl ?_;refine tf FX1 1 rfl ?_;refine tf FX1 2 rfl ?_;refine tf FX1 3 rfl ?_;clear FX1;refine tkl 5 w.heap.size 0 [Vi Vk (k:Int),Vi Vk (s:Int),.slice oa body.length cap] rfl rfl (fun w' h j u hu=>by rw [Nat.zero_add,cell_of_row w' _ j _ _ _ (HFB.out _ h)];simpa [Ha] using hu) underlying101 rfl frInfo ?_;simp only [pA,pB,pC,pD];refine Rd 4 rfl fun K hK=> ?_;go_simp;go_at_call 100;refine(HS.out _).mono ?_;rintro e w1 ⟨rfl,rfl⟩;go_wp2_with fail;refine hK.out _ _ hHeld (fun hHeld=> ?_);clear hK K;refine tq 6 rfl ?_;refine Rd 7 rfl fun K hK=> ?_;rw [κ (by kernel_rfl)];have HZ2:=Qs ((W1.drew).heap[w.heap.size+1]? =some (.cells #[Vi Vk 0,Vi Vk 0,Vi Vk 0,Vi Vk 0,.slice none 0 0] 103 (0,0))) HZ.out;refine wp_store_row 103 (.tmp 4) (.tmp 11) rfl (w.heap.size+1) (Im ⟨pos,z,⟨k,s,body⟩⟩ (.slice oa body.length cap)) rfl rfl 103 #[Vi Vk 0,Vi Vk 0,Vi Vk 0,Vi Vk 0,.slice none 0 0] HZ2.out pcInfo rfl (pcCs_all _ _ rfl) ?_;refine hK.out _ _ (Bw ((Ac W1 1).mono (by have:=HS1.out;omega)) (μ _) _) (fun _=> ?_);clear hK K;refine Ξ (by kernel_rfl) ?_ _;go_wp2;refine π (v:=pcV ⟨pos,z,⟨k,s,body⟩⟩ (.slice oa body.length cap)) (results_plc1 rfl _ _ (w.heap.size+1) ⟨pos,z,⟨k,s,body⟩⟩ _ rfl ?_) rfl ⟨rfl,?_⟩
 ·exact setRow_heap _ _ _ _ _ _ HZ2.out
 ·exact Bw (HB.out.trans ((Ac W1 1).mono (by have:=HS1.out;omega))) (by omega) _
attribute [local go_sem] Oper.semAt_some
theorem frsGo_len: ∀ (n:Nat) (b:List UInt8) (p:Nat),(Hh n b p).length≤n
 |0,_,_=>μ _
 |n+1,b,p=>by
  rw [Hh]
  split
  ·have:=frsGo_len n b (p+(Cg (b.drop p)).2.1)
   simp only [τ];omega
  ·exact θ _
theorem frs_len (b:List UInt8):(frs b).length≤b.length:=frsGo_len _ _ _
theorem frsGo_mem: ∀ (n:Nat) (b:List UInt8) (p:Nat) (x:Nat×J6),x∈Hh n b p→x.1+x.2.body.length+20≤b.length∧x.2.body.length≤16384
 |0,_,_,x=>by intro h;cases h
 |n+1,b,p,x=>by
  intro h
  rw [Hh] at h
  split at h
  ·rename_i hc
   rcases Δ.1 h with rfl|h
   ·have:=Jn hc.2
    rw [Λ] at this
    simp only
    omega
   ·exact frsGo_mem n b _ x h
  ·cases h
theorem frs_mem {x:Nat×J6} (h:x∈frs b):x.1+x.2.body.length+20≤b.length∧x.2.body.length≤16384:=frsGo_mem _ _ _ _ h
def Cd (d:Nat):List (Nat×J6)→Nat
 | []=>d
 |x::r=>Cd (x.1+x.2.body.length+20) r
theorem lastEnd_snoc: ∀ (xs:List (Nat×J6)) (d:Nat) (x:Nat×J6),Cd d (xs++[x])=x.1+x.2.body.length+20
 | [],_,_=>rfl
 |_::r,_,x=>lastEnd_snoc r _ x
theorem Pb {b:List UInt8}: ∀ (xs:List (Nat×J6)) (d:Nat),d≤b.length→(∀ x∈xs,x.1+x.2.body.length+20≤b.length)→Cd d xs≤b.length
 | [],_,h,_=>h
 |x::r,_,_,h2=>Pb r _ (h2 x List.mem_cons_self) fun y hy=>h2 y (List.mem_cons_of_mem _ hy)
def Jt (b0:Nat) (xs:List (Nat×J6)):List I3:=xs.map fun x=>⟨b0+x.1,x.2.body.length+20,x.2⟩
def plX (b0:Nat) (pre:List FrX):List (I3×Value):=pre.map fun x=>(⟨b0+x.1,x.2.1.body.length+20,x.2.1⟩,x.2.2)
theorem plX_snoc (b0:Nat) (pre:List FrX) (x:FrX):plX b0 (pre++[x])=plX b0 pre++[(⟨b0+x.1,x.2.1.body.length+20,x.2.1⟩,x.2.2)]:=by simp [plX]
theorem plX_fst (b0:Nat) (pre:List FrX):(plX b0 pre).map (·.1)=Jt b0 (Jc pre):=by simp [plX,Jt,Jc]
def scanAll (b:List UInt8):List I3×Nat×Int:=
 (Jt 0 (frs b),Cd 0 (frs b),if Cd 0 (frs b)=b.length then 0 else (Cg (b.drop (Cd 0 (frs b)))).2.2)
theorem Ia (ht:Ab S W W') (hS: ∀ k o,B≤k→S k→W.heap[k]? =some o→o.isCells=true):KeepsFrom B W W':=
 ⟨ht.size,fun k o hB hk ho=>(ht.block k (δ.1 hk).1 (fun hs=>by have:=hS k o hB hs hk;rw [ho] at this;cases this)).trans hk⟩
theorem Ab.kept (ht:Ab S X W) (hk:Fr B W W') (hB:X.heap.size≤B):Ab S X W':=
 ⟨hk.os.trans ht.os,hk.tape.trans ht.tape,hk.output.trans ht.output,η ht.size hk.size,fun k hlt hs=>by
  have h1:=ht.block k hlt hs
  rcases hx:X.heap[k]? with _|o
  ·rw [Array.getElem?_eq_getElem hlt] at hx;cases hx
  ·rw [hx] at h1;exact hk.block k o h1 (.inl (by omega))⟩
def ScI (B g5 g6 b0:Nat) (b:List UInt8) (X:World) (pre:List FrX) (W:World):Prop:=
 ∃ v,W.heap[g5]? =some (.cells #[v] 89 (0,0))∧W.heap[g6]? =some (.cells #[Vi Vk ((b0+Cd 0 (Jc pre):Nat):Int)] 3 (0,0))∧Mn W B v (plX b0 pre)∧Jc pre <+: frs b∧Ab (fun k=>k=g5∨k=g6) X W
theorem ScI.kept {g5 g6 b0:Nat} (hB:X.heap.size≤B):Kw B (ScI B g5 g6 b0 b X):=fun _ _ _ ⟨v,h1,h2,h3,h4,h5⟩ hk=>⟨v,hk.blk h1,hk.blk h2,h3.kept hk,h4,h5.kept hk hB⟩
def ScK (B g5 g6:Nat) (W W':World):Prop:=Ab (fun k=>k=g5∨k=g6∨B≤k) W W'
theorem ScK.trans {g5 g6:Nat} {A C D:World} (h:ScK B g5 g6 A C) (k:ScK B g5 g6 C D):ScK B g5 g6 A D:=Ab.trans h k fun _ h=> .inl h
theorem ScK.put {g5 g6:Nat} (W:World) (l:Nat) (o o':Obj) (hl:B≤l) (_:W.heap[l]? =some o) (_:o.isCells=false):ScK B g5 g6 W (W.putObj l o'):=
 ⟨rfl,rfl,rfl,by simp,fun k _ hk=>World.putObj_heap_other (by intro e;subst e;exact hk (.inr (.inr hl)))⟩
end Go.Proofs.YtgkdenejkcngnaaGreatDoor
