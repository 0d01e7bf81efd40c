import Derived.Deep.CutRange
import Derived.Test.YtgkdenejkcngnaaGreatDoorPv8
set_option maxRecDepth 100000
set_option maxHeartbeats 8000000
namespace Go.Proofs.YtgkdenejkcngnaaGreatDoor
open Go.RowKit
open Value renaming int→Vi
open IntKind renaming i64→Vk
open Go.Proofs.Tryz
variable {a:Act}{K:Act→World→Prop}{d d':Af}{listed:Array Bool}{af:Array Edge}{ops:Array Oper}{x:Bl}{s:C6}{D:DataW Value}{e:Ev}{Q:Exit→Act→World→Prop}{fn:Func}{h:Hd}{bad from_:Int}{xs:List (Ce×Value)}{E bs:List (List UInt8)}{L:List Aq}{fs fs':List Bl}{G:List Grp}{ps:List I3}{zs:List Int}{ms:List Mk}{us vs:List Nat}{rest:List Oper}{b body l n raw t:List UInt8}{cs:List Value}{B N base c f first g i j k m more most p r segEv size stride u:Nat}{A A' S:Nat→Prop}{o:Oper}{P:Program}{q:Tmp}{bv mv rv sv v v' v1:Value}{W W' X w w' w0 w1 w2:World}
theorem tw_lt (from_:Int): ∀ (ms:List Mk),ms.Pairwise (fun a b=>a.s<b.s)→ ∀ (i:Nat) (m:Mk),ms[i]? =some m→(m.s≤from_↔i<(ms.takeWhile fun m=>decide (m.s≤from_)).length)
 | [],_,i,m,h=>by simp at h
 |x::r,hp,0,m,h=>by
  simp only [List.getElem?_cons_zero,Option.some.injEq] at h
  subst h
  rw [List.takeWhile_cons]
  split<;>simp_all
 |x::r,hp,i+1,m,h=>by
  obtain⟨h1,h2⟩:=List.pairwise_cons.1 hp
  rw [List.getElem?_cons_succ] at h
  have ih:=tw_lt from_ r h2 i m h
  have hx:=h1 m (List.mem_of_getElem? h)
  rw [List.takeWhile_cons]
  split
  ·rw [τ,ih];omega
  ·rename_i hn
   have: ¬ x.s≤from_:=by simpa using hn
   simp only [Φ]
   omega
theorem marks_pair: ∀ (ms:List Mk) (s p:Int),E5 s p ms=true→ms.Pairwise (fun a b=>a.s<b.s)∧ ∀ m∈ms,s<m.s
 | [],_,_,_=>⟨List.Pairwise.nil,fun m hm=>by cases hm⟩
 |x::r,s,p,h=>by
  rw [E5] at h
  split at h
  ·cases h
  ·rename_i hn
   obtain⟨h1,h2⟩:=marks_pair r x.s x.p h
   refine⟨List.pairwise_cons.2 ⟨h2,h1⟩,fun m hm=> ?_⟩
   rcases Δ.1 hm with rfl|hm
   ·omega
   ·have:=h2 m hm;omega
theorem marksV_pair (h:Dv ms=true):ms.Pairwise (fun a b=>a.s<b.s):=by
 unfold Dv at h;simp only [Bool.and_eq_true] at h;exact(marks_pair ms 0 (-1) h.2).1
def cntM (ms:List Mk) (from_:Int):Nat:=(ms.takeWhile fun m=>decide (m.s≤from_)).length
theorem cntM_le (ms:List Mk) (from_:Int):cntM ms from_≤ms.length:=(List.takeWhile_sublist _).length_le
theorem seekM_cnt (ms:List Mk) (from_:Int):Kb ms from_=if cntM ms from_=0 then none else ms[cntM ms from_ - 1]? :=by
 unfold Kb cntM;have hp:ms.takeWhile (fun m=>decide (m.s≤from_)) <+: ms:=List.takeWhile_prefix _;rw [List.getLast?_eq_getElem?];split
 ·rename_i h;rw [List.getElem?_eq_none_iff];omega
 ·rename_i h;rw [List.prefix_iff_eq_take.1 hp,ω,Nat.min_eq_left hp.length_le,List.getElem?_take];rw [κ (by omega)]
theorem seek1_any (m:Mk) (from_:Int) (cb:Nat) (w:World) (hc:w.cell? ⟨cb,0,none⟩=some (Vi Vk from_)):
  Calls prog 110 #[mkV m,.pointer (some ⟨cb,0,none⟩)] w fun e w'=>e= .returned (.bool (decide (m.s≤from_)))∧Below w.heap.size w w':=by
 have HB:=Qh (Aa w (.cells (Gl m) 135));have HM:=Qh (Hu w m);have HC:=Qh (cell_later HB.out hc);simp only [Gl] at HB HM HC;clear hc;have c:=HC.out;have c0:=HM.out.c0;go_enter func110,ntmps110;go_wp2;go_ret;exact⟨rfl,HB.out⟩
theorem last_any (ms:List Mk) (mv:Value) (from_:Int) (cb:Nat) (w:World) (hr:MkRow w mv ms) (hp:ms.Pairwise (fun a b=>a.s<b.s)) (hl:ms.length≤1000) (hc:w.cell? ⟨cb,0,none⟩=some (Vi Vk from_)):
  Calls prog 109 #[mv,.func (.func 110) #[] #[.pointer (some ⟨cb,0,none⟩)]] w fun e w'=>e= .returned (Vi Vk ((cntM ms from_:Int) - 1))∧Below w.heap.size w w':=by
 obtain⟨oa,cap,rfl,hcl,hat⟩:=id hr;have HTW:=Qh (tw_lt from_ ms hp);have HCL:=Qh (cntM_le ms from_);have HC:=Qh hc;have HR:=Qh hr;clear hp hc hr hat;go_enter func109,ntmps109;go_wp2;go_loopw [5,6,7] (fun lv hv xv wr=> ∃ (a hi:Nat) (lo:Int),lv= Vi Vk lo∧hv= Vi Vk (hi:Int)∧Hid (lo=(a:Int) - 1)∧a≤hi∧hi≤ms.length∧Hid (a≤cntM ms from_∧cntM ms from_≤hi)∧Hid (Below w.heap.size w wr)) (fun lv hv _ _=>((intOf hv) - (intOf lv)).toNat)
 case atStart=>exact⟨0,ms.length,-1,rfl,rfl,Qh rfl,θ _,μ _,Qh ⟨θ _,HCL.out⟩,Qh (χ _ _)⟩
 case round=>
  obtain⟨a,hi,lo,rfl,rfl,HLO,hah,hhl,HAC,HB⟩:=hrel;have hlo:=HLO.out;have hac:=HAC.out;have hw0:IntKind.i64.wrap ((hi:Int) - lo)=((hi - a+1:Nat):Int):=by rw [ν];omega
  by_cases hlt:a<hi
  ·obtain⟨md,hmd⟩: ∃ md,md=(a+hi - 1) / 2:=⟨_,rfl⟩;have hm1:a≤md∧md<hi:=by omega
   have hw1:IntKind.i64.wrap (lo+(hi:Int))=((a+hi - 1:Nat):Int):=by rw [ν];omega
   have hw2:IntKind.u64.wrap ((a+hi - 1:Nat):Int)=((a+hi - 1:Nat):Int):=by rw [IntKind.wrap_u64];omega
   have hw3:((a+hi - 1:Nat):Int) / 2=(md:Int):=by omega
   have hw4:IntKind.u64.wrap (md:Int)=(md:Int):=by rw [IntKind.wrap_u64];omega
   have hw5:IntKind.i64.wrap (md:Int)=(md:Int):=by rw [ν];omega
   have q1:(1:Int)<((hi - a+1:Nat):Int):=by omega
   have q2:(md:Int)<(ms.length:Int):=by omega
   obtain⟨x,hx⟩: ∃ x,ms[md]? =some x:=⟨ms[md]'(by omega),Θ _⟩;have HX:=Qh (HTW.out md x hx);obtain⟨_,_,e2,_,_,hat⟩:=HR.out;simp only [Value.slice.injEq,true_and] at e2;obtain⟨rfl,rfl⟩:=e2;obtain⟨b,off,rfl,hcell⟩:=hat md x hx;have HCE:=Qh (Bs hcell HB.out);have HS1:=Qh (seek1_any x from_ cb wr (cell_later HB.out HC.out));obtain⟨S,hS⟩: ∃ S,S=a+hi - 1:=⟨_,rfl⟩;obtain⟨D,hD⟩: ∃ D,D=hi - a+1:=⟨_,rfl⟩;rw [←hS] at hw1 hw2 hw3;rw [←hD] at hw0 q1;have HM1:=Qh hm1;have HMD:=Qh hmd;have HLT:=Qh hlt;clear hcell hat hx hlo hac hS hD hm1 hmd hlt;go_wp2_with (with_reducible refine En rfl (.tmp 23) rfl b (off+md*2) x rfl HCE.out ?_);refine HS1.out.mono ?_;rintro e w1 ⟨rfl,hb1⟩;have HB1:=Qh (Below.next HB.out hb1);clear hb1 hw0 hw1 hw2 hw3 hw4 hw5 q1 q2;rcases hq:decide (x.s≤from_) with _|_
   ·have hh: ¬ md<cntM ms from_:=fun h=>Γ hq (HX.out.2 h);go_wp2_with fail;go_roundw
    case rel=>exact⟨a,md,lo,rfl,rfl,HLO,HM1.out.1,by have:=HM1.out;omega,Qh ⟨HAC.out.1,by omega⟩,HB1⟩
    case measure=>have:=HLO.out;have:=HM1.out;simp [intOf];omega
   ·have hh:md<cntM ms from_:=HX.out.1 (ψ hq);go_wp2_with fail;go_roundw
    case rel=>exact⟨md+1,hi,(md:Int),rfl,rfl,Qh (by omega),by have:=HM1.out;omega,hhl,Qh ⟨by omega,HAC.out.2⟩,HB1⟩
    case measure=>have:=HLO.out;have:=HM1.out;simp [intOf];omega
  ·have q1: ¬ (1:Int)<((hi - a+1:Nat):Int):=by omega
   have HE:=Qs (lo=(cntM ms from_:Int) - 1) (by omega);obtain⟨D,hD⟩: ∃ D,D=hi - a+1:=⟨_,rfl⟩;rw [←hD] at hw0 q1;clear hlo hac hlt hD;go_wp2;go_ret;refine⟨?_,HB.out⟩;rw [HE.out];rfl
def SeekQ (w:World) (r:Option Mk) (e:Ending) (w':World):Prop:=(e= .returned (match r with | some k=> .tuple #[mkV k,.bool true] | none=> .tuple #[mkV ⟨0,0⟩,.bool false]))∧Below w.heap.size w w'
theorem results_mk2 {p:Tmp} (h:fn.results= #[.cell p 135,.tmp q]) (tmps:Array Value) (w:World) (g:Nat) (k:Mk) (x:Value)
  (hp:tmps.getD p undef= .pointer (some ⟨g,0,none⟩)) (hq:tmps.getD q undef=x) (hE:Er w g k):(results fn tmps).run prog w= .ok (.tuple #[mkV k,x]) w:=by
 have hl:=run_loadVar_row (P:=prog) w g 135 135 (Gl k) (0,0) _ hE underlying135 rfl mkInfo;have hp':tmps[p]?.getD undef= .pointer (some ⟨g,0,none⟩):=by simpa using hp
 have hq':tmps[q]?.getD undef=x:=by simpa using hq
 simp [results,h,hp',hq',asAddr,hl];rfl
theorem seek_any (ms:List Mk) (mv:Value) (from_:Int) (w:World) (hr:MkRow w mv ms) (hp:ms.Pairwise (fun a b=>a.s<b.s)) (hl:ms.length≤1000):
  Calls prog 73 #[mv,Vi Vk from_] w (SeekQ w (Kb ms from_)):=by
 have hmf: ∀ (fn:Fn) (first cap:Array Value) (w:World),(Instr.makeFunc fn first cap).run prog w= .ok (.func fn first cap) w:=fun _ _ _ _=>rfl;have hb1:=Aa w (.cells #[Vi Vk from_] 3);have hb2:=Aa (w.alloc (.cells #[Vi Vk from_] 3)) (.cells #[Vi Vk 0,Vi Vk 0] 135);have HB0:=Qh (Below.next hb1 hb2);have HM0:=Qs (Er ((w.alloc (.cells #[Vi Vk from_] 3)).alloc (.cells #[Vi Vk 0,Vi Vk 0] 135)) (w.heap.size+1) ⟨0,0⟩) (by
  have:=σ (w.alloc (.cells #[Vi Vk from_] 3)) (.cells #[Vi Vk 0,Vi Vk 0] 135);rw [World.size_alloc] at this;exact this)
 have HLA:=Qh (last_any ms mv from_ w.heap.size _ (hr.below HB0.out) hp hl (cell_later hb2 (cell_of_row _ w.heap.size 0 _ _ _ (σ w _))));have HR:=Qh (hr.below HB0.out);have HSC:=Qh (seekM_cnt ms from_);have HCL:=Qh (cntM_le ms from_);obtain⟨oa,cap,rfl,hcl,_⟩:=id hr;have hml:ms.length≤1000:=hl;clear hr hp hl hb1 hb2;generalize Kb ms from_=sk at*;generalize cntM ms from_=c at*;go_enter func73,ntmps73;go_wp2_with fail;generalize (w.alloc (.cells #[Vi Vk from_] 3)).alloc (.cells #[Vi Vk 0,Vi Vk 0] 135)=w0 at*;refine HLA.out.mono ?_;rintro e w1 ⟨rfl,hb1⟩;have HB1:=Qh (Below.next HB0.out hb1);have HM1:=Qh (HM0.out.below hb1);have HR1:=Qh (HR.out.below hb1);clear hb1 HLA HB0 HM0 HR;by_cases hc:c=0
 ·subst hc;have HE:=Qh (HSC.out.trans (κ rfl));have q1:decide (((0:Nat):Int) - 1<0)=true:=by decide
  go_wp2_with (with_reducible refine Ef rfl (.tmp 4) (.tmp 12) rfl (w.heap.size+1) ⟨0,0⟩ ⟨0,0⟩ rfl rfl HM1.out ?_);intro w2 hm2 ht2;have HB2:=Qh (Al HB1.out ht2 (fun k hk=>by omega) HB1.out.size);have HM2:=Qh hm2;clear hm2 ht2;go_wp2;exact π (v:= .tuple #[mkV ⟨0,0⟩,.bool false]) (results_mk2 rfl _ _ (w.heap.size+1) ⟨0,0⟩ _ rfl rfl HM2.out) rfl ⟨by rw [HE.out],HB2.out⟩
 ·have HE:=Qh (HSC.out.trans (γ hc));obtain⟨i,rfl⟩: ∃ i,c=i+1:=⟨c - 1,by omega⟩;have hi:i<ms.length:=by have:=HCL.out;omega
  obtain⟨x,hx⟩: ∃ x,ms[i]? =some x:=⟨ms[i]'hi,Θ _⟩;rw [Nat.add_sub_cancel,hx] at HE;have e1:((i+1:Nat):Int) - 1=(i:Int):=by omega
  have q2:(i:Int)<(ms.length:Int):=by omega
  obtain⟨_,_,e2,_,_,hat⟩:=HR1.out;simp only [Value.slice.injEq,true_and] at e2;obtain⟨rfl,rfl⟩:=e2;obtain⟨b,off,rfl,hcell⟩:=hat i x hx;have HCE:=Qh hcell;rw [e1];clear hcell hat hx hc HSC HCL;go_wp2_with (first|(with_reducible refine En rfl (.tmp 15) rfl b (off+i*2) x rfl HCE.out ?_)|(with_reducible refine Ef rfl (.tmp 4) (.tmp 16) rfl (w.heap.size+1) ⟨0,0⟩ x rfl rfl HM1.out ?_));intro w2 hm2 ht2;have HB2:=Qh (Al HB1.out ht2 (fun k hk=>by omega) HB1.out.size);have HM2:=Qh hm2;clear hm2 ht2;go_wp2;exact π (v:= .tuple #[mkV x,.bool true]) (results_mk2 rfl _ _ (w.heap.size+1) x _ rfl rfl HM2.out) rfl ⟨by rw [HE.out],HB2.out⟩
section
variable {w W W' : World} {b f m : Nat} {L : List Aq} {d d' : Af} {s : C6} {mv sv : Value} {g : Sg}
structure PW (w W:World) (b f m:Nat) (L:List Aq) (d:Af) (s:C6) (mv sv:Value) (gb:Nat) (g:Sg):Prop where
 sj:SJ W b f m L d s mv sv
 sg:Ft W gb g
 tu:Ab (fun k=>k=f) w W
 lo:f<w.heap.size∧w.heap.size≤gb
theorem PW.below {gb:Nat} (h:PW w W b f m L d s mv sv gb g) (hb:Below W.heap.size W W'):PW w W' b f m L d s mv sv gb g:=
 ⟨h.sj.below hb,(hb.block _ (δ.1 h.sg).1).trans h.sg,h.tu.trans (Ab.below (S:=fun k=>k=f) hb) fun _ h=> .inl h,h.lo⟩
theorem PW.read {gb:Nat} (h:PW w W b f m L d s mv sv gb g) (h1:Bv W' f m d' L) (h2:Ab (fun i=>i=f) W W'):PW w W' b f m L d' s mv sv gb g:=
 ⟨h.sj.read h1 h2,(h2.block _ (δ.1 h.sg).1 (by have:=h.lo;omega)).trans h.sg,h.tu.trans h2 fun _ h=> .inl h,h.lo⟩
theorem Ft.cell {gb:Nat} (h:Ft W gb g) (j:Nat):W.cell? ⟨gb,j,none⟩=(B4 g)[j]? :=cell_of_row W gb j _ _ _ h
structure PieceIn (d:Af) (s:C6) (g:Sg) (x:Bl) (ms:List Mk) (en cnt:Nat):Prop where
 fil:Bf d.files (Ad g.num)=some x
 src:(0<g.count∧g.foot=(en:Int)∧g.count=(cnt:Int)∧ ∃ st,Cn (x.data.drop en) g=some (ms,st))∨(g.count=0∧ms=s.marks∧en=s.size∧cnt=s.count)
 le:en≤x.data.length
 rise:ms.Pairwise fun a b=>a.s<b.s
 few:ms.length≤512
 cnt:cnt≤512
 first:0≤g.first∧g.first≤1099511627777
def PieceQ (w:World) (b f m:Nat) (L:List Aq) (d:Af) (s:C6) (mv sv:Value) (ps:List I3) (e:Ending) (w':World):Prop:=
 ∃ pv n,e= .returned (.tuple #[pv,.bool true])∧Ny (fun k=>w.heap.size≤k) w' pv ps∧SJ w' b f m L (Df d n) s mv sv∧Ab (fun k=>k=f) w w'
theorem piece_any (x:Bl) (ms:List Mk) (en cnt:Nat) (from_:Int) (ps:List I3) (h:SJ w b f m L d s mv sv) (hd:d.down=false) (hp:PieceIn d s g x ms en cnt)
  (hk:(Kb ms from_=none∧cnt=0∧ps=[])∨ ∃ ks kp lf:Nat,Kb ms from_=some ⟨(ks:Int),(kp:Int)⟩∧kp≤en∧g.first+(cnt:Int) - (ks:Int)=(lf:Int)∧0<lf∧lf≤1000000∧Bt ((x.data.drop kp).take (en - kp)) 0 ks lf=(ps,en - kp)∧ps.length=lf):
  Calls prog 43 #[.pointer (some ⟨b,0,none⟩),sgV g,Vi Vk from_] w (PieceQ w b f m L d s mv sv ps):=by
 have hff:f<w.heap.size:=h.fs.hd.lt;have HB0:=Qh (Aa w (.cells (B4 g) 72));have HP:=Qs (PW w (w.alloc (.cells (B4 g) 72)) b f m L d s mv sv w.heap.size g) ⟨h.below HB0.out,σ w _,Ab.below HB0.out,hff,μ _⟩;have HPI:=Qh hp;have HK:=Qh hk;have HDN:=Qh hd;have HOE:=Qh (Ey h.fs.ok hd hp.fil);have HXL:=Qs (x.data.length≤67108864) (by have:=Fg (B8 hp.fil).2;have:=h.fs.ok.used;have:=h.fs.ok.room;omega);have HML:=Qh (mk_lt h.mks);have HMR:=Qh h.mks;have HSEP:=Qh h.sep;have hfoot:=h.fs.lt;obtain⟨om,cm,hmv,_,_⟩:=Aj h.mks;have HSL:=Qs (s.size≤9223372036854775807∨True) (.inr trivial);simp only [B4] at HP HB0;clear h hp hk hd hfoot;go_enter func43,ntmps43;go_wp2_with fail;generalize w.alloc (.cells #[Vi Vk g.num,Vi Vk g.first,Vi Vk g.count,Vi Vk g.foot] 72)=w0 at*;refine(Jm g.num w0).mono ?_;rintro e w1 ⟨rfl,hb1⟩;replace HP:=Qh (HP.out.below hb1);clear hb1 HB0;generalize w.heap.size=gb at*;go_wp2_with fail;have C2:=Qs (w1.cell? ⟨b,2,none⟩=some mv) (HP.out.sj.blk.cell 2);have C1:=Qs (w1.cell? ⟨b,1,none⟩=some (Vi Vk (s.size:Int))) (HP.out.sj.blk.cell 1);have C0:=Qs (w1.cell? ⟨b,0,none⟩=some (Vi Vk (s.count:Int))) (HP.out.sj.blk.cell 0);refine ε (S:=fun w'=>Below w1.heap.size w1 w') (by kernel_rfl) (Ac w1 1) (fun hHeld=> ?_);have FX1:=Qh (fun(wF:World) (hSw:(fun w'=>Below w1.heap.size w1 w') wF)=>And.intro ((cell_later hSw C2.out)) (And.intro ((cell_later hSw C1.out)) ((cell_later hSw C0.out))));refine tf FX1 0 rfl ?_;refine tf FX1 1 rfl ?_;refine tf FX1 2 rfl ?_;refine tf FX1 3 rfl ?_;refine tf FX1 4 rfl ?_;refine tf FX1 5 rfl ?_;refine tf FX1 6 rfl ?_;refine tf FX1 7 rfl ?_;refine tf FX1 8 rfl ?_;refine tf FX1 9 rfl ?_;refine tf FX1 10 rfl ?_;refine tf FX1 11 rfl ?_;refine tf FX1 12 rfl ?_;refine tf FX1 13 rfl ?_;refine tf FX1 14 rfl ?_;refine tf FX1 15 rfl ?_;refine tf FX1 16 rfl ?_;refine tf FX1 17 rfl ?_;clear FX1;replace HP:=Qh (HP.out.below hHeld);clear hHeld C2 C1 C0;generalize World.drew w1=w2 at*;refine Ξ (by kernel_rfl) ?_ _;have HGB:=Qh HP.out.lo;have c2:w2.cell? ⟨gb,2,none⟩=some (Vi Vk g.count):=HP.out.sg.cell 2
 go_upto_if 43 with fail
 go_cut [9,10,11,12,13,14,15] from 41 to 82 (fun v9 v10 v11 v12 v13 v14 v15 wx=>v10= Vi Vk (en:Int)∧v11= Vi Vk (cnt:Int)∧Hid (MkRow wx v9 ms)∧ ∃ n,Hid (PW w wx b f m L (Df d n) s mv sv gb g))
 case first=>
  rcases HPI.out.src with⟨h1,h2,h3,st,h4⟩|⟨h1,h2,h3,h4⟩
  ·have H2:=Qh h2;have H3:=Qh h3;have H4:=Qh h4;have q1:decide (0<g.count)=true:=ξ h1;have c3:w2.cell? ⟨b,3,none⟩=some (.pointer (some ⟨f,0,none⟩)):=HP.out.sj.blk.cell 3;have HSZ:=Qh (Ol w2 f m d L HP.out.sj.fs (Ad g.num));rw [Mw,γ (by rw [HOE.out];simp),HPI.out.fil] at HSZ;clear h2 h3 h4;go_wp2_with fail;refine HSZ.out.mono ?_;rintro e w3 ⟨rfl,hww⟩;rw [←hww];clear hww HSZ c2 c3;go_wp2_with fail;have hbd:Below w2.heap.size w2 (World.drew w2):=Ac w2 1;replace HP:=Qh (HP.out.below hbd);refine ε (S:=fun w'=>w'.cell? ⟨b,3,none⟩=some (.pointer (some ⟨f,0,none⟩))∧w'.cell? ⟨gb,3,none⟩=some (Vi Vk g.foot)) (by kernel_rfl) ⟨HP.out.sj.blk.cell 3,HP.out.sg.cell 3⟩ (fun hHeld=> ?_);have hsub:IntKind.i64.wrap ((x.data.length:Int) - g.foot)=((x.data.length - en:Nat):Int):=by have:=HXL.out;have:=HPI.out.le;rw [H2.out,ν];omega
   have HSU:=Qh hsub;clear hsub hbd;generalize World.drew w2=w3 at*;have FX2:=Qh (fun(wF:World) (hSw:(fun w'=>w'.cell? ⟨b,3,none⟩=some (.pointer (some ⟨f,0,none⟩))∧w'.cell? ⟨gb,3,none⟩=some (Vi Vk g.foot)) wF)=>And.intro ((hSw.1)) ((hSw.2)));refine tf FX2 0 rfl ?_;refine tf FX2 1 rfl ?_;refine tf FX2 2 rfl ?_;refine tf FX2 3 rfl ?_;refine tf FX2 4 rfl ?_;refine tf FX2 5 rfl ?_;refine tf FX2 6 rfl ?_;refine tf FX2 7 rfl ?_;refine tf FX2 8 rfl ?_;refine tf FX2 9 rfl ?_;clear FX2;have FX3:=Qh (fun(wF:World) (hSw:(fun w'=>w'.cell? ⟨b,3,none⟩=some (.pointer (some ⟨f,0,none⟩))∧w'.cell? ⟨gb,3,none⟩=some (Vi Vk g.foot)) wF)=>(HSU.out));refine tf FX3 10 rfl ?_;clear FX3;have HFO:=Qs (g.foot=(en:Int)) H2.out;rw [H2.out];have HRD:=Qh (Ld w3 f m d L HP.out.sj.fs (Ad g.num) x HOE.out HPI.out.fil en (x.data.length - en) (by have:=HPI.out.le;omega));rw [show (x.data.drop en).take (x.data.length - en)=x.data.drop en from by rw [←Λ,List.take_length]] at HRD;obtain⟨FT,hFT⟩: ∃ FT,FT=x.data.drop en:=⟨_,rfl⟩;have HFL:=Qs (FT.length≤67108864) (by rw [hFT,Λ];have:=HXL.out;omega);rw [←hFT] at HRD H4;clear hFT;refine Rd 11 rfl fun K hK=> ?_;go_simp;refine HRD.out.mono ?_;rintro e w4 ⟨v4,rfl,ho4,hf4,ht4⟩;replace HP:=Qh (HP.out.read hf4 ht4);obtain⟨o4,c4,rfl,_,_⟩:=Aj ho4;have HV4:=Qh ho4.brow;clear ho4 hf4 ht4 HRD;go_wp2_with fail;refine hK.out _ _ ⟨HP.out.sj.blk.cell 3,by rw [←H2.out];exact HP.out.sg.cell 3⟩ (fun hHeld=> ?_);clear hK K;refine tq 12 rfl ?_;refine tq 13 rfl ?_;refine tq 14 rfl ?_;refine tq 15 rfl ?_;refine tq 16 rfl ?_;refine Ξ (by kernel_rfl) ?_ _;clear hHeld;have HSB:=Qh HP.out.sg;have HCL:=Qh (closing_any FT _ g w4 HV4.out (by have:=HFL.out;omega) HP.out.sj.nib);rw [H4.out] at HCL;unfold ClosP at HCL;dsimp only at HCL;go_wp2_with (with_reducible refine Bc rfl (.tmp 4) rfl gb 0 g rfl HSB.out.range ?_);refine HCL.out.mono ?_;rintro e w5 ⟨hb5,mv5,rfl,ho5⟩;replace HP:=Qh (HP.out.below hb5);have HM5:=Qh ho5.row;clear hb5 ho5 HCL HSB HV4;go_wp2_with fail;have hbd:Below w5.heap.size w5 (World.drew w5):=Ac w5 1;replace HP:=Qh (HP.out.below hbd);replace HM5:=Qh (HM5.out.below hbd);refine ε (S:=fun w'=>w'.cell? ⟨gb,3,none⟩=some (Vi Vk (en:Int))∧w'.cell? ⟨gb,2,none⟩=some (Vi Vk (cnt:Int))) (by kernel_rfl) ⟨by rw [←H2.out];exact HP.out.sg.cell 3,by rw [←H3.out];exact HP.out.sg.cell 2⟩ (fun hHeld=> ?_);clear hbd;generalize World.drew w5=w6 at*;have FX4:=Qh (fun(wF:World) (hSw:(fun w'=>w'.cell? ⟨gb,3,none⟩=some (Vi Vk (en:Int))∧w'.cell? ⟨gb,2,none⟩=some (Vi Vk (cnt:Int))) wF)=>And.intro ((hSw.1)) ((hSw.2)));refine tf FX4 0 rfl ?_;refine tf FX4 1 rfl ?_;refine tf FX4 2 rfl ?_;refine tf FX4 3 rfl ?_;refine tf FX4 4 rfl ?_;refine tf FX4 5 rfl ?_;clear FX4;refine Ξ (by kernel_rfl) ?_ _;clear hHeld;go_wp2_with fail;go_meet;exact⟨rfl,rfl,HM5,_,HP⟩
  ·have q1:decide (0<g.count)=false:=ρ (by omega);have q2: ¬ 0<g.count:=by omega
   go_wp2_with fail;go_meet;refine⟨by rw [h3],by rw [h4],Qh ?_,0,Qh ?_⟩
   ·rw [h2,←hmv];exact HP.out.sj.mks.row
   ·rw [Lc HP.out.sj.fs.ok];exact HP.out
 case rest=>
  obtain⟨rfl,rfl,HMK,n,HP⟩:=hcut;have HSK:=Qh (seek_any ms _ from_ wc HMK.out HPI.out.rise (by have:=HPI.out.few;omega));rcases HK.out with⟨h1,h2,h3⟩|⟨ks,kp,lf,h1,h2,h3,h4,h5,h6,h7⟩
  ·rw [h1] at HSK;unfold SeekQ at HSK;dsimp only at HSK;have HPS:=Qh h3;subst h2;clear h1 h3;go_wp2_with fail;refine HSK.out.mono ?_;rintro e w7 ⟨rfl,hb7⟩;have hba:=Aa w7 (.cells #[Vi Vk 0,Vi Vk 0] 135);replace HP:=Qh ((HP.out.below hb7).below hba);clear hb7 hba HSK;go_wp2;go_ret2;refine⟨_,n,rfl,?_,HP.out.sj,HP.out.tu⟩;rw [HPS.out];exact⟨none,0,rfl,μ _,by decide,fun h=>absurd rfl h⟩
  ·rw [h1] at HSK;unfold SeekQ at HSK;dsimp only at HSK;have H2:=Qh h2;have H3:=Qh h3;have H4:=Qh h4;have H5:=Qh h5;have H6:=Qh h6;have H7:=Qh h7;clear h1 h2 h3 h4 h5 h6 h7;go_wp2_with fail;refine HSK.out.mono ?_;rintro e w7 ⟨rfl,hb7⟩;have hba:=Aa w7 (.cells #[Vi Vk (ks:Int),Vi Vk (kp:Int)] 135);have HKB:=Qs (Er (w7.alloc (.cells #[Vi Vk (ks:Int),Vi Vk (kp:Int)] 135)) w7.heap.size ⟨(ks:Int),(kp:Int)⟩) (σ w7 _);have HGK:=Qs (w.heap.size≤w7.heap.size∧f<w7.heap.size) ⟨(HP.out.below hb7).tu.size,by have:=(HP.out.below hb7).tu.size;have:=HP.out.lo;omega⟩;replace HP:=Qh ((HP.out.below hb7).below hba);clear hb7 hba HSK HMK;go_wp2_with fail;generalize w7.alloc (.cells #[Vi Vk (ks:Int),Vi Vk (kp:Int)] 135)=w8 at*;generalize w7.heap.size=gk at*;have hbd:Below w8.heap.size w8 (World.drew w8):=Ac w8 1;replace HP:=Qh (HP.out.below hbd);replace HKB:=Qh (HKB.out.below hbd);clear hbd;refine ε (S:=fun w'=>w'.cell? ⟨b,3,none⟩=some (.pointer (some ⟨f,0,none⟩))∧w'.cell? ⟨gk,1,none⟩=some (Vi Vk (kp:Int))) (by kernel_rfl) ⟨HP.out.sj.blk.cell 3,HKB.out.c1⟩ (fun hHeld=> ?_);generalize World.drew w8=w9 at*;have hsub:IntKind.i64.wrap ((en:Int) - (kp:Int))=((en - kp:Nat):Int):=by have:=HXL.out;have:=HPI.out.le;have:=H2.out;rw [ν];omega
   have HSU:=Qh hsub;clear hsub;have FX5:=Qh (fun(wF:World) (hSw:(fun w'=>w'.cell? ⟨b,3,none⟩=some (.pointer (some ⟨f,0,none⟩))∧w'.cell? ⟨gk,1,none⟩=some (Vi Vk (kp:Int))) wF)=>And.intro ((hSw.1)) ((hSw.2)));refine tf FX5 0 rfl ?_;refine tf FX5 1 rfl ?_;refine tf FX5 2 rfl ?_;refine tf FX5 3 rfl ?_;refine tf FX5 4 rfl ?_;refine tf FX5 5 rfl ?_;refine tf FX5 6 rfl ?_;refine tf FX5 7 rfl ?_;refine tf FX5 8 rfl ?_;refine tf FX5 9 rfl ?_;clear FX5;have FX6:=Qh (fun(wF:World) (hSw:(fun w'=>w'.cell? ⟨b,3,none⟩=some (.pointer (some ⟨f,0,none⟩))∧w'.cell? ⟨gk,1,none⟩=some (Vi Vk (kp:Int))) wF)=>(HSU.out));refine tf FX6 10 rfl ?_;clear FX6;have HRD:=Qh (Ld w9 f m _ L HP.out.sj.fs (Ad g.num) x HOE.out HPI.out.fil kp (en - kp) (by have:=HPI.out.le;have:=H2.out;omega));obtain⟨B,hB⟩: ∃ B,B=(x.data.drop kp).take (en - kp):=⟨_,rfl⟩;have HBL:=Qs (B.length=en - kp) (by rw [hB,ω,Λ];have:=HPI.out.le;omega);rw [←hB] at HRD H6;clear hB;refine Rd 11 rfl fun K hK=> ?_;go_simp;refine HRD.out.mono ?_;rintro e w10 ⟨v10,rfl,ho10,hf10,ht10⟩;replace HP:=Qh (HP.out.read hf10 ht10);replace HKB:=Qs (Er w10 gk ⟨(ks:Int),(kp:Int)⟩) ((ht10.block _ HKB.out.lt (by have:=HGK.out.2;omega)).trans HKB.out);obtain⟨o10,c10,rfl,_,_⟩:=Aj ho10;have HV10:=Qh ho10.brow;clear ho10 hf10 ht10 HRD;go_wp2_with fail;refine hK.out _ _ ⟨HP.out.sj.blk.cell 3,HKB.out.c1⟩ (fun hHeld=> ?_);clear hK K;refine tq 12 rfl ?_;refine tq 13 rfl ?_;refine tq 14 rfl ?_;refine tq 15 rfl ?_;refine tq 16 rfl ?_;refine Ξ (by kernel_rfl) ?_ _;clear hHeld;have cfi:w10.cell? ⟨gb,1,none⟩=some (Vi Vk g.first):=HP.out.sg.cell 1;have cks:w10.cell? ⟨gk,0,none⟩=some (Vi Vk (ks:Int)):=HKB.out.c0;have ha1:IntKind.i64.wrap (g.first+(cnt:Int))=g.first+(cnt:Int):=by rw [ν];have:=HPI.out.first;have:=HPI.out.cnt;omega
   have ha2:IntKind.i64.wrap (g.first+(cnt:Int) - (ks:Int))=(lf:Int):=by rw [ν];have:=H3.out;have:=H5.out;omega
   have HSC:=Qh (Nv B _ 0 ks lf w10 HV10.out (by have:=HBL.out;have:=HXL.out;have:=HPI.out.le;omega) HP.out.sj.nib (θ _) H4.out H5.out);rw [H6.out] at HSC;unfold RunP at HSC;dsimp only at HSC;go_wp2_with fail;refine HSC.out.mono ?_;rintro e w11 ⟨pv,rfl,hp11,hb11⟩;have HZ10:=Qh HP.out.tu.size;replace HP:=Qh (HP.out.below hb11);obtain⟨op,cp,rfl,_,_,_⟩:=hp11.shape;have HPC:=Qh (show Ny (fun k=>w.heap.size≤k) w11 (.slice op ps.length cp) ps from hp11.mono fun k hk=>by have:=HZ10.out;omega);have q1:((ps.length:Int)==(lf:Int))=true:=by have:=H7.out;simp;omega
   have q2:(((en - kp:Nat):Int)==(B.length:Int))=true:=by have:=HBL.out;simp;omega
   clear hb11 hp11 HSC cfi cks ha1 ha2;go_wp2;go_ret2;exact⟨_,n+(en - kp),rfl,HPC.out,by have:=HP.out.sj;rw [rdD_rdD] at this;exact this,HP.out.tu⟩
end
def Np (fs:List Ce):Nat:=match fs.getLast? with | none=>0 | some f=>f.tag
structure FldIn (f:Ce) (last:Nat):Prop where
 tag:1≤f.tag∧f.tag≤31
 up:last<f.tag
 num:f.num<18446744073709551616
 len:f.data.length≤200
theorem check_any (f:Ce) (last:Nat) (oa:Option Addr) (cap:Nat) (w:World) (h:FldIn f last):
  Calls prog 172 #[fdV f (.slice oa f.data.length cap),Vi Vk (last:Int)] w fun e w'=>e= .returned (Vi Vk (if nz f then 0 else 22))∧Below w.heap.size w w':=by
 obtain⟨t,tx,n,l⟩:=f;obtain⟨h1,h2,h3,h4⟩:=h;simp only at h1 h2 h3 h4;have t1:decide ((t:Int)<1)=false:=by simp;omega
 have t2:decide (31<(t:Int))=false:=by simp;omega
 have t3:decide ((t:Int)≤(last:Int))=false:=by simp;omega
 have HB:=Qh (Aa w (.cells (Gb ⟨t,tx,n,l⟩ (.slice oa l.length cap)) 257));simp only [Gb] at HB;have HE:=Qs (nz ⟨t,tx,n,l⟩=if tx then !(((l.length:Nat):Int)==0) else !((n:Int)==0)) (by
  unfold nz;cases tx
  ·simp only [Bool.false_eq_true,if_false];rw [Bool.eq_iff_iff];simp
  ·simp only [if_true];cases l<;>simp;omega)
 have t4:decide (200<(l.length:Int))=false:=by simp;omega
 rw [HE.out];dsimp only [fdV];clear HE h1 h2 h3 h4;generalize (t:Int)=ti at*;generalize (last:Int)=la at*;generalize hn:(n:Int)=ni at*;generalize l.length=k at*;clear hn;rcases hk:((k:Int)==0) with _|_
 all_goals
  rcases hz:(ni==0) with _|_
  all_goals
   cases tx
   all_goals
    go_enter func172,ntmps172;go_wp2;go_ret;exact⟨rfl,HB.out⟩
structure Ow (w:World) (B:Nat) (v:Value) (w':World) (v':Value) (bs:List UInt8):Prop where
 own:Cw w' B v' bs
 tu:Ab (fun k=>v.ownBlock=some k) w w'
 bl: ∀ k,v'.ownBlock=some k→v.ownBlock=some k∨w.heap.size≤k
theorem Ow.start {bs:List UInt8} (h:Cw w B v bs):Ow w B v w v bs:=⟨h,Ab.refl _ _,fun _ h=> .inl h⟩
theorem Ow.below {bs:List UInt8} (h:Ow w B v w1 v1 bs) (hb:Below w1.heap.size w1 w2):Ow w B v w2 v1 bs:=⟨h.own.later hb,h.tu.trans (Ab.below hb) fun _ h=> .inl h,h.bl⟩
theorem Ow.then {v2:Value} {bs bs2:List UInt8} (h:Ow w B v w1 v1 bs) (h2:Ow w1 B v1 w2 v2 bs2):Ow w B v w2 v2 bs2:=
 ⟨h2.own,h.tu.trans h2.tu h.bl,fun k hk=>by
  rcases h2.bl k hk with h3|h3
  ·exact h.bl k h3
  ·exact .inr (η h.tu.size h3)⟩
section
variable {ops : Array Oper} {rest : List Oper} {o : Oper} {a : Act} {Q : Exit → Act → World → Prop}
theorem Lh (hgd:o.guard=none) (s y:Operand) (ho:o.op= .call {callee:= .builtin .append,args:= #[s,y],argTypes:= #[39,39]})  {x:Value} {bs m:List UInt8}
  (hs:a.eval s=v1) (hy:a.eval y=x) (hown:Ow w B v w1 v1 bs) (hB:B≤w.heap.size) (hx:B7 w1 x m) (hm:m≠ []) (hl:bs.length+m.length≤140737488355328)
  (h: ∀ v' w',Ow w B v w' v' (bs++m)→wpList prog ops Q rest (a.put o.dst v') w'):wpList prog ops Q (o::rest) a w1:=by
 obtain⟨i0,hi,hz0,hz1,hz2⟩:=info_parts infoByteB;obtain⟨oa,cap,rfl,hlc,hc⟩:=hx;obtain⟨b,off,rfl,hcell⟩:=hc hm;have hp:=Ψ.2 hm;refine Em _ hgd s y 39 ho B 5 i0 (.int .u8 0) 1 1 underlying39 hi hz0 hz1 hz2 rfl (by decide) v1 bs.length (Lib.byteCells bs) hs hown.own ⟨b,off,none⟩ m.length cap (Lib.byteCells m) hy (by simp [Lib.byteCells]) (fun j u hj=> ?_) (fun u hu=>by obtain⟨_,_,rfl⟩:=List.mem_map.1 hu;rfl) (by unfold maxLen;omega) (by omega) (η hB hown.tu.size) hp ?_
 ·rw [Cr];rw [Lib.byteCells,List.getElem?_map] at hj;obtain⟨z,hz,rfl⟩:=Option.map_eq_some_iff.1 hj;exact hcell j z hz
 ·intro v' w' h1 hg hnew;refine h v' w' (hown.then ⟨?_,Ab.grown hg fun _ hk=>hk,fun k hk=> ?_⟩)
  ·unfold Cw;rw [ζ,show Lib.byteCells (bs++m)=Lib.byteCells bs++Lib.byteCells m by simp [Lib.byteCells]];exact h1
  ·rcases hnew with e|e
   ·exact .inl (e▸hk)
   ·rw [e] at hk;exact .inr (Nat.le_of_eq (φ hk))
end
theorem encV_ne (n:Nat):A7 n≠ []:=Ψ.1 (encV_pos n)
theorem B0.put {f:Ce}  {bs:List UInt8} (h:B0 w g f bv) (hp:Ow w B v w1 v1 bs) (hv:v.ownBlock≠some g):B0 w1 g f bv:=h.turned hp.tu hv
def PutP (w:World) (B:Nat) (v:Value) (bs:List UInt8) (e:Ending) (w':World):Prop:= ∃ v',e= .returned v'∧Ow w B v w' v' bs
theorem put_num (t n:Nat) (bs:List UInt8) (v bv:Value) (B:Nat) (w:World) (hB:B≤w.heap.size) (ho:Cw w B v bs) (hl:bs.length≤100000) (ht:t≤31) (hn:n<18446744073709551616):
  Calls prog 173 #[v,fdV ⟨t,false,n,[]⟩ bv] w (PutP w B v (bs++(A7 (t*2)++A7 n))):=by
 have HV:=Qs (v.ownBlock≠some w.heap.size) (fun e=>by have:=(World.ownsRow.lt ho _ e).2;omega);have hb0:=Aa w (.cells (Gb ⟨t,false,n,[]⟩ bv) 257);have HS:=Qh (Ow.below (Ow.start ho) hb0);have HF0:=Qh (Eu w ⟨t,false,n,[]⟩ bv);have HP0:=Qh (Ow.start (ho.later hb0));have HE1:=Qh (F9 (t*2) (w.alloc (.cells (Gb ⟨t,false,n,[]⟩ bv) 257)) (by omega));rw [show ((t*2:Nat):Int)=(t:Int)*2 by omega] at HE1;have HE2:=Qh (fun W=>F9 n W hn);have HN:=Qs ((A7 (t*2)).length≤10∧(A7 n).length≤10∧A7 (t*2)≠ []∧A7 n≠ []) ⟨De (by omega),De hn,encV_ne _,encV_ne _⟩;have hw1:IntKind.u64.wrap (t:Int)=(t:Int):=by rw [IntKind.wrap_u64];omega
 have hw2:IntKind.u64.wrap ((t:Int)*2)=(t:Int)*2:=by rw [IntKind.wrap_u64];omega
 have hB0:=η hB hb0.size;simp only [Gb] at HF0 HP0 HE1 HS hB0;clear ho hn ht hb0;generalize A7 (t*2)=p at*;generalize A7 n=q at*;go_enter func173,ntmps173;go_wp2_with fail;refine HE1.out.mono ?_;rintro e w1 ⟨v1,rfl,h1,h2⟩;have H1:=Qh h1;have HP1:=Qh (HP0.out.below h2);have hl1:bs.length+p.length≤140737488355328:=by have:=HN.out;omega
 clear h1 h2 HE1 hw1 hw2 HP0;go_wp2_with (at_builtin;refine Lh rfl _ _ rfl rfl rfl HP1.out hB0 H1.out.brow HN.out.2.2.1 hl1 ?_);intro v2 w2 h1;have HP2:=Qh h1;have c2:=(HF0.out.put h1 HV.out).c2;have HE:=Qh (HE2.out w2);have hl2:(bs++p).length+q.length≤140737488355328:=by have:=HN.out;rw [ζ];omega
 clear h1 HP1 H1 hl1;go_wp2_with fail;refine HE.out.mono ?_;rintro e w3 ⟨v3,rfl,h1,h2⟩;have H3:=Qh h1;have HP3:=Qh (HP2.out.below h2);clear h1 h2 c2 HP2;go_wp2_with (at_builtin;refine Lh rfl _ _ rfl rfl rfl HP3.out hB0 H3.out.brow HN.out.2.2.2 hl2 ?_);intro v4 w4 h1;have HP4:=Qh h1;clear h1;go_wp2;go_ret;exact⟨v4,rfl,HS.out.then HP4.out⟩
theorem put_text (t:Nat) (l:List UInt8) (oa:Option Addr) (cap:Nat) (bs:List UInt8) (v:Value) (B:Nat) (w:World) (hB:B≤w.heap.size) (ho:Cw w B v bs) (hl:bs.length≤100000) (ht:t≤31) (hn:l.length≤200) (h0:l≠ [])
  (hd:As (fun k=>v.ownBlock≠some k) w (.slice oa l.length cap) l):
  Calls prog 173 #[v,fdV ⟨t,true,0,l⟩ (.slice oa l.length cap)] w (PutP w B v (bs++(A7 (t*2+1)++A7 l.length++l))):=by
 have HV:=Qs (v.ownBlock≠some w.heap.size) (fun e=>by have:=(World.ownsRow.lt ho _ e).2;omega);have hb0:=Aa w (.cells (Gb ⟨t,true,0,l⟩ (.slice oa l.length cap)) 257);have HS:=Qh (Ow.below (Ow.start ho) hb0);have HF0:=Qh (Eu w ⟨t,true,0,l⟩ (.slice oa l.length cap));have HP0:=Qh (Ow.start (ho.later hb0));have HD0:=Qh (hd.below hb0);have HE1:=Qh (F9 (t*2+1) (w.alloc (.cells (Gb ⟨t,true,0,l⟩ (.slice oa l.length cap)) 257)) (by omega));rw [show ((t*2+1:Nat):Int)=(t:Int)*2+1 by omega] at HE1;have HE2:=Qh (fun W=>F9 l.length W (by omega));have HN:=Qs ((A7 (t*2+1)).length≤10∧(A7 l.length).length≤10∧A7 (t*2+1)≠ []∧A7 l.length≠ []∧l.length≤200∧l≠ []) ⟨De (by omega),De (by omega),encV_ne _,encV_ne _,hn,h0⟩;have hw1:IntKind.u64.wrap (t:Int)=(t:Int):=by rw [IntKind.wrap_u64];omega
 have hw2:IntKind.u64.wrap ((t:Int)*2)=(t:Int)*2:=by rw [IntKind.wrap_u64];omega
 have hw3:IntKind.u64.wrap ((t:Int)*2+1)=(t:Int)*2+1:=by rw [IntKind.wrap_u64];omega
 have hw4:IntKind.u64.wrap (l.length:Int)=(l.length:Int):=by rw [IntKind.wrap_u64];omega
 have hB0:=η hB hb0.size;simp only [Gb] at HF0 HP0 HE1 HS hB0 HD0;clear ho hn ht hb0 hd h0;generalize A7 (t*2+1)=p at*;generalize A7 l.length=q at*;go_enter func173,ntmps173;go_wp2_with fail;refine HE1.out.mono ?_;rintro e w1 ⟨v1,rfl,h1,h2⟩;have H1:=Qh h1;have HP1:=Qh (HP0.out.below h2);have hl1:bs.length+p.length≤140737488355328:=by have:=HN.out;omega
 clear h1 h2 HE1 hw1 hw2 hw3 HP0;go_wp2_with (at_builtin;refine Lh rfl _ _ rfl rfl rfl HP1.out hB0 H1.out.brow HN.out.2.2.1 hl1 ?_);intro v2 w2 h1;have HP2:=Qh h1;have c3:=(HF0.out.put h1 HV.out).c3;have HE:=Qh (HE2.out w2);have hl2:(bs++p).length+q.length≤140737488355328:=by have:=HN.out;rw [ζ];omega
 clear h1 HP1 H1 hl1;go_wp2_with fail;refine HE.out.mono ?_;rintro e w3 ⟨v3,rfl,h1,h2⟩;have H3:=Qh h1;have HP3:=Qh (HP2.out.below h2);clear h1 h2 c3 HP2 hw4;go_wp2_with (at_builtin;refine Lh rfl _ _ rfl rfl rfl HP3.out hB0 H3.out.brow HN.out.2.2.2.1 hl2 ?_);intro v4 w4 h1;have HP4:=Qh h1;have c3:=(HF0.out.put h1 HV.out).c3;have HD4:=Qh (As.turned HD0.out h1.tu fun k hk hs=>hk hs);have hl3:(bs++(p++q)).length+l.length≤140737488355328:=by have:=HN.out;simp only [ζ];omega
 clear h1 HP3 H3 hl2;go_wp2_with (at_builtin;refine Lh rfl _ _ rfl rfl rfl HP4.out hB0 HD4.out.brow HN.out.2.2.2.2.2 hl3 ?_);intro v5 w5 h1;have HP5:=Qh h1;clear h1 c3;go_wp2;go_ret;exact⟨v5,rfl,by simpa only [List.append_assoc] using HS.out.then HP5.out⟩
theorem tlvPut_any (f:Ce) (bs:List UInt8) (v bv:Value) (B:Nat) (w:World) (hB:B≤w.heap.size) (ho:Cw w B v bs) (hl:bs.length≤100000) (hd:As (fun k=>v.ownBlock≠some k) w bv f.data) (h:FldOk f):
  Calls prog 173 #[v,fdV f bv] w (PutP w B v (bs++Lo f)):=by
 obtain⟨t,tx,n,l⟩:=f;obtain⟨h1,h2,h3,h4,h5,h6,h7⟩:=h;simp only at h1 h2 h4 h5 h6 h7 hd;cases tx
 ·obtain rfl:=h7 rfl;exact put_num t n bs v bv B w hB ho hl h2 h4
 ·obtain rfl:=h6 rfl;obtain⟨oa,cap,rfl,h8,h9⟩:=hd;exact put_text t l oa cap bs v B w hB ho hl h2 h5 (by simpa [nz] using h3) ⟨oa,cap,rfl,h8,h9⟩
theorem tlvEnc_any (xs:List (Ce×Value)) (v:Value) (B:Nat) (w:World) (hv:Jl w B v xs) (ho: ∀ x∈xs,FldOk x.1) (hp:xs.Pairwise fun a b=>a.1.tag<b.1.tag) (hl:xs.length≤100) (hr:(Cq (xs.map (·.1))).length≤1024):
  Calls prog 138 #[v] w fun e w'=> ∃ v',e= .returned (.tuple #[v',Vi Vk 0])∧Cw w' w.heap.size v' (Cq (xs.map (·.1)))∧Below w.heap.size w w':=by
 have HSH:=Qh (Nj hv);have HV:=Qh hv;have HO:=Qh ho;have HP:=Qh hp;obtain⟨oa,cap,rfl,_,_⟩:=Nj hv;have HPre:=Qh (fun k=>show (Cq ((xs.take k).map (·.1))).length≤1024 from by
  have e:Cq (xs.map (·.1))=Cq ((xs.take k).map (·.1))++Cq ((xs.drop k).map (·.1)):=by
   unfold Cq;rw [←List.flatMap_append,←List.map_append,List.take_append_drop]
  rw [e,ζ] at hr;omega)
 clear hv ho hp hr;go_enter func138,ntmps138;go_wp2;go_loopw [4,5,11] (fun bv lv iv wr=> ∃ k:Nat,k≤xs.length∧iv= Vi Vk (k:Int)∧lv= Vi Vk (Np ((xs.take k).map (·.1)):Int)∧Hid (Cw wr w.heap.size bv (Cq ((xs.take k).map (·.1))))∧Hid (Below w.heap.size w wr)) (fun _ _ iv _=>xs.length - (intOf iv).toNat)
 case atStart=>exact⟨0,θ _,rfl,rfl,Qh (Cw.nil w _),Qh (χ _ _)⟩
 case round=>
  obtain⟨k,hk,rfl,rfl,HB,HW⟩:=hrel;by_cases hlt:k<xs.length
  ·obtain⟨x,hx,htk,hxm⟩:=Pj xs k hlt;obtain⟨_,_,e2,_,hat⟩:=HSH.out;simp only [Value.slice.injEq,true_and] at e2;obtain⟨rfl,rfl⟩:=e2;obtain⟨b,off,rfl,hcell⟩:=hat k x hx;have q1:(k:Int)<(xs.length:Int):=by omega
   have HCE:=Qh (Bs hcell HW.out);have HOX:=Qh (HO.out x hxm);have hD0:=HV.out.2 x hxm;obtain⟨ox,cx,ex,_,_⟩:=id hD0;have HD:=Qh (hD0.low.below HW.out);have HLT:=Qs (Np ((xs.take (k+1)).map (·.1))=x.1.tag∧Cq ((xs.take (k+1)).map (·.1))=Cq ((xs.take k).map (·.1))++Lo x.1) (by
    rw [htk];unfold Np Cq;simp)
   have HIN:=Qs (FldIn x.1 (Np ((xs.take k).map (·.1)))) (by
    obtain⟨a1,a2,a3,a4,a5,_⟩:=HOX.out;refine⟨⟨a1,a2⟩,?_,a4,a5⟩;unfold Np;split
    ·omega
    ·rename_i f hf;have hm:=List.mem_of_getLast? hf;obtain⟨y,hy,rfl⟩:=List.mem_map.1 hm;have h:=HP.out;rw [←List.take_append_drop (k+1) xs,htk,List.append_assoc,List.pairwise_append] at h;exact h.2.2 y hy x (by simp))
   have hk1:IntKind.i64.wrap ((k:Int)+1)=(k:Int)+1:=by rw [ν];omega
   have hlw:=HW.out.size;have HBL:=Qs ((Cq ((xs.take k).map (·.1))).length≤100000) (η (HPre.out k) (by decide));have HNZ:=Qh HOX.out.2.2.1;generalize Np ((xs.take k).map (·.1))=la at*;generalize Cq ((xs.take k).map (·.1))=pre at*;obtain⟨f,fv⟩:=x;dsimp only at HCE HOX HD HLT HIN HNZ ex hD0;have HFZ:=Qs (B0 (wr.alloc (.cells #[Vi Vk 0,.bool false,.int .u64 0,.slice none 0 0] 257)) wr.heap.size B9 (.slice none 0 0)) (Eu wr B9 (.slice none 0 0));have HBZ:=Qh (Aa wr (.cells #[Vi Vk 0,.bool false,.int .u64 0,.slice none 0 0] 257));have h1v:fv.oneCell'=true:=by rw [ex];rfl
   have HEX:=Qh ex;clear hx htk hxm hcell hat hD0 ex;go_wp2_with (first|(with_reducible refine Ot rfl (.tmp 13) rfl b (off+k*4) f fv rfl HCE.out ?_)|(with_reducible refine C7 rfl (.tmp 7) (.tmp 14) rfl wr.heap.size B9 f (.slice none 0 0) fv rfl rfl HFZ.out h1v ?_));intro w3 hw3;have HF3:=Qs (B0 w3 wr.heap.size f fv) (by rw [hw3.out];exact HFZ.out.row);have HB3:=Qs (Below wr.heap.size wr w3) (by rw [hw3.out];exact Bw HBZ.out (μ _) _);clear hw3 HFZ HBZ HCE;have HO3:=Qh (HB.out.later HB3.out);have HD3:=Qh (HD.out.below HB3.out);have HW3:=Qh (HW.out.trans (HB3.out.mono hlw));have hl3:=HB3.out.size;clear HB HD HW HB3;generalize wr.heap.size=gx at*;have HCK:=Qh (by have:=check_any f la ox cx w3 HIN.out;rw [HNZ.out,←HEX.out] at this;exact this);go_wp2_with (with_reducible refine Eb rfl (.tmp 7) rfl gx f fv rfl HF3.out ?_);refine HCK.out.mono ?_;rintro e w4 ⟨rfl,hb4⟩;have HF4:=Qh (HF3.out.below hb4);have HO4:=Qh (HO3.out.later hb4);have HD4:=Qh (HD3.out.below hb4);have HW4:=Qh (HW3.out.trans (hb4.mono (by omega)));have hl4:=hb4.size;have c0:=HF4.out.c0;clear hb4 HF3 HO3 HD3 HW3 HCK;go_wp2_with (with_reducible refine Eb rfl (.tmp 7) rfl gx f fv rfl HF4.out ?_);refine(tlvPut_any f pre _ fv w.heap.size w4 (by omega) HO4.out HBL.out (HD4.out.mono fun j hj he=> ?_) HOX.out).mono ?_
   ·have:=(World.ownsRow.lt HO4.out j he).1;omega
   rintro e w5 ⟨v5,rfl,h5⟩;have HO5:=Qh h5.own;have HW5:=Qs (Below w.heap.size w w5) (HW4.out.trans ⟨h5.tu.os,h5.tu.tape,h5.tu.output,h5.tu.size,fun j hj=>h5.tu.block j (by omega) fun he=>by have:=(World.ownsRow.lt HO4.out j he).1;omega⟩);clear h5 c0;go_wp2;go_roundw
   case rel=>exact⟨k+1,by omega,by go_num,by rw [HLT.out.1],Qh (by rw [HLT.out.2];exact HO5.out),HW5⟩
   case measure=>simp [intOf];omega
  ·obtain rfl:k=xs.length:=by omega
   have HLE:=Qh (HPre.out xs.length);rw [List.take_length] at HB HLE;obtain⟨pre,hpre⟩: ∃ p,p=Cq (xs.map (·.1)):=⟨_,rfl⟩;rw [←hpre] at HB HLE;have HPR:=Qh hpre;clear hpre;obtain⟨ob,cb,rfl,_,_⟩:=Aj HB.out;have t1:decide (1024<(pre.length:Int))=false:=by have:=HLE.out;simp;omega
   go_wp2;go_ret2;exact⟨.slice ob pre.length cb,rfl,by rw [←HPR.out];exact HB.out,HW.out⟩
def Ih (w:World) (b:Nat) (v:Value) (n:Int):Prop:=w.heap[b]? =some (.cells #[v,Vi Vk n] 225 (0,0))
theorem Ih.lt {b:Nat}  {n:Int} (h:Ih w b v n):b<w.heap.size:=(δ.1 h).1
theorem Ih.c0 {b:Nat}  {n:Int} (h:Ih w b v n):w.cell? ⟨b,0,none⟩=some v:=by unfold Ih at h;simp [World.cell?,h]
theorem Ih.c1 {b:Nat}  {n:Int} (h:Ih w b v n):w.cell? ⟨b,1,none⟩=some (Vi Vk n):=by unfold Ih at h;simp [World.cell?,h]
theorem Ih.free {b:Nat}  {n:Int} (h:Ih w b v n) (j:Nat):w.frozen? ⟨b,j,none⟩=false:=by unfold Ih at h;simp [World.frozen?,h]
theorem Ih.turned {b:Nat}  {n:Int} (h:Ih w b v n) (ht:Ab S w w') (hS: ¬ S b):Ih w' b v n:=(ht.block b h.lt hS).trans h
theorem Ih.below {b:Nat}  {n:Int} (h:Ih w b v n) (hb:Below w.heap.size w w'):Ih w' b v n:=(hb.block b h.lt).trans h
theorem Ih.set {b:Nat} {u:Value} {n n':Int} (h:Ih w b v n) (e:(#[v,Vi Vk n]:Array Value).setIfInBounds j u= #[v',Vi Vk n']):Ih (w.setCell ⟨b,j,none⟩ u) b v' n':=by
 unfold Ih at h ⊢;rw [←e];simp only [World.setCell];rw [Array.getElem?_modify];simp [h]
structure WrAt (w:World) (b B:Nat) (v:Value) (xs:List (Ce×Value)):Prop where
 blk:Ih w b v 0
 own:Jl w B v xs
 lt:b<B
theorem WrAt.below {b:Nat} (h:WrAt w b B v xs) (hb:Below w.heap.size w w'):WrAt w' b B v xs:=⟨h.blk.below hb,h.own.below hb,h.lt⟩
structure Gt (w:World) (b:Nat) (v:Value) (w':World) (v':Value):Prop where
 tu:Ab (fun k=>k=b∨v.ownBlock=some k) w w'
 bl: ∀ k,v'.ownBlock=some k→v.ownBlock=some k∨w.heap.size≤k
theorem Gt.below (b:Nat) (v:Value) (hb:Below w.heap.size w w'):Gt w b v w' v:=⟨Ab.below hb,fun _ h=> .inl h⟩
theorem Gt.trans {b:Nat} {v2:Value} (h:Gt w b v w1 v1) (h2:Gt w1 b v1 w2 v2):Gt w b v w2 v2:=
 ⟨h.tu.trans h2.tu fun k hk=>by
  rcases hk with hk|hk
  ·exact .inl (.inl hk)
  ·exact(h.bl k hk).imp .inr id,fun k hk=>by
  rcases h2.bl k hk with h3|h3
  ·exact h.bl k h3
  ·exact .inr (η h.tu.size h3)⟩
def WrL (w:World) (b B:Nat) (v:Value) (L:List Ce):Prop:= ∃ xs,xs.map (·.1)=L.filter nz∧WrAt w b B v xs
theorem WrL.below {b:Nat} {L:List Ce} (h:WrL w b B v L) (hb:Below w.heap.size w w'):WrL w' b B v L:=by
 obtain⟨xs,h1,h2⟩:=h;exact⟨xs,h1,h2.below hb⟩
def WrPost (w:World) (b B:Nat) (v:Value) (L:List Ce) (e:Ending) (w':World):Prop:=
 e= .returned (.pointer (some ⟨b,0,none⟩))∧ ∃ v',WrL w' b B v' L∧Gt w b v w' v'
theorem run_appFd {p:Ce} {dv:Value} (ty:TypeId) (hown:Jl w B v xs) (hB:B≤w.heap.size) (hd:As (fun k=>B≤k∧v.ownBlock≠some k) w dv p.data) (hl:xs.length+1≤1000000000):
  ∃ v' w',(Builtin.append_ #[223,223] ty #[v,.slice (some ⟨w.heap.size,0,none⟩) 1 1]).run prog (w.alloc (.cells #[Vi Vk (p.tag:Int),.bool p.text,.int .u64 (p.num:Int),dv] 257))= .ok v' w'∧
   Jl w' B v' (xs++[(p,dv)])∧Ab (fun k=>v.ownBlock=some k) w w'∧v'.oneCell'=true∧ ∀ k,v'.ownBlock=some k→v.ownBlock=some k∨w.heap.size≤k:=by
 obtain⟨i0,hi,hz0,hz1,hz2⟩:=info_parts infoFd;have hb:=Aa w (.cells #[Vi Vk (p.tag:Int),.bool p.text,.int .u64 (p.num:Int),dv] 257);have h1d:dv.oneCell'=true:=hd.one;obtain⟨v',w',hr,hown',hg,hnew⟩:=I6 (P:=prog) (w.alloc (.cells #[Vi Vk (p.tag:Int),.bool p.text,.int .u64 (p.num:Int),dv] 257)) B 223 ty 257 i0 zeroFd 4 48 underlying223 hi hz0 hz1 hz2 rfl (by decide) v xs.length (Ly xs) (A2 hown.1 hb) ⟨w.heap.size,0,none⟩ 1 1 (Gb p dv).toList rfl (fun j u hj=>by
  rw [Cr,Nat.zero_add,World.cell?_alloc_new];simpa [Gb] using hj) (fun u hu=>by
  simp [Gb] at hu;rcases hu with rfl|rfl|rfl|rfl
  ·rfl
  ·rfl
  ·rfl
  ·exact h1d) (by unfold maxLen;omega) (by omega) (η hB hb.size) (by decide)
 have hrow: ∀ (x:Value) (l:List UInt8),As (fun k=>B≤k∧k<w.heap.size∧v.ownBlock≠some k) w x l→As (fun k=>B≤k∧k<w'.heap.size∧v'.ownBlock≠some k) w' x l:=fun x l hx=>
  ((hx.below hb).turned (S:=fun k=>v.ownBlock=some k) (Ab.grown hg fun _ hk=>hk) fun k hk hs=>hk.2.2 hs).mono fun k hk=>⟨hk.1,Nat.lt_of_lt_of_le hk.2.1 (η hb.size hg.size),fun e=>by
   rcases hnew with h|h
   ·rw [h] at e;exact hk.2.2 e
   ·rw [h] at e;have:=φ e;have:=hb.size;omega⟩
 refine⟨v',w',hr,⟨?_,fun x hx=> ?_⟩,(Ab.below hb).trans (Ab.grown (S:=fun k=>v.ownBlock=some k) hg fun _ hk=>hk) fun _ h=> .inl h,?_,fun k hk=> ?_⟩
 ·rw [ζ,fdCells_snoc];exact hown'
 ·rcases List.mem_append.1 hx with hx|hx
  ·exact hrow _ _ (hown.2 x hx)
  ·simp at hx;rw [hx];exact hrow _ _ (hd.low.mono fun k hk=>⟨hk.1.1,hk.2,hk.1.2⟩)
 ·obtain⟨_,_,e,_⟩:=Aj hown';rw [e];rfl
 ·rcases hnew with h|h
  ·exact .inl (h▸hk)
  ·rw [h] at hk;have:=φ hk;have:=hb.size;exact .inr (by omega)
theorem wp_appFd (s y:Operand) (ho:o.op= .call {callee:= .builtin .append,args:= #[s,y],argTypes:= #[223,223]})  (p:Ce) (dv:Value)
  (hs:a.eval s=v) (hy:a.eval y= .slice (some ⟨w.heap.size,0,none⟩) 1 1) (hown:Jl w B v xs) (hB:B≤w.heap.size) (hd:As (fun k=>B≤k∧v.ownBlock≠some k) w dv p.data) (hl:xs.length+1≤1000000000)
  (h: ∀ v' w',Jl w' B v' (xs++[(p,dv)])→Ab (fun k=>v.ownBlock=some k) w w'→v'.oneCell'=true→(∀ k,v'.ownBlock=some k→v.ownBlock=some k∨w.heap.size≤k)→K (a.put o.dst v') w'):o.wp prog a (w.alloc (.cells #[Vi Vk (p.tag:Int),.bool p.text,.int .u64 (p.num:Int),dv] 257)) K Q:=by
 obtain⟨v',w',hr,h1,h2,h3,h4⟩:=run_appFd o.type hown hB hd hl;unfold Oper.wp execOp;simp only [ho,resolve,invoke,builtin,Sem.run_bind,Sem.run_pure,Result.andThen_ok,List.map_toArray,List.map_cons,List.map_nil,hs,hy,hr];exact h v' w' h1 h2 h3 h4
theorem lastT_lt {fs:List Ce} {t:Nat} (h: ∀ f∈fs,f.tag<t) (ht:0<t):Np fs<t:=by
 unfold Np;split
 ·exact ht
 ·rename_i f hf;exact h f (List.mem_of_getLast? hf)
theorem wrAdd_any (w:World) (b B:Nat) (v:Value) (L:List Ce) (f:Ce) (bv:Value) (h:WrL w b B v L) (hB:B≤w.heap.size) (hd:As (fun k=>B≤k∧v.ownBlock≠some k) w bv f.data) (hf:FldIn f 0) (hu: ∀ g∈L,g.tag<f.tag) (hl:L.length≤100):
  Calls prog 232 #[.pointer (some ⟨b,0,none⟩),fdV f bv] w (WrPost w b B v (L++[f])):=by
 obtain⟨xs,hxs,hw⟩:=h;have hxl:xs.length≤100:=by
  have:xs.length=(L.filter nz).length:=by rw [←hxs,List.length_map]
  have:=List.length_filter_le nz L;omega
 have hbo:=hw.own.1;have hvb:v.ownBlock≠some b:=fun e=>by have:=(World.ownsRow.lt hbo b e).1;have:=hw.lt;omega
 have HIN:=Qs (FldIn f (Np (xs.map (·.1)))) ⟨hf.tag,lastT_lt (fun g hg=>by rw [hxs] at hg;exact hu g (List.mem_filter.1 hg).1) (by have:=hf.tag;omega),hf.num,hf.len⟩;have HFL:=Qs ((L++[f]).filter nz=if nz f then xs.map (·.1)++[f] else xs.map (·.1)) (by
  rw [List.filter_append,hxs];rcases hz:nz f
  ·simp [hz]
  ·simp [hz])
 obtain⟨ob,cb,rfl,_,_⟩:=id hd;have HB0:=Qh (Aa w (.cells (Gb f (.slice ob f.data.length cb)) 257));have HW0:=Qh (hw.below HB0.out);have HF0:=Qh (Eu w f (.slice ob f.data.length cb));have HD:=Qh (hd.low);have hbl:=hw.blk.lt;have HB:=Qh hB;have HXL:=Qh hxl;have HVB:=Qh hvb;have HFP:=Qh (fun g (hg:v.ownBlock=some g)=>(World.ownsRow.lt hbo g hg).2);have HCK:=Qh (fun W=>check_any f (Np (xs.map (·.1))) ob cb W HIN.out);have c0:=HW0.out.blk.c0;have c1:=HW0.out.blk.c1;have hlast:(xs=[]∧Np (xs.map (·.1))=0)∨ ∃ g cap,v= .slice (some ⟨g,0,none⟩) xs.length cap∧xs.length≤cap∧0<xs.length∧(w.alloc (.cells (Gb f (.slice ob f.data.length cb)) 257)).cell? ⟨g,0+(xs.length - 1)*4+0,none⟩=some (Vi Vk (Np (xs.map (·.1)):Int)):=by
  by_cases hn:xs=[]
  ·left;subst hn;exact⟨rfl,rfl⟩
  ·right;have hp:=Ψ.2 hn;obtain⟨g,cap,e,h1,h2⟩:=HW0.out.own.at hp;refine⟨g,cap,e,h1,hp,?_⟩;have hx:xs[xs.length - 1]? =some (xs.getLast hn):=by rw [List.getLast_eq_getElem];exact Θ (by omega)
   have:=h2 _ _ hx 0 (Vi Vk ((xs.getLast hn).1.tag:Int)) rfl;rw [this];unfold Np;rw [List.getLast?_map,List.getLast?_eq_some_getLast hn];rfl
 clear hw hxs hd hf hu hl hB hxl hbo hvb;generalize Np (xs.map (·.1))=la at*;simp only [Gb] at HB0 HW0 HF0 c0 c1 hlast;have hne: ¬ b=w.heap.size:=by omega
 obtain⟨fv,hfv⟩: ∃ fv,fv=Value.slice ob f.data.length cb:=⟨_,rfl⟩;have HFV:=Qs (fv.oneCell'=true) (by rw [hfv];rfl);rw [←hfv] at HB0 HW0 HF0 HD HCK c0 c1 hlast;rw [←hfv];obtain⟨vg,hvg⟩: ∃ vg,vg=v:=⟨v,rfl⟩;rw [←hvg];have HGO:=Qh (fun k (h:v.ownBlock=some k)=>show vg.ownBlock=some k from hvg▸h);clear hfv hvg;rcases hlast with⟨hn,hla⟩|⟨g,cap,hvs,hcap,hp,hc⟩;obtain⟨oa,cap,hvs,_,_⟩:=Aj HW0.out.own.1;rw [hn] at hvs;rw [hvs] at c0;have HVS:=Qh hvs;have HLA:=Qh hla;clear hn hvs hla;go_enter func232,ntmps232;go_wp2_with (with_reducible refine Eb rfl (.tmp 3) rfl w.heap.size f fv rfl HF0.out ?_);have HC1:=Qh (HCK.out (w.alloc (.cells #[Vi Vk (f.tag:Int),.bool f.text,.int .u64 (f.num:Int),fv] 257)));rw [HLA.out,show ((0:Nat):Int)=0 from rfl] at HC1;rotate_left;obtain⟨k,hk⟩: ∃ k,xs.length=k+1:=⟨xs.length - 1,by omega⟩;rw [hk] at hvs hc hcap;rw [hvs] at c0;have HVS:=Qh hvs;have HKX:=Qh hk;simp only [Nat.add_sub_cancel,Nat.zero_add,Nat.add_zero] at hc;have hk1:wrap64 (k:Int)=(k:Int):=by have:=HXL.out;unfold wrap64;omega
 have q1:decide (0<((k+1:Nat):Int))=true:=ξ (by omega);have q2:(k:Int)<((k+1:Nat):Int):=by omega
 clear hvs hk hp;go_enter func232,ntmps232;go_wp2_with (with_reducible refine Eb rfl (.tmp 3) rfl w.heap.size f fv rfl HF0.out ?_);have HC1:=Qh (HCK.out (w.alloc (.cells #[Vi Vk (f.tag:Int),.bool f.text,.int .u64 (f.num:Int),fv] 257)))
 all_goals
  rcases hz:nz f with _|_
  ·rw [hz] at HC1 HFL;simp only [Bool.false_eq_true,if_false] at HC1 HFL;clear hz;refine HC1.out.mono ?_;rintro e w1 ⟨rfl,hb1⟩;have HW1:=Qh (HW0.out.below hb1);have HB1:=Qh (Below.next HB0.out hb1);have d1:=HW1.out.blk.c1;have f1:=HW1.out.blk.free 1;clear hb1 HC1 HCK HB0 HW0;go_wp2;go_ret;have HB3:=(HW1.out.blk.set (j:=1) (u:= Vi Vk 22) (v':=v) (n':=22) rfl).set (j:=1) (u:= Vi Vk 0) (v':=v) (n':=0) rfl;have ht:=(Ab.setCell (S:=fun k=>k=b) w1 ⟨b,1,none⟩ (Vi Vk 22) rfl).trans (Ab.setCell (S:=fun k=>k=b) _ ⟨b,1,none⟩ (Vi Vk 0) rfl) fun _ h=> .inl h;refine⟨rfl,v,⟨xs,HFL.out.symm,HB3,HW1.out.own.turned ht fun k hk=> .inl (by rw [hk];exact HW1.out.lt),HW1.out.lt⟩,⟨(Ab.below HB1.out).trans ht fun k hk=> .inl (.inl hk),fun k hk=> .inl (HGO.out k hk)⟩⟩
  ·rw [hz] at HC1 HFL;simp only [if_true] at HC1 HFL;clear hz;refine HC1.out.mono ?_;rintro e w1 ⟨rfl,hb1⟩;have HW1:=Qh (HW0.out.below hb1);have HB1:=Qh (Below.next HB0.out hb1);have HF1:=Qh (HF0.out.below hb1);have HD1:=Qh (((HD.out.mono (A':=fun k=>B≤k∧v.ownBlock≠some k) fun k hk=>hk.1).below HB0.out).below hb1);have d1:=HW1.out.blk.c1;have f1:=HW1.out.blk.free 1;clear hb1 HC1 HCK HB0 HW0 HF0 HD;go_wp2_with fail;have HW2:=Qs (WrAt (w1.setCell ⟨b,1,none⟩ (Vi Vk 0)) b B v xs) ⟨HW1.out.blk.set rfl,HW1.out.own.turned (Ab.setCell (S:=fun k=>k=b) w1 ⟨b,1,none⟩ (Vi Vk 0) rfl) fun k hk=> .inl (by rw [hk];exact HW1.out.lt),HW1.out.lt⟩;have HT2:=Qh (show Ab (fun k=>k=b) w (w1.setCell ⟨b,1,none⟩ (Vi Vk 0)) from(Ab.below HB1.out).trans (Ab.setCell (S:=fun k=>k=b) w1 ⟨b,1,none⟩ (Vi Vk 0) rfl) fun _ h=> .inl h);have HF2:=Qs (B0 (w1.setCell ⟨b,1,none⟩ (Vi Vk 0)) w.heap.size f fv) (HF1.out.other (fun e=>hne e.symm));have HD2:=Qh (HD1.out.turned (Ab.setCell (S:=fun k=>k=b) w1 ⟨b,1,none⟩ (Vi Vk 0) rfl) fun k hk he=>by have:=HW1.out.lt;omega);clear d1 f1 HW1 HF1 HD1 HB1;generalize w1.setCell ⟨b,1,none⟩ (Vi Vk 0)=w2 at*;refine ε (S:=fun w'=>Ab (fun k=>k=b∨v.ownBlock=some k) w2 w') (by kernel_rfl) (Ab.below (Ac w2 1)) (fun hHeld=> ?_);refine tq 0 rfl ?_;refine tq 1 rfl ?_;refine tq 2 rfl ?_;refine tq 3 rfl ?_;refine tkl 5 w.heap.size 0 [Vi Vk (f.tag:Int),.bool f.text,.int .u64 (f.num:Int),fv] rfl rfl (fun w' h j u hu=>by rw [Nat.zero_add];exact h.cell (by rw [HF2.out.cell];simpa [Gb] using hu) (by rintro(hc|hc);exact hne hc.symm;exact Nat.lt_irrefl _ (HFP.out _ hc))) underlying257 rfl (by rw [fdInfo];rfl) ?_;simp only [pA,pB,pC,pD];have hbd:Below w2.heap.size w2 (World.drew w2):=Ac w2 1;have HWd:=Qh (HW2.out.below hbd);have HDd:=Qh (HD2.out.below hbd);have HTd:=Qh (show Ab (fun k=>k=b) w (World.drew w2) from HT2.out.trans (Ab.below hbd) fun _ h=> .inl h);have HSd:=Qh (show Ab (fun k=>k=b∨v.ownBlock=some k) w2 (World.drew w2) from Ab.below hbd);clear hbd hHeld;generalize World.drew w2=Wd at*;have c0:Wd.cell? ⟨b,0,none⟩=some v:=HWd.out.blk.c0;have HBA:=Qh (Aa Wd (.cells #[Vi Vk (f.tag:Int),.bool f.text,.int .u64 (f.num:Int),fv] 257));have HSA:=Qh (HSd.out.trans (Ab.below (S:=fun _=>False) HBA.out) fun _ h=>h.elim);refine wpAnyH_ready (rs:=[4,6]) (by kernel_rfl) (by simp) ?_;refine AllReadyH.cons rfl (fun K hK=> ?_) (AllReadyH.cons rfl (fun K hK=> ?_) AllReadyH.nil);go_simp;refine hK.out _ _ HSd.out (fun hHeld=> ?_);clear hK K c0;refine Rd 6 rfl fun K hK=> ?_;go_simp;refine hK.out _ _ HSA.out (fun hHeld=> ?_);clear hK K;rotate_left;go_simp;refine hK.out _ _ HSA.out (fun hHeld=> ?_);clear hK K c0;have c0:(Wd.alloc (.cells #[Vi Vk (f.tag:Int),.bool f.text,.int .u64 (f.num:Int),fv] 257)).cell? ⟨b,0,none⟩=some v:=(HWd.out.below HBA.out).blk.c0;refine Rd 4 rfl fun K hK=> ?_;go_simp;refine hK.out _ _ HSA.out (fun hHeld=> ?_);clear hK K c0
   all_goals
    refine Rd 7 rfl fun K hK=> ?_;rw [κ (by kernel_rfl)];refine wp_appFd (.tmp 57) (.tmp 59) rfl f fv rfl rfl HWd.out.own (η HB.out HTd.out.size) HDd.out (by have:=HXL.out;omega) ?_;intro v' W3 hown3 htu3 hone3 hbl3;have HB3:=Qh (HWd.out.blk.turned htu3 HVB.out);have HO3:=Qh hown3;have HT3:=Qh htu3;have HL3:=Qh hbl3;have HSE:=Qh (show Ab (fun k=>k=b∨v.ownBlock=some k) w2 W3 from HSd.out.trans htu3 fun k hk=> .inl (.inr hk));refine hK.out _ _ HSE.out (fun hHeld=> ?_);clear hK K hown3 htu3 hbl3;refine tq 8 rfl ?_;refine tq 9 rfl ?_;refine Rd 10 rfl fun K hK=> ?_;rw [κ (by kernel_rfl)];refine Fi 223 (.tmp 62) (.tmp 60) rfl b 0 v' v (by kernel_rfl) hone3 rfl rfl HB3.out.c0 (HB3.out.free 0) ?_;have HSF:=Qh (show Ab (fun k=>k=b) W3 (W3.setCell ⟨b,0,none⟩ v') from Ab.setCell _ _ _ rfl);refine hK.out _ _ (HSE.out.trans HSF.out fun k hk=> .inl (.inl hk)) (fun _=> ?_);clear hK K;refine Ξ (by kernel_rfl) ?_ _;go_wp2;go_ret;refine⟨rfl,v',⟨xs++[(f,fv)],by rw [HFL.out];simp,HB3.out.set rfl,HO3.out.turned HSF.out fun k hk=> .inl (by rw [hk];exact HWd.out.lt),HWd.out.lt⟩,⟨((HTd.out.mono fun k hk=> .inl hk).trans HT3.out fun k hk=> .inl (.inr (HGO.out k hk))).trans HSF.out fun k hk=> .inl (.inl hk),fun k hk=>(HL3.out k hk).imp (HGO.out k) (η HTd.out.size)⟩⟩
theorem Fq (w:World) (b B:Nat) (v:Value) (L:List Ce) (t:Nat) (ti n:Int) (hti:ti=(t:Int)) (h:WrL w b B v L) (hB:B≤w.heap.size) (hn:0≤n∧n<18446744073709551616) (ht:1≤t∧t≤31) (hu: ∀ g∈L,g.tag<t) (hl:L.length≤100):
  Calls prog 229 #[.pointer (some ⟨b,0,none⟩),Vi Vk ti,.int .u64 n] w (WrPost w b B v (L++[nF t n])):=by
 have HA:=Qs (Calls prog 232 #[.pointer (some ⟨b,0,none⟩),.agg #[Vi Vk ti,.bool false,.int .u64 n,.slice none 0 0]] w (WrPost w b B v (L++[nF t n]))) (by
  have:=wrAdd_any w b B v L (nF t n) (.slice none 0 0) h hB (Ho _ _) ⟨ht,by show 0<t;omega,by show n.toNat<_;omega,by show 0≤200;omega⟩ hu hl;simp only [fdV,nF] at this;rw [show ((n.toNat:Nat):Int)=n by omega,←hti] at this;exact this)
 clear h hB hn ht hu hl hti;go_enter func229,ntmps229;go_wp2_with fail;refine HA.out.mono ?_;rintro e w1 ⟨rfl,v1,h1,h2⟩;go_wp2;go_ret;exact⟨rfl,v1,h1,h2⟩
theorem u64_flip (a:Nat) (ha:a<18446744073709551616):bits .xor .u64 (a:Int) 18446744073709551615=18446744073709551615 - (a:Int):=by
 show IntKind.u64.wrap ((BitVec.ofInt 64 (a:Int)^^^BitVec.ofInt 64 18446744073709551615).toNat:Int)=_;have h1:BitVec.ofInt 64 18446744073709551615=BitVec.allOnes 64:=by decide
 rw [h1,BitVec.xor_allOnes,BitVec.toNat_not,ofInt_u64 a ha,IntKind.wrap_u64];omega
theorem zig_any (n:Int) (w:World) (hn: -1000000≤n∧n≤1000000):Calls prog 230 #[Vi Vk n] w fun e w'=>e= .returned (.int .u64 (zigV n:Int))∧w=w':=by
 have HZ:=Qs (bits .xor .u64 (IntKind.u64.wrap (IntKind.u64.wrap n*2)) (IntKind.u64.wrap (n / 9223372036854775808))=(zigV n:Int)) (by
  unfold zigV;split
  ·rw [show n / 9223372036854775808=((0:Nat):Int) by omega,show IntKind.u64.wrap (IntKind.u64.wrap n*2)=((2*n).toNat:Int) by simp only [IntKind.wrap_u64];omega,show IntKind.u64.wrap ((0:Nat):Int)=((0:Nat):Int) from rfl,bits_xor_u64_nat _ _ (by omega) (by decide),Nat.xor_zero]
  ·rw [show n / 9223372036854775808= -1 by omega,show IntKind.u64.wrap (IntKind.u64.wrap n*2)=((18446744073709551616+2*n).toNat:Int) by simp only [IntKind.wrap_u64];omega,show IntKind.u64.wrap (-1)=18446744073709551615 from rfl,u64_flip _ (by omega)];omega)
 generalize zigV n=z at*;rcases hk:decide (0≤n) with _|_
 all_goals
  simp at hk;have h1:IntKind.u64.wrap (IntKind.u64.wrap n*2)=IntKind.u64.wrap (IntKind.u64.wrap n*2):=rfl;go_enter func230,ntmps230;go_wp2;go_ret;refine⟨?_,rfl⟩;rw [←HZ.out];simp [IntKind.wrap_u64]
  first
   |done
   |(congr 1<;>omega)
theorem wrInt_any (w:World) (b B:Nat) (v:Value) (L:List Ce) (t:Nat) (ti n:Int) (hti:ti=(t:Int)) (h:WrL w b B v L) (hB:B≤w.heap.size) (hn: -1000000≤n∧n≤1000000) (ht:1≤t∧t≤31) (hu: ∀ g∈L,g.tag<t) (hl:L.length≤100):
  Calls prog 221 #[.pointer (some ⟨b,0,none⟩),Vi Vk ti,Vi Vk n] w (WrPost w b B v (L++[⟨t,false,zigV n,[]⟩])):=by
 have HZ:=Qh (zig_any n w hn);have hz:zigV n<18446744073709551616:=by unfold zigV;split<;>omega
 have HN:=Qh (Fq w b B v L t ti (zigV n:Int) hti h hB ⟨by omega,by omega⟩ ht hu hl);have e:nF t (zigV n:Int)=⟨t,false,zigV n,[]⟩:=by unfold nF;rw [Int.toNat_natCast]
 rw [e] at HN;clear h hB hn ht hu hl hti hz e;generalize zigV n=z at*;go_enter func221,ntmps221;go_wp2_with fail;refine HZ.out.mono ?_;rintro e w1 ⟨rfl,rfl⟩;go_wp2_with fail;refine HN.out.mono ?_;rintro e w1 ⟨rfl,v1,h1,h2⟩;go_wp2;go_ret;exact⟨rfl,v1,h1,h2⟩
theorem wrText_any (w:World) (b B:Nat) (v x:Value) (L:List Ce) (t:Nat) (ti:Int) (l:List UInt8) (hti:ti=(t:Int)) (hx:B7 w x l) (h:WrL w b B v L) (hB:B≤w.heap.size) (hn:l.length≤200) (ht:1≤t∧t≤31) (hu: ∀ g∈L,g.tag<t) (hl:L.length≤100):
  Calls prog 245 #[.pointer (some ⟨b,0,none⟩),Vi Vk ti,x] w (WrPost w b B v (L++[tF t l])):=by
 have HC:=Qh (clone_any l x w hx (by omega));have HA:=Qh (fun(w1:World) (x1:Value) (hb1:Below w.heap.size w w1) (ho1:Cw w1 w.heap.size x1 l)=>show Calls prog 232 #[.pointer (some ⟨b,0,none⟩),.agg #[Vi Vk ti,.bool true,.int .u64 0,x1]] w1 (WrPost w1 b B v (L++[tF t l])) from by
  have:=wrAdd_any w1 b B v L (tF t l) x1 (h.below hb1) (η hB hb1.size) (F8 ho1 fun k hk=>⟨η hB hk,fun e=>by
   obtain⟨xs,_,hw⟩:=h;have:=(World.ownsRow.lt hw.own.1 k e).2;omega⟩) ⟨ht,by show 0<t;omega,by show 0<_;omega,hn⟩ hu hl
  simp only [fdV,tF] at this;rw [←hti] at this;exact this)
 clear h hB hn ht hu hl hti hx;go_enter func245,ntmps245;go_wp2_with fail;refine HC.out.mono ?_;rintro e w1 ⟨x1,rfl,ho1,hb1⟩;obtain⟨ox,cx,rfl,_,_⟩:=Aj ho1;have HB1:=Qh hb1;have HA1:=Qh (HA.out w1 _ hb1 ho1);clear HA hb1 ho1;go_wp2_with fail;refine HA1.out.mono ?_;rintro e w2 ⟨rfl,v1,h1,h2⟩;go_wp2;go_ret;exact⟨rfl,v1,h1,(Gt.below b v HB1.out).trans h2⟩
def WrQ (w:World) (b B:Nat) (v:Value) (L:List Ce) (e:Ending) (w':World):Prop:=e= .returned (.tuple #[])∧ ∃ v',WrL w' b B v' L∧Gt w b v w' v'
def L3 (e:Ev):List Ce:=[nF 1 e.kind,nF 2 e.order,nF 3 e.item]
structure EvNum (e:Ev):Prop where
 kind:0≤e.kind∧e.kind<9223372036854775808
 order:0≤e.order∧e.order<9223372036854775808
 item:0≤e.item∧e.item<9223372036854775808
 qty: -1000000≤e.qty∧e.qty≤1000000
 price:0≤e.price∧e.price<9223372036854775808
 cur:0≤e.cur∧e.cur<9223372036854775808
 tax:0≤e.tax∧e.tax<9223372036854775808
 stamp:0≤e.stamp∧e.stamp<9223372036854775808
theorem N6 {n:Int} (h:0≤n∧n<9223372036854775808):IntKind.u64.wrap n=n:=by rw [IntKind.wrap_u64];omega
structure BoxW (w w0:World) (b B:Nat) (v0 v:Value) (L:List Ce) (g:Nat) (cs:List Value):Prop where
 wr:WrL w0 b B v L
 st:Gt w b v0 w0 v
 sz:B≤w0.heap.size
 lt:g<w0.heap.size
 ne: ¬ (g=b∨v.ownBlock=some g)
 cell: ∀ (j:Nat) u,cs[j]? =some u→w0.cell? ⟨g,j,none⟩=some u
theorem Mg {b:Nat} {L:List Ce} (h:WrL w b B v L) (hB:B≤w.heap.size) (cs:List Value) (T:TypeId):BoxW w (w.alloc (.cells cs.toArray T)) b B v v L w.heap.size cs:=
 ⟨h.below (Aa w _),Gt.below b v (Aa w _),η hB (Aa w _).size,by rw [World.size_alloc];omega,by
  obtain⟨xs,_,hw⟩:=h
  rintro(e|e)
  ·have:=hw.blk.lt;omega
  ·have:=(World.ownsRow.lt hw.own.1 _ e).2;omega,fun j u hj=>by rw [World.cell?_alloc_new];simpa using hj⟩
theorem BoxW.step {b:Nat} {v0:Value} {L L1:List Ce}  (h:BoxW w w0 b B v0 v L g cs) (hL:WrL w1 b B v1 L1) (hs:Gt w0 b v w1 v1):BoxW w w1 b B v0 v1 L1 g cs:=
 ⟨hL,h.st.trans hs,η h.sz hs.tu.size,Nat.lt_of_lt_of_le h.lt hs.tu.size,fun e=>by
  rcases e with e|e
  ·exact h.ne (.inl e)
  ·rcases hs.bl g e with e2|e2
   ·exact h.ne (.inr e2)
   ·have:=h.lt;omega,fun j u hj=>hs.tu.cell (h.cell j u hj) h.ne⟩
theorem BoxW.old {b:Nat} {v0:Value} {L:List Ce}  (h:BoxW w w0 b B v0 v L g cs): ∀ k,w0.heap.size≤k→ ¬ (k=b∨v.ownBlock=some k):=by
 obtain⟨xs,_,hw⟩:=h.wr;rintro k hk (e|e)
 ·have:=hw.blk.lt;omega
 ·have:=(World.ownsRow.lt hw.own.1 _ e).2;omega
theorem BoxW.below {b:Nat} {v0:Value} {L:List Ce}  (h:BoxW w w0 b B v0 v L g cs) (hb:Below w0.heap.size w0 w1):BoxW w w1 b B v0 v L g cs:=h.step (h.wr.below hb) (Gt.below b v hb)
theorem conv_any (w:World) (l:List UInt8): ∃ oa cap w',(convert 9 39 (.string ⟨l.toArray⟩)).run prog w= .ok (.slice oa l.length cap) w'∧As (fun k=>w.heap.size≤k) w' (.slice oa l.length cap) l∧Below w.heap.size w w':=by
 have h:=run_bytes_of_string (P:=prog) w 9 39 5 ⟨l.toArray⟩ underlying9 underlying39 underlying5;refine⟨_,_,_,h,⟨_,_,rfl,?_,fun hn=>⟨_,_,rfl,μ _,fun j x hj=> ?_⟩⟩,(Ac w 1).trans (Aa w.drew _)⟩
 ·exact grownCap_ge w l.length 0 5
 ·have hjl:j<l.length:=(List.getElem?_eq_some_iff.1 hj).1;have h0: ∀ (c:Array Value) (t:TypeId) (fz:Nat×Nat),(w.drew.alloc (.cells c t fz)).cell? ⟨w.heap.size,0+j,none⟩=c[j]? :=fun c t fz=>by
   rw [Nat.zero_add];have e:(w.drew.alloc (.cells c t fz)).heap[w.heap.size]? =some (.cells c t fz):=Array.getElem?_push_size;unfold World.cell?;rw [e];rfl
  rw [h0];unfold bytesRow;rw [Array.getElem?_append_left (by simpa using hjl)];simp [hj]
theorem head_any (e:Ev) (w:World) (b B:Nat) (v:Value) (h:WrL w b B v []) (hB:B≤w.heap.size) (hn:EvNum e):
  Calls prog 228 #[v1V e,.pointer (some ⟨b,0,none⟩)] w (WrQ w b B v (L3 e)):=by
 have HX:=Qh (Mg h hB [Vi Vk e.kind,Vi Vk e.order,Vi Vk e.item,Vi Vk e.qty,Vi Vk e.price] 227);have HN:=Qh hn;have hk0:=N6 hn.kind;have hk1:=N6 hn.order;have hk2:=N6 hn.item;clear h hn hB;go_enter func228,ntmps228;go_wp2_with fail;generalize w.alloc (.cells #[Vi Vk e.kind,Vi Vk e.order,Vi Vk e.item,Vi Vk e.qty,Vi Vk e.price] 227)=w0 at*;refine ε (S:=fun w'=>Ab (fun k=>k=b∨v.ownBlock=some k) w0 w') (by kernel_rfl) (Ab.below (Ac w0 1)) (fun hHeld=> ?_);have FX1:=Qh (fun(wF:World) (hSw:(fun w'=>Ab (fun k=>k=b∨v.ownBlock=some k) w0 w') wF)=>And.intro ((hSw.cell (HX.out.cell 0 _ rfl) HX.out.ne)) (And.intro ((hSw.cell (HX.out.cell 1 _ rfl) HX.out.ne)) ((hSw.cell (HX.out.cell 2 _ rfl) HX.out.ne))));refine tf FX1 0 rfl ?_;refine tf FX1 1 rfl ?_;refine tf FX1 2 rfl ?_;refine tf FX1 3 rfl ?_;refine tf FX1 5 rfl ?_;refine tf FX1 6 rfl ?_;refine tf FX1 7 rfl ?_;refine tf FX1 9 rfl ?_;refine tf FX1 10 rfl ?_;refine tf FX1 11 rfl ?_;clear FX1;have hbd:Below w0.heap.size w0 (World.drew w0):=Ac w0 1;have HR:=Qh (Gt.below b v hbd);replace HX:=Qh (HX.out.below hbd);clear hbd hHeld;generalize World.drew w0=Wd at*;refine Rd 4 rfl fun K hK=> ?_;go_simp;refine(Fq Wd b B v _ 1 1 e.kind rfl HX.out.wr HX.out.sz (by have:=HN.out.kind;omega) (by omega) (fun g hg=>by cases hg) (by simp)).mono ?_;rintro x w1 ⟨rfl,v1,hL,hS⟩;replace HR:=Qh (HR.out.trans hS);replace HX:=Qh (HX.out.step hL hS);clear hL hS;go_wp2_with fail;refine hK.out _ _ HR.out.tu (fun hHeld=> ?_);clear hK K hHeld;refine Rd 8 rfl fun K hK=> ?_;go_simp;refine(Fq w1 b B v1 _ 2 2 e.order rfl HX.out.wr HX.out.sz (by have:=HN.out.order;omega) (by omega) (by simp [nF]) (by simp)).mono ?_;rintro x w2 ⟨rfl,v2,hL,hS⟩;replace HR:=Qh (HR.out.trans hS);replace HX:=Qh (HX.out.step hL hS);clear hL hS;go_wp2_with fail;refine hK.out _ _ HR.out.tu (fun hHeld=> ?_);clear hK K hHeld;refine Rd 12 rfl fun K hK=> ?_;go_simp;refine(Fq w2 b B v2 _ 3 3 e.item rfl HX.out.wr HX.out.sz (by have:=HN.out.item;omega) (by omega) (by simp [nF]) (by simp)).mono ?_;rintro x w3 ⟨rfl,v3,hL,hS⟩;replace HR:=Qh (HR.out.trans hS);replace HX:=Qh (HX.out.step hL hS);clear hL hS;go_wp2_with fail;refine hK.out _ _ HR.out.tu (fun hHeld=> ?_);clear hK K hHeld;refine Ξ (by kernel_rfl) ?_ _;go_wp2;exact π (v:= .tuple #[]) (by simp [results,results228,go_sem]) rfl ⟨rfl,v3,by simpa [L3] using HX.out.wr,HX.out.st⟩
theorem write1_any (e:Ev) (w:World) (b B:Nat) (v:Value) (h:WrL w b B v []) (hB:B≤w.heap.size) (hn:EvNum e):
  Calls prog 226 #[v1V e,.pointer (some ⟨b,0,none⟩)] w (WrQ w b B v (cand 1 e)):=by
 have HX:=Qh (Mg h hB [Vi Vk e.kind,Vi Vk e.order,Vi Vk e.item,Vi Vk e.qty,Vi Vk e.price] 227);have HN:=Qh hn;have hk4:=N6 hn.price;clear h hn hB;go_enter func226,ntmps226;go_wp2_with fail;refine(head_any e _ b B v HX.out.wr HX.out.sz HN.out).mono ?_;rintro x w1 ⟨rfl,v1,hL,hS⟩;replace HX:=Qh (HX.out.step hL hS);clear hL hS;go_wp2_with fail;refine ε (S:=fun w'=>Ab (fun k=>k=b∨v1.ownBlock=some k) w1 w') (by kernel_rfl) (Ab.below (Ac w1 1)) (fun hHeld=> ?_);have FX2:=Qh (fun(wF:World) (hSw:(fun w'=>Ab (fun k=>k=b∨v1.ownBlock=some k) w1 w') wF)=>And.intro ((hSw.cell (HX.out.cell 3 _ rfl) HX.out.ne)) ((hSw.cell (HX.out.cell 4 _ rfl) HX.out.ne)));refine tf FX2 0 rfl ?_;refine tf FX2 1 rfl ?_;refine tf FX2 2 rfl ?_;refine tf FX2 4 rfl ?_;refine tf FX2 5 rfl ?_;refine tf FX2 6 rfl ?_;clear FX2;have hbd:Below w1.heap.size w1 (World.drew w1):=Ac w1 1;have HR:=Qh (Gt.below b v1 hbd);replace HX:=Qh (HX.out.below hbd);clear hbd hHeld;generalize World.drew w1=Wd at*;refine Rd 3 rfl fun K hK=> ?_;go_simp;refine(wrInt_any Wd b B v1 _ 4 4 e.qty rfl HX.out.wr HX.out.sz HN.out.qty (by omega) (by simp [L3,nF]) (by simp [L3])).mono ?_;rintro x w2 ⟨rfl,v2,hL,hS⟩;replace HR:=Qh (HR.out.trans hS);replace HX:=Qh (HX.out.step hL hS);clear hL hS;go_wp2_with fail;refine hK.out _ _ HR.out.tu (fun hHeld=> ?_);clear hK K hHeld;refine Rd 7 rfl fun K hK=> ?_;go_simp;refine(Fq w2 b B v2 _ 5 5 e.price rfl HX.out.wr HX.out.sz (by have:=HN.out.price;omega) (by omega) (by simp [L3,nF]) (by simp [L3])).mono ?_;rintro x w3 ⟨rfl,v3,hL,hS⟩;replace HR:=Qh (HR.out.trans hS);replace HX:=Qh (HX.out.step hL hS);clear hL hS;go_wp2_with fail;refine hK.out _ _ HR.out.tu (fun hHeld=> ?_);clear hK K hHeld;refine Ξ (by kernel_rfl) ?_ _;go_wp2;exact π (v:= .tuple #[]) (by simp [results,results226,go_sem]) rfl ⟨rfl,v3,by simpa [L3,cand] using HX.out.wr,HX.out.st⟩
theorem write2_any (e:Ev) (w:World) (b B:Nat) (v:Value) (h:WrL w b B v []) (hB:B≤w.heap.size) (hn:EvNum e):
  Calls prog 235 #[v2V e,.pointer (some ⟨b,0,none⟩)] w (WrQ w b B v (cand 2 e)):=by
 have HX:=Qh (Mg h hB [Vi Vk e.kind,Vi Vk e.order,Vi Vk e.item,Vi Vk e.qty,Vi Vk e.price,Vi Vk e.cur] 229);have HN:=Qh hn;have hk5:=N6 hn.cur;clear h hn hB;go_enter func235,ntmps235;go_wp2_with fail;refine(write1_any e _ b B v HX.out.wr HX.out.sz HN.out).mono ?_;rintro x w1 ⟨rfl,v1,hL,hS⟩;replace HX:=Qh (HX.out.step hL hS);clear hL hS;have c5:=HX.out.cell 5 _ rfl;go_wp2_with fail;refine(Fq w1 b B v1 _ 6 6 e.cur rfl HX.out.wr HX.out.sz (by have:=HN.out.cur;omega) (by omega) (by simp [cand,nF]) (by simp [cand])).mono ?_;rintro x w2 ⟨rfl,v2,hL,hS⟩;replace HX:=Qh (HX.out.step hL hS);clear hL hS c5;go_wp2;exact π (v:= .tuple #[]) (by simp [results,results235,go_sem]) rfl ⟨rfl,v2,by simpa [cand] using HX.out.wr,HX.out.st⟩
theorem write3_any (e:Ev) (w:World) (b B:Nat) (v:Value) (h:WrL w b B v []) (hB:B≤w.heap.size) (hn:EvNum e) (hq:0≤e.qty):
  Calls prog 239 #[v3V e,.pointer (some ⟨b,0,none⟩)] w (WrQ w b B v (cand 3 e)):=by
 have HX:=Qh (Mg h hB [Vi Vk e.kind,Vi Vk e.order,Vi Vk e.item,Vi Vk e.qty,Vi Vk e.price,Vi Vk e.cur,Vi Vk e.tax] 231);have HN:=Qh hn;have HQ:=Qs (0≤e.qty∧e.qty<9223372036854775808) ⟨hq,by have:=hn.qty;omega⟩;have hk3:=N6 HQ.out;have hk4:=N6 hn.price;have hk5:=N6 hn.cur;have hk6:=N6 hn.tax;clear h hn hB hq;go_enter func239,ntmps239;go_wp2_with fail;refine(head_any e _ b B v HX.out.wr HX.out.sz HN.out).mono ?_;rintro x w1 ⟨rfl,v1,hL,hS⟩;replace HX:=Qh (HX.out.step hL hS);clear hL hS;go_wp2_with fail;refine ε (S:=fun w'=>Ab (fun k=>k=b∨v1.ownBlock=some k) w1 w') (by kernel_rfl) (Ab.below (Ac w1 1)) (fun hHeld=> ?_);have FX3:=Qh (fun(wF:World) (hSw:(fun w'=>Ab (fun k=>k=b∨v1.ownBlock=some k) w1 w') wF)=>And.intro ((hSw.cell (HX.out.cell 3 _ rfl) HX.out.ne)) (And.intro ((hSw.cell (HX.out.cell 4 _ rfl) HX.out.ne)) (And.intro ((hSw.cell (HX.out.cell 5 _ rfl) HX.out.ne)) ((hSw.cell (HX.out.cell 6 _ rfl) HX.out.ne)))));refine tf FX3 0 rfl ?_;refine tf FX3 1 rfl ?_;refine tf FX3 2 rfl ?_;refine tf FX3 3 rfl ?_;refine tf FX3 4 rfl ?_;refine tf FX3 5 rfl ?_;refine tf FX3 7 rfl ?_;refine tf FX3 8 rfl ?_;refine tf FX3 9 rfl ?_;refine tf FX3 10 rfl ?_;refine tf FX3 11 rfl ?_;refine tf FX3 13 rfl ?_;refine tf FX3 14 rfl ?_;refine tf FX3 15 rfl ?_;refine tf FX3 16 rfl ?_;refine tf FX3 18 rfl ?_;refine tf FX3 19 rfl ?_;refine tf FX3 20 rfl ?_;clear FX3;have hbd:Below w1.heap.size w1 (World.drew w1):=Ac w1 1;have HR:=Qh (Gt.below b v1 hbd);replace HX:=Qh (HX.out.below hbd);clear hbd hHeld;generalize World.drew w1=Wd at*;refine Rd 6 rfl fun K hK=> ?_;go_simp;refine(Fq Wd b B v1 _ 4 4 e.qty rfl HX.out.wr HX.out.sz (by have:=HQ.out;omega) (by omega) (by simp [L3,nF]) (by simp [L3])).mono ?_;rintro x w2 ⟨rfl,v2,hL,hS⟩;replace HR:=Qh (HR.out.trans hS);replace HX:=Qh (HX.out.step hL hS);clear hL hS;go_wp2_with fail;refine hK.out _ _ HR.out.tu (fun hHeld=> ?_);clear hK K hHeld;refine Rd 12 rfl fun K hK=> ?_;go_simp;refine(Fq w2 b B v2 _ 5 5 e.price rfl HX.out.wr HX.out.sz (by have:=HN.out.price;omega) (by omega) (by simp [L3,nF]) (by simp [L3])).mono ?_;rintro x w3 ⟨rfl,v3,hL,hS⟩;replace HR:=Qh (HR.out.trans hS);replace HX:=Qh (HX.out.step hL hS);clear hL hS;go_wp2_with fail;refine hK.out _ _ HR.out.tu (fun hHeld=> ?_);clear hK K hHeld;refine Rd 17 rfl fun K hK=> ?_;go_simp;refine(Fq w3 b B v3 _ 6 6 e.cur rfl HX.out.wr HX.out.sz (by have:=HN.out.cur;omega) (by omega) (by simp [L3,nF]) (by simp [L3])).mono ?_;rintro x w4 ⟨rfl,v4,hL,hS⟩;replace HR:=Qh (HR.out.trans hS);replace HX:=Qh (HX.out.step hL hS);clear hL hS;go_wp2_with fail;refine hK.out _ _ HR.out.tu (fun hHeld=> ?_);clear hK K hHeld;refine Rd 21 rfl fun K hK=> ?_;go_simp;refine(Fq w4 b B v4 _ 7 7 e.tax rfl HX.out.wr HX.out.sz (by have:=HN.out.tax;omega) (by omega) (by simp [L3,nF]) (by simp [L3])).mono ?_;rintro x w5 ⟨rfl,v5,hL,hS⟩;replace HR:=Qh (HR.out.trans hS);replace HX:=Qh (HX.out.step hL hS);clear hL hS;go_wp2_with fail;refine hK.out _ _ HR.out.tu (fun hHeld=> ?_);clear hK K hHeld;refine Ξ (by kernel_rfl) ?_ _;go_wp2;exact π (v:= .tuple #[]) (by simp [results,results239,go_sem]) rfl ⟨rfl,v5,by simpa [L3,cand] using HX.out.wr,HX.out.st⟩
theorem write4_any (e:Ev) (w:World) (b B:Nat) (v:Value) (h:WrL w b B v []) (hB:B≤w.heap.size) (hn:EvNum e) (hq:0≤e.qty) (hw:e.who.length≤200):
  Calls prog 243 #[v4V e,.pointer (some ⟨b,0,none⟩)] w (WrQ w b B v (cand 4 e)):=by
 have HX:=Qh (Mg h hB [Vi Vk e.kind,Vi Vk e.order,Vi Vk e.item,Vi Vk e.qty,Vi Vk e.price,Vi Vk e.cur,Vi Vk e.tax,.string ⟨e.who.toArray⟩] 233);have HN:=Qh hn;have HQ:=Qh hq;have HW:=Qh hw;clear h hn hB hq hw;go_enter func243,ntmps243;go_wp2_with fail;refine(write3_any e _ b B v HX.out.wr HX.out.sz HN.out HQ.out).mono ?_;rintro x w1 ⟨rfl,v1,hL,hS⟩;replace HX:=Qh (HX.out.step hL hS);clear hL hS;have c7:=HX.out.cell 7 _ rfl;obtain⟨oa,cap,w2,hcv,hbr,hb⟩:=conv_any w1 e.who;have HBR:=Qh hbr;replace HX:=Qh (HX.out.below hb);clear hbr;clear hb;go_wp2_with fail;refine(wrText_any w2 b B v1 _ _ 8 8 e.who rfl HBR.out.brow HX.out.wr HX.out.sz HW.out (by omega) (by simp [cand,nF]) (by simp [cand])).mono ?_;rintro x w3 ⟨rfl,v3,hL,hS⟩;replace HX:=Qh (HX.out.step hL hS);clear hL hS c7;go_wp2;exact π (v:= .tuple #[]) (by simp [results,results243,go_sem]) rfl ⟨rfl,v3,by simpa [cand] using HX.out.wr,HX.out.st⟩
theorem write5_any (e:Ev) (w:World) (b B:Nat) (v:Value) (h:WrL w b B v []) (hB:B≤w.heap.size) (hn:EvNum e) (hq:0≤e.qty) (hw:e.who.length≤200) (hv:e.note.length≤200):
  Calls prog 249 #[v5V e,.pointer (some ⟨b,0,none⟩)] w (WrQ w b B v (cand 5 e)):=by
 have HX:=Qh (Mg h hB [Vi Vk e.kind,Vi Vk e.order,Vi Vk e.item,Vi Vk e.qty,Vi Vk e.price,Vi Vk e.cur,Vi Vk e.tax,.string ⟨e.who.toArray⟩,Vi Vk e.stamp,.string ⟨e.note.toArray⟩] 235);have HN:=Qh hn;have HQ:=Qh hq;have HW:=Qh hw;have HV:=Qh hv;have hk8:=N6 hn.stamp;clear h hn hB hq hw hv;go_enter func249,ntmps249;go_wp2_with fail;refine(write4_any e _ b B v HX.out.wr HX.out.sz HN.out HQ.out HW.out).mono ?_;rintro x w1 ⟨rfl,v1,hL,hS⟩;replace HX:=Qh (HX.out.step hL hS);clear hL hS;go_wp2_with fail;refine ε (S:=fun w'=>Ab (fun k=>k=b∨v1.ownBlock=some k) w1 w') (by kernel_rfl) (Ab.below (Ac w1 1)) (fun hHeld=> ?_);have FX4:=Qh (fun(wF:World) (hSw:(fun w'=>Ab (fun k=>k=b∨v1.ownBlock=some k) w1 w') wF)=>And.intro ((hSw.cell (HX.out.cell 8 _ rfl) HX.out.ne)) ((hSw.cell (HX.out.cell 9 _ rfl) HX.out.ne)));refine tf FX4 0 rfl ?_;refine tf FX4 1 rfl ?_;refine tf FX4 2 rfl ?_;refine tf FX4 3 rfl ?_;refine tf FX4 5 rfl ?_;refine tf FX4 6 rfl ?_;clear FX4;have hbd:Below w1.heap.size w1 (World.drew w1):=Ac w1 1;have HR:=Qh (Gt.below b v1 hbd);replace HX:=Qh (HX.out.below hbd);clear hbd hHeld;generalize World.drew w1=Wd at*;have HX0:=Qh (HX.out.old);refine wpAnyH_ready (rs:=[4,7]) (by kernel_rfl) (by simp) ?_;refine AllReadyH.cons rfl (fun K hK=> ?_) (AllReadyH.cons rfl (fun K hK=> ?_) AllReadyH.nil);go_simp;refine(Fq Wd b B v1 _ 9 9 e.stamp rfl HX.out.wr HX.out.sz (by have:=HN.out.stamp;omega) (by omega) (by simp [cand,nF,tF]) (by simp [cand])).mono ?_;rintro x w2 ⟨rfl,v2,hL,hS⟩;replace HR:=Qh (HR.out.trans hS);replace HX:=Qh (HX.out.step hL hS);clear hL hS;go_wp2_with fail;refine hK.out _ _ HR.out.tu (fun hHeld=> ?_);clear hK K hHeld;obtain⟨oa,cap,w3,hcv,hbr,hb⟩:=conv_any w2 e.note;have HBR:=Qh hbr;replace HX:=Qh (HX.out.below hb);clear hbr;replace HR:=Qh (HR.out.trans (Gt.below b v2 hb));clear hb;refine Rd 7 rfl fun K hK=> ?_;go_simp;refine hK.out _ _ HR.out.tu (fun hHeld=> ?_);clear hK K hHeld hcv;rotate_left;obtain⟨oa,cap,w2,hcv,hbr,hb⟩:=conv_any Wd e.note;have HBR:=Qh hbr;replace HX:=Qh (HX.out.below hb);clear hbr;replace HR:=Qh (HR.out.trans (Gt.below b v1 hb));have HVN:=Qs (∀ k,Wd.heap.size≤k→ ¬ (k=b∨v1.ownBlock=some k)) HX0.out;clear hb HX0;go_simp;refine hK.out _ _ HR.out.tu (fun hHeld=> ?_);clear hK K hHeld hcv;refine Rd 4 rfl fun K hK=> ?_;go_simp;refine(Fq w2 b B v1 _ 9 9 e.stamp rfl HX.out.wr HX.out.sz (by have:=HN.out.stamp;omega) (by omega) (by simp [cand,nF,tF]) (by simp [cand])).mono ?_;rintro x w3 ⟨rfl,v2,hL,hS⟩;replace HR:=Qh (HR.out.trans hS);replace HX:=Qh (HX.out.step hL hS);replace HBR:=Qh (HBR.out.turned hS.tu fun k hk=>HVN.out k hk);clear hL hS HVN;go_wp2_with fail;refine hK.out _ _ HR.out.tu (fun hHeld=> ?_);clear hK K hHeld
 all_goals
  refine Rd 8 rfl fun K hK=> ?_;go_simp;refine(wrText_any w3 b B v2 _ _ 10 10 e.note rfl HBR.out.brow HX.out.wr HX.out.sz HV.out (by omega) (by simp [cand,nF,tF]) (by simp [cand])).mono ?_;rintro x w4 ⟨rfl,v4,hL,hS⟩;replace HR:=Qh (HR.out.trans hS);replace HX:=Qh (HX.out.step hL hS);clear hL hS;go_wp2_with fail;refine hK.out _ _ HR.out.tu (fun hHeld=> ?_);clear hK K hHeld;refine Ξ (by kernel_rfl) ?_ _;go_wp2;exact π (v:= .tuple #[]) (by simp [results,results249,go_sem]) rfl ⟨rfl,v4,by simpa [cand] using HX.out.wr,HX.out.st⟩
theorem Iw (w:World):Calls prog 102 #[] w fun e w'=>e= .returned (.pointer (some ⟨w.heap.size,0,none⟩))∧w.alloc (.cells #[.slice none 0 0,Vi Vk 0] 225)=w':=by
 go_enter func102,ntmps102;go_wp2;go_ret;exact⟨rfl,rfl⟩
theorem J2 (w:World):WrL (w.alloc (.cells #[.slice none 0 0,Vi Vk 0] 225)) w.heap.size (w.heap.size+1) (.slice none 0 0) []:=⟨[],rfl,σ w _,fdOwn_nil _ _,by omega⟩
theorem done_any (w:World) (b B:Nat) (v:Value) (L:List Ce) (h:WrL w b B v L) (hl:L.length≤100) (ho: ∀ f∈L.filter nz,FldOk f) (hp:L.Pairwise fun a b=>a.tag<b.tag) (hr:(Cq (L.filter nz)).length≤1024):
  Calls prog 104 #[.pointer (some ⟨b,0,none⟩)] w fun e w'=> ∃ v',e= .returned (.tuple #[v',Vi Vk 0])∧Cw w' w.heap.size v' (Cq (L.filter nz))∧Below w.heap.size w w':=by
 obtain⟨xs,hx,hw⟩:=h;have hlx:xs.length≤100:=by
  have h1:=congrArg List.length hx;rw [List.length_map] at h1;have:=List.length_filter_le nz L;omega
 have HE:=Qh (tlvEnc_any xs v B w hw.own (fun x hm=>ho _ (by rw [←hx];exact List.mem_map_of_mem hm)) (by
  have h2:(L.filter nz).Pairwise fun a b=>a.tag<b.tag:=hp.filter _;rw [←hx,List.pairwise_map] at h2;exact h2) hlx (by rw [hx];exact hr))
 rw [hx] at HE;have c0:=hw.blk.c0;have c1:=hw.blk.c1;clear hl ho hp hr hx hlx hw;go_enter func104,ntmps104;go_wp2_with fail;refine HE.out.mono ?_;rintro e w1 ⟨v1,rfl,h1,h2⟩;go_wp2;go_ret2;exact⟨v1,rfl,h1,h2⟩
def A8 (e:Ev):Array Value:= #[Vi Vk e.kind,Vi Vk e.order,Vi Vk e.item,Vi Vk e.qty,Vi Vk e.price,Vi Vk e.cur,Vi Vk e.tax,.string ⟨e.who.toArray⟩,Vi Vk e.stamp,.string ⟨e.note.toArray⟩]
def Au (w:World) (b:Nat) (e:Ev):Prop:=w.heap[b]? =some (.cells (A8 e) 38 (0,0))
theorem Au.lt {b:Nat}  (h:Au w b e):b<w.heap.size:=(δ.1 h).1
theorem Au.below {b:Nat}  (h:Au w b e) (hb:Below w.heap.size w w'):Au w' b e:=(hb.block _ h.lt).trans h
theorem Nz:(prog.info? 38).map (·.size)=some 10:=by kernel_rfl
theorem A6 (hgd:o.guard=none) (x:Operand) (ho:o.op= .load 38 x)
  (g:Nat) (e:Ev) (hx:a.eval x= .pointer (some ⟨g,0,none⟩)) (hE:Au w g e)
  (h:wpList prog ops Q rest (a.put o.dst (Ga e)) w):wpList prog ops Q (o::rest) a w:=
 wpList_load_row hgd 38 x ho g hx 38 (A8 e) (0,0) _ hE underlying38 rfl Nz h
theorem fit_num {v:Int}  (h:EvFit v e):EvNum e:=by
 have h1:=h.kind;have h2:=h.order;have h3:=h.item;have h4:=h.qty;have h5:=h.price;have h6:=h.cur;have h7:=h.tax;have h8:=h.stamp;exact⟨by omega,by omega,by omega,by split at h4<;>omega,by omega,by split at h6<;>omega,by split at h7<;>omega,by split at h8<;>omega⟩
theorem m1write (k:Nat) (e:Ev) (w:World):(Go.method (k+1) 227 (v1V e) "daybook/schema.write").run prog w= .ok (226,v1V e) w:=by kernel_rfl
theorem m2write (k:Nat) (e:Ev) (w:World):(Go.method (k+1) 229 (v2V e) "daybook/schema.write").run prog w= .ok (235,v2V e) w:=by kernel_rfl
theorem m3write (k:Nat) (e:Ev) (w:World):(Go.method (k+1) 231 (v3V e) "daybook/schema.write").run prog w= .ok (239,v3V e) w:=by kernel_rfl
theorem m4write (k:Nat) (e:Ev) (w:World):(Go.method (k+1) 233 (v4V e) "daybook/schema.write").run prog w= .ok (243,v4V e) w:=by kernel_rfl
theorem m5write (k:Nat) (e:Ev) (w:World):(Go.method (k+1) 235 (v5V e) "daybook/schema.write").run prog w= .ok (249,v5V e) w:=by kernel_rfl
def EncQ (w:World) (l:List UInt8) (e:Ending) (w':World):Prop:= ∃ v,e= .returned (.tuple #[v,Vi Vk 0])∧Cw w' w.heap.size v l∧Below w.heap.size w w'
theorem schEnc1 (e:Ev) (w:World) (hok:Lj 281474976710656 e) (hc:Am 1 e=0):Calls prog 66 #[Vi Vk 1,Ga e] w (EncQ w (Cq (evFlds 1 e))):=by
 have hf:=evFit hc;have HN:=Qh (fit_num hf);have HFL:=Qh (O5 hf);have HLN:=Qh (My hf);have HRI:=Qh (Kh e hf.ver);have HB0:=Qh (Aa w (.cells (A8 e) 38));have HE0:=Qs (Au (w.alloc (.cells (A8 e) 38)) w.heap.size e) (σ w _);have HCK:=Qh (Cf 1 e (w.alloc (.cells (A8 e) 38)) hok);rw [hc] at HCK;have HTY:=Qh (fun W=>(show Jj 1 e=Value.iface 227 (v1V e) from rfl)▸Gp 1 e W);have hm:=fun k W=>m1write k e W;unfold evFlds at HFL HLN;unfold evFlds;simp only [A8] at HB0 HE0 HCK;clear hok hc hf;go_enter func66,ntmps66;go_wp2_with fail;refine HCK.out.mono ?_;rintro x w1 ⟨rfl,hb1⟩;have HB1:=Qh (Below.next HB0.out hb1);have HE1:=Qh (HE0.out.below hb1);clear hb1 HB0 HE0 HCK;go_wp2_with fail;refine(Iw w1).mono ?_;rintro x w2 ⟨rfl,rfl⟩;have hsz:w1.heap.size+1=(w1.alloc (.cells #[.slice none 0 0,Vi Vk 0] 225)).heap.size:=(World.size_alloc _ _).symm;have hb2:=Aa w1 (.cells #[.slice none 0 0,Vi Vk 0] 225);have HB2:=Qh (Below.next HB1.out hb2);have HE2:=Qh (HE1.out.below hb2);have HW2:=Qh (J2 w1);have HP:=Qh (HB1.out.size);clear hb2 HB1 HE1;generalize w1.alloc (.cells #[.slice none 0 0,Vi Vk 0] 225)=w2 at*;go_wp2_with (with_reducible refine A6 rfl (.tmp 3) rfl w.heap.size e rfl HE2.out ?_);refine(HTY.out w2).mono ?_;rintro x w3 ⟨rfl,hb3⟩;have HB3:=Qh (Below.next HB2.out hb3);have HW3:=Qh (HW2.out.below hb3);have HSZ:=Qs (w1.heap.size+1≤w3.heap.size) (hsz▸hb3.size);clear hb3 HB2 HW2 HE2 hsz;go_wp2_with fail;refine(write1_any e _ _ _ _ HW3.out HSZ.out HN.out).mono ?_;rintro x w4 ⟨rfl,v4,hL,hS⟩;have HB4:=Qh (show Below w.heap.size w w4 from Al HB3.out hS.tu (fun k hk=>by
  rcases hk with rfl|hk
  ·exact HP.out
  ·cases hk) HB3.out.size)
 have HD:=Qh (done_any w4 _ _ _ _ hL (by simp [cand]) HFL.out.1 HRI.out (by have:=HLN.out;omega));clear hL hS HB3 HW3;go_wp2_with fail;refine HD.out.mono ?_;rintro x w5 ⟨v5,rfl,ho5,hb5⟩;have HO5:=Qh (ho5.mono HB4.out.size);have HB5:=Qh (Below.next HB4.out hb5);clear ho5 hb5 HD;go_wp2;go_ret2;exact⟨v5,rfl,HO5.out,HB5.out⟩
theorem schEnc2 (e:Ev) (w:World) (hok:Lj 281474976710656 e) (hc:Am 2 e=0):Calls prog 66 #[Vi Vk 2,Ga e] w (EncQ w (Cq (evFlds 2 e))):=by
 have hf:=evFit hc;have HN:=Qh (fit_num hf);have HFL:=Qh (O5 hf);have HLN:=Qh (My hf);have HRI:=Qh (Kh e hf.ver);have HB0:=Qh (Aa w (.cells (A8 e) 38));have HE0:=Qs (Au (w.alloc (.cells (A8 e) 38)) w.heap.size e) (σ w _);have HCK:=Qh (Cf 2 e (w.alloc (.cells (A8 e) 38)) hok);rw [hc] at HCK;have HTY:=Qh (fun W=>(show Jj 2 e=Value.iface 229 (v2V e) from rfl)▸Gp 2 e W);have hm:=fun k W=>m2write k e W;unfold evFlds at HFL HLN;unfold evFlds;simp only [A8] at HB0 HE0 HCK;clear hok hc hf;go_enter func66,ntmps66;go_wp2_with fail;refine HCK.out.mono ?_;rintro x w1 ⟨rfl,hb1⟩;have HB1:=Qh (Below.next HB0.out hb1);have HE1:=Qh (HE0.out.below hb1);clear hb1 HB0 HE0 HCK;go_wp2_with fail;refine(Iw w1).mono ?_;rintro x w2 ⟨rfl,rfl⟩;have hsz:w1.heap.size+1=(w1.alloc (.cells #[.slice none 0 0,Vi Vk 0] 225)).heap.size:=(World.size_alloc _ _).symm;have hb2:=Aa w1 (.cells #[.slice none 0 0,Vi Vk 0] 225);have HB2:=Qh (Below.next HB1.out hb2);have HE2:=Qh (HE1.out.below hb2);have HW2:=Qh (J2 w1);have HP:=Qh (HB1.out.size);clear hb2 HB1 HE1;generalize w1.alloc (.cells #[.slice none 0 0,Vi Vk 0] 225)=w2 at*;go_wp2_with (with_reducible refine A6 rfl (.tmp 3) rfl w.heap.size e rfl HE2.out ?_);refine(HTY.out w2).mono ?_;rintro x w3 ⟨rfl,hb3⟩;have HB3:=Qh (Below.next HB2.out hb3);have HW3:=Qh (HW2.out.below hb3);have HSZ:=Qs (w1.heap.size+1≤w3.heap.size) (hsz▸hb3.size);clear hb3 HB2 HW2 HE2 hsz;go_wp2_with fail;refine(write2_any e _ _ _ _ HW3.out HSZ.out HN.out).mono ?_;rintro x w4 ⟨rfl,v4,hL,hS⟩;have HB4:=Qh (show Below w.heap.size w w4 from Al HB3.out hS.tu (fun k hk=>by
  rcases hk with rfl|hk
  ·exact HP.out
  ·cases hk) HB3.out.size)
 have HD:=Qh (done_any w4 _ _ _ _ hL (by simp [cand]) HFL.out.1 HRI.out (by have:=HLN.out;omega));clear hL hS HB3 HW3;go_wp2_with fail;refine HD.out.mono ?_;rintro x w5 ⟨v5,rfl,ho5,hb5⟩;have HO5:=Qh (ho5.mono HB4.out.size);have HB5:=Qh (Below.next HB4.out hb5);clear ho5 hb5 HD;go_wp2;go_ret2;exact⟨v5,rfl,HO5.out,HB5.out⟩
theorem schEnc3 (e:Ev) (w:World) (hok:Lj 281474976710656 e) (hc:Am 3 e=0):Calls prog 66 #[Vi Vk 3,Ga e] w (EncQ w (Cq (evFlds 3 e))):=by
 have hf:=evFit hc;have HN:=Qh (fit_num hf);have HQ:=Qs (0≤e.qty) (by have:=hf.qty;rw [γ (by decide)] at this;exact this.1);have HFL:=Qh (O5 hf);have HLN:=Qh (My hf);have HRI:=Qh (Kh e hf.ver);have HB0:=Qh (Aa w (.cells (A8 e) 38));have HE0:=Qs (Au (w.alloc (.cells (A8 e) 38)) w.heap.size e) (σ w _);have HCK:=Qh (Cf 3 e (w.alloc (.cells (A8 e) 38)) hok);rw [hc] at HCK;have HTY:=Qh (fun W=>(show Jj 3 e=Value.iface 231 (v3V e) from rfl)▸Gp 3 e W);have hm:=fun k W=>m3write k e W;unfold evFlds at HFL HLN;unfold evFlds;simp only [A8] at HB0 HE0 HCK;clear hok hc hf;go_enter func66,ntmps66;go_wp2_with fail;refine HCK.out.mono ?_;rintro x w1 ⟨rfl,hb1⟩;have HB1:=Qh (Below.next HB0.out hb1);have HE1:=Qh (HE0.out.below hb1);clear hb1 HB0 HE0 HCK;go_wp2_with fail;refine(Iw w1).mono ?_;rintro x w2 ⟨rfl,rfl⟩;have hsz:w1.heap.size+1=(w1.alloc (.cells #[.slice none 0 0,Vi Vk 0] 225)).heap.size:=(World.size_alloc _ _).symm;have hb2:=Aa w1 (.cells #[.slice none 0 0,Vi Vk 0] 225);have HB2:=Qh (Below.next HB1.out hb2);have HE2:=Qh (HE1.out.below hb2);have HW2:=Qh (J2 w1);have HP:=Qh (HB1.out.size);clear hb2 HB1 HE1;generalize w1.alloc (.cells #[.slice none 0 0,Vi Vk 0] 225)=w2 at*;go_wp2_with (with_reducible refine A6 rfl (.tmp 3) rfl w.heap.size e rfl HE2.out ?_);refine(HTY.out w2).mono ?_;rintro x w3 ⟨rfl,hb3⟩;have HB3:=Qh (Below.next HB2.out hb3);have HW3:=Qh (HW2.out.below hb3);have HSZ:=Qs (w1.heap.size+1≤w3.heap.size) (hsz▸hb3.size);clear hb3 HB2 HW2 HE2 hsz;go_wp2_with fail;refine(write3_any e _ _ _ _ HW3.out HSZ.out HN.out HQ.out).mono ?_;rintro x w4 ⟨rfl,v4,hL,hS⟩;have HB4:=Qh (show Below w.heap.size w w4 from Al HB3.out hS.tu (fun k hk=>by
  rcases hk with rfl|hk
  ·exact HP.out
  ·cases hk) HB3.out.size)
 have HD:=Qh (done_any w4 _ _ _ _ hL (by simp [cand]) HFL.out.1 HRI.out (by have:=HLN.out;omega));clear hL hS HB3 HW3;go_wp2_with fail;refine HD.out.mono ?_;rintro x w5 ⟨v5,rfl,ho5,hb5⟩;have HO5:=Qh (ho5.mono HB4.out.size);have HB5:=Qh (Below.next HB4.out hb5);clear ho5 hb5 HD;go_wp2;go_ret2;exact⟨v5,rfl,HO5.out,HB5.out⟩
theorem schEnc4 (e:Ev) (w:World) (hok:Lj 281474976710656 e) (hc:Am 4 e=0):Calls prog 66 #[Vi Vk 4,Ga e] w (EncQ w (Cq (evFlds 4 e))):=by
 have hf:=evFit hc;have HN:=Qh (fit_num hf);have HQ:=Qs (0≤e.qty) (by have:=hf.qty;rw [γ (by decide)] at this;exact this.1);have HWH:=Qs (e.who.length≤200) (by have:=hf.who;omega);have HFL:=Qh (O5 hf);have HLN:=Qh (My hf);have HRI:=Qh (Kh e hf.ver);have HB0:=Qh (Aa w (.cells (A8 e) 38));have HE0:=Qs (Au (w.alloc (.cells (A8 e) 38)) w.heap.size e) (σ w _);have HCK:=Qh (Cf 4 e (w.alloc (.cells (A8 e) 38)) hok);rw [hc] at HCK;have HTY:=Qh (fun W=>(show Jj 4 e=Value.iface 233 (v4V e) from rfl)▸Gp 4 e W);have hm:=fun k W=>m4write k e W;unfold evFlds at HFL HLN;unfold evFlds;simp only [A8] at HB0 HE0 HCK;clear hok hc hf;go_enter func66,ntmps66;go_wp2_with fail;refine HCK.out.mono ?_;rintro x w1 ⟨rfl,hb1⟩;have HB1:=Qh (Below.next HB0.out hb1);have HE1:=Qh (HE0.out.below hb1);clear hb1 HB0 HE0 HCK;go_wp2_with fail;refine(Iw w1).mono ?_;rintro x w2 ⟨rfl,rfl⟩;have hsz:w1.heap.size+1=(w1.alloc (.cells #[.slice none 0 0,Vi Vk 0] 225)).heap.size:=(World.size_alloc _ _).symm;have hb2:=Aa w1 (.cells #[.slice none 0 0,Vi Vk 0] 225);have HB2:=Qh (Below.next HB1.out hb2);have HE2:=Qh (HE1.out.below hb2);have HW2:=Qh (J2 w1);have HP:=Qh (HB1.out.size);clear hb2 HB1 HE1;generalize w1.alloc (.cells #[.slice none 0 0,Vi Vk 0] 225)=w2 at*;go_wp2_with (with_reducible refine A6 rfl (.tmp 3) rfl w.heap.size e rfl HE2.out ?_);refine(HTY.out w2).mono ?_;rintro x w3 ⟨rfl,hb3⟩;have HB3:=Qh (Below.next HB2.out hb3);have HW3:=Qh (HW2.out.below hb3);have HSZ:=Qs (w1.heap.size+1≤w3.heap.size) (hsz▸hb3.size);clear hb3 HB2 HW2 HE2 hsz;go_wp2_with fail;refine(write4_any e _ _ _ _ HW3.out HSZ.out HN.out HQ.out HWH.out).mono ?_;rintro x w4 ⟨rfl,v4,hL,hS⟩;have HB4:=Qh (show Below w.heap.size w w4 from Al HB3.out hS.tu (fun k hk=>by
  rcases hk with rfl|hk
  ·exact HP.out
  ·cases hk) HB3.out.size)
 have HD:=Qh (done_any w4 _ _ _ _ hL (by simp [cand]) HFL.out.1 HRI.out (by have:=HLN.out;omega));clear hL hS HB3 HW3;go_wp2_with fail;refine HD.out.mono ?_;rintro x w5 ⟨v5,rfl,ho5,hb5⟩;have HO5:=Qh (ho5.mono HB4.out.size);have HB5:=Qh (Below.next HB4.out hb5);clear ho5 hb5 HD;go_wp2;go_ret2;exact⟨v5,rfl,HO5.out,HB5.out⟩
theorem schEnc5 (e:Ev) (w:World) (hok:Lj 281474976710656 e) (hc:Am 5 e=0):Calls prog 66 #[Vi Vk 5,Ga e] w (EncQ w (Cq (evFlds 5 e))):=by
 have hf:=evFit hc;have HN:=Qh (fit_num hf);have HQ:=Qs (0≤e.qty) (by have:=hf.qty;rw [γ (by decide)] at this;exact this.1);have HWH:=Qs (e.who.length≤200) (by have:=hf.who;omega);have HNO:=Qs (e.note.length≤200) (by have:=hf.note;omega);have HFL:=Qh (O5 hf);have HLN:=Qh (My hf);have HRI:=Qh (Kh e hf.ver);have HB0:=Qh (Aa w (.cells (A8 e) 38));have HE0:=Qs (Au (w.alloc (.cells (A8 e) 38)) w.heap.size e) (σ w _);have HCK:=Qh (Cf 5 e (w.alloc (.cells (A8 e) 38)) hok);rw [hc] at HCK;have HTY:=Qh (fun W=>(show Jj 5 e=Value.iface 235 (v5V e) from rfl)▸Gp 5 e W);have hm:=fun k W=>m5write k e W;unfold evFlds at HFL HLN;unfold evFlds;simp only [A8] at HB0 HE0 HCK;clear hok hc hf;go_enter func66,ntmps66;go_wp2_with fail;refine HCK.out.mono ?_;rintro x w1 ⟨rfl,hb1⟩;have HB1:=Qh (Below.next HB0.out hb1);have HE1:=Qh (HE0.out.below hb1);clear hb1 HB0 HE0 HCK;go_wp2_with fail;refine(Iw w1).mono ?_;rintro x w2 ⟨rfl,rfl⟩;have hsz:w1.heap.size+1=(w1.alloc (.cells #[.slice none 0 0,Vi Vk 0] 225)).heap.size:=(World.size_alloc _ _).symm;have hb2:=Aa w1 (.cells #[.slice none 0 0,Vi Vk 0] 225);have HB2:=Qh (Below.next HB1.out hb2);have HE2:=Qh (HE1.out.below hb2);have HW2:=Qh (J2 w1);have HP:=Qh (HB1.out.size);clear hb2 HB1 HE1;generalize w1.alloc (.cells #[.slice none 0 0,Vi Vk 0] 225)=w2 at*;go_wp2_with (with_reducible refine A6 rfl (.tmp 3) rfl w.heap.size e rfl HE2.out ?_);refine(HTY.out w2).mono ?_;rintro x w3 ⟨rfl,hb3⟩;have HB3:=Qh (Below.next HB2.out hb3);have HW3:=Qh (HW2.out.below hb3);have HSZ:=Qs (w1.heap.size+1≤w3.heap.size) (hsz▸hb3.size);clear hb3 HB2 HW2 HE2 hsz;go_wp2_with fail;refine(write5_any e _ _ _ _ HW3.out HSZ.out HN.out HQ.out HWH.out HNO.out).mono ?_;rintro x w4 ⟨rfl,v4,hL,hS⟩;have HB4:=Qh (show Below w.heap.size w w4 from Al HB3.out hS.tu (fun k hk=>by
  rcases hk with rfl|hk
  ·exact HP.out
  ·cases hk) HB3.out.size)
 have HD:=Qh (done_any w4 _ _ _ _ hL (by simp [cand]) HFL.out.1 HRI.out (by have:=HLN.out;omega));clear hL hS HB3 HW3;go_wp2_with fail;refine HD.out.mono ?_;rintro x w5 ⟨v5,rfl,ho5,hb5⟩;have HO5:=Qh (ho5.mono HB4.out.size);have HB5:=Qh (Below.next HB4.out hb5);clear ho5 hb5 HD;go_wp2;go_ret2;exact⟨v5,rfl,HO5.out,HB5.out⟩
theorem schEnc_any (v:Int) (e:Ev) (w:World) (hok:Lj 281474976710656 e) (hc:Am v e=0):Calls prog 66 #[Vi Vk v,Ga e] w (EncQ w (Cq (evFlds v e))):=by
 have hv:=(evFit hc).ver;rcases (show v=1∨v=2∨v=3∨v=4∨v=5 by omega) with rfl|rfl|rfl|rfl|rfl
 ·exact schEnc1 e w hok hc
 ·exact schEnc2 e w hok hc
 ·exact schEnc3 e w hok hc
 ·exact schEnc4 e w hok hc
 ·exact schEnc5 e w hok hc
theorem pack_any (v:Int) (e:Ev) (w:World) (hok:Lj 281474976710656 e) (hc:Am v e=0):Calls prog 39 #[Vi Vk v,Ga e] w (EncQ w (Iy v e)):=by
 have hv:=(evFit hc).ver;obtain⟨n,rfl⟩: ∃ n:Nat,v=(n:Int):=⟨v.toNat,by omega⟩;have hn:n≤5:=by omega
 clear hv;unfold Iy;rw [Int.toNat_natCast];have HB0:=Qh (Aa w (.cells (A8 e) 38));have HE:=Qh (schEnc_any (n:Int) e (w.alloc (.cells (A8 e) 38)) hok hc);have HV:=Qh (fun W=>F9 n W (by omega));have hw1:IntKind.u64.wrap (n:Int)=(n:Int):=by rw [IntKind.wrap_u64];omega
 have h1:(A7 n).length≤10:=De (by omega);have h2:(Cq (evFlds (n:Int) e)).length≤336:=My (evFit hc);have HL:=Qs ((A7 n).length+(Cq (evFlds (n:Int) e)).length≤140737488355328) (by omega);clear h1 h2;generalize A7 n=p at*;generalize Cq (evFlds (n:Int) e)=q at*;simp only [A8] at HB0 HE;clear hok hc hn;go_enter func39,ntmps39;go_wp2_with fail;refine HE.out.mono ?_;rintro x w1 ⟨v1,rfl,ho1,hb1⟩;have HO1:=Qh ho1;have HB1:=Qh (Below.next HB0.out hb1);have HV1:=Qh (HV.out w1);clear ho1 hb1 HE HB0 HV;go_wp2_with fail;refine HV1.out.mono ?_;rintro x w2 ⟨v2,rfl,ho2,hb2⟩;have HB2:=Qh (Below.next HB1.out hb2);have HO2:=Qh (ho2.mono HB1.out.size);have HQ2:=Qh (HO1.out.later hb2);clear ho2 hb2 HV1 HO1 hw1;go_wp2_with (at_builtin;refine E4 rfl _ _ rfl rfl rfl HO2.out ?c1 HQ2.out.brow HL.out ?_)
 case c1=>exact HB2.out.size
 intro v' w' h1 h2;have HF:=Qh h1;have HG:=Qh (HB2.out.trans h2);clear h1 h2;go_wp2;go_ret2;exact⟨v',rfl,HF.out,HG.out⟩
theorem Fw (u:Nat) (w:World):Calls prog 77 #[.int .u64 (u:Int)] w fun e w'=>e= .returned (Vi Vk (E8 u))∧w=w':=by
 have hm:min (u:Int) 4611686018427387904=E8 u:=by unfold E8;omega
 have hw:IntKind.i64.wrap (E8 u)=E8 u:=by unfold E8;rw [ν];omega
 go_enter func77,ntmps77;go_wp2;go_ret;exact⟨rfl,rfl⟩
theorem i64_flip (a:Nat) (ha:a<9223372036854775808):bits .xor .i64 (a:Int) (-1)= -(a:Int) - 1:=by
 show IntKind.i64.wrap ((BitVec.ofInt 64 (a:Int)^^^BitVec.ofInt 64 (-1)).toNat:Int)=_;have h1:BitVec.ofInt 64 (-1)=BitVec.allOnes 64:=by decide
 have h2:(BitVec.ofInt 64 (a:Int)).toNat=a:=by rw [BitVec.toNat_ofInt];omega
 rw [h1,BitVec.xor_allOnes,BitVec.toNat_not,h2,ν];omega
theorem i64_zero (a:Nat) (ha:a<9223372036854775808):bits .xor .i64 (a:Int) 0=(a:Int):=by
 show IntKind.i64.wrap ((BitVec.ofInt 64 (a:Int)^^^BitVec.ofInt 64 0).toNat:Int)=_;have h1:BitVec.ofInt 64 0=0#64:=by decide
 have h2:(BitVec.ofInt 64 (a:Int)).toNat=a:=by rw [BitVec.toNat_ofInt];omega
 rw [h1,BitVec.xor_zero,h2,ν];omega
theorem u64_and1 (u:Nat) (hu:u<18446744073709551616):bits .and .u64 (u:Int) 1=((u % 2:Nat):Int):=by
 show IntKind.u64.wrap ((BitVec.ofInt 64 (u:Int)&&&BitVec.ofInt 64 1).toNat:Int)=_;have h2:(BitVec.ofInt 64 (u:Int)).toNat=u:=by rw [BitVec.toNat_ofInt];omega
 have h3:(BitVec.ofInt 64 1).toNat=1:=by decide
 rw [BitVec.toNat_and,h2,h3,Nat.and_one_is_mod,IntKind.wrap_u64];omega
theorem zag_any (u:Nat) (w:World) (hu:u<18446744073709551616):Calls prog 154 #[.int .u64 (u:Int)] w fun e w'=>e= .returned (Vi Vk (zagV u))∧w=w':=by
 have ha:=u64_and1 u hu;have h1:IntKind.i64.wrap ((u:Int) / 2)=((u / 2:Nat):Int):=by rw [ν];omega
 have h2:IntKind.i64.wrap ((u % 2:Nat):Int)=((u % 2:Nat):Int):=by rw [ν];omega
 have h3:IntKind.i64.wrap (-((u % 2:Nat):Int))= -((u % 2:Nat):Int):=by rw [ν];omega
 have hx:bits .xor .i64 ((u / 2:Nat):Int) (-((u % 2:Nat):Int))=zagV u:=by
  unfold zagV;rcases Nat.mod_two_eq_zero_or_one u with h|h
  ·rw [h,κ rfl];exact i64_zero _ (by omega)
  ·rw [h,γ (by decide)];exact i64_flip _ (by omega)
 go_enter func154,ntmps154;go_wp2;go_ret;exact⟨by rw [←hx];rfl,rfl⟩
def fOkQ (xs:List (Ce×Value)):Prop:= ∀ x∈xs,x.1.num<18446744073709551616∧x.1.data.length≤200
theorem takeP_ok (h:fOkQ xs) (bad k:Int) (t:Bool):(takeP xs bad k t).1.1.num<18446744073709551616∧(takeP xs bad k t).1.1.data.length≤200∧fOkQ (takeP xs bad k t).2.1:=by
 have h2:fOkQ (takeP xs bad k t).2.1:=fun x hx=>h x (takeP_sub x hx);rcases takeP_mem xs bad k t with e|e
 ·rw [e];exact⟨by decide,by decide,h2⟩
 ·exact⟨(h _ e).1,(h _ e).2,h2⟩
theorem fldV_num (b:List UInt8) (p last:Nat):(Fm b p last).2.1.num<18446744073709551616:=by
 unfold Fm;dsimp only
 repeat' split
 all_goals first
  |exact(by decide:(0:Nat)<18446744073709551616)
  |exact decV_lt _
theorem tlvGo_num (b:List UInt8): ∀ (n p last:Nat) (fs:List Ce),(∀ f∈fs,f.num<18446744073709551616)→ ∀ f∈(tlvGo b n p last fs).2,f.num<18446744073709551616
 |0,_,_,_=>fun h=>h
 |n+1,p,last,fs=>fun h=>by
  rw [tlvGo]
  split
  ·split
   ·refine tlvGo_num b n _ _ _ fun f hf=> ?_
    rcases List.mem_append.1 hf with hf|hf
    ·exact h f hf
    ·simp at hf;subst hf;exact fldV_num b p last
   ·intro f hf;cases hf
  ·exact h
theorem tlvDec_num {b:List UInt8}: ∀ f∈(tlvDec b).2,f.num<18446744073709551616:=by
 unfold tlvDec;split
 ·intro f hf;cases hf
 ·exact tlvGo_num b _ _ _ _ fun f hf=>by cases hf
def evZ (a b c:Int):Ev:=⟨a,b,c,0,0,0,0,[],0,[]⟩
structure DQ (w X W:World) (rb mb:Nat) (q:List Ce×Int) (o:Option (Nat×Ev)):Prop where
 rd: ∃ xs bad,q=(xs.map (·.1),bad)∧G8 W rb mb bad xs∧(∀ x∈xs,As (fun k=>(k≠rb∧k≠mb)∧k<X.heap.size) W x.2 x.1.data)∧fOkQ xs
 lt:rb<X.heap.size∧mb<X.heap.size∧w.heap.size<rb∧w.heap.size<mb
 res:Au W w.heap.size Ai
 ev: ∀ g e,o=some (g,e)→X.heap.size≤g∧Au W g e
 bl:Below w.heap.size w W
 sz:X.heap.size≤W.heap.size
section
variable {w X W W' : World} {rb mb : Nat} {q : List Ce × Int} {o : Option (Nat × Ev)}
theorem DQ.step {k:Int} {t:Bool} (h:DQ w X W rb mb q o) (hq:q=(xs.map (·.1),bad)) (hrow: ∀ x∈xs,As (fun k=>(k≠rb∧k≠mb)∧k<X.heap.size) W x.2 x.1.data) (hf:fOkQ xs)
  (h1:G8 W' rb mb (takeP xs bad k t).2.2 (takeP xs bad k t).2.1) (ht:Ab (fun j=>j=rb∨j=mb) W W'):DQ w X W' rb mb (Dt q k t).2 o:=by
 have hl:=h.lt;have hk: ∀ j e,Au W j e→j≠rb→j≠mb→Au W' j e:=fun j e a b c=>(ht.block _ a.lt fun hc=>by rcases hc with hc|hc;exact b hc;exact c hc).trans a;refine⟨⟨_,_,?_,h1,fun x hx=>As.turned (hrow x (takeP_sub x hx)) ht fun k hk hc=> ?_,(takeP_ok hf bad k t).2.2⟩,hl,hk _ _ h.res (by omega) (by omega),fun g e he=> ?_,Al h.bl ht (fun k hk=>by rcases hk with hk|hk<;>omega) h.bl.size,η h.sz ht.size⟩
 ·rw [hq,takeP_Q]
 ·rcases hc with hc|hc
  ·exact hk.1.1 hc
  ·exact hk.1.2 hc
 ·obtain⟨a,b⟩:=h.ev g e he;exact⟨a,hk _ _ b (by omega) (by omega)⟩
theorem DQ.num (h:DQ w X W rb mb q o) (k:Int) (hk:0≤k∧k≤1000): ∃ (u:Nat) (y:Int×List Ce×Int),numQ q k=y∧E8 u=y.1∧Calls prog 118 #[.pointer (some ⟨rb,0,none⟩),Vi Vk k] W fun e W'=>e= .returned (.int .u64 (u:Int))∧DQ w X W' rb mb y.2 o:=by
 obtain⟨xs,bad,e,h1,h2,h3⟩:=h.rd;refine⟨(Dt q k false).1.num,_,rfl,rfl,?_⟩;have e1:(Dt q k false).1.num=(takeP xs bad k false).1.1.num:=by rw [e,takeP_Q]
 rw [e1];refine(rdNum_any W rb mb bad k xs h1 hk).mono ?_;rintro x w1 ⟨rfl,a,b⟩;exact⟨rfl,h.step e h2 h3 a b⟩
theorem DQ.text (h:DQ w X W rb mb q o) (k:Int) (hk:0≤k∧k≤1000): ∃ y:Ce×List Ce×Int,Dt q k true=y∧y.1.data.length≤200∧Calls prog 120 #[.pointer (some ⟨rb,0,none⟩),Vi Vk k] W fun e W'=> ∃ v,e= .returned v∧B7 W' v y.1.data∧DQ w X W' rb mb y.2 o:=by
 obtain⟨xs,bad,e,h1,h2,h3⟩:=h.rd;refine⟨_,rfl,?_,?_⟩
 ·have e1:(Dt q k true).1.data=(takeP xs bad k true).1.1.data:=by rw [e,takeP_Q]
  rw [e1];exact(takeP_ok h3 bad k true).2.1
 ·have e1:(Dt q k true).1.data=(takeP xs bad k true).1.1.data:=by rw [e,takeP_Q]
  rw [e1];refine(rdText_any W rb mb bad k xs h1 hk).mono ?_;rintro x w1 ⟨rfl,a,b,c⟩;exact⟨_,rfl,a.brow,h.step e h2 h3 b c⟩
theorem DQ.err (h:DQ w X W rb mb q o):Calls prog 121 #[.pointer (some ⟨rb,0,none⟩)] W fun e W'=>e= .returned (Vi Vk (errQ q))∧W=W':=by
 obtain⟨xs,bad,e,h1,h2,h3⟩:=h.rd;rw [e,←errR_Q];exact rdErr_any W rb mb bad xs h1
theorem DQ.int (h:DQ w X W rb mb q o) (k:Int) (hk:0≤k∧k≤1000):(Dt q k false).1.num<18446744073709551616∧Calls prog 119 #[.pointer (some ⟨rb,0,none⟩),Vi Vk k] W fun e W'=>e= .returned (Vi Vk (zagV (Dt q k false).1.num))∧DQ w X W' rb mb (Dt q k false).2 o:=by
 obtain⟨xs,bad,e,h1,h2,h3⟩:=h.rd;have e1:(Dt q k false).1.num=(takeP xs bad k false).1.1.num:=by rw [e,takeP_Q]
 have hlt:=(takeP_ok h3 bad k false).1;have HN:=Qh (rdNum_any W rb mb bad k xs h1 hk);have HQ:=Qh (fun W' (a:G8 W' rb mb (takeP xs bad k false).2.2 (takeP xs bad k false).2.1) (b:Ab (fun j=>j=rb∨j=mb) W W')=>h.step e h2 h3 a b);rw [e1];refine⟨hlt,?_⟩;clear h h1 h2 h3 hk e1;generalize (Dt q k false).2=z at*;generalize takeP xs bad k false=y at*;have HZ:=Qh (fun W=>zag_any _ W hlt);clear hlt e;go_enter func119,ntmps119;go_wp2_with fail;refine HN.out.mono ?_;rintro e w1 ⟨rfl,h1,h2⟩;go_wp2_with fail;refine(HZ.out _).mono ?_;rintro e w2 ⟨rfl,rfl⟩;go_wp2;go_ret;exact⟨rfl,HQ.out _ h1 h2⟩
theorem Au.cell {b:Nat}  (h:Au w b e) (j:Nat):w.cell? ⟨b,j,none⟩=(A8 e)[j]? :=cell_of_row w b j _ _ _ h
theorem Au.free {b:Nat}  (h:Au w b e) (j:Nat):w.frozen? ⟨b,j,none⟩=false:=by unfold Au at h;simp [World.frozen?,h]
theorem Au.set {b:Nat} {e':Ev} (h:Au w b e) (j:Nat) (v:Value) (he:(A8 e).setIfInBounds j v=A8 e'):Au (w.setCell ⟨b,j,none⟩ v) b e':=by
 unfold Au at h ⊢;rw [←he];simp only [World.setCell];rw [Array.getElem?_modify];simp [h]
theorem Au.row {b:Nat} {e':Ev} (h:Au w b e):Au (w.setRow b (A8 e')) b e':=setRow_heap w b _ _ _ _ h
theorem evCs_all (e:Ev):(A8 e).all (·.oneCell')=true:=
 Array.all_eq_true_iff_forall_mem.2 (by
  intro u hu
  simp only [A8,List.mem_toArray,Δ,Ω,or_false] at hu
  rcases hu with rfl|rfl|rfl|rfl|rfl|rfl|rfl|rfl|rfl|rfl<;>rfl)
theorem DQ.set {e':Ev} (h:DQ w X W rb mb q (some (g,e))) (he:(A8 e).setIfInBounds j v=A8 e'):DQ w X (W.setCell ⟨g,j,none⟩ v) rb mb q (some (g,e')):=by
 have ht:Ab (fun k=>k=g) W (W.setCell ⟨g,j,none⟩ v):=Ab.setCell _ _ _ rfl;obtain⟨xs,bad,hq,h1,h2,h3⟩:=h.rd;have hl:=h.lt;obtain⟨hg,hev⟩:=h.ev g e rfl;have hsz:=h.sz;have hxw:w.heap.size<X.heap.size:=by omega
 exact⟨⟨xs,bad,hq,h1.other (B:=X.heap.size) ht (fun k hk=>by omega) hl.1 hl.2.1 fun x hx=>(h2 x hx).mono fun k hk=>hk.2,fun x hx=>As.turned (h2 x hx) ht fun k hk hc=>by omega,h3⟩,hl,
  (ht.block _ h.res.lt fun hc=>by omega).trans h.res,fun g' e'' hh=>by simp only [Option.some.injEq,Prod.mk.injEq] at hh;obtain⟨rfl,rfl⟩:=hh;exact⟨hg,hev.set j v he⟩,Al h.bl ht (fun k hk=>by omega) h.bl.size,η h.sz ht.size⟩
theorem DQ.alloc (h:DQ w X W rb mb q none):DQ w X (W.alloc (.cells (A8 e) 38)) rb mb q (some (W.heap.size,e)):=by
 have hb:=Aa W (.cells (A8 e) 38);obtain⟨xs,bad,hq,h1,h2,h3⟩:=h.rd;exact⟨⟨xs,bad,hq,h1.below hb,fun x hx=>(h2 x hx).below hb,h3⟩,h.lt,h.res.below hb,fun g' e'' hh=>by simp only [Option.some.injEq,Prod.mk.injEq] at hh;obtain⟨rfl,rfl⟩:=hh;exact⟨h.sz,σ W _⟩,Below.next h.bl hb,η h.sz hb.size⟩
end
theorem Bd (hgd:o.guard=none) (x y:Operand) (ho:o.op= .store 38 x y)
  (g:Nat) (e e':Ev) (hx:a.eval x= .pointer (some ⟨g,0,none⟩)) (hy:a.eval y=Ga e') (hE:Au w g e)
  (h: ∀ W,Hid (Au W g e'∧Ab (fun k=>k=g) w W)→wpList prog ops Q rest (a.put o.dst undef) W):wpList prog ops Q (o::rest) a w:=
 wpList_store_row hgd 38 x y ho g (A8 e') hx hy 38 (A8 e) hE Nz rfl (evCs_all e') (h _ (Qh ⟨hE.row,Jh _ _ _⟩))
theorem Fh {p:Tmp} (h:fn.results= #[.cell p 38,.tmp q]) (tmps:Array Value) (w:World) (g:Nat) (e:Ev) (x:Value)
  (hp:tmps.getD p undef= .pointer (some ⟨g,0,none⟩)) (hq:tmps.getD q undef=x) (hE:Au w g e):(results fn tmps).run prog w= .ok (.tuple #[Ga e,x]) w:=by
 have hl:=run_loadVar_row (P:=prog) w g 38 38 (A8 e) (0,0) _ hE underlying38 rfl Nz;have hp':tmps[p]?.getD undef= .pointer (some ⟨g,0,none⟩):=by simpa using hp
 have hq':tmps[q]?.getD undef=x:=by simpa using hq
 simp [results,h,hp',hq',asAddr,hl];rfl
def EvQ (w:World) (r:Ev×Int) (e:Ending) (w':World):Prop:=e= .returned (.tuple #[Ga r.1,Vi Vk r.2])∧Below w.heap.size w w'
theorem Gn (q:List Ce×Int) (k:Int):I64 (numQ q k).1:=by
 unfold numQ E8 I64;simp only;omega
theorem zagV_rng (hu:u<18446744073709551616):I64 (zagV u):=by
 unfold zagV I64;split<;>omega
def finQ (v:Int) (q:List Ce×Int) (e:Ev):Ev×Int:=if errQ q≠0 then (Ai,errQ q) else if Am v e≠0 then (Ai,Am v e) else (e,0)
theorem schDec_any (v:Int) (b:List UInt8) (bv:Value) (w:World) (hv:B7 w bv b) (hl:b.length≤9223372036854775807):Calls prog 78 #[Vi Vk v,bv] w (EvQ w (Gh v b)):=by
 have HB0:=Qh (Aa w (.cells #[Vi Vk 0,Vi Vk 0,Vi Vk 0,Vi Vk 0,Vi Vk 0,Vi Vk 0,Vi Vk 0,.string ⟨#[]⟩,Vi Vk 0,.string ⟨#[]⟩] 38));have HE0:=Qs (Au (w.alloc (.cells #[Vi Vk 0,Vi Vk 0,Vi Vk 0,Vi Vk 0,Vi Vk 0,Vi Vk 0,Vi Vk 0,.string ⟨#[]⟩,Vi Vk 0,.string ⟨#[]⟩] 38)) w.heap.size Ai) (σ w _);have HNR:=Qh (newReader_any b bv _ (hv.below HB0.out) hl);clear hv hl;rcases hq1:decide (v<1) with _|_;rotate_left
 ·have HR:=Qs (Gh v b=(Ai,30)) (by unfold Gh;rw [κ (.inl (ψ hq1))]);clear HNR;go_enter func78,ntmps78;go_wp2_with (with_reducible refine Bd rfl (.tmp 4) (.tmp 17) rfl w.heap.size Ai Ai rfl rfl HE0.out ?_);intro wz hz;have HZ:=Qs (Au wz w.heap.size Ai∧Below w.heap.size w wz) ⟨hz.out.1,Al HB0.out hz.out.2 (fun k hk=>by omega) HB0.out.size⟩;clear hz;go_wp2;exact π (v:= .tuple #[Ga Ai,Vi Vk 30]) (Fh rfl _ _ w.heap.size Ai _ rfl rfl HZ.out.1) rfl ⟨by rw [HR.out],HZ.out.2⟩
 rcases hq2:decide (5<v) with _|_;rotate_left
 ·have HR:=Qs (Gh v b=(Ai,30)) (by unfold Gh;rw [κ (.inr (ψ hq2))]);clear HNR;go_enter func78,ntmps78;go_wp2_with (with_reducible refine Bd rfl (.tmp 4) (.tmp 17) rfl w.heap.size Ai Ai rfl rfl HE0.out ?_);intro wz hz;have HZ:=Qs (Au wz w.heap.size Ai∧Below w.heap.size w wz) ⟨hz.out.1,Al HB0.out hz.out.2 (fun k hk=>by omega) HB0.out.size⟩;clear hz;go_wp2;exact π (v:= .tuple #[Ga Ai,Vi Vk 30]) (Fh rfl _ _ w.heap.size Ai _ rfl rfl HZ.out.1) rfl ⟨by rw [HR.out],HZ.out.2⟩
 have HDE:=Qs (Gh v b=if (tlvDec b).1≠0 then (Ai,(tlvDec b).1) else O2 v ((tlvDec b).2,0)) (by
  unfold Gh;rw [γ (fun h=>by rcases h with h|h;exact Γ hq1 h;exact Γ hq2 h)])
 have HVV:=Qs (v=1∨v=2∨v=3∨v=4∨v=5) (by have:=Γ hq1;have:=Γ hq2;omega);have HNM:=Qh (@tlvDec_num b);have HDT:=Qh (@tlvDec_data b);obtain⟨r,hr⟩: ∃ r,r=tlvDec b:=⟨_,rfl⟩;rw [←hr] at HNR HDE HNM HDT;clear hr;obtain⟨e0,fs⟩:=r;unfold NewRdPost at HNR;dsimp only at HNR HDE HNM HDT;go_enter func78,ntmps78;go_wp2_with fail;refine HNR.out.mono ?_;rintro e w1 ⟨h1,h2,hb1⟩;have HB1:=Qh (Below.next HB0.out hb1);have HE1:=Qh (HE0.out.below hb1);have hsz0:w.heap.size<(w.alloc (.cells #[Vi Vk 0,Vi Vk 0,Vi Vk 0,Vi Vk 0,Vi Vk 0,Vi Vk 0,Vi Vk 0,.string ⟨#[]⟩,Vi Vk 0,.string ⟨#[]⟩] 38)).heap.size:=HE0.out.lt;clear hb1 HNR HE0 HB0;rcases he:(e0 != 0) with _|_;rotate_left
 ·have he0: ¬ e0=0:=by simpa using he
  have HR:=Qs (Gh v b=(Ai,e0)) (by rw [HDE.out,κ he0]);obtain rfl:=h1 he0;clear h1 h2 he0 HDE;go_wp2_with (with_reducible refine Bd rfl (.tmp 4) (.tmp 25) rfl w.heap.size Ai Ai rfl rfl HE1.out ?_);intro wz hz;have HZ:=Qs (Au wz w.heap.size Ai∧Below w.heap.size w wz) ⟨hz.out.1,Al HB1.out hz.out.2 (fun k hk=>by omega) HB1.out.size⟩;clear hz;go_wp2;exact π (v:= .tuple #[Ga Ai,Vi Vk e0]) (Fh rfl _ _ w.heap.size Ai _ rfl rfl HZ.out.1) rfl ⟨by rw [HR.out],HZ.out.2⟩
 have he0:e0=0:=by simpa using he
 subst he0;obtain⟨rb,mb,xs,rfl,hxs,hrd,hrb,hmb⟩:=h2 rfl;have HQ:=Qs (DQ w w1 w1 rb mb (fs,0) none) ⟨⟨xs,0,by rw [hxs],hrd,fun x hx=>(hrd.rows x hx).low,fun x hx=>⟨HNM.out _ (by rw [←hxs];exact List.mem_map_of_mem hx),HDT.out _ (by rw [←hxs];exact List.mem_map_of_mem hx)⟩⟩,⟨hrd.lt.1,hrd.lt.2,by omega,by omega⟩,HE1.out,(fun _ _ h=>by cases h),HB1.out,μ _⟩;rw [γ (fun h=>h rfl)] at HDE;clear h1 h2 hxs hrd hrb hmb HNM HDT HE1 HB1 hsz0 he;go_wp2_with fail;obtain⟨u1,y1,he1,hs1,hc1⟩:=HQ.out.num 1 (by decide);have HK1:=Qh he1;refine hc1.mono ?_;rintro e wq1 ⟨rfl,hq⟩;replace HQ:=Qh hq;clear hq hc1 he1;go_wp2_with fail;refine(Fw u1 _).mono ?_;rintro e wr1 ⟨rfl,rfl⟩;rw [hs1];clear hs1;go_wp2_with fail;obtain⟨u2,y2,he2,hs2,hc2⟩:=HQ.out.num 2 (by decide);have HK2:=Qh he2;refine hc2.mono ?_;rintro e wq2 ⟨rfl,hq⟩;replace HQ:=Qh hq;clear hq hc2 he2;go_wp2_with fail;refine(Fw u2 _).mono ?_;rintro e wr2 ⟨rfl,rfl⟩;rw [hs2];clear hs2;go_wp2_with fail;obtain⟨u3,y3,he3,hs3,hc3⟩:=HQ.out.num 3 (by decide);have HK3:=Qh he3;refine hc3.mono ?_;rintro e wq3 ⟨rfl,hq⟩;replace HQ:=Qh hq;clear hq hc3 he3;go_wp2_with fail;refine(Fw u3 _).mono ?_;rintro e wr3 ⟨rfl,rfl⟩;rw [hs3];clear hs3
 go_upto_if 38 with fail
 have HQ2:=Qs (DQ w w1 (wq3.alloc (.cells #[Vi Vk y1.1,Vi Vk y2.1,Vi Vk y3.1,Vi Vk 0,Vi Vk 0,Vi Vk 0,Vi Vk 0,.string ⟨#[]⟩,Vi Vk 0,.string ⟨#[]⟩] 38)) rb mb y3.2 (some (wq3.heap.size,evZ y1.1 y2.1 y3.1))) (HQ.out.alloc (e:=evZ y1.1 y2.1 y3.1));generalize wq3.alloc (.cells #[Vi Vk y1.1,Vi Vk y2.1,Vi Vk y3.1,Vi Vk 0,Vi Vk 0,Vi Vk 0,Vi Vk 0,.string ⟨#[]⟩,Vi Vk 0,.string ⟨#[]⟩] 38)=wa at*;generalize wq3.heap.size=g at*;clear HQ
 go_cut [] from 37 to 45 (fun wx=> ∃ c:Int×List Ce×Int,Hid (I64 c.1)∧Hid ((if v<3 then (zagV (Dt y3.2 4 false).1.num,(Dt y3.2 4 false).2) else numQ y3.2 4)=c)∧Hid (DQ w w1 wx rb mb c.2 (some (g,{evZ y1.1 y2.1 y3.1 with qty:=c.1}))))
 case first=>
  rcases hq3:decide (v<3) with _|_
  ·have HQ:=HQ2;go_wp2_with fail;obtain⟨u4,y4,he4,hs4,hc4⟩:=HQ.out.num 4 (by decide);have HK4:=Qh he4;refine hc4.mono ?_;rintro e wq4 ⟨rfl,hq⟩;replace HQ:=Qh hq;clear hq hc4 he4;go_wp2_with fail;refine(Fw u4 _).mono ?_;rintro e wr4 ⟨rfl,rfl⟩;rw [hs4];clear hs4;have c3:wq4.cell? ⟨g,3,none⟩=some (Vi Vk 0):=(HQ.out.ev g _ rfl).2.cell 3;have f3:=(HQ.out.ev g _ rfl).2.free 3;replace HQ:=Qh (HQ.out.set (j:=3) (v:= Vi Vk y4.1) (e':={evZ y1.1 y2.1 y3.1 with qty:=y4.1}) rfl);go_wp2_with fail;go_meet;exact⟨y4,Qh (by rw [←HK4.out];exact Gn _ _),Qh (by rw [γ (Γ hq3)];exact HK4.out),HQ⟩
  ·go_wp2_with fail;obtain⟨hz0,hz1⟩:=HQ2.out.int 4 (by decide);have HZR:=Qh (zagV_rng hz0);refine hz1.mono ?_;rintro e wz ⟨rfl,hq⟩;have HQ:=Qh hq;clear hq HQ2 hz0 hz1;have c3:wz.cell? ⟨g,3,none⟩=some (Vi Vk 0):=(HQ.out.ev g _ rfl).2.cell 3;have f3:=(HQ.out.ev g _ rfl).2.free 3;generalize zagV (Dt y3.2 4 false).1.num=z at*;replace HQ:=Qh (HQ.out.set (j:=3) (v:= Vi Vk z) (e':={evZ y1.1 y2.1 y3.1 with qty:=z}) rfl);go_wp2_with fail;go_meet;exact⟨(z,(Dt y3.2 4 false).2),HZR,Qh (by rw [κ (ψ hq3)]),HQ⟩
 case rest=>
  obtain⟨c,HCR,HC,HQ⟩:=hcut;clear HQ2;go_wp2_with fail;obtain⟨u5,y5,he5,hs5,hc5⟩:=HQ.out.num 5 (by decide);have HK5:=Qh he5;refine hc5.mono ?_;rintro e wq5 ⟨rfl,hq⟩;replace HQ:=Qh hq;clear hq hc5 he5;go_wp2_with fail;refine(Fw u5 _).mono ?_;rintro e wr5 ⟨rfl,rfl⟩;rw [hs5];clear hs5;have c4:wq5.cell? ⟨g,4,none⟩=some (Vi Vk 0):=(HQ.out.ev g _ rfl).2.cell 4;have f4:=(HQ.out.ev g _ rfl).2.free 4;replace HQ:=Qh (HQ.out.set (j:=4) (v:= Vi Vk y5.1) (e':=⟨y1.1,y2.1,y3.1,c.1,y5.1,0,0,[],0,[]⟩) rfl);have HY1:=Qs (I64 y1.1) (by rw [←HK1.out];exact Gn _ _);have HY2:=Qs (I64 y2.1) (by rw [←HK2.out];exact Gn _ _);have HY3:=Qs (I64 y3.1) (by rw [←HK3.out];exact Gn _ _);have HY5:=Qs (I64 y5.1) (by rw [←HK5.out];exact Gn _ _);have hi0:I64 0:=⟨by decide,by decide⟩;have HI0:=Qh hi0;clear hi0;rcases HVV.out with rfl|rfl|rfl|rfl|rfl
  focus
   go_wp2_with fail;obtain⟨q,hq⟩: ∃ q,q=y5.2:=⟨_,rfl⟩;obtain⟨E,hE⟩: ∃ E,E=(⟨y1.1,y2.1,y3.1,c.1,y5.1,0,0,[],0,[]⟩:Ev):=⟨_,rfl⟩;have HO:=Qs (Lj 281474976710656 E) (by
    rw [hE];exact⟨HY1.out,HY2.out,HY3.out,HCR.out,HY5.out,HI0.out,HI0.out,HI0.out,(θ _),(θ _)⟩)
   have HF:=Qs (Gh 1 b=finQ 1 q E) (by
    rw [HDE.out,hq,hE];unfold O2 finQ;dsimp only;rw [HK1.out,HK2.out,HK3.out,HC.out,HK5.out];simp only [γ (show ¬ (1:Int)=5 by decide),γ (show ¬ (4:Int)≤1 by decide),γ (show ¬ (3:Int)≤1 by decide),γ (show ¬ (2:Int)≤1 by decide)])
   obtain⟨ck,hck⟩: ∃ ck,ck=Am 1 E:=⟨_,rfl⟩;have HCK:=Qs (∀ W,Calls prog 101 #[Vi Vk 1,Ga E] W (Hf ck W)) (fun W=>by rw [hck];exact Cf 1 E W HO.out);unfold finQ at HF;rw [←hck] at HF;clear hck;rw [←hq,←hE] at HQ;clear hq hE
  rotate_left
  focus
   go_wp2_with fail;obtain⟨u6,y6,he6,hs6,hc6⟩:=HQ.out.num 6 (by decide);have HK6:=Qh he6;refine hc6.mono ?_;rintro e wq6 ⟨rfl,hq⟩;replace HQ:=Qh hq;clear hq hc6 he6;go_wp2_with fail;refine(Fw u6 _).mono ?_;rintro e wr6 ⟨rfl,rfl⟩;rw [hs6];clear hs6;have c5:wq6.cell? ⟨g,5,none⟩=some (Vi Vk 0):=(HQ.out.ev g _ rfl).2.cell 5;have f5:=(HQ.out.ev g _ rfl).2.free 5;replace HQ:=Qh (HQ.out.set (j:=5) (v:= Vi Vk y6.1) (e':=⟨y1.1,y2.1,y3.1,c.1,y5.1,y6.1,0,[],0,[]⟩) rfl);go_wp2_with fail;clear c5 f5;obtain⟨q,hq⟩: ∃ q,q=y6.2:=⟨_,rfl⟩;obtain⟨E,hE⟩: ∃ E,E=(⟨y1.1,y2.1,y3.1,c.1,y5.1,y6.1,0,[],0,[]⟩:Ev):=⟨_,rfl⟩;have HO:=Qs (Lj 281474976710656 E) (by
    rw [hE];exact⟨HY1.out,HY2.out,HY3.out,HCR.out,HY5.out,(by rw [←HK6.out];exact Gn _ _),HI0.out,HI0.out,(θ _),(θ _)⟩)
   have HF:=Qs (Gh 2 b=finQ 2 q E) (by
    rw [HDE.out,hq,hE];unfold O2 finQ;dsimp only;rw [HK1.out,HK2.out,HK3.out,HC.out,HK5.out];simp only [γ (show ¬ (2:Int)=5 by decide),γ (show ¬ (4:Int)≤2 by decide),γ (show ¬ (3:Int)≤2 by decide),κ (show (2:Int)≤2 by decide),HK6.out])
   obtain⟨ck,hck⟩: ∃ ck,ck=Am 2 E:=⟨_,rfl⟩;have HCK:=Qs (∀ W,Calls prog 101 #[Vi Vk 2,Ga E] W (Hf ck W)) (fun W=>by rw [hck];exact Cf 2 E W HO.out);unfold finQ at HF;rw [←hck] at HF;clear hck;rw [←hq,←hE] at HQ;clear hq hE
  rotate_left
  focus
   go_wp2_with fail;obtain⟨u7,y7,he7,hs7,hc7⟩:=HQ.out.num 7 (by decide);have HK7:=Qh he7;refine hc7.mono ?_;rintro e wq7 ⟨rfl,hq⟩;replace HQ:=Qh hq;clear hq hc7 he7;go_wp2_with fail;refine(Fw u7 _).mono ?_;rintro e wr7 ⟨rfl,rfl⟩;rw [hs7];clear hs7;have c6:wq7.cell? ⟨g,6,none⟩=some (Vi Vk 0):=(HQ.out.ev g _ rfl).2.cell 6;have f6:=(HQ.out.ev g _ rfl).2.free 6;replace HQ:=Qh (HQ.out.set (j:=6) (v:= Vi Vk y7.1) (e':=⟨y1.1,y2.1,y3.1,c.1,y5.1,0,y7.1,[],0,[]⟩) rfl);go_wp2_with fail;clear c6 f6;obtain⟨u6,y6,he6,hs6,hc6⟩:=HQ.out.num 6 (by decide);have HK6:=Qh he6;refine hc6.mono ?_;rintro e wq6 ⟨rfl,hq⟩;replace HQ:=Qh hq;clear hq hc6 he6;go_wp2_with fail;refine(Fw u6 _).mono ?_;rintro e wr6 ⟨rfl,rfl⟩;rw [hs6];clear hs6;have c5:wq6.cell? ⟨g,5,none⟩=some (Vi Vk 0):=(HQ.out.ev g _ rfl).2.cell 5;have f5:=(HQ.out.ev g _ rfl).2.free 5;replace HQ:=Qh (HQ.out.set (j:=5) (v:= Vi Vk y6.1) (e':=⟨y1.1,y2.1,y3.1,c.1,y5.1,y6.1,y7.1,[],0,[]⟩) rfl);go_wp2_with fail;clear c5 f5;obtain⟨q,hq⟩: ∃ q,q=y6.2:=⟨_,rfl⟩;obtain⟨E,hE⟩: ∃ E,E=(⟨y1.1,y2.1,y3.1,c.1,y5.1,y6.1,y7.1,[],0,[]⟩:Ev):=⟨_,rfl⟩;have HO:=Qs (Lj 281474976710656 E) (by
    rw [hE];exact⟨HY1.out,HY2.out,HY3.out,HCR.out,HY5.out,(by rw [←HK6.out];exact Gn _ _),(by rw [←HK7.out];exact Gn _ _),HI0.out,(θ _),(θ _)⟩)
   have HF:=Qs (Gh 3 b=finQ 3 q E) (by
    rw [HDE.out,hq,hE];unfold O2 finQ;dsimp only;rw [HK1.out,HK2.out,HK3.out,HC.out,HK5.out];simp only [γ (show ¬ (3:Int)=5 by decide),γ (show ¬ (4:Int)≤3 by decide),κ (show (3:Int)≤3 by decide),HK7.out,κ (show (2:Int)≤3 by decide),HK6.out])
   obtain⟨ck,hck⟩: ∃ ck,ck=Am 3 E:=⟨_,rfl⟩;have HCK:=Qs (∀ W,Calls prog 101 #[Vi Vk 3,Ga E] W (Hf ck W)) (fun W=>by rw [hck];exact Cf 3 E W HO.out);unfold finQ at HF;rw [←hck] at HF;clear hck;rw [←hq,←hE] at HQ;clear hq hE
  rotate_left
  focus
   go_wp2_with fail;obtain⟨n8,hk8,hl8,hc8⟩:=HQ.out.text 8 (by decide);have HT8:=Qh hk8;have HL8:=Qh hl8;refine hc8.mono ?_;rintro e wt8 ⟨tv8,rfl,hb8,hq⟩;replace HQ:=Qh hq;have hcv:=conv_brow hb8;clear hq hk8 hl8 hc8 hb8;have c7:wt8.cell? ⟨g,7,none⟩=some (.string ⟨#[]⟩):=(HQ.out.ev g _ rfl).2.cell 7;have f7:=(HQ.out.ev g _ rfl).2.free 7;replace HQ:=Qh (HQ.out.set (j:=7) (v:= .string ⟨n8.1.data.toArray⟩) (e':=⟨y1.1,y2.1,y3.1,c.1,y5.1,0,0,n8.1.data,0,[]⟩) rfl);go_wp2_with fail;clear hcv c7 f7;obtain⟨u7,y7,he7,hs7,hc7⟩:=HQ.out.num 7 (by decide);have HK7:=Qh he7;refine hc7.mono ?_;rintro e wq7 ⟨rfl,hq⟩;replace HQ:=Qh hq;clear hq hc7 he7;go_wp2_with fail;refine(Fw u7 _).mono ?_;rintro e wr7 ⟨rfl,rfl⟩;rw [hs7];clear hs7;have c6:wq7.cell? ⟨g,6,none⟩=some (Vi Vk 0):=(HQ.out.ev g _ rfl).2.cell 6;have f6:=(HQ.out.ev g _ rfl).2.free 6;replace HQ:=Qh (HQ.out.set (j:=6) (v:= Vi Vk y7.1) (e':=⟨y1.1,y2.1,y3.1,c.1,y5.1,0,y7.1,n8.1.data,0,[]⟩) rfl);go_wp2_with fail;clear c6 f6;obtain⟨u6,y6,he6,hs6,hc6⟩:=HQ.out.num 6 (by decide);have HK6:=Qh he6;refine hc6.mono ?_;rintro e wq6 ⟨rfl,hq⟩;replace HQ:=Qh hq;clear hq hc6 he6;go_wp2_with fail;refine(Fw u6 _).mono ?_;rintro e wr6 ⟨rfl,rfl⟩;rw [hs6];clear hs6;have c5:wq6.cell? ⟨g,5,none⟩=some (Vi Vk 0):=(HQ.out.ev g _ rfl).2.cell 5;have f5:=(HQ.out.ev g _ rfl).2.free 5;replace HQ:=Qh (HQ.out.set (j:=5) (v:= Vi Vk y6.1) (e':=⟨y1.1,y2.1,y3.1,c.1,y5.1,y6.1,y7.1,n8.1.data,0,[]⟩) rfl);go_wp2_with fail;clear c5 f5;obtain⟨q,hq⟩: ∃ q,q=y6.2:=⟨_,rfl⟩;obtain⟨E,hE⟩: ∃ E,E=(⟨y1.1,y2.1,y3.1,c.1,y5.1,y6.1,y7.1,n8.1.data,0,[]⟩:Ev):=⟨_,rfl⟩;have HO:=Qs (Lj 281474976710656 E) (by
    rw [hE];exact⟨HY1.out,HY2.out,HY3.out,HCR.out,HY5.out,(by rw [←HK6.out];exact Gn _ _),(by rw [←HK7.out];exact Gn _ _),HI0.out,(η HL8.out (by decide)),(θ _)⟩)
   have HF:=Qs (Gh 4 b=finQ 4 q E) (by
    rw [HDE.out,hq,hE];unfold O2 finQ;dsimp only;rw [HK1.out,HK2.out,HK3.out,HC.out,HK5.out];simp only [γ (show ¬ (4:Int)=5 by decide),κ (show (4:Int)≤4 by decide),HT8.out,κ (show (3:Int)≤4 by decide),HK7.out,κ (show (2:Int)≤4 by decide),HK6.out])
   obtain⟨ck,hck⟩: ∃ ck,ck=Am 4 E:=⟨_,rfl⟩;have HCK:=Qs (∀ W,Calls prog 101 #[Vi Vk 4,Ga E] W (Hf ck W)) (fun W=>by rw [hck];exact Cf 4 E W HO.out);unfold finQ at HF;rw [←hck] at HF;clear hck;rw [←hq,←hE] at HQ;clear hq hE
  rotate_left
  focus
   go_wp2_with fail;obtain⟨n10,hk10,hl10,hc10⟩:=HQ.out.text 10 (by decide);have HT10:=Qh hk10;have HL10:=Qh hl10;refine hc10.mono ?_;rintro e wt10 ⟨tv,rfl,hb10,hq⟩;replace HQ:=Qh hq;have hcv:=conv_brow hb10;clear hq hk10 hl10 hc10 hb10;have c9:wt10.cell? ⟨g,9,none⟩=some (.string ⟨#[]⟩):=(HQ.out.ev g _ rfl).2.cell 9;have f9:=(HQ.out.ev g _ rfl).2.free 9;replace HQ:=Qh (HQ.out.set (j:=9) (v:= .string ⟨n10.1.data.toArray⟩) (e':=⟨y1.1,y2.1,y3.1,c.1,y5.1,0,0,[],0,n10.1.data⟩) rfl);go_wp2_with fail;clear hcv c9 f9;obtain⟨u9,y9,he9,hs9,hc9⟩:=HQ.out.num 9 (by decide);have HK9:=Qh he9;refine hc9.mono ?_;rintro e wq9 ⟨rfl,hq⟩;replace HQ:=Qh hq;clear hq hc9 he9;go_wp2_with fail;refine(Fw u9 _).mono ?_;rintro e wr9 ⟨rfl,rfl⟩;rw [hs9];clear hs9;have c8:wq9.cell? ⟨g,8,none⟩=some (Vi Vk 0):=(HQ.out.ev g _ rfl).2.cell 8;have f8:=(HQ.out.ev g _ rfl).2.free 8;replace HQ:=Qh (HQ.out.set (j:=8) (v:= Vi Vk y9.1) (e':=⟨y1.1,y2.1,y3.1,c.1,y5.1,0,0,[],y9.1,n10.1.data⟩) rfl);go_wp2_with fail;clear c8 f8;obtain⟨n8,hk8,hl8,hc8⟩:=HQ.out.text 8 (by decide);have HT8:=Qh hk8;have HL8:=Qh hl8;refine hc8.mono ?_;rintro e wt8 ⟨tv8,rfl,hb8,hq⟩;replace HQ:=Qh hq;have hcv:=conv_brow hb8;clear hq hk8 hl8 hc8 hb8;have c7:wt8.cell? ⟨g,7,none⟩=some (.string ⟨#[]⟩):=(HQ.out.ev g _ rfl).2.cell 7;have f7:=(HQ.out.ev g _ rfl).2.free 7;replace HQ:=Qh (HQ.out.set (j:=7) (v:= .string ⟨n8.1.data.toArray⟩) (e':=⟨y1.1,y2.1,y3.1,c.1,y5.1,0,0,n8.1.data,y9.1,n10.1.data⟩) rfl);go_wp2_with fail;clear hcv c7 f7;obtain⟨u7,y7,he7,hs7,hc7⟩:=HQ.out.num 7 (by decide);have HK7:=Qh he7;refine hc7.mono ?_;rintro e wq7 ⟨rfl,hq⟩;replace HQ:=Qh hq;clear hq hc7 he7;go_wp2_with fail;refine(Fw u7 _).mono ?_;rintro e wr7 ⟨rfl,rfl⟩;rw [hs7];clear hs7;have c6:wq7.cell? ⟨g,6,none⟩=some (Vi Vk 0):=(HQ.out.ev g _ rfl).2.cell 6;have f6:=(HQ.out.ev g _ rfl).2.free 6;replace HQ:=Qh (HQ.out.set (j:=6) (v:= Vi Vk y7.1) (e':=⟨y1.1,y2.1,y3.1,c.1,y5.1,0,y7.1,n8.1.data,y9.1,n10.1.data⟩) rfl);go_wp2_with fail;clear c6 f6;obtain⟨u6,y6,he6,hs6,hc6⟩:=HQ.out.num 6 (by decide);have HK6:=Qh he6;refine hc6.mono ?_;rintro e wq6 ⟨rfl,hq⟩;replace HQ:=Qh hq;clear hq hc6 he6;go_wp2_with fail;refine(Fw u6 _).mono ?_;rintro e wr6 ⟨rfl,rfl⟩;rw [hs6];clear hs6;have c5:wq6.cell? ⟨g,5,none⟩=some (Vi Vk 0):=(HQ.out.ev g _ rfl).2.cell 5;have f5:=(HQ.out.ev g _ rfl).2.free 5;replace HQ:=Qh (HQ.out.set (j:=5) (v:= Vi Vk y6.1) (e':=⟨y1.1,y2.1,y3.1,c.1,y5.1,y6.1,y7.1,n8.1.data,y9.1,n10.1.data⟩) rfl);go_wp2_with fail;clear c5 f5;obtain⟨q,hq⟩: ∃ q,q=y6.2:=⟨_,rfl⟩;obtain⟨E,hE⟩: ∃ E,E=(⟨y1.1,y2.1,y3.1,c.1,y5.1,y6.1,y7.1,n8.1.data,y9.1,n10.1.data⟩:Ev):=⟨_,rfl⟩;have HO:=Qs (Lj 281474976710656 E) (by
    rw [hE];exact⟨HY1.out,HY2.out,HY3.out,HCR.out,HY5.out,(by rw [←HK6.out];exact Gn _ _),(by rw [←HK7.out];exact Gn _ _),(by rw [←HK9.out];exact Gn _ _),(η HL8.out (by decide)),(η HL10.out (by decide))⟩)
   have HF:=Qs (Gh 5 b=finQ 5 q E) (by
    rw [HDE.out,hq,hE];unfold O2 finQ;dsimp only;rw [HK1.out,HK2.out,HK3.out,HC.out,HK5.out];rw [κ (show (5:Int)=5 from rfl),HT10.out,HK9.out,κ (show (4:Int)≤5 by decide),HT8.out,κ (show (3:Int)≤5 by decide),HK7.out,κ (show (2:Int)≤5 by decide),HK6.out])
   obtain⟨ck,hck⟩: ∃ ck,ck=Am 5 E:=⟨_,rfl⟩;have HCK:=Qs (∀ W,Calls prog 101 #[Vi Vk 5,Ga E] W (Hf ck W)) (fun W=>by rw [hck];exact Cf 5 E W HO.out);unfold finQ at HF;rw [←hck] at HF;clear hck;rw [←hq,←hE] at HQ;clear hq hE
  rotate_left
  all_goals
   have HER:=Qh HQ.out.err;obtain⟨er,her⟩: ∃ er,er=errQ q:=⟨_,rfl⟩;rw [←her] at HER HF;clear her;refine HER.out.mono ?_;rintro e we ⟨rfl,hwe⟩;rw [←hwe];clear hwe HER;rcases he2:(er != 0) with _|_;rotate_left
   ·have HR:=Qh (HF.out.trans (κ (by simpa using he2)));clear HF;go_wp2_with (with_reducible refine Bd rfl (.tmp 4) (.tmp 83) rfl w.heap.size Ai Ai rfl rfl HQ.out.res ?_);intro wz hz;have HZ:=Qs (Au wz w.heap.size Ai∧Below w.heap.size w wz) ⟨hz.out.1,Al HQ.out.bl hz.out.2 (fun k hk=>by omega) HQ.out.bl.size⟩;clear hz;go_wp2;exact π (v:= .tuple #[Ga Ai,Vi Vk er]) (Fh rfl _ _ w.heap.size Ai _ rfl rfl HZ.out.1) rfl ⟨by rw [HR.out],HZ.out.2⟩
   have he20:er=0:=by simpa using he2
   rw [γ (fun h=>h he20)] at HF;clear he20;have HEV:=Qh (HQ.out.ev g E rfl).2;have HBL:=Qh HQ.out.bl;have HRS:=Qh HQ.out.res;clear HQ;go_wp2_with (with_reducible refine A6 rfl (.tmp 8) rfl g E rfl HEV.out ?_);refine(HCK.out _).mono ?_;rintro e wk ⟨rfl,hb⟩;replace HEV:=Qh (HEV.out.below hb);replace HRS:=Qh (HRS.out.below hb);replace HBL:=Qh (Below.next HBL.out hb);clear hb;rcases hk2:(ck != 0) with _|_;rotate_left
   ·have HR:=Qh (HF.out.trans (κ (by simpa using hk2)));clear HF;go_wp2_with (with_reducible refine Bd rfl (.tmp 4) (.tmp 90) rfl w.heap.size Ai Ai rfl rfl HRS.out ?_);intro wz hz;have HZ:=Qs (Au wz w.heap.size Ai∧Below w.heap.size w wz) ⟨hz.out.1,Al HBL.out hz.out.2 (fun k hk=>by omega) HBL.out.size⟩;clear hz;go_wp2;exact π (v:= .tuple #[Ga Ai,Vi Vk ck]) (Fh rfl _ _ w.heap.size Ai _ rfl rfl HZ.out.1) rfl ⟨by rw [HR.out],HZ.out.2⟩
   have hk20:ck=0:=by simpa using hk2
   rw [γ (fun h=>h hk20)] at HF;clear hk20;go_wp2_with (first|(with_reducible refine A6 rfl (.tmp 8) rfl g E rfl HEV.out ?_)|(with_reducible refine Bd rfl (.tmp 4) (.tmp 92) rfl w.heap.size Ai E rfl rfl HRS.out ?_));intro wz hz;have HZ:=Qs (Au wz w.heap.size E∧Below w.heap.size w wz) ⟨hz.out.1,Al HBL.out hz.out.2 (fun k hk=>by omega) HBL.out.size⟩;clear hz;go_wp2;exact π (v:= .tuple #[Ga E,Vi Vk 0]) (Fh rfl _ _ w.heap.size E _ rfl rfl HZ.out.1) rfl ⟨by rw [HF.out],HZ.out.2⟩
theorem results_ev3 {p r:Tmp} (h:fn.results= #[.tmp p,.cell q 38,.tmp r]) (tmps:Array Value) (w:World) (g:Nat) (e:Ev) (x y:Value)
  (hp:tmps.getD p undef=x) (hq:tmps.getD q undef= .pointer (some ⟨g,0,none⟩)) (hr:tmps.getD r undef=y) (hE:Au w g e):(results fn tmps).run prog w= .ok (.tuple #[x,Ga e,y]) w:=by
 have hl:=run_loadVar_row (P:=prog) w g 38 38 (A8 e) (0,0) _ hE underlying38 rfl Nz;have hp':tmps[p]?.getD undef=x:=by simpa using hp
 have hq':tmps[q]?.getD undef= .pointer (some ⟨g,0,none⟩):=by simpa using hq
 have hr':tmps[r]?.getD undef=y:=by simpa using hr
 simp [results,h,hp',hq',hr',asAddr,hl];rfl
def UnpQ (w:World) (r:Int×Ev×Int) (e:Ending) (w':World):Prop:=e= .returned (.tuple #[Vi Vk r.1,Ga r.2.1,Vi Vk r.2.2])∧Below w.heap.size w w'
theorem unpack_any (b:List UInt8) (bv:Value) (w:World) (hv:B7 w bv b) (hl:b.length≤9223372036854775807):Calls prog 51 #[bv] w (UnpQ w (Gy b)):=by
 have HB0:=Qh (Aa w (.cells #[Vi Vk 0,Vi Vk 0,Vi Vk 0,Vi Vk 0,Vi Vk 0,Vi Vk 0,Vi Vk 0,.string ⟨#[]⟩,Vi Vk 0,.string ⟨#[]⟩] 38));have HE0:=Qs (Au (w.alloc (.cells #[Vi Vk 0,Vi Vk 0,Vi Vk 0,Vi Vk 0,Vi Vk 0,Vi Vk 0,Vi Vk 0,.string ⟨#[]⟩,Vi Vk 0,.string ⟨#[]⟩] 38)) w.heap.size Ai) (σ w _);have HV:=Qh (hv.below HB0.out);have HVD:=Qh (I1 b bv _ HV.out hl);have HDL:=Qh (@Jw b)
 have HUN:=Qh (show Gy b=if (A3 b).2.2≠0 then (0,Ai,(A3 b).2.2)
   else if (Gh (E8 (A3 b).1) (b.drop (A3 b).2.1)).2≠0 then (0,Ai,(Gh (E8 (A3 b).1) (b.drop (A3 b).2.1)).2)
   else (E8 (A3 b).1,(Gh (E8 (A3 b).1) (b.drop (A3 b).2.1)).1,0) from rfl)
 obtain⟨r,hr⟩: ∃ r,r=A3 b:=⟨_,rfl⟩;rw [←hr] at HVD HUN HDL;clear hr;obtain⟨u,n,e0⟩:=r;obtain⟨oa,cap,rfl,hlc,_⟩:=id hv;unfold VarPost at HVD;dsimp only at HVD HUN HDL;have HL:=Qh hl;clear hv hl;go_enter func51,ntmps51;go_wp2_with fail;generalize w.alloc (.cells #[Vi Vk 0,Vi Vk 0,Vi Vk 0,Vi Vk 0,Vi Vk 0,Vi Vk 0,Vi Vk 0,.string ⟨#[]⟩,Vi Vk 0,.string ⟨#[]⟩] 38)=w0 at*;refine HVD.out.mono ?_;rintro e w1 ⟨rfl,hb1⟩;have HB1:=Qh (Below.next HB0.out hb1);have HE1:=Qh (HE0.out.below hb1);have HV1:=Qh (HV.out.below hb1);clear hb1 HVD HB0 HE0 HV;rcases he:(e0 != 0) with _|_;rotate_left
 ·have HR:=Qh (HUN.out.trans (κ (by simpa using he)));clear HUN HDL;go_wp2_with (with_reducible refine Bd rfl (.tmp 3) (.tmp 18) rfl w.heap.size Ai Ai rfl rfl HE1.out ?_);intro wz hz;have HZ:=Qs (Au wz w.heap.size Ai∧Below w.heap.size w wz) ⟨hz.out.1,Al HB1.out hz.out.2 (fun k hk=>by omega) HB1.out.size⟩;clear hz;go_wp2;exact π (v:= .tuple #[Vi Vk 0,Ga Ai,Vi Vk e0]) (results_ev3 rfl _ _ w.heap.size Ai _ _ rfl rfl rfl HZ.out.1) rfl ⟨by rw [HR.out],HZ.out.2⟩
 have he0:e0=0:=by simpa using he
 have hn:=(HDL.out he0).2;rw [γ (fun h=>h he0)] at HUN;clear HDL he0;go_wp2_with fail;refine(Fw u _).mono ?_;rintro e w1' ⟨rfl,hww⟩;rw [←hww];clear hww;generalize E8 u=v at*;go_wp2_with (with_reducible refine Pw rfl (.tmp 24) (.tmp 25) rfl oa cap n b rfl rfl HV1.out hn ?_);intro oa' cap' hbr;have HD:=Qh (schDec_any v (b.drop n) _ w1 hbr (by rw [Λ];have:=HL.out;omega));obtain⟨dr,hdr⟩: ∃ dr,dr=Gh v (b.drop n):=⟨_,rfl⟩;rw [←hdr] at HD HUN;clear hdr hbr hn;obtain⟨E,e1⟩:=dr;unfold EvQ at HD;dsimp only at HD HUN;go_wp2_with fail;refine HD.out.mono ?_;rintro e w2 ⟨rfl,hb2⟩;have hba:=Aa w2 (.cells (A8 E) 38);have HEA:=Qs (Au (w2.alloc (.cells (A8 E) 38)) w2.heap.size E) (σ w2 _);have HB2:=Qh (Below.next (Below.next HB1.out hb2) hba);have HE2:=Qh ((HE1.out.below hb2).below hba);have hne:w.heap.size<w2.heap.size:=(HE1.out.below hb2).lt;simp only [A8] at HEA HB2 HE2;clear hb2 hba HB1 HE1 HV1 HD;rcases he2:(e1 != 0) with _|_;rotate_left
 ·have HR:=Qh (HUN.out.trans (κ (by simpa using he2)));clear HUN;go_wp2_with (with_reducible refine Bd rfl (.tmp 3) (.tmp 32) rfl w.heap.size Ai Ai rfl rfl HE2.out ?_);intro wz hz;have HZ:=Qs (Au wz w.heap.size Ai∧Below w.heap.size w wz) ⟨hz.out.1,Al HB2.out hz.out.2 (fun k hk=>by omega) HB2.out.size⟩;clear hz;go_wp2;exact π (v:= .tuple #[Vi Vk 0,Ga Ai,Vi Vk e1]) (results_ev3 rfl _ _ w.heap.size Ai _ _ rfl rfl rfl HZ.out.1) rfl ⟨by rw [HR.out],HZ.out.2⟩
 have HR:=Qh (HUN.out.trans (γ (fun h=>h (by simpa using he2))));clear HUN;go_wp2_with fail;generalize w2.alloc (.cells #[Vi Vk E.kind,Vi Vk E.order,Vi Vk E.item,Vi Vk E.qty,Vi Vk E.price,Vi Vk E.cur,Vi Vk E.tax,.string ⟨E.who.toArray⟩,Vi Vk E.stamp,.string ⟨E.note.toArray⟩] 38)=w3 at*;generalize w2.heap.size=g at*;have hbd:Below w3.heap.size w3 (World.drew w3):=Ac w3 1;refine ε (S:=fun w'=>Au w' g E) (by kernel_rfl) (HEA.out.below hbd) (fun hHeld=> ?_);refine tq 0 rfl ?_;refine tkl 1 g 0 [Vi Vk E.kind,Vi Vk E.order,Vi Vk E.item,Vi Vk E.qty,Vi Vk E.price,Vi Vk E.cur,Vi Vk E.tax,.string ⟨E.who.toArray⟩,Vi Vk E.stamp,.string ⟨E.note.toArray⟩] rfl rfl (fun w' h j u hj=>by rw [Nat.zero_add,h.cell];simpa [A8] using hj) underlying38 rfl (by rw [Nz];rfl) ?_;simp only [pA,pB,pC,pD];refine tq 2 rfl ?_;have HE3:=Qh (HE2.out.below hbd);have HB3:=Qh (Below.next HB2.out hbd);clear hbd HEA HE2 HB2;generalize World.drew _=wd at*;refine Rd 3 rfl fun K hK=> ?_;rw [κ (by kernel_rfl)];refine wp_store_row 38 (.tmp 3) (.tmp 35) rfl w.heap.size (A8 E) rfl rfl 38 (A8 Ai) HE3.out Nz rfl (evCs_all E) ?_;have HZ:=Qs (Au (wd.setRow w.heap.size (A8 E)) w.heap.size E∧Below w.heap.size w (wd.setRow w.heap.size (A8 E))) ⟨HE3.out.row,Bw HB3.out (μ _) _⟩;refine hK.out _ _ (show Au (wd.setRow w.heap.size (A8 E)) g E from(setRow_other _ _ _ _ (by omega)).trans hHeld) (fun hHeld=> ?_);clear hK K;refine tq 4 rfl ?_;generalize wd.setRow w.heap.size (A8 E)=we at*;refine Ξ (by kernel_rfl) ?_ _;go_wp2;exact π (v:= .tuple #[Vi Vk v,Ga E,Vi Vk 0]) (results_ev3 rfl _ _ w.heap.size E _ _ rfl rfl rfl HZ.out.1) rfl ⟨by rw [HR.out],HZ.out.2⟩
end Go.Proofs.YtgkdenejkcngnaaGreatDoor
