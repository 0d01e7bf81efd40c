import Derived.Test.YtgkdenejkcngnaaGreatDoorPv11
set_option maxRecDepth 100000
set_option maxHeartbeats 8000000
namespace Go.Proofs.YtgkdenejkcngnaaGreatDoor
open Go.RowKit
open Value renaming int→Vi
open IntKind renaming i64→Vk
open Go.Proofs.Tryz
variable {a:Act}{K:Act→World→Prop}{d d':Af}{listed:Array Bool}{af:Array Edge}{ops:Array Oper}{x:Bl}{s:C6}{D:DataW Value}{e:Ev}{Q:Exit→Act→World→Prop}{fn:Func}{h:Hd}{bad from_ num:Int}{xs:List (Ce×Value)}{E bs:List (List UInt8)}{L:List Aq}{fs fs':List Bl}{G:List Grp}{ps:List I3}{zs:List Int}{ms:List Mk}{us vs:List Nat}{rest:List Oper}{b body l n raw t:List UInt8}{cs:List Value}{B N base c f first g i j k m more most p r segEv size stride u:Nat}{A A' S:Nat→Prop}{o:Oper}{P:Program}{q:Tmp}{bv mv rv sv v v' v1:Value}{W W' X w w' w0 w1 w2:World}
theorem run_appInts {x:Value} (hown:w.ownsRow B 3 1 v 0 []) (hB:B≤w.heap.size) (hx:RdInts w x zs) (ty:TypeId):
  ∃ v' w',(Builtin.append_ #[63,63] ty #[v,x]).run prog w= .ok v' w'∧w'.ownsRow B 3 1 v' zs.length (zs.map fun z=>Value.int .i64 z)∧Below B w w':=by
 obtain⟨i0,hi,hz0,hz1,hz2⟩:=info_parts infoI64;obtain⟨hl,h|⟨a,cap,rfl,hc⟩⟩:=hx.row
 ·obtain⟨rfl,rfl⟩:=h;obtain⟨ao,cap,rfl,hc,_⟩:=Aj hown;refine⟨.slice ao 0 cap,w,?_,by simpa using hown,χ _ _⟩;rcases ao with _|ao<;>simp [Builtin.append_,run_underlying underlying63,sizeOf,typeInfo,hi,Builtin.lenOf,Builtin.firstCells,storeCells]
 ·obtain⟨v',w',h1,h2,h3,_⟩:=run_append_own (P:=prog) w B 63 ty 3 i0 (Vi Vk 0) 1 8 underlying63 hi hz0 hz1 hz2 rfl (by decide) v 0 [] hown a zs.length cap (zs.map fun z=>Value.int .i64 z) (by simp) (fun j u hj=>by
   rw [List.getElem?_map] at hj;obtain⟨y,hy,rfl⟩:=Option.map_eq_some_iff.1 hj;exact hc j y hy) (fun u hu=>by obtain⟨_,_,rfl⟩:=List.mem_map.1 hu;rfl) (by unfold maxLen;omega) (by omega) hB
  exact⟨v',w',h1,by simpa using h2,Cm hown hB h3⟩
theorem wpList_appInts (hgd:o.guard=none) (s y:Operand) (ho:o.op= .call {callee:= .builtin .append,args:= #[s,y],argTypes:= #[63,63]}) {x:Value} 
  (hs:a.eval s= .slice (some ⟨N,0,none⟩) 0 0) (hN:N=w.heap.size) (hy:a.eval y=x) (hx:RdInts w x zs)
  (h: ∀ v' w',w'.ownsRow w.heap.size 3 1 v' zs.length (zs.map fun z=>Value.int .i64 z)→Below w.heap.size w w'→wpList prog ops Q rest (a.put o.dst v') w'):wpList prog ops Q (o::rest) a (w.alloc (.cells #[] 3)):=by
 subst hN;have hb:=Aa w (.cells #[] 3);refine wpList_plain hgd fun K hK=> ?_;obtain⟨v',w',hr,h1,h2⟩:=run_appInts (own_fresh w 3 1 _ (μ _)) hb.size (hx.below hb) o.type;unfold Oper.wp;simp [execOp,ho,resolve,invoke,builtin,hs,hy,hr,Result.andThen];exact hK _ _ (h v' w' h1 (hb.trans (h2.mono (μ _))))
theorem pre_get {α:Type} {l r:List α} (h:l <+: r)  {x:α} (hx:l[j]? =some x):r[j]? =some x:=by
 obtain⟨t,rfl⟩:=h;rw [List.getElem?_append_left (List.getElem?_eq_some_iff.1 hx).1];exact hx
theorem ev11_ok:Lj 281474976710656 (⟨1,1,0,0,0,0,0,[],0,[]⟩:Ev):=by
 constructor<;>first|exact⟨by decide,by decide⟩|exact θ _
theorem storeLives_walk0 (ops:List OpS) (sv kz:Value) (a c n:Int) (ks:List Int) (w:World) (hs:OpRow w sv ops) (hks:RdInts w kz ks) (hnn:n≤9223372036854775807) (hn:Bh w) (ht:Dn w) (hg:4≤w.heap.size):
  Calls prog 6 #[sv,.agg #[Vi Vk a,Vi Vk c],Vi Vk n,kz] w fun x w'=>x= .returned (.bool true)∧Below w.heap.size w w':=by
 obtain⟨oa,cap,rfl,hln,hrow⟩:=hs;have HB0:=Qh (Aa w (.cells #[Vi Vk a,Vi Vk c] 24));have HC0:=Qs ((w.alloc (.cells #[Vi Vk a,Vi Vk c] 24)).heap[w.heap.size]? =some (.cells #[Vi Vk a,Vi Vk c] 24 (0,0))) (σ w _);have HN:=Qh hn;have HT:=Qh ht;have HG:=Qh hg;have HLN:=Qh hln;have HROW:=Qh hrow;have HKS:=Qh hks;have HNN:=Qh hnn;clear hn ht hg hln hrow hks hnn;go_enter func6,ntmps6;go_wp2_with fail;generalize w.alloc (.cells #[Vi Vk a,Vi Vk c] 24)=w0 at*;refine(head19_any w0 (HN.out.below HB0.out) (HT.out.below HB0.out) (η HG.out HB0.out.size)).mono ?_;rintro x w1 ⟨rfl,hb1⟩;have HB1:=Qh (Below.next HB0.out hb1);have HC1:=Qs (w1.heap[w.heap.size]? =some (.cells #[Vi Vk a,Vi Vk c] 24 (0,0))) ((hb1.block _ (δ.1 HC0.out).1).trans HC0.out);have a0:w1.cell? ⟨w.heap.size,0,none⟩=some (Vi Vk a):=cell_of_row _ _ 0 _ _ _ HC1.out;have a1:w1.cell? ⟨w.heap.size,1,none⟩=some (Vi Vk c):=cell_of_row _ _ 1 _ _ _ HC1.out;clear hb1 HB0 HC0;go_wp2_with fail;clear a0 a1;refine(stRight_any a c w1).mono ?_;rintro x w2 ⟨rfl,hb2⟩;have HB2:=Qh (Below.next HB1.out hb2);have HC2:=Qs (w2.heap[w.heap.size]? =some (.cells #[Vi Vk a,Vi Vk c] 24 (0,0))) ((hb2.block _ (δ.1 HC1.out).1).trans HC1.out);clear hb2 HB1 HC1;rcases hr:(decide (1≤a)&&decide (a≤64)&&decide (1≤c)&&decide (c≤512)) with _|_
 ·go_wp2_with fail;refine(head19_any w2 (HN.out.below HB2.out) (HT.out.below HB2.out) (η HG.out HB2.out.size)).mono ?_;rintro x w3 ⟨rfl,hb3⟩;have HB3:=Qh (Below.next HB2.out hb3);clear hb3;go_wp2;go_ret;exact⟨rfl,HB3.out⟩
 have hrr:=hr;simp only [Bool.and_eq_true,decide_eq_true_eq] at hrr;obtain⟨p,rfl⟩: ∃ p:Nat,a=(p:Int):=⟨a.toNat,by omega⟩;obtain⟨q,rfl⟩: ∃ q:Nat,c=(q:Int):=⟨c.toNat,by omega⟩;have HP:=Qs (1≤p∧p≤64) (by omega);have HQ:=Qs (1≤q∧q≤512) (by omega);clear hrr;have a0:w2.cell? ⟨w.heap.size,0,none⟩=some (Vi Vk (p:Int)):=cell_of_row _ _ 0 _ _ _ HC2.out;have a1:w2.cell? ⟨w.heap.size,1,none⟩=some (Vi Vk (q:Int)):=cell_of_row _ _ 1 _ _ _ HC2.out;go_wp2_with fail;clear a0 a1 hr;refine(stFree_any p q w2 (HN.out.below HB2.out) (η HG.out HB2.out.size) HP.out HQ.out).mono ?_;rintro x w3 ⟨f,m,b,d,rfl,ho,hfi,hro⟩;have hbn:=Aa w3 (.cells #[] 38);have HL3:=Qh (Ie ho.2 (μ _));have HFU:=Qh (atFuse (n:=n) ((ho.1.narrow hbn).mono (P':=fun j=>w2.heap.size≤j∧(Value.slice (some ⟨w3.heap.size,0,none⟩) 0 0).ownBlock≠some j) fun j hj=>⟨hj.1,fun hc=>by
   have h1:=φ hc;have h2:=hj.2;rw [World.size_alloc] at h2;simp only at h1;omega⟩) HP.out HQ.out hfi hro HNN.out)
 clear ho hfi hro hbn;go_wp2_with fail;refine HFU.out.mono ?_;rintro x w5 ⟨rfl,d5,hA5,ht5⟩;have HI0:=Qh (LvI.start HL3.out hA5 ht5 ⟨rfl,rfl⟩);clear hA5 ht5 HFU HL3;go_wp2;go_loopw [8,10,11,12,13,16,17,18,63,109,116,123] (fun _ sp kv sf iv _ _ _ _ _ _ _ wr=> ∃ (i S:Nat) (X:List (List UInt8)) (su ku:Value),i≤ops.length∧i≤60∧iv= Vi Vk (i:Int)∧sf= Vi Vk (S:Int)∧su=sp∧ku=kv∧Hid (LvI w2 f m p q i S X su ku wr)) (fun _ _ _ _ iv _ _ _ _ _ _ _ _=>61 - (intOf iv).toNat)
 case atStart=>exact⟨0,0,[],_,_,θ _,by decide,rfl,rfl,rfl,rfl,HI0⟩
 case round=>
  obtain⟨i,S,X,su,ku,hi1,hi2,rfl,rfl,rfl,rfl,HI⟩:=hrel;clear HI0;have HBR:=Qh (HB2.out.trans (HI.out.bl.mono HB2.out.size));have HCR:=Qs (wr.heap[w.heap.size]? =some (.cells (cfCs p q) 24 (0,0))) ((HI.out.bl.block _ (δ.1 HC2.out).1).trans HC2.out);have HNP:=Qs (∀ j,j≤w.heap.size→ ¬ w2.heap.size≤j) (fun j hj hc=>by have:=(δ.1 HC2.out).1;omega);obtain⟨ko,kc,hsh,_,_⟩:=Aj HI.out.row;rw [List.length_map] at hsh;subst hsh;by_cases hgo:(i<ops.length∧i<60)∧ ∃ b d s,su= .pointer (some ⟨b,0,none⟩)∧Ou (fun j=>w2.heap.size≤j∧(Value.slice ko X.length kc).ownBlock≠some j) wr f m b d s X S (2*i)∧s.stride=p∧s.segEv=q
  ·obtain⟨⟨hg1,hg2⟩,b,d,s,rfl,hat,hcf⟩:=hgo;have q1:(i:Int)<(ops.length:Int):=by omega
   have q2:(i:Int)<60:=by omega
   have hw1:IntKind.i64.wrap ((i:Int)+1)=(i:Int)+1:=by rw [ν];omega
   obtain⟨o,ho⟩: ∃ o,ops[i]? =some o:=⟨_,Θ hg1⟩;obtain⟨hok,ob,off,rv,rfl,hrg,hrv⟩:=HROW.out i o ho;have HOK:=Qh hok;have HRW:=Qh (Bs hrg HBR.out);have HONE:=Qh (brow_one hrv);have HAT:=Qh hat;have HCF:=Qh hcf;have hbz:=Aa wr (.cells (Lb Pm (.slice none 0 0)) 41);have HZ:=Qs (OppBlk (wr.alloc (.cells (Lb Pm (.slice none 0 0)) 41)) wr.heap.size Pm (.slice none 0 0)∧Below wr.heap.size wr (wr.alloc (.cells (Lb Pm (.slice none 0 0)) 41))) ⟨σ wr _,hbz⟩;simp only [Lb,Pm,Ai] at HZ;have HZ1:=Qh (show OppBlk _ wr.heap.size Pm (.slice none 0 0) from HZ.out.1);have HDN:=Qh hat.down;clear ho hok hrg hrv hbz hat hcf;go_wp2_with fail;refine HDN.out.mono ?_;rintro x w9 ⟨rfl,rfl⟩;clear HDN;go_wp2_with (first|(with_reducible refine wpList_load_opp rfl (.tmp 59) rfl ob (off+i*16) o rv rfl HRW.out ?_)|(with_reducible refine wpList_store_opp rfl (.tmp 14) (.tmp 60) rfl wr.heap.size Pm o (.slice none 0 0) rv HONE.out rfl rfl HZ1.out ?_));intro W1 hz;have HW1:=Qs (OppBlk W1 wr.heap.size o rv∧Below wr.heap.size wr W1) ⟨hz.out.1,Al HZ.out.2 hz.out.2 (fun k hk=>by omega) HZ.out.2.size⟩;clear hz HZ HZ1 HRW HONE;have HA1:=Qh (HAT.out.narrow HW1.out.2);have c0:W1.cell? ⟨wr.heap.size,0,none⟩=some (Vi Vk o.k):=cell_of_row _ _ 0 _ _ _ HW1.out.1;rcases q0:(o.k==0) with _|_;rotate_left
   ·have HE:=Qh (op_ev HW1.out.1);have c1:W1.cell? ⟨wr.heap.size,1,none⟩=some (Vi Vk o.v):=cell_of_row _ _ 1 _ _ _ HW1.out.1;obtain⟨cE,hcE⟩: ∃ cE,cE=Am o.v o.e:=⟨_,rfl⟩;obtain⟨T,hT⟩: ∃ T,T=toV o.v o.e:=⟨_,rfl⟩;have HTO:=Qh (ref7To_any o.v o.e W1 HOK.out.ev);rw [←hcE,←hT] at HTO;have HCE:=Qh hcE;have HTT:=Qh hT;clear hcE hT;go_wp2_with (with_reducible refine Oq rfl (.tmp 68) rfl wr.heap.size 2 o.e rfl HE.out ?_);clear c0 c1;refine HTO.out.mono ?_;rintro x w6 ⟨rfl,hb6⟩;have HZ6:=Qs (Au (w6.alloc (.cells (A8 Ai) 38)) w6.heap.size Ai∧Below w6.heap.size w6 (w6.alloc (.cells (A8 Ai) 38))) ⟨σ w6 _,Aa _ _⟩;simp only [A8,Ai] at HZ6;have HZ7:=Qh (show Au _ w6.heap.size Ai from HZ6.out.1);have HB6:=Qh hb6;clear hb6 HTO HE;go_wp2_with (with_reducible refine Bd rfl (.tmp 15) (.tmp 71) rfl w6.heap.size Ai T rfl rfl HZ7.out ?_);intro W7 hz7;have HE7:=Qs (Au W7 w6.heap.size T) hz7.out.1;have HB7:=Qs (Below W1.heap.size W1 W7) (Below.next HB6.out (Al HZ6.out.2 hz7.out.2 (fun k hk=>by omega) HZ6.out.2.size));have HW7:=Qs (Below wr.heap.size wr W7) (Below.next HW1.out.2 HB7.out);have HOB:=Qs (OppBlk W7 wr.heap.size o rv) ((HB7.out.block _ (δ.1 HW1.out.1).1).trans HW1.out.1);clear hz7 HZ6 HZ7;have HLT:=Qs (wr.heap.size≤w6.heap.size) (η HW1.out.2.size HB6.out.size);have HE:=Qh (op_ev HOB.out);have c1:W7.cell? ⟨wr.heap.size,1,none⟩=some (Vi Vk o.v):=cell_of_row _ _ 1 _ _ _ HOB.out;have HCA:=Qh (atAppendF (v:=o.v) (e:=o.e) (HAT.out.narrow HW7.out) (by omega) HOK.out.ev);clear HA1 HB6 HB7 HW1 HAT;go_wp2_with (with_reducible refine Oq rfl (.tmp 77) rfl wr.heap.size 2 o.e rfl HE.out ?_);clear c1;refine HCA.out.mono ?_;rintro x w8 ⟨⟨r1,r2⟩,rfl,ht8,hc⟩;have HT8:=Qh ht8;clear HCA HE HOB ht8;by_cases hc0:cE=0;rotate_left
    ·have HAF:=Qs (r2=cE∧LvI w2 f m p q (i+1) S X (.pointer (some ⟨b,0,none⟩)) (.slice ko X.length kc) w8) (by
      rcases hc with⟨h1,h2,h3⟩|⟨h1,_⟩|⟨h1,_⟩
      ·simp only [Prod.mk.injEq] at h2;exact⟨h2.2.trans HCE.out.symm,HI.out.live HW7.out HT8.out h3 (by omega) HCF.out⟩
      ·exact absurd (HCE.out.trans h1) hc0
      ·exact absurd (HCE.out.trans h1) hc0)
     obtain rfl:=HAF.out.1;have p1:(r2==0)=false:=by simpa using hc0
     have p2:(r2 != 0)=true:=by simpa using hc0
     clear hc HCE HTT HE7 HT8 hc0;rcases p3:(r2==3) with _|_
     focus
      have p4:(r2 != 3)=true:=by simpa using p3
     rotate_left
     focus
      have p4:(r2 != 3)=false:=by simpa using p3
     all_goals
      go_wp2;go_roundw
      case rel=>exact⟨i+1,S,X,_,_,by omega,by omega,by go_num,rfl,rfl,rfl,Qh HAF.out.2⟩
      case measure=>simp [intOf];omega
    ·subst hc0;have HAF:=Qs ((r2=0∧r1=(X.length:Int)+1∨r2=3∧r1=0)∧T=upV (Iy o.v o.e)∧(∀ kn wn,KvN w2 w8 wn (.slice ko X.length kc) kn (X++[Iy o.v o.e])→LvI w2 f m p q (i+1) S (X++[Iy o.v o.e]) (.pointer (some ⟨b,0,none⟩)) kn wn)) (by
      refine⟨?_,?_,fun kn wn hkn=> ?_⟩
      ·rcases hc with⟨h1,_⟩|⟨_,h2,_⟩|⟨_,h2,_⟩
       ·exact absurd HCE.out.symm h1
       ·simp only [Prod.mk.injEq] at h2;exact .inl ⟨h2.2,h2.1⟩
       ·simp only [Prod.mk.injEq] at h2;exact .inr ⟨h2.2,h2.1⟩
      ·rw [HTT.out];unfold toV;rw [←HCE.out,κ rfl,upV_pack HCE.out.symm]
      ·refine HI.out.lost HW7.out HT8.out hkn (by have:=HG.out;have:=HB2.out.size;omega) ?_;rcases hc with⟨h1,_⟩|⟨_,_,d',s',h3,h4,h5⟩|⟨_,_,d',E',h3,h4,h5⟩
       ·exact absurd HCE.out.symm h1
       ·exact .inl ⟨b,d',s',rfl,h3,h4.trans HCF.out.1,h5.trans HCF.out.2⟩
       ·rw [HCF.out.1] at h5;refine .inr ⟨d',E',h3,?_,h5⟩;rcases h4 with rfl|rfl
        ·exact List.prefix_append _ _
        ·exact List.prefix_refl _)
     have HLO:=Qh (HI.out.lo HW7.out HT8.out);have HE8:=Qh (show Au w8 w6.heap.size T from(HT8.out.block _ (δ.1 HE7.out).1 fun hc'=>by
      have h1:=hc'.2;have h2:=(δ.1 HE7.out).1;have h3:=HLT.out;omega).trans HE7.out)
     have hlE:=HI.out.len;have hkl:(X.map upV).length≤1000000:=by rw [List.length_map];omega
     clear hc HCE HTT HE7 HT8 HI hlE;go_wp2_with (first|(with_reducible refine A6 rfl (.tmp 15) rfl w6.heap.size T rfl HE8.out ?_)|(with_reducible refine wpList_appEv (v:= .slice ko X.length kc) (e:=T) rfl (.tmp 84) (.tmp 86) rfl rfl rfl rfl HLO.out.2 HLO.out.1.size hkl ?_));intro kn wn hkn htn hnn;have HKN:=Qs (KvN w2 w8 wn (.slice ko X.length kc) kn (X++[Iy o.v o.e])) ⟨by rw [List.map_append,List.map_singleton,←HAF.out.2.1];exact hkn,htn,hnn⟩;obtain⟨ko',kc',hsh,_,_⟩:=Aj HKN.out.row;rw [List.length_map,ζ,List.length_singleton] at hsh;subst hsh;clear hkn htn hnn hkl HLO HE8;rcases HAF.out.1 with⟨rfl,rfl⟩|⟨rfl,rfl⟩
     all_goals
      go_wp2;go_roundw
      case rel=>exact⟨i+1,S,_,_,_,by omega,by omega,by go_num,rfl,rfl,rfl,Qh (HAF.out.2.2 _ _ HKN.out)⟩
      case measure=>simp [intOf];omega
   have HHG:=Qs (∀ j,j<4→ ¬ ((w2.heap.size≤j∧(Value.slice ko X.length kc).ownBlock≠some j)∧(j<wr.heap.size∨W1.heap.size≤j))) (fun j hj hc=>HNP.out j (by have:=HG.out;omega) hc.1.1);have HLR:=Qh (fun(W:World) (ht':Ab (fun j=>(w2.heap.size≤j∧(Value.slice ko X.length kc).ownBlock≠some j)∧(j<wr.heap.size∨W1.heap.size≤j)) W1 W)=>show W.heap[w.heap.size]? =some (.cells (cfCs p q) 24 (0,0)) from(ht'.block _ (Nat.lt_of_lt_of_le (δ.1 HCR.out).1 HW1.out.2.size) fun hc=>HNP.out _ (μ _) hc.1.1).trans ((HW1.out.2.block _ (δ.1 HCR.out).1).trans HCR.out));rcases q3:(o.k==2) with _|_;rotate_left
   ·have HSY:=Qh (atSyncF HA1.out (by omega));go_wp2_with fail;clear c0;refine HSY.out.mono ?_;rintro x w8 ⟨ht8,⟨rfl,d',hA⟩|⟨rfl,d',hd,hA⟩⟩
    ·have HL:=Qh (HI.out.live HW1.out.2 ht8 hA (by omega) HCF.out);clear hA ht8 HSY HI HA1 HAT;go_wp2;go_roundw
     case rel=>exact⟨i+1,X.length,X,_,_,by omega,by omega,by go_num,rfl,rfl,rfl,HL⟩
     case measure=>simp [intOf];omega
    ·rw [HCF.out.1] at hA;have HL:=Qh (HI.out.dead (sp':= .pointer (some ⟨b,0,none⟩)) HW1.out.2 ht8 hA (by omega) hd (List.prefix_refl _));clear hA ht8 hd HSY HI HA1 HAT;go_wp2;go_roundw
     case rel=>exact⟨i+1,S,X,_,_,by omega,by omega,by go_num,rfl,rfl,rfl,HL⟩
     case measure=>simp [intOf];omega
   rcases q4:(o.k==3) with _|_;rotate_left
   ·have HRO:=Qh (atRotateF HA1.out (by omega));go_wp2_with fail;clear c0;refine HRO.out.mono ?_;rintro x w8 ⟨ht8,⟨rfl,hA⟩|⟨rfl,d',s',hA,hc1,hc2⟩|⟨rfl,d',hd,hA⟩⟩
    ·have HL:=Qh (HI.out.live HW1.out.2 ht8 hA (by omega) HCF.out);clear hA ht8 HRO HI HA1 HAT;go_wp2;go_roundw
     case rel=>exact⟨i+1,S,X,_,_,by omega,by omega,by go_num,rfl,rfl,rfl,HL⟩
     case measure=>simp [intOf];omega
    ·have HL:=Qh (HI.out.live HW1.out.2 ht8 hA (by omega) ⟨hc1.trans HCF.out.1,hc2.trans HCF.out.2⟩);clear hA ht8 hc1 hc2 HRO HI HA1 HAT;go_wp2;go_roundw
     case rel=>exact⟨i+1,X.length,X,_,_,by omega,by omega,by go_num,rfl,rfl,rfl,HL⟩
     case measure=>simp [intOf];omega
    ·rw [HCF.out.1] at hA;have HL:=Qh (HI.out.dead (sp':= .pointer (some ⟨b,0,none⟩)) HW1.out.2 ht8 hA (by omega) hd (List.prefix_refl _));clear hA ht8 hd HRO HI HA1 HAT;go_wp2;go_roundw
     case rel=>exact⟨i+1,S,X,_,_,by omega,by omega,by go_num,rfl,rfl,rfl,HL⟩
     case measure=>simp [intOf];omega
   rcases q5:(o.k==8) with _|_;rotate_left
   ·have HCL:=Qh (atCloseF HA1.out (by omega));go_wp2_with fail;clear c0;refine HCL.out.mono ?_;rintro x w8 ⟨ht8,⟨rfl,d',hA⟩|⟨rfl,d',hd,hA⟩⟩
    ·have HOP:=Qh (by have:=atOpenF hA (by omega) HHG.out;rw [HCF.out.1,HCF.out.2] at this;exact this);have HC8:=Qh (HLR.out w8 ht8);have HT8:=Qh ht8;clear hA ht8 HCL;go_wp2_with (with_reducible refine J5 rfl (.tmp 5) rfl w.heap.size p q rfl HC8.out ?_);refine HOP.out.mono ?_;rintro x w9 ⟨ht9,⟨b',d2,s2,rfl,hA,hc1,hc2⟩|⟨rfl,d2,hd,hA⟩⟩
     ·have HL:=Qh (HI.out.live HW1.out.2 (HT8.out.trans ht9 fun _ h=> .inl h) hA (by omega) ⟨hc1,hc2⟩);clear hA ht9 hc1 hc2 HOP HC8 HT8 HI HA1 HAT;go_wp2;go_roundw
      case rel=>exact⟨i+1,X.length,X,_,_,by omega,by omega,by go_num,rfl,rfl,rfl,HL⟩
      case measure=>simp [intOf];omega
     ·have HL:=Qh (HI.out.dead (sp':= .pointer none) HW1.out.2 (HT8.out.trans ht9 fun _ h=> .inl h) hA (by omega) hd (List.prefix_refl _));clear hA ht9 hd HOP HC8 HT8 HI HA1 HAT;go_wp2;go_roundw
      case rel=>exact⟨i+1,X.length,X,_,_,by omega,by omega,by go_num,rfl,rfl,rfl,HL⟩
      case measure=>simp [intOf];omega
    ·rw [HCF.out.1] at hA;have HL:=Qh (HI.out.dead (sp':= .pointer (some ⟨b,0,none⟩)) HW1.out.2 ht8 hA (by omega) hd (List.prefix_refl _));clear hA ht8 hd HCL HI HA1 HAT;go_wp2;go_roundw
     case rel=>exact⟨i+1,S,X,_,_,by omega,by omega,by go_num,rfl,rfl,rfl,HL⟩
     case measure=>simp [intOf];omega
   ·have HL:=Qh (HI.out.live HW1.out.2 (Ab.refl _ _) HA1.out (by omega) HCF.out);clear HI HA1 HAT;go_wp2;go_roundw
    case rel=>exact⟨i+1,S,X,_,_,by omega,by omega,by go_num,rfl,rfl,rfl,HL⟩
    case measure=>simp [intOf];omega
  ·obtain⟨d,E,hpre,hof⟩:=HI.out.off;have HOF:=Qh (And.intro hpre hof);have HKR:=Qh HI.out.row;have HBW:=Qh HI.out.bl;have hlX:=HI.out.len;have HDN:=Qh (show (i<ops.length∧i<60)→Calls prog 26 #[.pointer (some ⟨f,0,none⟩)] wr fun e w'=>e= .returned (.bool true)∧wr=w' from fun hg=>by
    rcases HI.out.st with h|⟨d,E',h1,_,h3⟩
    ·exact absurd ⟨hg,h⟩ hgo
    ·exact h3.down h1)
   clear hgo hpre hof HI;obtain⟨wo,rfl⟩: ∃ wo:World,wo=wr:=⟨_,rfl⟩;rcases hq1:decide (i<ops.length) with _|_
   focus
    clear HDN;go_upto_region 31 with fail
   rotate_left
   focus
    rcases hq2:decide ((i:Int)<60) with _|_
    focus
     clear HDN;go_upto_region 31 with fail
    rotate_left
    focus
     have HDD:=Qh (HDN.out ⟨ψ hq1,by have:=ψ hq2;omega⟩);clear HDN;go_wp2_with fail;refine HDD.out.mono ?_;rintro x w9 ⟨rfl,rfl⟩;clear HDD;go_upto_region 31 with fail
   all_goals
    go_wp2_with (with_reducible refine wpList_appInts (x:=kz) rfl (.tmp 137) (.tmp 138) rfl rfl rfl rfl (HKS.out.below HBR.out) ?_);intro kn wn hkn hbn;have HRS:=Qh (atRestart (HOF.out.2.sep (Ab.below (S:=fun _=>False) hbn) fun _ h=>h.elim) (kpIn_row hkn fun j h1 h2 hc=>by have:=hc.2;omega) fun j hj hc=>HNP.out j (by have:=HG.out;omega) hc.1.1);have HBN:=Qh hbn;clear hkn hbn;go_wp2_with fail;refine HRS.out.mono ?_;rintro x w3 ⟨rfl,hbk,ht3⟩;have HBK:=Qh hbk;have HT3:=Qh (show Ab (fun j=>w2.heap.size≤j∧(Value.slice ko X.length kc).ownBlock≠some j) wo w3 from(Ab.below HBN.out).trans ht3 fun j hj=> .inl hj.1);have HC3:=Qs (w3.heap[w.heap.size]? =some (.cells (cfCs p q) 24 (0,0))) ((HT3.out.block _ (δ.1 HCR.out).1 fun hc=>HNP.out _ (μ _) hc.1).trans HCR.out);have HOP:=Qh (atBack hbk (by omega) HQ.out fun j hj hc=>HNP.out j (by have:=HG.out;omega) hc.1.1);clear hbk ht3 HRS HBN;go_wp2_with (with_reducible refine J5 rfl (.tmp 5) rfl w.heap.size p q rfl HC3.out ?_);refine HOP.out.mono ?_;rintro x w4 ⟨b,d1,s,j,rfl,ho,hbig,hj1,hj2⟩;obtain⟨Y,hY⟩: ∃ Y,Y=E.take j:=⟨_,rfl⟩;have hYl:Y.length=j:=by rw [hY,ω];omega
    have HYX:=Qs (Y <+: X) (hY▸(List.take_prefix _ _).trans HOF.out.1);rw [←hY] at ho;have HA4:=Qh (ho.1.up (show 2*i+30≤400 by omega));have HT4:=Qh (show Ab (fun j=>w2.heap.size≤j∧(Value.slice ko X.length kc).ownBlock≠some j) wo w4 from HT3.out.trans ho.2 fun j hj=> .inl hj.1);have HBG:=Qh hbig;have hv1:decide (Y.length<S)=false:=ρ (by omega);have hv2:decide (X.length<Y.length)=false:=ρ (by have:=HYX.out.length_le;omega);clear hY hYl ho hbig hj1 hj2 HOP HBK HT3 HC3;have HB4:=Qs (Below w.heap.size w w4) (HBR.out.trans ((Ie (HT4.out.mono fun k hk=>hk.1) HBW.out.size).mono HB2.out.size));have HRE:=Qh (atRead (from_:=1) HA4.out (by decide) (HT.out.below HB4.out));go_wp2_with fail;refine HRE.out.mono ?_;rintro x w5 ⟨v,r,d2,n2,rfl,ho,hfi,hro,hres⟩;replace HBG:=Qh (show Big d2 {s with decoded:=n2} _ from⟨hro.trans HBG.out.room,by rw [hfi];exact HBG.out.used,by rw [hfi];exact HBG.out.len,HBG.out.segs⟩);clear hfi hro;rcases hres with⟨_,hbad,_,_⟩|⟨rfl,_,hrs,_⟩
    ·omega
    rw [fromN_all (by decide)] at hrs;have HA5:=Qh ho.1;have HT5:=Qh (show Ab (fun j=>w2.heap.size≤j∧(Value.slice ko X.length kc).ownBlock≠some j) wo w5 from HT4.out.trans ho.2 fun j hj=> .inl hj.1);have HB5:=Qs (Below w.heap.size w w5) (HBR.out.trans ((Ie (HT5.out.mono fun k hk=>hk.1) HBW.out.size).mono HB2.out.size));have HK5:=Qs (Nc w5 w2.heap.size (.slice ko X.length kc) (X.map upV)) (evOwn_keep HKR.out HT5.out fun k hk hc=>hc.2 hk);have HR5:=Qh hrs;obtain⟨ro,rc,hsh,_,_⟩:=Aj hrs;rw [numb_length] at hsh;subst hsh;clear ho hrs HRE HKR HA4 HT4 HB4;go_wp2_with fail;refine(atLast HA5.out (by decide)).mono ?_;rintro x w6 ⟨rfl,hb6⟩;have HI5:=Qs (Nc w6 w2.heap.size (.slice ko X.length kc) (X.map upV)∧N9 w6 w4.heap.size (.slice ro Y.length rc) (numb 1 Y)∧Below w5.heap.size w5 w6) ⟨A2 HK5.out hb6,A2 HR5.out hb6,hb6⟩;clear hb6 HK5 HR5;go_wp2;go_loopw [8,21,182] (fun _ _ jv wr=> ∃ j:Nat,j≤Y.length∧jv= Vi Vk (j:Int)∧Hid (Nc wr w2.heap.size (.slice ko X.length kc) (X.map upV)∧N9 wr w4.heap.size (.slice ro Y.length rc) (numb 1 Y)∧Below w5.heap.size w5 wr)) (fun _ _ jv _=>Y.length - (intOf jv).toNat)
    case atStart=>exact⟨0,θ _,rfl,HI5⟩
    case round=>
     obtain⟨j,hj1,rfl,HJ⟩:=hrel;clear HI5;by_cases hj:j<Y.length
     ·have k1:(j:Int)<(Y.length:Int):=by omega
      have hw2:IntKind.i64.wrap ((j:Int)+1)=(j:Int)+1:=by have:=HYX.out.length_le;rw [ν];omega
      obtain⟨b5,hb5⟩: ∃ b5,Y[j]? =some b5:=⟨_,Θ hj⟩;have hx5:=pre_get HYX.out hb5;have hj3:j<X.length:=(List.getElem?_eq_some_iff.1 hx5).1;have k2:(j:Int)<(X.length:Int):=by omega
      obtain⟨kg,kc',hks,_⟩:=Dr HJ.out.1 (by rw [List.length_map];omega);simp only [Value.slice.injEq] at hks;obtain⟨rfl,hz,rfl⟩:=hks;clear hz;obtain⟨rg,rc',hks,_⟩:=Dr HJ.out.2.1 (by rw [numb_length];omega);simp only [Value.slice.injEq] at hks;obtain⟨rfl,hz,rfl⟩:=hks;clear hz;obtain⟨e5,he5⟩: ∃ e5,e5=upV b5:=⟨_,rfl⟩;have HKA:=Qs (wr.rangeAt kg (j*10) (A8 e5).toList) (own_at (fun e=>(A8 e).toList) (X.map upV) (fun _=>rfl) HJ.out.1 rfl (by rw [List.getElem?_map,hx5,he5];rfl));have HRA:=Qs (wr.rangeAt rg (j*11) (rsCs ((j:Int)+1,e5)).toList) (own_at (fun r=>(rsCs r).toList) (numb 1 Y) (fun _=>rfl) HJ.out.2.1 rfl (by rw [numb_at Y 1 j b5 hb5,he5];congr 2;omega));have HNE:=Qh (fun W=>show (binOp .neq 38 (.agg #[Vi Vk e5.kind,Vi Vk e5.order,Vi Vk e5.item,Vi Vk e5.qty,Vi Vk e5.price,Vi Vk e5.cur,Vi Vk e5.tax,.string ⟨e5.who.toArray⟩,Vi Vk e5.stamp,.string ⟨e5.note.toArray⟩]) (.agg #[Vi Vk e5.kind,Vi Vk e5.order,Vi Vk e5.item,Vi Vk e5.qty,Vi Vk e5.price,Vi Vk e5.cur,Vi Vk e5.tax,.string ⟨e5.who.toArray⟩,Vi Vk e5.stamp,.string ⟨e5.note.toArray⟩])).run prog W= .ok (.bool false) W from by have:=Ml e5 e5 W;rw [(evSame_iff _ _).2 rfl] at this;exact this);clear hb5 he5 hx5 hj3;go_wp2_with fail;have hbd:Below wr.heap.size wr (World.drew wr):=Ac wr 1;refine ε (S:=fun w'=>w'.rangeAt kg (j*10) (A8 e5).toList∧w'.rangeAt rg (j*11) (rsCs ((j:Int)+1,e5)).toList) (by kernel_rfl) ⟨Bs HKA.out hbd,Bs HRA.out hbd⟩ (fun hHeld=> ?_);have HJ2:=Qs (Nc (World.drew wr) w2.heap.size (.slice (some ⟨kg,0,none⟩) X.length kc) (X.map upV)∧N9 (World.drew wr) w4.heap.size (.slice (some ⟨rg,0,none⟩) Y.length rc) (numb 1 Y)∧Below w5.heap.size w5 (World.drew wr)) ⟨A2 HJ.out.1 hbd,A2 HJ.out.2.1 hbd,HJ.out.2.2.trans (hbd.mono HJ.out.2.2.size)⟩;clear hbd HJ HKA HRA;generalize World.drew wr=wd at*;refine tq 0 rfl ?_;refine tq 1 rfl ?_;refine tq 2 rfl ?_;refine tq 3 rfl ?_;have FX1:=Qh (fun(wF:World) (hSw:(fun w'=>w'.rangeAt kg (j*10) (A8 e5).toList∧w'.rangeAt rg (j*11) (rsCs ((j:Int)+1,e5)).toList) wF)=>((show wF.cell? ⟨rg,j*11,none⟩=some (Vi Vk ((j:Int)+1)) from hSw.2 0 _ rfl)));refine tf FX1 4 rfl ?_;clear FX1;have FX2:=Qh (fun(wF:World) (hSw:(fun w'=>w'.rangeAt kg (j*10) (A8 e5).toList∧w'.rangeAt rg (j*11) (rsCs ((j:Int)+1,e5)).toList) wF)=>(hw2));refine tf FX2 5 rfl ?_;refine tf FX2 6 rfl ?_;clear FX2;refine tq 7 rfl ?_;refine tq 8 rfl ?_;refine tq 9 rfl ?_;refine tq 10 rfl ?_;refine tq 11 rfl ?_;refine tq 12 rfl ?_;refine tkl 13 rg (j*11+1) [Vi Vk e5.kind,Vi Vk e5.order,Vi Vk e5.item,Vi Vk e5.qty,Vi Vk e5.price,Vi Vk e5.cur,Vi Vk e5.tax,.string ⟨e5.who.toArray⟩,Vi Vk e5.stamp,.string ⟨e5.note.toArray⟩] rfl rfl (fun w' h i u hi=>by have:=h.2 (i+1) u (by simpa [rsCs] using hi);rwa [Nat.add_assoc,Nat.add_comm 1]) underlying38 rfl (by rw [Nz];rfl) ?_;simp only [pA,pB,pC,pD];refine tq 14 rfl ?_;refine tq 15 rfl ?_;refine tq 16 rfl ?_;refine tkl 17 kg (j*10) [Vi Vk e5.kind,Vi Vk e5.order,Vi Vk e5.item,Vi Vk e5.qty,Vi Vk e5.price,Vi Vk e5.cur,Vi Vk e5.tax,.string ⟨e5.who.toArray⟩,Vi Vk e5.stamp,.string ⟨e5.note.toArray⟩] rfl rfl (fun w' h i u hi=>h.1 i u hi) underlying38 rfl (by rw [Nz];rfl) ?_;simp only [pA,pB,pC,pD];have FX3:=Qh (fun(wF:World) (hSw:(fun w'=>w'.rangeAt kg (j*10) (A8 e5).toList∧w'.rangeAt rg (j*11) (rsCs ((j:Int)+1,e5)).toList) wF)=>(HNE.out wF));refine tf FX3 18 rfl ?_;clear FX3;refine tq 19 rfl ?_;refine Ξ (by kernel_rfl) ?_ _;clear hHeld;go_wp2;go_roundw
      case rel=>exact⟨j+1,by omega,by go_num,HJ2⟩
      case measure=>simp [intOf];omega
     ·have k1: ¬ ((j:Int)<(Y.length:Int)):=by omega
      have hw3:IntKind.i64.wrap ((Y.length:Int)+1)=(Y.length:Int)+1:=by have:=HYX.out.length_le;rw [ν];omega
      have HAP:=Qh (atAppend (v:=5) (e:=⟨1,1,0,0,0,0,0,[],0,[]⟩) (HA5.out.below HJ.out.2.2) (by decide) ev11_ok);have HBE:=Qs (Below w.heap.size w wr∧w2.heap.size≤wr.heap.size) ⟨HB5.out.trans (HJ.out.2.2.mono HB5.out.size),η (η HBW.out.size HT5.out.size) HJ.out.2.2.size⟩;have HLM:=Qh HA5.out.lim;clear HJ HA5 HT5;go_wp2_with fail;refine HAP.out.mono ?_;rintro x w7 ⟨⟨r1,r2⟩,d3,s3,E3,rfl,ho3,hc3⟩;have hc0:Am 5 ⟨1,1,0,0,0,0,0,[],0,[]⟩=0:=by decide
      rcases hc3 with⟨h1,_⟩|⟨_,h2⟩
      ·exact absurd hc0 h1
      obtain⟨h3,_⟩:=HBG.out.push HLM.out (by omega) (by decide) (Kr hc0).2 h2;simp only [Prod.mk.injEq] at h3;obtain⟨rfl,rfl⟩:=h3;have HB7:=Qs (Below w.heap.size w w7) (HBE.out.1.trans ((Ie (ho3.2.mono fun k hk=>hk.1.1) HBE.out.2).mono HB2.out.size));clear h2 hc0 ho3 HAP;go_wp2;go_ret;exact⟨rfl,HB7.out⟩
theorem storeLives_walk (v0:Value) (a0:List OpS) (v1:Value) (a1:Int×Int) (a2:Int) (v3:Value) (a3:List Int) (w:World) (h0:RdOps w v0 a0) (h1:RdCfg w v1 a1) (h2:(Lit.int .i64 a2).wf=true) (h3:RdInts w v3 a3) (hL:laidMetH prog Rows.storeLivesRow.laid w) (hS:w.ShapedOpen prog):
  Calls prog 6 #[v0,v1,Vi Vk a2,v3] w fun e w'=>e= .returned (.bool true)∧Below w.heap.size w w':=by
 have hL0:laidMet prog Rows.storeLivesRow.laid w:=hL;have hn:=nib_of2 rfl hL0;unfold RdCfg at h1;subst h1;exact storeLives_walk0 a0 v0 v3 a1.1 a1.2 a2 a3 w h0.row h3 (by simp [Lit.wf,show IntKind.i64.max=9223372036854775807 from by decide] at h2;omega) hn (tax_of2 rfl hL0) (glob_of hS)
end Go.Proofs.YtgkdenejkcngnaaGreatDoor
