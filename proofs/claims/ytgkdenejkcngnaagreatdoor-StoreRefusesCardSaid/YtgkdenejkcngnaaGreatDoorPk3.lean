import Derived.StillTailTactics
import Derived.Maps.OwnOps
import Derived.Defers
import Derived.Recover
import Derived.WalkLawsBesides
import Derived.Maps.OwnSet
import Derived.Test.YtgkdenejkcngnaaGreatDoorPk2
set_option maxRecDepth 100000
set_option maxHeartbeats 8000000
namespace Go.Proofs.YtgkdenejkcngnaaGreatDoor
open Go.RowKit
def Id (ms:List Mk):List Value:=ms.flatMap fun m=>(mkCs m).toList
theorem mkCells_snoc (ms:List Mk) (m:Mk):Id (ms++[m])=Id ms++(mkCs m).toList:=by simp [Id]
theorem mkCells_at: ∀ (ms:List Mk) (i:Nat) (m:Mk),ms[i]? =some m→ ∀ (j:Nat) u,(mkCs m)[j]? =some u→(Id ms)[i*2+j]? =some u
 | [],i,x,h=>by simp at h
 | y::ys,0,x,h=>by
  intro j u hj
  simp at h;subst h
  have hl:j<2:=by have:=(δ.1 hj).1;simpa [mkCs] using this
  unfold Id
  rw [List.flatMap_cons,Nat.zero_mul,Nat.zero_add,List.getElem?_append_left (by simpa [mkCs] using hl)]
  simpa using hj
 | y::ys,i+1,x,h=>by
  intro j u hj
  have:=mkCells_at ys i x (by simpa using h) j u hj
  unfold Id at this ⊢
  rw [List.flatMap_cons,List.getElem?_append_right (by simp [mkCs];omega)]
  rw [←this]
  congr 1
  simp [mkCs];omega
def Cm (w:World) (B:Nat) (v:Value) (ms:List Mk):Prop:=w.ownsRow B 135 2 v ms.length (Id ms)
theorem Cm.later {w w':World} {B:Nat} {v:Value} {ms:List Mk} (h:Cm w B v ms) (hb:Below w.heap.size w w'):Cm w' B v ms:=own_later h hb
theorem mkOwn_nil (w:World) (B:Nat):Cm w B (.slice none 0 0) []:=⟨rfl,.inl ⟨rfl,rfl⟩⟩
theorem Cm.row {w:World} {B:Nat} {v:Value} {ms:List Mk} (h:Cm w B v ms):MkRow w v ms:=by
 by_cases hn:ms=[]
 ·subst hn
  obtain⟨oa,cap,rfl,h1,h2⟩:=Ac h
  exact⟨oa,cap,rfl,h1,by unfold maxLen at h2;omega,fun i u hu=>by simp at hu⟩
 ·obtain⟨g,cap,rfl,_,_,h1,h2,h3⟩:=B8 h (Ψ.2 hn)
  exact⟨_,cap,rfl,h1,by unfold maxLen at h2;omega,fun i m hm=>⟨g,0,rfl,fun j u hj=>by rw [Nat.zero_add];exact h3 _ _ (mkCells_at ms i m hm j u (by simpa using hj))⟩⟩
theorem Cm.mono {w:World} {B B':Nat} {v:Value} {ms:List Mk} (h:Cm w B v ms) (hB:B'≤B):Cm w B' v ms:=by
 refine⟨h.1,?_⟩
 rcases h.2 with hn | ⟨g,cap,cur,e,hb1,rest⟩
 ·exact .inl hn
 ·exact .inr ⟨g,cap,cur,e,μ hB hb1,rest⟩
theorem Cm.turned {w w':World} {B g:Nat} {v:Value} {ms:List Mk} (h:Cm w B v ms) (ht:Turned (fun k=>k=g) w w') (hg:g<B):Cm w' B v ms:=by
 refine⟨h.1,?_⟩
 rcases h.2 with hn | ⟨g',cap,cur,rfl,hb1,hg',rest⟩
 ·exact .inl hn
 ·exact .inr ⟨g',cap,cur,rfl,hb1,by rw [ht.block _ (δ.1 hg').1 (by omega)];exact hg',rest⟩
theorem infoMk:(Tryz.prog.info? 135).map (fun i=>(i.zero,i.size,i.bytes))=some (some (mkV ⟨0,0⟩),2,16):=by kernel_rfl
theorem wpList_appMk {ops:Array Oper} {rest:List Oper} {o:Oper} {a:Act} {Q:Exit→Act→World→Prop} {w:World} (hgd:o.guard=none) (s y:Operand) (ho:o.op= .call {callee:= .builtin .append,args:= #[s,y],argTypes:= #[78,78]}) {B:Nat} {v:Value} {ms:List Mk} {m:Mk} {N:Nat}
  (hs:a.eval s=v) (hN:N=w.heap.size) (hy:a.eval y= .slice (some ⟨N,0,none⟩) 1 1) (hown:Cm w B v ms) (hB:B≤w.heap.size) (hl:ms.length≤100000)
  (h: ∀ v' w',Cm w' B v' (ms++[m])→Below B w w'→w.heap.size≤w'.heap.size→wpList Tryz.prog ops Q rest (a.put o.dst v') w'):wpList Tryz.prog ops Q (o::rest) a (w.alloc (.cells #[.int .i64 m.s,.int .i64 m.p] 135)):=by
 subst hN
 obtain⟨i0,hi,hz0,hz1,hz2⟩:=info_parts infoMk
 have hb:=below_alloc w (.cells #[.int .i64 m.s,.int .i64 m.p] 135)
 refine wpList_append_own _ hgd s y 78 ho B 135 i0 (mkV ⟨0,0⟩) 2 16 Tryz.underlying78 hi hz0 hz1 hz2 rfl (by decide) v ms.length (Id ms) hs (own_later hown hb) ⟨w.heap.size,0,none⟩ 1 1 (mkCs m).toList hy rfl (fun j u hj=> ?_) (fun u hu=> ?_) (by unfold maxLen;omega) (by omega) (μ hB hb.size) ?_
 ·rw [Bc,Nat.zero_add,World.cell?_alloc_new]
  simpa [mkCs] using hj
 ·simp [mkCs] at hu;rcases hu with rfl | rfl<;>rfl
 ·intro v' w' hown' hg _
  refine h v' w' ?_ ((hb.mono hB).trans (Bf (own_later hown hb) (μ hB hb.size) hg)) (μ hb.size hg.size)
  unfold Cm
  rw [η,mkCells_snoc]
  exact hown'
def Jc:List Nat→Int→Int→List Mk→Option (List Mk)
 | a::c::r,s,p,acc=>if 1099511627776<a∨1099511627776<c then none else Jc r (s+a) (p+c) (acc++[⟨s+a,p+c⟩])
 | _,_,_,acc=>some acc
def Eq (b:List UInt8):List Mk×Int:=
 if (Bj b 1024).2.2≠0 then ([],(Bj b 1024).2.2) else if (Bj b 1024).2.1≠b.length∨(Bj b 1024).1.length % 2≠0 then ([],70)
 else match Jc (Bj b 1024).1 0 0 [] with
  | none=>([],70)
  | some ms=>if By ms then (ms,0) else ([],70)
theorem drop_two {us:List Nat} {i a c:Nat} (h1:us[i]? =some a) (h2:us[i+1]? =some c):us.drop i=a::c::us.drop (i+2):=by rw [Ez h1,Ez h2]
theorem idx_bad {a c:Nat} {r:List Nat} {s p:Int} {acc:List Mk} (h:1099511627776<a∨1099511627776<c):Jc (a::c::r) s p acc=none:=by rw [Jc,ζ h]
theorem idx_go {a c:Nat} {r:List Nat} {s p:Int} {acc:List Mk} (h: ¬ (1099511627776<a∨1099511627776<c)):Jc (a::c::r) s p acc=Jc r (s+a) (p+c) (acc++[⟨s+a,p+c⟩]):=by rw [Jc,γ h]
theorem decNs_len: ∀ (n:Nat) (b:List UInt8) (a:Nat) (us:List Nat),(decNs n b a us).1.length≤us.length+n
 | 0,_,_,us=>by simp [decNs]
 | n+1,b,a,us=>by
  rw [decNs]
  split
  ·simp
  ·have:=decNs_len n b (a+(decV (b.drop a)).2.1) (us++[(decV (b.drop a)).1])
   simp only [η,φ,Φ] at this
   omega
theorem decAll_len (b:List UInt8) (most:Nat):(Bj b most).1.length≤most:=by
 unfold Bj
 split
 ·simp
 ·split
  ·simp
  ·have:=decNs_len (decV b).1 b (decV b).2.1 []
   simp only [Φ] at this
   omega
def IdxPost (w:World) (r:List Mk×Int) (e:Ending) (w':World):Prop:= ∃ v,e= .returned (.tuple #[v,.int .i64 r.2])∧Cm w' w.heap.size v r.1∧Below w.heap.size w w'
theorem idxDec_any (l:List UInt8) (v:Value) (w:World) (hv:A2 w v l) (hl:l.length≤140737488355328):
  Calls Tryz.prog 140 #[v] w (IdxPost w (Eq l)):=by
 have HD0:=Qh (decodeAll_any l v 1024 w hv hl (by decide) (by decide))
 obtain⟨oa,cap,rfl,hlc,hc⟩:=hv
 have HI:=Qh (show Eq l=if (Bj l 1024).2.2≠0 then ([],(Bj l 1024).2.2) else if (Bj l 1024).2.1≠l.length∨(Bj l 1024).1.length % 2≠0 then ([],70)
  else match Jc (Bj l 1024).1 0 0 [] with
  | none=>([],70)
  | some ms=>if By ms then (ms,0) else ([],70) from rfl)
 have HLEN:=Qh (decAll_len l 1024)
 obtain⟨r,hr⟩: ∃ r,r=Bj l 1024:=⟨_,rfl⟩
 rw [←hr] at HD0 HI HLEN
 clear hc hr
 obtain⟨us,at0,e0⟩:=r
 unfold AllPost at HD0
 go_enter Tryz.func140,Tryz.ntmps140
 go_wp2_with fail
 refine HD0.out.mono ?_
 rintro e w1 ⟨v1,rfl,ho1,hb1⟩
 have HUR:=Qh (Hy.row ho1)
 obtain⟨ob,bcap,hsh,hbl,_⟩:=Ac ho1
 have HB1:=Qh hb1
 subst hsh
 clear hb1 HD0 ho1 hbl hlc
 rcases he0:(e0 != 0) with _ | _
 ·have HE0:=Qh (show e0=0 by simpa using he0)
  rcases hz:((at0:Int) != (l.length:Int)) with _ | _
  ·rcases hp2:((us.length:Int) % 2 != 0) with _ | _
   ·have HEV:=Qh (show us.length % 2=0 by simp at hp2;omega)
    have HI2:=Qh (show Eq l=match Jc us 0 0 [] with
     | none=>([],70)
     | some ms=>if By ms then (ms,0) else ([],70) by
     rw [HI.out,γ (fun h=>h HE0.out),γ (by rintro(h | h);exact h (by simp at hz;omega);exact h HEV.out)])
    have HA:=Qh (E6 w1 ⟨0,0⟩)
    have HB2:=Qh (Below.next HB1.out (below_alloc w1 (.cells (mkCs ⟨0,0⟩) 135)))
    have HUB:=Qh (fun W (h:Below w1.heap.size w1 W)=>HUR.out.below h)
    have HU2:=Qh (below_alloc w1 (.cells (mkCs ⟨0,0⟩) 135))
    have HW1:=Qh (show (w1.alloc (.cells (mkCs ⟨0,0⟩) 135)).heap.size=w1.heap.size+1 by simp)
    have HSW:=Qh HB1.out.size
    simp only [mkCs] at HA HB2 HU2 HW1
    clear HI HUR HB1
    go_wp2
    clear hz hp2 he0
    generalize w1.alloc (.cells #[.int .i64 0,.int .i64 0] 135)=w2 at*
    generalize w1.heap.size=g at*
    go_loopw [7,9] (fun mv iv wr=> ∃ (k:Nat) (x:Mk) (acc:List Mk),2*k≤us.length∧iv= .int .i64 ((2*k:Nat):Int)∧Hid (acc.length=k)∧Hid (Cl wr g x)∧Hid (0≤x.s∧x.s≤1099511627776*(k:Int)∧0≤x.p∧x.p≤1099511627776*(k:Int))∧Hid (Cm wr (g+1) mv acc)∧Hid (Jc us 0 0 []=Jc (us.drop (2*k)) x.s x.p acc)∧Hid (Below g w1 wr)∧Hid (Below w.heap.size w wr)∧Hid (g+1≤wr.heap.size)) (fun _ iv _=>us.length - (intOf iv).toNat)
    case atStart=>exact⟨0,⟨0,0⟩,[],θ _,rfl,Qh rfl,HA,Qh ⟨by decide,by decide,by decide,by decide⟩,Qh (mkOwn_nil _ _),Qh rfl,HU2,HB2,Qh (by rw [HW1.out];exact ξ _)⟩
    case round=>
     clear HA HU2 HB2 HW1
     obtain⟨k,x,acc,hk,rfl,HAL,HX,HXB,HO,HG,HU1,HB,HSZ⟩:=hrel
     have HU:=Qh (HUB.out wr HU1.out)
     obtain⟨i,hi⟩: ∃ i,i=2*k:=⟨_,rfl⟩
     have HIK:=Qh hi
     rw [←hi] at hk HG ⊢
     clear hi
     by_cases hlt:i<us.length
     ·have hlt1:i+1<us.length:=by have:=HEV.out;have:=HIK.out;omega
      obtain⟨va,hva,_,_⟩:=Kc us i hlt
      obtain⟨vb,hvb,_,_⟩:=Kc us (i+1) hlt1
      have HDR:=Qh (drop_two hva hvb)
      obtain⟨ob',bc',eqs,_,huc⟩:=HU.out
      simp only [Value.slice.injEq,true_and] at eqs
      obtain⟨rfl,rfl⟩:=eqs
      obtain⟨b,off,rfl,ca⟩:=huc i va hva
      obtain⟨b',off',e2,cb⟩:=huc (i+1) vb hvb
      simp only [Option.some.injEq,Addr.mk.injEq,and_true] at e2
      obtain⟨rfl,rfl⟩:=e2
      have HLEN2:=Qh (show i+1<1024 by have:=HLEN.out;omega)
      have q1:(i:Int)<(us.length:Int):=by omega
      obtain⟨j,hj⟩: ∃ j,j=i+1:=⟨_,rfl⟩
      have hwi:IntKind.i64.wrap ((i:Int)+1)=(j:Int):=by have:=HLEN2.out;rw [κ];omega
      have q2:(j:Int)<(us.length:Int):=by omega
      rw [←hj] at cb
      clear hj
      have hwi2:IntKind.i64.wrap ((i:Int)+2)=(i:Int)+2:=by have:=HLEN2.out;rw [κ];omega
      rw [HDR.out] at HG
      have HBD:=Qh (@idx_bad va vb (us.drop (i+2)) x.s x.p acc)
      have HGO:=Qh (@idx_go va vb (us.drop (i+2)) x.s x.p acc)
      have c0:=HX.out.c0
      have c1:=HX.out.c1
      clear hva hvb huc HDR
      rcases t1:decide ((1099511627776:Int)<(va:Int)) with _ | _
      ·rcases t2:decide ((1099511627776:Int)<(vb:Int)) with _ | _
       ·have ha:va≤1099511627776:=by simp at t1;omega
        have hb:vb≤1099511627776:=by simp at t2;omega
        have hwa:IntKind.i64.wrap (va:Int)=(va:Int):=by rw [κ];omega
        have hwb:IntKind.i64.wrap (vb:Int)=(vb:Int):=by rw [κ];omega
        have hwsa:IntKind.i64.wrap (x.s+(va:Int))=x.s+(va:Int):=by have:=HXB.out;have:=HLEN2.out;have:=HIK.out;rw [κ];omega
        have hwsb:IntKind.i64.wrap (x.p+(vb:Int))=x.p+(vb:Int):=by have:=HXB.out;have:=HLEN2.out;have:=HIK.out;rw [κ];omega
        have HG2:=Qh (HGO.out (by omega))
        go_wp2
        go_still_tail 18,(by kernel_rfl)
        refine wpList_store_mk rfl (.tmp 8) (.tmp 67) rfl g x ⟨x.s+(va:Int),x.p+(vb:Int)⟩ rfl rfl (HX.out.below (below_drewN' wr 1)) ?_
        intro w4 hm4 ht4
        have HM4:=Qh hm4
        have HO4:=Qh ((HO.out.later (below_drewN' wr 1)).turned ht4 (Nat.lt_succ_self g))
        have HB4:=Qh (Al (Below.next HB.out (below_drewN' wr 1)) ht4 (fun y hy=>by have:=HSW.out;omega) HB.out.size)
        have HU4:=Qh (Al (HU1.out.trans ((below_drewN' wr 1).mono (by have:=HSZ.out;omega))) ht4 (fun y hy=>by omega) (show g≤wr.heap.size by have:=HSZ.out;omega))
        have hs4:g+1≤w4.heap.size:=μ HSZ.out ht4.size
        have HAL2:=Qh (show acc.length≤100000 by have:=HAL.out;have:=HIK.out;have:=HLEN2.out;omega)
        clear hm4 ht4 HX HO HB HU c0 c1 ca cb
        go_wp2_with (first | (with_reducible refine wpList_load_mk rfl (.tmp 8) rfl g ⟨x.s+(va:Int),x.p+(vb:Int)⟩ rfl HM4.out ?_) | (refine wpList_appMk (m:=⟨x.s+(va:Int),x.p+(vb:Int)⟩) rfl (.tmp 68) (.tmp 70) rfl rfl rfl rfl HO4.out hs4 HAL2.out ?_))
        intro v5 w5 ho5 hb5 hs5
        have HO5:=Qh ho5
        have HM5:=Qh (HM4.out.keep hb5 (Nat.lt_succ_self g))
        have HB5:=Qh (HB4.out.trans (hb5.mono (by have:=HSW.out;omega)))
        have HU5:=Qh (HU4.out.trans (hb5.mono (Nat.le_succ g)))
        have HS5:=Qh (μ hs4 hs5)
        clear ho5 hb5 hs5 hs4 HM4 HO4 HB4 HU4
        go_wp2
        go_roundw
        case rel=>exact⟨k+1,⟨x.s+(va:Int),x.p+(vb:Int)⟩,acc++[⟨x.s+(va:Int),x.p+(vb:Int)⟩],by have:=HIK.out;omega,by have:=HIK.out;first | (congr 1;omega) | (simp;omega),Qh (by have:=HAL.out;simp;omega),HM5,Qh (by have:=HXB.out;simp only;omega),HO5,Qh (by rw [HG.out,HG2.out];have:=HIK.out;subst this;rfl),HU5,HB5,HS5⟩
        case measure=>simp [intOf];omega
       ·have HE:=Qh (show Eq l=([],70) by rw [HI2.out,HG.out,HBD.out (.inr (by simp at t2;omega))])
        go_wp2
        refine π (v:= .tuple #[.slice none 0 0,.int .i64 70]) (by simp [results,Tryz.results140,go_sem]) rfl ⟨_,by rw [HE.out],by rw [HE.out];exact mkOwn_nil _ _,HB.out⟩
      ·have HE:=Qh (show Eq l=([],70) by rw [HI2.out,HG.out,HBD.out (.inl (by simp at t1;omega))])
       go_wp2
       refine π (v:= .tuple #[.slice none 0 0,.int .i64 70]) (by simp [results,Tryz.results140,go_sem]) rfl ⟨_,by rw [HE.out],by rw [HE.out];exact mkOwn_nil _ _,HB.out⟩
     ·obtain rfl:i=us.length:=by omega
      have HG3:=Qh (show Eq l=if By acc then (acc,0) else ([],70) by rw [HI2.out,HG.out,List.drop_length];rfl)
      have HMV:=Qh (marksValid_any acc _ wr HO.out.row)
      have HO2:=Qh (HO.out.mono (B':=w.heap.size) (by have:=HSW.out;omega))
      obtain⟨m,hm⟩: ∃ m,m=By acc:=⟨_,rfl⟩
      rw [←hm] at HMV HG3
      clear hm HX
      go_wp2_with fail
      refine HMV.out.mono ?_
      rintro e w4 ⟨rfl,hb4⟩
      have HO4:=Qh (HO2.out.later hb4)
      have HB4:=Qh (Below.next HB.out hb4)
      clear hb4 HMV
      rcases m with _ | _
      ·go_wp2
       refine π (v:= .tuple #[.slice none 0 0,.int .i64 70]) (by simp [results,Tryz.results140,go_sem]) rfl ⟨_,by rw [HG3.out];rfl,by rw [HG3.out];exact mkOwn_nil _ _,HB4.out⟩
      ·go_wp2
       refine π (v:= .tuple #[_,.int .i64 0]) (by simp [results,Tryz.results140,go_sem];first | rfl | skip) rfl ⟨_,by rw [HG3.out];rfl,by rw [HG3.out];exact HO4.out,HB4.out⟩
   ·have HE:=Qh (show Eq l=([],70) by rw [HI.out,γ (fun h=>h HE0.out),ζ (.inr (by simp at hp2;omega))])
    go_wp2
    refine π (v:= .tuple #[.slice none 0 0,.int .i64 70]) (by simp [results,Tryz.results140,go_sem]) rfl ⟨_,by rw [HE.out],by rw [HE.out];exact mkOwn_nil _ _,HB1.out⟩
  ·have HE:=Qh (show Eq l=([],70) by rw [HI.out,γ (fun h=>h HE0.out),ζ (.inl (by intro e;simp [e] at hz))])
   go_wp2
   refine π (v:= .tuple #[.slice none 0 0,.int .i64 70]) (by simp [results,Tryz.results140,go_sem]) rfl ⟨_,by rw [HE.out],by rw [HE.out];exact mkOwn_nil _ _,HB1.out⟩
 ·have HE:=Qh (show Eq l=([],e0) by rw [HI.out,ζ (show e0≠0 by simpa using he0)])
  go_wp2
  refine π (v:= .tuple #[.slice none 0 0,.int .i64 e0]) (by simp [results,Tryz.results140,go_sem]) rfl ⟨_,by rw [HE.out],by rw [HE.out];exact mkOwn_nil _ _,HB1.out⟩
def clCs (a c d:Int) (mv:Value):Array Value:= #[.int .i64 a,.int .i64 c,.int .i64 d,mv]
@[reducible] def clV (a c d : Int) (mv : Value) : Value := .agg #[.int .i64 a, .int .i64 c, .int .i64 d, mv]
theorem clInfo:(Tryz.prog.info? 186).map (·.size)=some 4:=by kernel_rfl
def Fm (w:World) (g:Nat) (a c d:Int) (mv:Value):Prop:=w.heap[g]? =some (.cells (clCs a c d mv) 186 (0,0))
theorem Fm.lt {w:World} {g:Nat} {a c d:Int} {mv:Value} (h:Fm w g a c d mv):g<w.heap.size:=(δ.1 h).1
theorem Fm.below {w w':World} {g:Nat} {a c d:Int} {mv:Value} (h:Fm w g a c d mv) (hb:Below w.heap.size w w'):Fm w' g a c d mv:=by
 unfold Fm at *;rw [hb.block g (δ.1 h).1];exact h
theorem Fm.cell {w:World} {g:Nat} {a c d:Int} {mv:Value} (h:Fm w g a c d mv) (j:Nat):w.cell? ⟨g,j,none⟩=(clCs a c d mv)[j]? :=by
 unfold Fm at h;simp [World.cell?,h]
theorem clBlk_alloc (w:World) (a c d:Int) (mv:Value):Fm (w.alloc (.cells (clCs a c d mv) 186)) w.heap.size a c d mv:=σ w _
theorem clCs_all (a c d:Int) (v:Value) (h:v.oneCell'=true):(clCs a c d v).all (·.oneCell')=true:=
 Array.all_eq_true_iff_forall_mem.2 (by
  intro u hu
  simp only [clCs,List.mem_toArray,Γ,List.not_mem_nil,or_false] at hu
  rcases hu with rfl | rfl | rfl | rfl<;>first | rfl | assumption)
theorem wpList_store_cl {ops:Array Oper} {rest:List Oper} {o:Oper} {a:Act} {w:World} {Q:Exit→Act→World→Prop} (hgd:o.guard=none) (x y:Operand) (ho:o.op= .store 186 x y)
  (g:Nat) (p q r p' q' r':Int) (mv mv':Value) (hx:a.eval x= .pointer (some ⟨g,0,none⟩)) (hy:a.eval y=clV p' q' r' mv') (hE:Fm w g p q r mv) (h1:mv'.oneCell'=true)
  (h: ∀ W,Fm W g p' q' r' mv'→Turned (fun k=>k=g) w W→wpList Tryz.prog ops Q rest (a.put o.dst undef) W):wpList Tryz.prog ops Q (o::rest) a w:=
 wpList_store_row hgd 186 x y ho g (clCs p' q' r' mv') hx hy 186 (clCs p q r mv) hE clInfo rfl (clCs_all p' q' r' mv' h1) (h _ (setRow_heap w g _ _ _ _ hE) (Ak _ _ _))
theorem Gh {fn:Func} {p q:Tmp} (h:fn.results= #[.cell p 186,.tmp q]) (tmps:Array Value) (w:World) (g:Nat) (a c d:Int) (mv x:Value)
  (hp:tmps.getD p undef= .pointer (some ⟨g,0,none⟩)) (hq:tmps.getD q undef=x) (hE:Fm w g a c d mv):(results fn tmps).run Tryz.prog w= .ok (.tuple #[clV a c d mv,x]) w:=by
 have hl:(loadVar 186 ⟨g,0,none⟩).run Tryz.prog w= .ok (clV a c d mv) w:=run_loadVar_row (P:=Tryz.prog) w g 186 186 (clCs a c d mv) (0,0) _ hE Tryz.underlying186 rfl clInfo
 have hp':tmps[p]?.getD undef= .pointer (some ⟨g,0,none⟩):=by simpa using hp
 have hq':tmps[q]?.getD undef=x:=by simpa using hq
 simp [results,h,hp',hq',asAddr,hl]
structure Cls where
 first:Nat
 count:Nat
 stride:Nat
 marks:List Mk
def clsIn (vs:List Nat) (rest:List UInt8):Option Cls:=
 match vs with
 | [a,c,d]=>if d<1∨64<d∨c<1 then none else if (Eq rest).2=0 then some ⟨a,c,d,(Eq rest).1⟩ else none
 | _=>none
def Cz (b:List UInt8):Option Cls:=match unnumsV 3 b [] with
 | none=>none
 | some r=>clsIn r.1 r.2
theorem list3 {vs:List Nat} (h:vs.length=3): ∃ a c d,vs=[a,c,d]:=by
 match vs,h with
 | [a,c,d],_=>exact⟨a,c,d,rfl⟩
theorem OwnI.three {w:World} {B:Nat} {v:Value} {a c d:Nat} (h:OwnI w B v [a,c,d]): ∃ g cap,v= .slice (some ⟨g,0,none⟩) 3 cap∧3≤cap∧B≤g∧w.cell? ⟨g,0,none⟩=some (.int .i64 (a:Int))∧w.cell? ⟨g,1,none⟩=some (.int .i64 (c:Int))∧w.cell? ⟨g,2,none⟩=some (.int .i64 (d:Int)):=by
 obtain⟨g,cap,e,h1,hB,h3⟩:=h.at (by simp)
 exact⟨g,cap,e,h1,hB,h3 0 a rfl,h3 1 c rfl,h3 2 d rfl⟩
def ClPost (w:World) (r:Option Cls) (e:Ending) (w':World):Prop:=Below w.heap.size w w'∧
 match r with
 | none=> ∃ (a c d:Int) (oa:Option Addr) (n cap:Nat),e= .returned (.tuple #[clV a c d (.slice oa n cap),.bool false])
 | some r=> ∃ mv,e= .returned (.tuple #[clV (r.first:Int) (r.count:Int) (r.stride:Int) mv,.bool true])∧Cm w' w.heap.size mv r.marks∧1≤r.count∧r.count≤2199023255552∧1≤r.stride∧r.stride≤64∧r.first≤2199023255552
theorem unclose_any (l:List UInt8) (v:Value) (w:World) (hv:A2 w v l) (hl:l.length≤140737488355328):
  Calls Tryz.prog 108 #[v] w (ClPost w (Cz l)):=by
 have HB0:=Qh (below_alloc w (.cells (clCs 0 0 0 (.slice none 0 0)) 186))
 have HF0:=Qh (clBlk_alloc w 0 0 0 (.slice none 0 0))
 have HU:=Qh (unnums_any l v 3 _ (hv.below HB0.out) hl (by decide))
 have HSZ0:=Qh (show (w.alloc (.cells (clCs 0 0 0 (.slice none 0 0)) 186)).heap.size=w.heap.size+1 by simp)
 have HUL:=Qh (fun r (h:unnumsV 3 l []=some r)=>unnums_len h)
 have HUM:=Qh (fun r (h:unnumsV 3 l []=some r)=>unnums_le h (fun _ h=>by cases h))
 have HH:=Qh (show Cz l=match unnumsV 3 l [] with
  | none=>none
  | some r=>clsIn r.1 r.2 from rfl)
 obtain⟨oa,cap,rfl,_,_⟩:=hv
 obtain⟨r,hr⟩: ∃ r,r=unnumsV 3 l []:=⟨_,rfl⟩
 rw [←hr] at HU HUL HUM HH
 clear hr
 simp only [clCs] at HB0 HF0 HU HSZ0
 go_enter Tryz.func108,Tryz.ntmps108
 go_wp2_with fail
 refine HU.out.mono ?_
 rintro e w1 ⟨hb1,hpost⟩
 have HB1:=Qh (Below.next HB0.out hb1)
 have HF1:=Qh (Fm.below HF0.out hb1)
 clear hb1 HU HF0 HB0
 rcases r with _ | ⟨vs,rest⟩
 ·simp only at hpost
  subst hpost
  go_wp2_with (with_reducible refine wpList_store_cl rfl (.tmp 2) (.tmp 35) rfl w.heap.size 0 0 0 0 0 0 (.slice none 0 0) (.slice none 0 0) rfl rfl HF1.out rfl ?_)
  intro w3 hf3 ht3
  have HF3:=Qh hf3
  have HB3:=Qh (Al HB1.out ht3 (fun k hk=>by omega) HB1.out.size)
  clear hf3 ht3
  go_wp2
  refine π (v:= .tuple #[clV 0 0 0 (.slice none 0 0),.bool false]) (Gh rfl _ _ w.heap.size 0 0 0 (.slice none 0 0) _ rfl rfl HF3.out) rfl ⟨HB3.out,by rw [HH.out];exact⟨0,0,0,none,0,0,rfl⟩⟩
 ·obtain⟨vv,rv,rfl,hov,hrv⟩:=hpost
  obtain⟨a,c,d,hvs⟩:=list3 (by have:=(HUL.out _ rfl).1;simpa using this)
  subst hvs
  have ha:a≤2199023255552:=HUM.out _ rfl a (by simp)
  have hc:c≤2199023255552:=HUM.out _ rfl c (by simp)
  have hrl:rest.length≤l.length:=(HUL.out _ rfl).2
  have HOV:=Qh hov
  obtain⟨gv,vcap,rfl,hvc,hgv,d0,d1,d2⟩:=hov.three
  rw [HSZ0.out] at hgv
  have HID:=Qh (idxDec_any rest rv w1 hrv (by omega))
  have HH3:=Qh (show Cz l=if d<1∨64<d∨c<1 then none else if (Eq rest).2=0 then some ⟨a,c,d,(Eq rest).1⟩ else none by rw [HH.out];rfl)
  obtain⟨ra,rcap,rfl,_,_⟩:=hrv
  clear HUL HUM hov HH HOV hrl HSZ0
  rcases t1:decide ((d:Int)<1) with _ | _
  ·rcases t2:decide ((64:Int)<(d:Int)) with _ | _
   ·rcases t3:decide ((c:Int)<1) with _ | _
    ·have HH4:=Qh (show Cz l=if (Eq rest).2=0 then some ⟨a,c,d,(Eq rest).1⟩ else none by rw [HH3.out,γ (by simp at t1 t2 t3;omega)])
     have HBDS:=Qh (show 1≤c∧1≤d∧d≤64 by simp at t1 t2 t3;omega)
     obtain⟨r,hr⟩: ∃ r,r=Eq rest:=⟨_,rfl⟩
     rw [←hr] at HID HH4
     clear hr HH3
     obtain⟨ms,e0⟩:=r
     unfold IdxPost at HID
     go_wp2_with fail
     refine HID.out.mono ?_
     rintro e w2 ⟨mv,rfl,hmo,hb2⟩
     obtain⟨om,mcap,hsh,_,_⟩:=Ac hmo
     subst hsh
     have HMO:=Qh hmo
     have HB2:=Qh (Below.next HB1.out hb2)
     have HF2:=Qh (Fm.below HF1.out hb2)
     have hlt:=HF1.out.lt
     have D0:=Qh (cell_later hb2 d0)
     have D1:=Qh (cell_later hb2 d1)
     have D2:=Qh (cell_later hb2 d2)
     have hneq: ¬ gv=w.heap.size:=by omega
     clear hb2 hmo d0 d1 d2 HID HB1 HF1
     go_wp2_with fail
     refine ω (S:=fun w'=>Turned (fun k=>k=w.heap.size) w2 w') (by kernel_rfl) (Turned.below (below_drewN' _ 1)) (fun hHeld=> ?_)
     have FX1:=Qh (fun(wF:World) (hSw:(fun w'=>Turned (fun k=>k=w.heap.size) w2 w') wF)=>And.intro ((hSw.cell D0.out hneq)) (And.intro ((hSw.cell D1.out hneq)) ((hSw.cell D2.out hneq))))
     refine tf FX1 0 rfl ?_
     refine tf FX1 1 rfl ?_
     refine tf FX1 2 rfl ?_
     refine tf FX1 3 rfl ?_
     refine tf FX1 4 rfl ?_
     refine tf FX1 5 rfl ?_
     refine tf FX1 6 rfl ?_
     refine tf FX1 7 rfl ?_
     refine tf FX1 8 rfl ?_
     refine tf FX1 9 rfl ?_
     refine tf FX1 10 rfl ?_
     refine tf FX1 11 rfl ?_
     refine tf FX1 12 rfl ?_
     clear FX1
     have HF3:=Qh (Fm.below HF2.out (below_drewN' w2 1))
     refine Rd 13 rfl fun K hK=> ?_
     rw [ζ (by kernel_rfl)]
     refine wp_store_row 186 (.tmp 2) (.tmp 51) rfl w.heap.size (clCs (a:Int) (c:Int) (d:Int) (.slice om ms.length mcap)) rfl rfl 186 (clCs 0 0 0 (.slice none 0 0)) HF3.out clInfo rfl (clCs_all _ _ _ _ rfl) ?_
     have HT4:=Qh (hHeld.trans (Ak (w2.drewN 1) w.heap.size (clCs (a:Int) (c:Int) (d:Int) (.slice om ms.length mcap))) (fun i hi=> .inl hi))
     have HF4:=Qh (show Fm ((w2.drewN 1).setRow w.heap.size (clCs (a:Int) (c:Int) (d:Int) (.slice om ms.length mcap))) w.heap.size (a:Int) (c:Int) (d:Int) (.slice om ms.length mcap) from setRow_heap _ _ _ _ _ _ HF3.out)
     refine hK.out _ _ HT4.out (fun hHeld=> ?_)
     clear hK K
     have HB4:=Qh (Al HB2.out HT4.out (fun k hk=>by omega) HB2.out.size)
     have HM4:=Qh ((HMO.out.turned HT4.out hlt).mono (Nat.le_of_lt hlt))
     refine tk 14 rfl ?v_2 ?hy_2 ?r_2
     case hy_2=>intro w hSw;go_simp;try with_reducible rfl
     simp only [pA]
     refine Λ (by kernel_rfl) ?_ _
     rcases he:(e0==0) with _ | _
     ·have HG:=Qh (show Cz l=none by rw [HH4.out,γ (by simpa using he)])
      go_wp2
      refine π (v:= .tuple #[clV (a:Int) (c:Int) (d:Int) (.slice om ms.length mcap),.bool false]) (Gh rfl _ _ w.heap.size _ _ _ _ _ rfl rfl HF4.out) rfl ⟨HB4.out,by rw [HG.out];exact⟨_,_,_,_,_,_,rfl⟩⟩
     ·have HG:=Qh (show Cz l=some ⟨a,c,d,ms⟩ by rw [HH4.out,ζ (by simpa using he)])
      go_wp2
      refine π (v:= .tuple #[clV (a:Int) (c:Int) (d:Int) (.slice om ms.length mcap),.bool true]) (Gh rfl _ _ w.heap.size _ _ _ _ _ rfl rfl HF4.out) rfl ⟨HB4.out,by rw [HG.out];exact⟨_,rfl,HM4.out,HBDS.out.1,hc,HBDS.out.2.1,HBDS.out.2.2,ha⟩⟩
    ·have HG:=Qh (show Cz l=none by rw [HH3.out,ζ (.inr (.inr (by simp at t3;omega)))])
     go_wp2_with (with_reducible refine wpList_store_cl rfl (.tmp 2) (.tmp 35) rfl w.heap.size 0 0 0 0 0 0 (.slice none 0 0) (.slice none 0 0) rfl rfl HF1.out rfl ?_)
     intro w3 hf3 ht3
     have HF3:=Qh hf3
     have HB3:=Qh (Al HB1.out ht3 (fun k hk=>by omega) HB1.out.size)
     clear hf3 ht3
     go_wp2
     refine π (v:= .tuple #[clV 0 0 0 (.slice none 0 0),.bool false]) (Gh rfl _ _ w.heap.size 0 0 0 (.slice none 0 0) _ rfl rfl HF3.out) rfl ⟨HB3.out,by rw [HG.out];exact⟨0,0,0,none,0,0,rfl⟩⟩
   ·have HG:=Qh (show Cz l=none by rw [HH3.out,ζ (.inr (.inl (by simp at t2;omega)))])
    go_wp2_with (with_reducible refine wpList_store_cl rfl (.tmp 2) (.tmp 35) rfl w.heap.size 0 0 0 0 0 0 (.slice none 0 0) (.slice none 0 0) rfl rfl HF1.out rfl ?_)
    intro w3 hf3 ht3
    have HF3:=Qh hf3
    have HB3:=Qh (Al HB1.out ht3 (fun k hk=>by omega) HB1.out.size)
    clear hf3 ht3
    go_wp2
    refine π (v:= .tuple #[clV 0 0 0 (.slice none 0 0),.bool false]) (Gh rfl _ _ w.heap.size 0 0 0 (.slice none 0 0) _ rfl rfl HF3.out) rfl ⟨HB3.out,by rw [HG.out];exact⟨0,0,0,none,0,0,rfl⟩⟩
  ·have HG:=Qh (show Cz l=none by rw [HH3.out,ζ (.inl (by simp at t1;omega))])
   go_wp2_with (with_reducible refine wpList_store_cl rfl (.tmp 2) (.tmp 35) rfl w.heap.size 0 0 0 0 0 0 (.slice none 0 0) (.slice none 0 0) rfl rfl HF1.out rfl ?_)
   intro w3 hf3 ht3
   have HF3:=Qh hf3
   have HB3:=Qh (Al HB1.out ht3 (fun k hk=>by omega) HB1.out.size)
   clear hf3 ht3
   go_wp2
   refine π (v:= .tuple #[clV 0 0 0 (.slice none 0 0),.bool false]) (Gh rfl _ _ w.heap.size 0 0 0 (.slice none 0 0) _ rfl rfl HF3.out) rfl ⟨HB3.out,by rw [HG.out];exact⟨0,0,0,none,0,0,rfl⟩⟩
def Fh (first stride:Nat) (foot:Int):Nat→List Mk→Bool
 | _,[]=>true
 | i,m::r=>if m.s≠((first+i*stride:Nat):Int)∨foot≤m.p then false else Fh first stride foot (i+1) r
def closeIn (c:Cls) (g:Sg):Option (List Mk×Nat):=
 if (c.first:Int)≠g.first∨(c.count:Int)≠g.count∨c.marks.length≠(c.count+c.stride - 1) / c.stride then none
 else if Fh c.first c.stride g.foot 0 c.marks then some (c.marks,c.stride) else none
def Ba (b:List UInt8) (g:Sg):Option (List Mk×Nat):=
 if (Bv b 3).2≠0∨((Bv b 3).1.s:Int)≠g.num then none
 else match Cz (Bv b 3).1.body with
  | none=>none
  | some c=>closeIn c g
theorem wholeF_len (b:List UInt8) (k:Nat):(Bv b k).1.body.length≤16384:=by
 unfold Bv
 split
 ·simp [Jv]
 ·rename_i h
  split
  ·simp [Jv]
  ·exact(Ii (by simpa using h)).2.1
def ClosP (w:World) (r:Option (List Mk×Nat)) (e:Ending) (w':World):Prop:=Below w.heap.size w w'∧
 match r with
 | none=>e= .returned (.tuple #[.slice none 0 0,.int .i64 0,.int .i64 70])
 | some r=> ∃ mv,e= .returned (.tuple #[mv,.int .i64 (r.2:Int),.int .i64 0])∧Cm w' w.heap.size mv r.1
theorem close_bad {first stride i:Nat} {foot:Int} {m:Mk} {r:List Mk} (h:m.s≠((first+i*stride:Nat):Int)∨foot≤m.p):Fh first stride foot i (m::r)=false:=by rw [Fh,ζ h]
theorem close_go {first stride i:Nat} {foot:Int} {m:Mk} {r:List Mk} (h: ¬ (m.s≠((first+i*stride:Nat):Int)∨foot≤m.p)):Fh first stride foot i (m::r)=Fh first stride foot (i+1) r:=by rw [Fh,γ h]
theorem closing_any (l:List UInt8) (v:Value) (g:Sg) (w:World) (hv:A2 w v l) (hl:l.length≤140737488355328) (hn:NibTab w):
  Calls Tryz.prog 72 #[v,sgV g] w (ClosP w (Ba l g)):=by
 have HB0:=Qh (below_alloc w (.cells (sgCs g) 72))
 have HG0:=Qh (show (w.alloc (.cells (sgCs g) 72)).heap[w.heap.size]? =some (.cells (sgCs g) 72 (0,0)) from σ w _)
 have HWH:=Qh (whole_any l v 3 _ (hv.below HB0.out) (by omega) (hn.below HB0.out))
 have HH:=Qh (show Ba l g=if (Bv l 3).2≠0∨((Bv l 3).1.s:Int)≠g.num then none
  else match Cz (Bv l 3).1.body with
  | none=>none
  | some c=>closeIn c g from rfl)
 have HBL:=Qh (wholeF_len l 3)
 have HSZ0:=Qh (show (w.alloc (.cells (sgCs g) 72)).heap.size=w.heap.size+1 by simp)
 obtain⟨oa,cap,rfl,_,_⟩:=hv
 obtain⟨r,hr⟩: ∃ r,r=Bv l 3:=⟨_,rfl⟩
 rw [←hr] at HWH HH HBL
 clear hr hn
 obtain⟨⟨k,s,body⟩,e0⟩:=r
 unfold WholePost at HWH
 simp only [sgCs] at HB0 HG0 HWH HSZ0
 go_enter Tryz.func72,Tryz.ntmps72
 go_wp2_with fail
 refine HWH.out.mono ?_
 rintro e w1 ⟨bv,rfl,hbv,hb1⟩
 have HB1:=Qh (Below.next HB0.out hb1)
 have HG1:=Qh ((hb1.block _ (δ.1 HG0.out).1).trans HG0.out)
 have HBV:=Qh hbv.brow
 obtain⟨ob,bcap,rfl,_,_⟩:=hbv
 have HB2:=Qh (Below.next HB1.out (below_alloc w1 (.cells (frCs (k:Int) (s:Int) (.slice ob body.length bcap)) 101)))
 have HF2:=Qh (C7 w1 (k:Int) (s:Int) (.slice ob body.length bcap))
 have HV2:=Qh (HBV.out.below (below_alloc w1 (.cells (frCs (k:Int) (s:Int) (.slice ob body.length bcap)) 101)))
 have HG2:=Qh (((below_alloc w1 (.cells (frCs (k:Int) (s:Int) (.slice ob body.length bcap)) 101)).block _ (δ.1 HG1.out).1).trans HG1.out)
 simp only [frCs] at HB2 HF2 HV2 HG2
 have c1:=HF2.out.c1
 have g0:=cell_of_row _ _ 0 _ _ _ HG2.out
 simp only [List.getElem?_toArray,List.getElem?_cons_zero] at g0
 clear hb1 HB0 HG0 HWH HB1 HG1 HBV HSZ0
 rcases he0:(e0 != 0) with _ | _
 ·rcases hs:((s:Int) != g.num) with _ | _
  ·have HH2:=Qh (show Ba l g=match Cz body with
    | none=>none
    | some c=>closeIn c g by
    rw [HH.out,γ (by rintro(h | h);exact h (by simpa using he0);exact h (by simpa using hs))])
   have HUC:=Qh (fun W (hb:A2 W (.slice ob body.length bcap) body)=>unclose_any body _ W hb (by have:=HBL.out;omega))
   obtain⟨r,hr⟩: ∃ r,r=Cz body:=⟨_,rfl⟩
   rw [←hr] at HUC HH2
   clear hr HH
   go_wp2_with fail
   generalize w1.alloc (.cells #[.int .i64 (k:Int),.int .i64 (s:Int),.slice ob body.length bcap] 101)=w2 at*
   generalize w1.heap.size=gf at*
   refine(HUC.out w2 HV2.out).mono ?_
   rintro e w3 ⟨hb3,hpost⟩
   have HB3:=Qh (Below.next HB2.out hb3)
   have HG3:=Qh ((hb3.block _ (δ.1 HG2.out).1).trans HG2.out)
   clear HUC HV2 HF2 c1 g0
   rcases r with _ | c
   ·obtain⟨a',c',d',oa',n',cap',rfl⟩:=hpost
    have HB4:=Qh (Below.next HB3.out (below_alloc w3 (.cells (clCs a' c' d' (.slice oa' n' cap')) 186)))
    simp only [clCs] at HB4
    clear hb3
    go_wp2_with fail
    go_quiet (fail)
    go_wp2
    refine π (v:= .tuple #[.slice none 0 0,.int .i64 0,.int .i64 70]) (by simp [results,Tryz.results72,go_sem]) rfl ⟨Below.next HB4.out (below_drewN' _ _),by rw [HH2.out]⟩
   ·obtain⟨cf,cc,cs,ms⟩:=c
    obtain⟨mv,rfl,hmo,hc1,hc2,hs1,hs2,hf1⟩:=hpost
    dsimp only at hmo hc1 hc2 hs1 hs2 hf1
    obtain⟨om,mcap,hsh,hml,_⟩:=Ac hmo
    subst hsh
    have HMO:=Qh hmo
    have HB4:=Qh (Below.next HB3.out (below_alloc w3 (.cells (clCs (cf:Int) (cc:Int) (cs:Int) (.slice om ms.length mcap)) 186)))
    have HC4:=Qh (clBlk_alloc w3 (cf:Int) (cc:Int) (cs:Int) (.slice om ms.length mcap))
    have HMO4:=Qh ((HMO.out.later (below_alloc w3 (.cells (clCs (cf:Int) (cc:Int) (cs:Int) (.slice om ms.length mcap)) 186))).mono (B':=w.heap.size) HB2.out.size)
    have HG4:=Qh (((below_alloc w3 (.cells (clCs (cf:Int) (cc:Int) (cs:Int) (.slice om ms.length mcap)) 186)).block _ (δ.1 HG3.out).1).trans HG3.out)
    simp only [clCs] at HB4 HC4 HMO4 HG4
    have HH3:=Qh (show Ba l g=if (cf:Int)≠g.first∨(cc:Int)≠g.count∨ms.length≠(cc+cs - 1) / cs then none
     else if Fh cf cs g.foot 0 ms then some (ms,cs) else none by rw [HH2.out];rfl)
    clear hmo HH2 HB3 HG3 HMO hb3
    go_wp2_with fail
    generalize w3.alloc (.cells #[.int .i64 (cf:Int),.int .i64 (cc:Int),.int .i64 (cs:Int),.slice om ms.length mcap] 186)=w4 at*
    generalize w3.heap.size=gc at*
    have k0:=HC4.out.cell 0
    have k1:=HC4.out.cell 1
    have k2:=HC4.out.cell 2
    have k3:=HC4.out.cell 3
    have j1:=cell_of_row w4 _ 1 _ _ _ HG4.out
    have j2:=cell_of_row w4 _ 2 _ _ _ HG4.out
    have j3:=cell_of_row w4 _ 3 _ _ _ HG4.out
    simp only [clCs,List.getElem?_toArray,List.getElem?_cons_zero,List.getElem?_cons_succ] at k0 k1 k2 k3 j1 j2 j3
    obtain⟨N,hN⟩: ∃ N,N=cc+cs - 1:=⟨_,rfl⟩
    have HN:=Qh hN
    have hw1:IntKind.i64.wrap ((cc:Int)+(cs:Int))=(cc:Int)+(cs:Int):=by rw [κ];omega
    have hw2:IntKind.i64.wrap ((cc:Int)+(cs:Int) - 1)=(N:Int):=by rw [κ];omega
    have hcs0: ¬ cs=0:=by omega
    clear hN
    rcases hcf:((cf:Int) != g.first) with _ | _
    ·rcases hcc:((cc:Int) != g.count) with _ | _
     ·obtain⟨Q,hQ⟩: ∃ Q,Q=N / cs:=⟨_,rfl⟩
      have HQQ:=Qh hQ
      have hQN:Q≤N:=by rw [hQ];exact Nat.div_le_self _ _
      have hN3:N≤2199023255616:=by have:=HN.out;omega
      have hwq:wrap64 ((N:Int) / (cs:Int))=(Q:Int):=by
       have e:(N:Int) / (cs:Int)=(Q:Int):=by rw [hQ];exact(Int.natCast_ediv N cs).symm
       rw [e]
       have h1:(0:Int)≤(Q:Int):=Int.natCast_nonneg Q
       have h2:(Q:Int)≤2199023255616:=by omega
       unfold wrap64
       omega
      clear hQ
      rcases hqm:((ms.length:Int) != (Q:Int)) with _ | _
      ·have HQ:=Qh (show ms.length=N / cs by rw [←HQQ.out];exact Int.ofNat.inj (by simpa using hqm))
       have HH4:=Qh (show Ba l g=if Fh cf cs g.foot 0 ms then some (ms,cs) else none by
        rw [HH3.out,γ (by rintro(h | h | h);exact h (by simpa using hcf);exact h (by simpa using hcc);exact h (by rw [HQ.out,HN.out]))])
       go_quiet (fail)
       have HB5:=Qh (Below.next HB4.out (below_drewN' w4 nq))
       have HC5:=Qh (HC4.out.below (below_drewN' w4 nq))
       have HMO5:=Qh (HMO4.out.later (below_drewN' w4 nq))
       have HG5:=Qh (((below_drewN' w4 nq).block _ (δ.1 HG4.out).1).trans HG4.out)
       generalize w4.drewN nq=w5 at*
       have k3:=HC5.out.cell 3
       simp only [clCs,List.getElem?_toArray,List.getElem?_cons_zero,List.getElem?_cons_succ] at k3
       clear HB4 HC4 HMO4 HG4 HH3 hw1 hw2 hwq
       go_wp2
       clear hqm hcf hcc
       go_loopw [67] (fun iv wr=> ∃ k:Nat,k≤ms.length∧iv= .int .i64 (k:Int)∧Hid (Below w5.heap.size w5 wr)∧Hid (Fh cf cs g.foot 0 ms=Fh cf cs g.foot k (ms.drop k))) (fun iv _=>ms.length - (intOf iv).toNat)
       case atStart=>exact⟨0,θ _,rfl,Qh (τ _ _),Qh rfl⟩
       case round=>
        obtain⟨i,hk,rfl,HBR,HCO⟩:=hrel
        by_cases hlt:i<ms.length
        ·obtain⟨m,hm,_,_⟩:=Kc ms i hlt
         obtain⟨_,_,eqs,_,_,hrow⟩:=HMO5.out.row
         simp only [Value.slice.injEq,true_and] at eqs
         obtain⟨rfl,rfl⟩:=eqs
         obtain⟨b,off,rfl,hcell⟩:=hrow i m hm
         have q1:(i:Int)<(ms.length:Int):=by omega
         have HCE:=Qh (Ax hcell HBR.out)
         have HAL:=Qh (Below.next HBR.out (below_alloc wr (.cells (mkCs m) 135)))
         have HMB:=Qh (E6 wr m)
         have HDR:=Qh (Ez hm)
         have hiq:i*cs≤N:=by
          have h1:=HQ.out
          have h2:i*cs≤N / cs*cs:=Nat.mul_le_mul_right _ (by omega)
          exact μ h2 (Nat.div_mul_le_self _ _)
         have hN2:N≤2199023255616:=by have:=HN.out;omega
         obtain⟨q,hq⟩: ∃ q,q=i*cs:=⟨_,rfl⟩
         obtain⟨u,hu⟩: ∃ u,u=cf+i*cs:=⟨_,rfl⟩
         have hcast:(i:Int)*(cs:Int)=(q:Int):=by rw [hq];exact(Int.natCast_mul i cs).symm
         rw [←hq] at hiq
         have hwm:IntKind.i64.wrap ((i:Int)*(cs:Int))=(q:Int):=by rw [hcast,κ];omega
         have hwa:IntKind.i64.wrap ((cf:Int)+(q:Int))=(u:Int):=by rw [hu,←hq,κ];omega
         have hwi:IntKind.i64.wrap ((i:Int)+1)=(i:Int)+1:=by have:=HQ.out;have:N / cs≤N:=Nat.div_le_self _ _;rw [κ];omega
         have HBD:=Qh (@close_bad cf cs i g.foot m (ms.drop (i+1)))
         have HGO:=Qh (@close_go cf cs i g.foot m (ms.drop (i+1)))
         rw [←hu] at HBD HGO
         rw [HDR.out] at HCO
         simp only [mkCs] at HAL HMB
         clear hm hrow hcell HDR hcast hiq hq hu
         have k0:=cell_later HAL.out (HC5.out.cell 0)
         have k2:=cell_later HAL.out (HC5.out.cell 2)
         have j3:=cell_later HAL.out (cell_of_row w5 _ 3 _ _ _ HG5.out)
         have d0:=HMB.out.c0
         have d1:=HMB.out.c1
         simp only [clCs] at k0 k2
         have HB6:=Qh (Below.next HB5.out HAL.out)
         rcases t1:(m.s != (u:Int)) with _ | _
         ·rcases t2:decide (g.foot≤m.p) with _ | _
          ·have HG:=Qh (HGO.out (by simp at t1 t2;omega))
           go_wp2_with (with_reducible refine wpList_load_mkAt rfl (.tmp 70) rfl b (off+i*2) m rfl HCE.out ?_)
           go_roundw
           case rel=>exact⟨i+1,by omega,by go_num,HAL,Qh (by rw [HCO.out,HG.out])⟩
           case measure=>simp [intOf];omega
          ·have HE:=Qh (show Ba l g=none by rw [HH4.out,HCO.out,HBD.out (.inr (by simpa using t2))];rfl)
           go_wp2_with (with_reducible refine wpList_load_mkAt rfl (.tmp 70) rfl b (off+i*2) m rfl HCE.out ?_)
           refine π (v:= .tuple #[.slice none 0 0,.int .i64 0,.int .i64 70]) (by simp [results,Tryz.results72,go_sem]) rfl ⟨HB6.out,by rw [HE.out]⟩
         ·have HE:=Qh (show Ba l g=none by rw [HH4.out,HCO.out,HBD.out (.inl (by simpa using t1))];rfl)
          go_wp2_with (with_reducible refine wpList_load_mkAt rfl (.tmp 70) rfl b (off+i*2) m rfl HCE.out ?_)
          refine π (v:= .tuple #[.slice none 0 0,.int .i64 0,.int .i64 70]) (by simp [results,Tryz.results72,go_sem]) rfl ⟨HB6.out,by rw [HE.out]⟩
        ·obtain rfl:i=ms.length:=by omega
         have HE:=Qh (show Ba l g=some (ms,cs) by rw [HH4.out,HCO.out,List.drop_length];rfl)
         have k2:=cell_later HBR.out (HC5.out.cell 2)
         have k3':=cell_later HBR.out (HC5.out.cell 3)
         simp only [clCs] at k2 k3'
         go_wp2
         go_quiet (fail)
         go_wp2
         refine π (v:= .tuple #[.slice om ms.length mcap,.int .i64 (cs:Int),.int .i64 0]) (by simp [results,Tryz.results72,go_sem]) rfl ⟨Below.next (Below.next HB5.out HBR.out) (below_drewN' _ _),by rw [HE.out];exact⟨_,rfl,(HMO5.out.later HBR.out).later (below_drewN' _ _)⟩⟩
      ·have HE:=Qh (show Ba l g=none by rw [HH3.out,ζ (.inr (.inr (by rw [←HN.out,←HQQ.out];intro e;simp [e] at hqm)))])
       go_quiet (fail)
       go_wp2
       refine π (v:= .tuple #[.slice none 0 0,.int .i64 0,.int .i64 70]) (by simp [results,Tryz.results72,go_sem]) rfl ⟨Below.next HB4.out (below_drewN' _ _),by rw [HE.out]⟩
     ·have HE:=Qh (show Ba l g=none by rw [HH3.out,ζ (.inr (.inl (by simpa using hcc)))])
      go_quiet (fail)
      go_wp2
      refine π (v:= .tuple #[.slice none 0 0,.int .i64 0,.int .i64 70]) (by simp [results,Tryz.results72,go_sem]) rfl ⟨Below.next HB4.out (below_drewN' _ _),by rw [HE.out]⟩
    ·have HE:=Qh (show Ba l g=none by rw [HH3.out,ζ (.inl (by simpa using hcf))])
     go_quiet (fail)
     go_wp2
     refine π (v:= .tuple #[.slice none 0 0,.int .i64 0,.int .i64 70]) (by simp [results,Tryz.results72,go_sem]) rfl ⟨Below.next HB4.out (below_drewN' _ _),by rw [HE.out]⟩
  ·have HE:=Qh (show Ba l g=none by rw [HH.out,ζ (.inr (by simpa using hs))])
   go_wp2
   refine π (v:= .tuple #[.slice none 0 0,.int .i64 0,.int .i64 70]) (by simp [results,Tryz.results72,go_sem]) rfl ⟨HB2.out,by rw [HE.out]⟩
 ·have HE:=Qh (show Ba l g=none by rw [HH.out,ζ (.inl (by simpa using he0))])
  go_wp2
  refine π (v:= .tuple #[.slice none 0 0,.int .i64 0,.int .i64 70]) (by simp [results,Tryz.results72,go_sem]) rfl ⟨HB2.out,by rw [HE.out]⟩
attribute [local go_sem] Oper.semAt_some
def segOf (x:List Nat):Sg:=match x with
 | [a,b,c,d]=>⟨(a:Int),(b:Int),(c:Int),(d:Int)⟩
 | _=>⟨0,0,0,0⟩
def manOf (s:Nat) (us:List Nat):B3:=⟨(s:Int),(us.getD 0 0:Nat),(us.getD 1 0:Nat),(us.getD 2 0:Nat),(us.getD 3 0:Nat),(fours (us.drop 4)).map segOf⟩
def D5 (b:List UInt8) (r:List Nat×Nat×Int):Prop:=r.2.2≠0∨r.2.1≠b.length∨r.1.length<8∨r.1.length % 4≠0∨2199023255552<maxU r.1
instance (b:List UInt8) (r:List Nat×Nat×Int):Decidable (D5 b r):=by unfold D5;infer_instance
def Bk (b:List UInt8):B3×Int:=
 if (Bv b 4).2≠0 then (zeroM,80)
 else if D5 (Bv b 4).1.body (Bj (Bv b 4).1.body 1028) then (zeroM,80)
 else if Bt (manOf (Bv b 4).1.s (Bj (Bv b 4).1.body 1028).1) then (manOf (Bv b 4).1.s (Bj (Bv b 4).1.body 1028).1,0) else (zeroM,80)
theorem Ed {fn:Func} {p q:Tmp} (h:fn.results= #[.cell p 69,.tmp q]) (tmps:Array Value) (w:World) (g:Nat) (m:B3) (sv x:Value)
  (hp:tmps.getD p undef= .pointer (some ⟨g,0,none⟩)) (hq:tmps.getD q undef=x) (hE:Ah w g m sv):(results fn tmps).run Tryz.prog w= .ok (.tuple #[mnV m sv,x]) w:=by
 have hl:=run_load_mn hE
 have hp':tmps[p]?.getD undef= .pointer (some ⟨g,0,none⟩):=by simpa using hp
 have hq':tmps[q]?.getD undef=x:=by simpa using hq
 simp [results,h,hp',hq',asAddr,hl]
theorem Ah.segsAny {w:World} {g:Nat} {m m':B3} {sv:Value} (h:Ah w g m sv) (e:mnCs m sv=mnCs m' sv):Ah w g m' sv:=by unfold Ah at *;rw [←e];exact h
theorem list4 {vs:List Nat} (h:vs.length=4): ∃ a b c d,vs=[a,b,c,d]:=by
 match vs,h with
 | [a,b,c,d],_=>exact⟨a,b,c,d,rfl⟩
def TuS (g:Nat) (ov0:Value) (W2 W:World):Prop:=Turned (fun j=>j=g∨ov0.ownBlock=some j) W2 W
theorem TuS.sck {B g:Nat} {ov0:Value} {W2 W:World} (h:TuS g ov0 W2 W) (ho: ∀ j,ov0.ownBlock=some j→B≤j):ScK B g g W2 W:=Turned.mono h fun j hj=>by
 rcases hj with h | h
 ·exact .inl h
 ·exact .inr (.inr (ho j h))
def MaS (B g:Nat) (m0:B3) (n:Nat) (cs:List Value) (W2:World) (ov0 ov:Value) (W:World):Prop:=Ah W g m0 ov∧W.ownsRow B 72 4 ov n cs∧TuS g ov0 W2 W∧B≤W.heap.size
theorem MaS.next {B g n:Nat} {m0:B3} {cs:List Value} {W2 W W':World} {ov0 ov:Value} (h:MaS B g m0 n cs W2 ov0 ov W) (hb:Below W.heap.size W W'):MaS B g m0 n cs W2 ov0 ov W':=
 ⟨h.1.below hb,own_later h.2.1 hb,Turned.trans h.2.2.1 (Turned.below hb) fun _ h=> .inl h,μ h.2.2.2 hb.size⟩
theorem MaS.step {B g n n':Nat} {m0:B3} {cs cs':List Value} {W2 W W':World} {ov v':Value} (h:MaS B g m0 n cs W2 ov ov W) (hg:W.grownBy W' ov.ownBlock) (ho:W'.ownsRow B 72 4 v' n' cs') (hgB:g<B):
  Ah W' g m0 ov∧W'.ownsRow B 72 4 v' n' cs'∧TuS g ov W2 W':=
 ⟨h.1.keep (Bf h.2.1 h.2.2.2 hg) hgB,ho,Turned.trans h.2.2.1 (⟨hg.os,hg.tape,hg.output,hg.size,fun k hk hs=>hg.block k hk fun e=>hs (.inr e.symm)⟩:Turned (fun j=>j=g∨ov.ownBlock=some j) W W') fun _ h=> .inl h⟩
theorem MaS.store {B g n:Nat} {m0:B3} {cs:List Value} {W2 W:World} {ov v':Value} (h:Ah W g m0 ov∧W.ownsRow B 72 4 v' n cs∧TuS g ov W2 W) (hgB:g<B):
  Ah (W.setCell ⟨g,5,none⟩ v') g m0 v'∧(W.setCell ⟨g,5,none⟩ v').ownsRow B 72 4 v' n cs∧TuS g ov W2 (W.setCell ⟨g,5,none⟩ v'):=
 ⟨h.1.set rfl,own_set h.2.1 hgB,Turned.trans h.2.2 (Turned.setCell (S:=fun j=>j=g) _ ⟨g,5,none⟩ _ rfl) fun _ hi=> .inl (.inl hi)⟩
def MaI (B g:Nat) (m0:B3) (us:List Nat) (X:World) (pre:List ChX) (W:World):Prop:=
 ∃ ov,Ah W g m0 ov∧W.ownsRow B 72 4 ov pre.length (sgCells (pre.map fun x=>segOf x.1))∧pre.map (·.1) <+: fours us∧Turned (fun k=>k=g∨k=g) X W
theorem own_kept {w w':World} {B B' size n:Nat} {e:TypeId} {v:Value} {xs:List Value} (h:w.ownsRow B e size v n xs) (hk:Dj B' w w'):w'.ownsRow B e size v n xs:=by
 refine⟨h.1,?_⟩
 rcases h.2 with hn | ⟨g,cap,cur,rfl,hb1,hg,rest⟩
 ·exact .inl hn
 ·exact .inr ⟨g,cap,cur,rfl,hb1,hk.blk hg,rest⟩
theorem own_turnedB {S:Nat→Prop} {w w':World} {B size n:Nat} {e:TypeId} {v:Value} {xs:List Value} (h:w.ownsRow B e size v n xs) (ht:Turned S w w') (hS: ∀ k,S k→k<B):w'.ownsRow B e size v n xs:=by
 refine⟨h.1,?_⟩
 rcases h.2 with hn | ⟨g,cap,cur,rfl,hb1,hg,rest⟩
 ·exact .inl hn
 ·exact .inr ⟨g,cap,cur,rfl,hb1,by rw [ht.block _ (δ.1 hg).1 (fun hs=>by have:=hS _ hs;omega)];exact hg,rest⟩
theorem MaI.kept {B g:Nat} {m0:B3} {us:List Nat} {X:World} (hB:X.heap.size≤B):Ha B (MaI B g m0 us X):=fun _ _ _ ⟨ov,h1,h2,h3,h4⟩ hk=>⟨ov,hk.blk h1,own_kept h2 hk,h3,h4.kept hk hB⟩
theorem wp_noexit {P:Program} {c:Code} {K:Act→World→Prop} {Q:Exit→Act→World→Prop} {a:Act} {w:World} (h:c.wp P (Exit.then K (fun _ _ _=>False)) a w):c.wp P (Exit.then K Q) a w:=
 wp_mono h fun e a w he=>by cases e<;>first | exact he | exact he.elim
theorem maxU_bound {vs:List Nat} {M:Nat} (h: ∀ x∈vs,x≤M):maxU vs≤M:=by
 suffices hs: ∀ (vs:List Nat) (a:Nat),a≤M→(∀ x∈vs,x≤M)→vs.foldl Nat.max a≤M from hs vs 0 (θ _) h
 intro vs
 induction vs with
 | nil=>intro a ha _;exact ha
 | cons y ys ih=>intro a ha hy;exact ih _ (Nat.max_le.2 ⟨ha,hy y List.mem_cons_self⟩) fun x hx=>hy x (List.mem_cons_of_mem _ hx)
def DecMP (w:World) (r:B3×Int) (e:Ending) (w':World):Prop:= ∃ sv,e= .returned (.tuple #[mnV r.1 sv,.int .i64 r.2])∧Dl (fun k=>w.heap.size≤k) w' sv r.1.segs∧sv.oneCell'=true∧Below w.heap.size w w'
theorem B9 (A:Nat→Prop) (w:World):Dl A w (.slice none 0 0) []:=⟨none,0,rfl,ξ _,by decide,fun i g hg=>by simp at hg⟩
theorem manDecode_any (l:List UInt8) (v:Value) (w:World) (hv:A2 w v l) (hl:l.length≤67108864) (hn:NibTab w):
  Calls Tryz.prog 128 #[v] w (DecMP w (Bk l)):=by
 have HB0:=Qh (below_alloc w (.cells (mnCs zeroM (.slice none 0 0)) 69))
 have HM0:=Qh (A4 w zeroM (.slice none 0 0))
 have HWH:=Qh (whole_any l v 4 _ (hv.below HB0.out) (by omega) (hn.below HB0.out))
 have HE:=Qh (show Bk l=if (Bv l 4).2≠0 then (zeroM,80)
  else if D5 (Bv l 4).1.body (Bj (Bv l 4).1.body 1028) then (zeroM,80)
  else if Bt (manOf (Bv l 4).1.s (Bj (Bv l 4).1.body 1028).1) then (manOf (Bv l 4).1.s (Bj (Bv l 4).1.body 1028).1,0) else (zeroM,80) from rfl)
 have HBL:=Qh (wholeF_len l 4)
 obtain⟨oa,cap,rfl,_,_⟩:=hv
 obtain⟨r,hr⟩: ∃ r,r=Bv l 4:=⟨_,rfl⟩
 rw [←hr] at HWH HE HBL
 clear hr hn
 obtain⟨⟨k,s,body⟩,e0⟩:=r
 unfold WholePost at HWH
 dsimp only at HE HBL
 simp only [mnCs,zeroM] at HB0 HM0 HWH
 refine(callsIn_wide (n:=3)).1 (callsIn_of_wp_marks Tryz.func128 rfl trivial (wpIn_wide.2 ?_) rfl)
 simp only [Tryz.ntmps128,List.size_toArray,φ,Φ,Nat.reduceAdd,Nat.reduceSub,Array.replicate_succ,Array.replicate_zero,List.push_toArray,List.append_toArray,List.nil_append,List.cons_append]
 go_wp2_with fail
 refine HWH.out.mono ?_
 rintro e w1 ⟨bv,rfl,hbv,hb1⟩
 have HB1:=Qh (Below.next HB0.out hb1)
 have HM1:=Qh (HM0.out.below hb1)
 have HBV:=Qh hbv.brow
 obtain⟨ob,bcap,rfl,_,_⟩:=hbv
 have HBA:=Qh (below_alloc w1 (.cells (frCs (k:Int) (s:Int) (.slice ob body.length bcap)) 101))
 have HB2:=Qh (Below.next HB1.out HBA.out)
 have HM2:=Qh (HM1.out.below HBA.out)
 have HV2:=Qh (HBV.out.below HBA.out)
 have HF2:=Qh (C7 w1 (k:Int) (s:Int) (.slice ob body.length bcap))
 simp only [frCs] at HBA HB2 HM2 HV2 HF2
 clear hb1 HWH HM0 HB0 HB1 HM1 HBV
 rcases he0:(e0 != 0) with _ | _
 ·have he00:e0=0:=by simpa using he0
  have HE2:=Qh (show Bk l=if D5 body (Bj body 1028) then (zeroM,80)
   else if Bt (manOf s (Bj body 1028).1) then (manOf s (Bj body 1028).1,0) else (zeroM,80) by rw [HE.out,γ (fun h=>h he00)])
  have HDA:=Qh (fun W (hb:A2 W (.slice ob body.length bcap) body)=>decodeAll_any body _ 1028 W hb (by have:=HBL.out;omega) (by decide) (by decide))
  have HLE:=Qh (decAll_len body 1028)
  obtain⟨r,hr⟩: ∃ r,r=Bj body 1028:=⟨_,rfl⟩
  rw [←hr] at HDA HE2 HLE
  clear hr HE he00
  obtain⟨us,at0,e1⟩:=r
  unfold AllPost at HDA
  dsimp only at HE2 HLE
  have c2:=HF2.out.c2
  go_wp2_with fail
  generalize w1.alloc (.cells #[.int .i64 (k:Int),.int .i64 (s:Int),.slice ob body.length bcap] 101)=w2 at*
  generalize w1.heap.size=gf at*
  refine(HDA.out w2 HV2.out).mono ?_
  rintro e w3 ⟨uv,rfl,hou,hb3⟩
  have HB3:=Qh (Below.next HB2.out hb3)
  have HM3:=Qh (HM2.out.below hb3)
  have HF3:=Qh (HF2.out.below hb3)
  have HO3:=Qh hou
  have HUR:=Qh hou.row
  obtain⟨ou,ucap,hsh,hul,_⟩:=Ac hou
  subst hsh
  have c1:=HF3.out.c1
  have c2:=HF3.out.c2
  clear hou hb3 HDA HV2 HB2 HM2 HF2 HBA
  rcases h1:(e1 != 0) with _ | _
  ·rcases h2:((at0:Int) != (body.length:Int)) with _ | _
   ·rcases h3:decide ((us.length:Int)<8) with _ | _
    ·rcases h4:((us.length:Int) % 4 != 0) with _ | _
     ·have hl8:8≤us.length:=by simp at h3;omega
      have HMX:=Qh (max_any us _ w3 HUR.out (by omega) (by have:=HLE.out;omega))
      obtain⟨mx,hmx⟩: ∃ mx,mx=maxU us:=⟨_,rfl⟩
      rw [←hmx] at HMX
      have HXX:=Qh hmx
      clear hmx
      rcases h5:decide ((2199023255552:Int)<(mx:Int)) with _ | _
      ·have HE3:=Qh (show Bk l=if Bt (manOf s us) then (manOf s us,0) else (zeroM,80) by
        rw [HE2.out,γ]
        intro hbad
        have hbad':e1≠0∨at0≠body.length∨us.length<8∨us.length % 4≠0∨2199023255552<maxU us:=hbad
        rcases hbad' with h | h | h | h | h
        ·exact h (by simpa using h1)
        ·exact h (by simp at h2;omega)
        ·omega
        ·exact h (by simp at h4;omega)
        ·rw [←HXX.out] at h;simp at h5;omega)
       have HMB:=Qh (show maxU us≤2199023255552 by rw [←HXX.out];simp at h5;omega)
       have HM4:=Qh (show us.length % 4=0 by simp at h4;omega)
       go_wp2_with (first | (go_at_call 159;refine HMX.out.mono ?_;rintro e wx ⟨rfl,rfl⟩) | fail)
       obtain⟨bu,ucap',hse,hbu1,hbu2,_,_,hcu⟩:=B8 HO3.out (show 0<us.length by omega)
       simp only [Value.slice.injEq,true_and] at hse
       obtain⟨rfl,rfl⟩:=hse
       obtain⟨u0,hu0,_,hm0⟩:=Kc us 0 (by omega)
       obtain⟨u1,hu1,_,hm1⟩:=Kc us 1 (by omega)
       obtain⟨u2,hu2,_,hm2⟩:=Kc us 2 (by omega)
       obtain⟨u3,hu3,_,hm3⟩:=Kc us 3 (by omega)
       have HMO:=Qh (show manOf s us=⟨(s:Int),(u0:Int),(u1:Int),(u2:Int),(u3:Int),(fours (us.drop 4)).map segOf⟩ by
        unfold manOf
        simp only [List.getD_eq_getElem?_getD,hu0,hu1,hu2,hu3,Option.getD_some])
       have HCU:=Qh (fun(i u:Nat) (h:us[i]? =some u)=>hcu i (.int .u64 (u:Int)) (by rw [uCells,List.getElem?_map,h];rfl))
       have D0:=Qh (HCU.out 0 u0 hu0)
       have D1:=Qh (HCU.out 1 u1 hu1)
       have D2:=Qh (HCU.out 2 u2 hu2)
       have D3:=Qh (HCU.out 3 u3 hu3)
       have F1:=Qh c1
       have hw0:IntKind.i64.wrap (u0:Int)=(u0:Int):=by have:=Ic hm0;have:=HMB.out;rw [κ];omega
       have hw1:IntKind.i64.wrap (u1:Int)=(u1:Int):=by have:=Ic hm1;have:=HMB.out;rw [κ];omega
       have hw2:IntKind.i64.wrap (u2:Int)=(u2:Int):=by have:=Ic hm2;have:=HMB.out;rw [κ];omega
       have hw3:IntKind.i64.wrap (u3:Int)=(u3:Int):=by have:=Ic hm3;have:=HMB.out;rw [κ];omega
       clear hcu hu0 hu1 hu2 hu3 hm0 hm1 hm2 hm3 c1 c2 HMX h1 h2 h3 h4 h5 he0
       have q0:0<us.length:=by omega
       have q1:(1:Int)<(us.length:Int):=by omega
       have q2:(2:Int)<(us.length:Int):=by omega
       have q3:(3:Int)<(us.length:Int):=by omega
       refine wp_noexit ?_
       refine ω (S:=fun w'=>Below w3.heap.size w3 w') (by kernel_rfl) (below_drewN' _ 1) (fun hHeld=> ?_)
       have FX1:=Qh (fun(wF:World) (hSw:(fun w'=>Below w3.heap.size w3 w') wF)=>And.intro ((cell_later hSw D0.out)) (And.intro ((cell_later hSw D1.out)) (And.intro ((cell_later hSw D2.out)) (And.intro ((cell_later hSw D3.out)) ((cell_later hSw F1.out))))))
       refine tf FX1 0 rfl ?_
       refine tf FX1 1 rfl ?_
       refine tf FX1 2 rfl ?_
       refine tf FX1 3 rfl ?_
       refine tf FX1 4 rfl ?_
       refine tf FX1 5 rfl ?_
       refine tf FX1 6 rfl ?_
       refine tf FX1 7 rfl ?_
       refine tf FX1 8 rfl ?_
       refine tf FX1 9 rfl ?_
       refine tf FX1 10 rfl ?_
       refine tf FX1 11 rfl ?_
       refine tf FX1 12 rfl ?_
       refine tf FX1 13 rfl ?_
       refine tf FX1 14 rfl ?_
       refine tf FX1 15 rfl ?_
       refine tf FX1 16 rfl ?_
       refine tf FX1 17 rfl ?_
       refine tf FX1 18 rfl ?_
       clear FX1
       have HBZ:=Qh (Below.next hHeld (below_alloc (World.drew w3) (.cells (mnCs zeroM (.slice none 0 0)) 69)))
       have HZ:=Qh (show Ah ((World.drew w3).alloc (.cells (mnCs zeroM (.slice none 0 0)) 69)) w3.heap.size zeroM (.slice none 0 0) from A4 (World.drew w3) zeroM (.slice none 0 0))
       have HSZ4:=Qh (show ((World.drew w3).alloc (.cells (mnCs zeroM (.slice none 0 0)) 69)).heap.size=w3.heap.size+1 by simp)
       simp only [mnCs,zeroM] at HBZ HZ HSZ4
       refine Rd 19 rfl fun K hK=> ?_
       go_simp
       refine hK.out _ _ HBZ.out (fun hHeld=> ?_)
       clear hK K
       refine Rd 20 rfl fun K hK=> ?_
       rw [ζ (by kernel_rfl)]
       refine wp_store_row 69 (.tmp 8) (.tmp 69) rfl w3.heap.size (mnCs ⟨(s:Int),(u0:Int),(u1:Int),(u2:Int),(u3:Int),[]⟩ (.slice none 0 0)) rfl rfl 69 (mnCs ⟨0,0,0,0,0,[]⟩ (.slice none 0 0)) HZ.out mnInfo rfl (mnCs_all _ _ rfl) ?_
       have HB5:=Qh (show Below w3.heap.size w3 ((World.drew (w3.alloc (.cells #[.int .i64 0,.int .i64 0,.int .i64 0,.int .i64 0,.int .i64 0,.slice none 0 0] 69))).setRow w3.heap.size (mnCs ⟨(s:Int),(u0:Int),(u1:Int),(u2:Int),(u3:Int),[]⟩ (.slice none 0 0))) from Az HBZ.out (ξ _) _)
       have HM5:=Qh (show Ah ((World.drew (w3.alloc (.cells #[.int .i64 0,.int .i64 0,.int .i64 0,.int .i64 0,.int .i64 0,.slice none 0 0] 69))).setRow w3.heap.size (mnCs ⟨(s:Int),(u0:Int),(u1:Int),(u2:Int),(u3:Int),[]⟩ (.slice none 0 0))) w3.heap.size ⟨(s:Int),(u0:Int),(u1:Int),(u2:Int),(u3:Int),[]⟩ (.slice none 0 0) from HZ.out.row)
       refine hK.out _ _ HB5.out (fun _=> ?_)
       clear hK K
       have HSZ5:=Qh (show ((World.drew (w3.alloc (.cells #[.int .i64 0,.int .i64 0,.int .i64 0,.int .i64 0,.int .i64 0,.slice none 0 0] 69))).setRow w3.heap.size (mnCs ⟨(s:Int),(u0:Int),(u1:Int),(u2:Int),(u3:Int),[]⟩ (.slice none 0 0))).heap.size=w3.heap.size+1 by simp)
       refine Λ (by kernel_rfl) ?_ _
       generalize (World.drew (w3.alloc (.cells #[.int .i64 0,.int .i64 0,.int .i64 0,.int .i64 0,.int .i64 0,.slice none 0 0] 69))).setRow w3.heap.size (mnCs ⟨(s:Int),(u0:Int),(u1:Int),(u2:Int),(u3:Int),[]⟩ (.slice none 0 0))=W5 at*
       obtain⟨vs,hvs⟩: ∃ vs,vs=us.drop 4:=⟨_,rfl⟩
       rw [←hvs] at HMO
       have HVL:=Qh (show us.length - 4=vs.length by rw [hvs,Ξ])
       have HCV:=Qh (fun W (hW:Below w3.heap.size w3 W) (i u:Nat) (h:vs[i]? =some u)=>(show W.cell? ⟨bu,4+i,none⟩=some (.int .u64 (u:Int)) from cell_later hW (HCU.out (4+i) u (by rw [hvs,List.getElem?_drop] at h;exact h))))
       have HMV:=Qh (show maxU vs≤2199023255552 by
        refine μ ?_ HMB.out
        have hx: ∀ x∈vs,x≤maxU us:=fun x hx=>Ic (List.mem_of_mem_drop (by rw [←hvs];exact hx))
        exact maxU_bound hx)
       have htail: ∀ W,(Instr.sliceAt 262 (.slice (some ⟨bu,0,none⟩) us.length ucap) (some (.int .i64 4)) none none).run Tryz.prog W= .ok (.slice (some ⟨bu,4,none⟩) vs.length (ucap - 4)) W:=fun W=>by
        have h:=run_ch_tail bu 0 us.length ucap 4 (by omega) hul W
        rw [HVL.out] at h
        simpa using h
       have HV4:=Qh (show vs.length=4*(vs.length / 4) by have:=HM4.out;have:=HVL.out;omega)
       have HVC:=Qh (show vs.length≤1028∧vs.length≤ucap - 4 by have:=HLE.out;have:=HVL.out;omega)
       have hgb:w.heap.size≤w3.heap.size:=HB3.out.size
       have hg0:=HM3.out.lt
       clear hvs HCU D0 D1 D2 D3 F1 HBZ HZ HSZ4 hw0 hw1 hw2 hw3 HO3 HUR
       go_wp2_with fail
       refine(chunk_any bu 4 vs.length (ucap - 4) W5).mono ?_
       rintro e w6 ⟨rfl,rfl⟩
       obtain⟨X0,hX⟩: ∃ X0,X0=(W5.alloc (.cells #[.slice (some ⟨bu,4,none⟩) vs.length (ucap - 4)] 262)).alloc (.cells #[.int .i64 4] 3):=⟨_,rfl⟩
       have HBX5:=Qh (show Below W5.heap.size W5 X0 by rw [hX];exact Below.next (below_alloc _ _) (below_alloc _ _))
       have HBX:=Qh (show Below w3.heap.size w3 X0 from Below.next HB5.out HBX5.out)
       have HSX:=Qh (show X0.heap.size=w3.heap.size+3 by rw [hX];simp;rw [HSZ5.out])
       have HMX:=Qh (show Ah X0 w3.heap.size ⟨(s:Int),(u0:Int),(u1:Int),(u2:Int),(u3:Int),[]⟩ (.slice none 0 0) from HM5.out.below HBX5.out)
       have HCA:=Qh (show X0.cell? ⟨w3.heap.size+1,0,none⟩=some (.slice (some ⟨bu,4,none⟩) vs.length (ucap - 4)) by
        rw [hX,←HSZ5.out]
        exact cell_later (below_alloc _ _) (by rw [World.cell?_alloc_new];rfl))
       have HCB:=Qh (show X0.cell? ⟨w3.heap.size+1+1,0,none⟩=some (.int .i64 4) by
        rw [hX,←HSZ5.out]
        have h:=World.cell?_alloc_new (W5.alloc (.cells #[.slice (some ⟨bu,4,none⟩) vs.length (ucap - 4)] 262)) #[.int .i64 4] 3 0
        rw [Ω] at h
        rw [h];rfl)
       have HXX0:=Qh hX
       have HKE:=Qh (show Ke (w3.heap.size+1) (w3.heap.size+1+1) bu 4 (ucap - 4) vs X0 from⟨HCA.out,HCB.out,fun i u hu=>HCV.out X0 HBX.out i u hu⟩)
       clear hX htail HCA HCB HBX5
       go_wp2_with fail
       rw [HSZ5.out,←HXX0.out]
       refine wp_rangeFuncR (gf:=184) (lb:= #[.pointer (some ⟨w3.heap.size+1,0,none⟩),.pointer (some ⟨w3.heap.size+1+1,0,none⟩)]) (encs:=chEnc) (R:=ChR vs bu) (Kp:=ScK X0.heap.size w3.heap.size w3.heap.size) (S:=fun xs=>xs.map (·.1)=fours vs) (Sp:=fun _=>True) rfl (enters_of Tryz.func184 (by kernel_rfl) rfl)
        (chunk1_seq vs (vs.length / 4) (w3.heap.size+1) (w3.heap.size+1+1) bu 4 (ucap - 4) HV4.out (by have:=HVC.out;omega) HVC.out.2 X0 _ HKE.out ?hK)
        ScK.trans ScK.put (fun _=>rfl) (MaI X0.heap.size w3.heap.size ⟨(s:Int),(u0:Int),(u1:Int),(u2:Int),(u3:Int),[]⟩ vs X0) (fun _ _ _=>False) (MaI.kept (ξ _)) (fun _ _ _ _ h _=>h) ?h0 ?hround ?hdone ?hstop
       case hK=>
        intro W W' _ ⟨h1,h2,h3⟩ hk
        have hsx:=HSX.out
        refine⟨⟨Turned.cell hk h1 (by rintro(h | h | h)<;>simp only at h<;>omega),Turned.cell hk h2 (by rintro(h | h | h)<;>simp only at h<;>omega),fun i u hu=>Turned.cell hk (h3 i u hu) (by rintro(h | h | h)<;>simp only at h<;>omega)⟩,hk.size⟩
       case h0=>exact⟨.slice none 0 0,HMX.out,World.ownsRow_nil _ _ _ _,List.nil_prefix,Turned.refl _ _⟩
       case hstop=>
        intro D c pre W _ _ h _
        exact h.elim
       case hround=>
        rintro l' pre ⟨xs,xv⟩ Wo W hl0 hszo hI hko hR
        obtain⟨hpf,hxm,hx4,ox,hxv,hxc⟩:=hR
        dsimp only at hxm hx4 hxv hxc
        subst hxv
        simp only [chEnc]
        gi_wp2
        refine⟨KeepsFrom.refl _ _,Turned.refl _ _,fun W2 hk2=> ?_⟩
        obtain⟨a,b,c,d,rfl⟩:=list4 hx4
        obtain⟨ov,hmo,howno,_,htno⟩:=hI
        have hKK:=hko.trans hk2
        have hm:Ah W2 w3.heap.size ⟨(s:Int),(u0:Int),(u1:Int),(u2:Int),(u3:Int),[]⟩ ov:=hKK.blk hmo
        have hown:=own_kept howno hKK
        have htn:=htno.kept hKK (ξ _)
        have hsz2:X0.heap.size≤W2.heap.size:=μ hszo hKK.size
        have hsx:=HSX.out
        have hg8lt:w3.heap.size<X0.heap.size:=by omega
        have E0:=Qh (show W2.cell? ⟨bu,ox,none⟩=some (.int .u64 (a:Int)) by have:=hxc 0 a rfl;rw [Nat.add_zero] at this;exact hk2.cell this)
        have E1:=Qh (hk2.cell (hxc 1 b rfl))
        have E2:=Qh (hk2.cell (hxc 2 c rfl))
        have E3:=Qh (hk2.cell (hxc 3 d rfl))
        have hNB: ¬ (bu=w3.heap.size∨bu=w3.heap.size∨X0.heap.size≤bu):=by omega
        have hw0:IntKind.i64.wrap (a:Int)=(a:Int):=by have:=hxm a (by simp);have:=HMV.out;rw [κ];omega
        have hw1:IntKind.i64.wrap (b:Int)=(b:Int):=by have:=hxm b (by simp);have:=HMV.out;rw [κ];omega
        have hw2:IntKind.i64.wrap (c:Int)=(c:Int):=by have:=hxm c (by simp);have:=HMV.out;rw [κ];omega
        have hw3:IntKind.i64.wrap (d:Int)=(d:Int):=by have:=hxm d (by simp);have:=HMV.out;rw [κ];omega
        have HPL:=Qh (show pre.length≤100000 by
         have h1:=hpf.length_le
         have h2:=fours_len vs
         have h3:=HVC.out
         simp only [List.length_map,η,φ,Φ] at h1
         omega)
        have HOB:=Qh (fun j (e:ov.ownBlock=some j)=>(hown.lt j e).1)
        obtain⟨i0,hi,hz0,hz1,hz2⟩:=info_parts infoSg
        have HW2:=Qh (show MaS X0.heap.size w3.heap.size ⟨(s:Int),(u0:Int),(u1:Int),(u2:Int),(u3:Int),[]⟩ pre.length (sgCells (pre.map fun x=>segOf x.1)) W2 ov ov W2.drew from⟨hm,hown,Turned.below (below_drewN' W2 1),μ hsz2 (below_drewN' W2 1).size⟩)
        clear hxc hxm hmo howno htno hko hk2 hKK hm
        refine wpIn_block (wpIn_region_held (S:=fun w'=>ScK X0.heap.size w3.heap.size w3.heap.size W2 w') (by kernel_rfl) (by rfl) (Cj Fj) (Turned.below (below_drewN' W2 1)) (fun hHeld=> ?_))
        have FX2:=Qh (fun(wF:World) (hSw:(fun w'=>ScK X0.heap.size w3.heap.size w3.heap.size W2 w') wF)=>And.intro ((hSw.cell E0.out hNB)) (And.intro ((hSw.cell E1.out hNB)) (And.intro ((hSw.cell E2.out hNB)) ((hSw.cell E3.out hNB)))))
        refine tf FX2 0 rfl ?_
        refine tf FX2 2 rfl ?_
        refine tf FX2 3 rfl ?_
        refine tf FX2 4 rfl ?_
        refine tf FX2 5 rfl ?_
        refine tf FX2 6 rfl ?_
        refine tf FX2 7 rfl ?_
        refine tf FX2 8 rfl ?_
        refine tf FX2 9 rfl ?_
        refine tf FX2 10 rfl ?_
        refine tf FX2 11 rfl ?_
        refine tf FX2 12 rfl ?_
        refine tf FX2 13 rfl ?_
        refine tf FX2 14 rfl ?_
        refine tf FX2 15 rfl ?_
        refine tf FX2 16 rfl ?_
        refine tf FX2 17 rfl ?_
        refine tf FX2 18 rfl ?_
        clear FX2
        generalize World.drew W2=Wd at*
        have c5:Wd.cell? ⟨w3.heap.size,5,none⟩=some ov:=HW2.out.1.c5
        have HWA:=Qh (HW2.out.next (below_alloc Wd (.cells (sgCs ⟨(a:Int),(b:Int),(c:Int),(d:Int)⟩) 72)))
        simp only [sgCs] at HWA
        refine wpAnyH_ready (rs:=[1,19]) (by kernel_rfl) (by simp) ?_
        refine AllReadyH.cons rfl (fun K hK=> ?_) (AllReadyH.cons rfl (fun K hK=> ?_) AllReadyH.nil)
        ·go_simp
         refine hK.out _ _ hHeld (fun hHeld=> ?_)
         clear hK K
         refine Rd 19 rfl fun K hK=> ?_
         go_simp
         refine hK.out _ _ (TuS.sck HWA.out.2.2.1 HOB.out) (fun hHeld=> ?_)
         clear hK K c5
         refine Rd 20 rfl fun K hK=> ?_
         rw [ζ (by kernel_rfl)]
         refine wp_append_own _ (.tmp 75) (.tmp 93) 67 rfl X0.heap.size 72 i0 zeroSg 4 32 Tryz.underlying67 hi hz0 hz1 hz2 rfl (by decide) ov pre.length _ rfl HWA.out.2.1 ⟨Wd.heap.size,0,none⟩ 1 1 (sgCs ⟨(a:Int),(b:Int),(c:Int),(d:Int)⟩).toList rfl rfl (fun j u hj=> ?c1_1) (fun u hu=> ?c2_1) (by have:=HPL.out;unfold maxLen;omega) (by have:=HPL.out;omega) HWA.out.2.2.2 ?_
         case c1_1=>
          rw [Bc,Nat.zero_add,World.cell?_alloc_new]
          simpa [sgCs] using hj
         case c2_1=>simp [sgCs] at hu;rcases hu with rfl | rfl | rfl | rfl<;>rfl
         intro v' W3 hown3 hgrow _
         have HST:=Qh (MaS.step HWA.out hgrow hown3 hg8lt)
         have h1v:v'.oneCell'=true:=by obtain⟨o1,c1,e,_,_⟩:=Ac hown3;rw [e];rfl
         clear hown3 hgrow
         refine hK.out _ _ (TuS.sck HST.out.2.2 HOB.out) (fun hHeld=> ?_)
         clear hK K
         have d5:=HST.out.1.c5
         have f5:=HST.out.1.free 5
         refine tk 21 rfl ?v_3 ?hy_3 ?r_3
         case hy_3=>intro w hSw;go_simp;try with_reducible rfl
         simp only [pA]
         refine Rd 22 rfl fun K hK=> ?_
         rw [ζ (by kernel_rfl)]
         refine Da 67 (.tmp 95) (.tmp 94) rfl w3.heap.size 5 v' ov (by kernel_rfl) h1v rfl rfl d5 f5 ?_
         have HFI:=Qh (MaS.store HST.out hg8lt)
         clear d5 f5 h1v HST
         refine hK.out _ _ (TuS.sck HFI.out.2.2 HOB.out) (fun _=> ?_)
         clear hK K
         generalize World.setCell _ _ _=W4 at*
         refine Λ (by kernel_rfl) ?_ _
         refine⟨Fi HFI.out.2.2 fun j o hj hs ho=> ?_,TuS.sck HFI.out.2.2 HOB.out,v',HFI.out.1,?_,hpf,htn.trans HFI.out.2.2 fun j hj=> ?_⟩
         ·rcases hs with h | h
          ·omega
          ·rcases hown.2 with⟨rfl,_⟩ | ⟨g,gcap,cur,rfl,_,hg,_⟩
           ·cases h
           ·have e:g=j:=ψ h
            subst e
            rw [hg] at ho
            cases ho
            rfl
         ·rw [η,List.map_append]
          have h:=HFI.out.2.1
          unfold sgCells at h ⊢
          rw [List.flatMap_append]
          exact h
         ·rcases hj with h | h
          ·exact .inl (.inl h)
          ·exact .inr (hown.lt j h).1
        ·go_simp
         refine hK.out _ _ (TuS.sck HWA.out.2.2.1 HOB.out) (fun hHeld=> ?_)
         clear hK K c5
         have c5:=HWA.out.1.c5
         refine Rd 1 rfl fun K hK=> ?_
         go_simp
         refine hK.out _ _ (TuS.sck HWA.out.2.2.1 HOB.out) (fun hHeld=> ?_)
         clear hK K c5
         refine Rd 20 rfl fun K hK=> ?_
         rw [ζ (by kernel_rfl)]
         refine wp_append_own _ (.tmp 75) (.tmp 93) 67 rfl X0.heap.size 72 i0 zeroSg 4 32 Tryz.underlying67 hi hz0 hz1 hz2 rfl (by decide) ov pre.length _ rfl HWA.out.2.1 ⟨Wd.heap.size,0,none⟩ 1 1 (sgCs ⟨(a:Int),(b:Int),(c:Int),(d:Int)⟩).toList rfl rfl (fun j u hj=> ?c1_2) (fun u hu=> ?c2_2) (by have:=HPL.out;unfold maxLen;omega) (by have:=HPL.out;omega) HWA.out.2.2.2 ?_
         case c1_2=>
          rw [Bc,Nat.zero_add,World.cell?_alloc_new]
          simpa [sgCs] using hj
         case c2_2=>simp [sgCs] at hu;rcases hu with rfl | rfl | rfl | rfl<;>rfl
         intro v' W3 hown3 hgrow _
         have HST:=Qh (MaS.step HWA.out hgrow hown3 hg8lt)
         have h1v:v'.oneCell'=true:=by obtain⟨o1,c1,e,_,_⟩:=Ac hown3;rw [e];rfl
         clear hown3 hgrow
         refine hK.out _ _ (TuS.sck HST.out.2.2 HOB.out) (fun hHeld=> ?_)
         clear hK K
         have d5:=HST.out.1.c5
         have f5:=HST.out.1.free 5
         refine tk 21 rfl ?v_4 ?hy_4 ?r_4
         case hy_4=>intro w hSw;go_simp;try with_reducible rfl
         simp only [pA]
         refine Rd 22 rfl fun K hK=> ?_
         rw [ζ (by kernel_rfl)]
         refine Da 67 (.tmp 95) (.tmp 94) rfl w3.heap.size 5 v' ov (by kernel_rfl) h1v rfl rfl d5 f5 ?_
         have HFI:=Qh (MaS.store HST.out hg8lt)
         clear d5 f5 h1v HST
         refine hK.out _ _ (TuS.sck HFI.out.2.2 HOB.out) (fun _=> ?_)
         clear hK K
         generalize World.setCell _ _ _=W4 at*
         refine Λ (by kernel_rfl) ?_ _
         refine⟨Fi HFI.out.2.2 fun j o hj hs ho=> ?_,TuS.sck HFI.out.2.2 HOB.out,v',HFI.out.1,?_,hpf,htn.trans HFI.out.2.2 fun j hj=> ?_⟩
         ·rcases hs with h | h
          ·omega
          ·rcases hown.2 with⟨rfl,_⟩ | ⟨g,gcap,cur,rfl,_,hg,_⟩
           ·cases h
           ·have e:g=j:=ψ h
            subst e
            rw [hg] at ho
            cases ho
            rfl
         ·rw [η,List.map_append]
          have h:=HFI.out.2.1
          unfold sgCells at h ⊢
          rw [List.flatMap_append]
          exact h
         ·rcases hj with h | h
          ·exact .inl (.inl h)
          ·exact .inr (hown.lt j h).1
       case hdone=>
        rintro D xs W hD hxs ⟨ov,hm,hown,_,htn⟩ hdf
        have HSG:=Qh (show xs.map (fun x=>segOf x.1)=(fours vs).map segOf by rw [←hxs,List.map_map];rfl)
        obtain⟨mn,hmn⟩: ∃ mn:B3,mn=⟨(s:Int),(u0:Int),(u1:Int),(u2:Int),(u3:Int),(fours vs).map segOf⟩:=⟨_,rfl⟩
        have HMW:=Qh (show Ah W w3.heap.size mn ov from hm.segsAny (by rw [hmn];rfl))
        have HOW:=Qh (show W.ownsRow X0.heap.size 72 4 ov mn.segs.length (sgCells mn.segs) by
         have e:mn.segs=xs.map (fun x=>segOf x.1):=by rw [hmn,HSG.out]
         rw [e,List.length_map]
         exact hown)
        have HE4:=Qh (show Bk l=if Bt mn then (mn,0) else (zeroM,80) by rw [HE3.out,HMO.out,hmn])
        have hsx:=HSX.out
        have HMT:=Qh (show Ah W w.heap.size ⟨0,0,0,0,0,[]⟩ (.slice none 0 0) by
         have h:=HM3.out.below HBX.out
         unfold Ah at h ⊢
         rw [htn.block _ (δ.1 h).1 (by omega)]
         exact h)
        have HBW:=Qh (Al (Below.next HB3.out HBX.out) htn (fun j hj=>by omega) (μ hgb HBX.out.size))
        have HDF:=Qh hdf
        have HMV2:=Qh (Kv mn ov W (sgIn_own (A:=fun _=>True) HOW.out (fun _ _=>trivial)).row)
        have hov:ov.oneCell'=true:=by obtain⟨_,_,e,_,_⟩:=Ac HOW.out;rw [e];rfl
        obtain⟨vb,hvb⟩: ∃ vb,vb=Bt mn:=⟨_,rfl⟩
        rw [←hvb] at HMV2 HE4
        clear hm hown htn hdf hxs hvb hmn
        go_wp2_with (with_reducible refine wpList_load_mn rfl (.tmp 8) rfl w3.heap.size mn ov rfl HMW.out ?_)
        refine HMV2.out.mono ?_
        rintro e W6 ⟨rfl,hb6⟩
        have HMW6:=Qh (HMW.out.below hb6)
        have HOW6:=Qh (own_later HOW.out hb6)
        have HMT6:=Qh (HMT.out.below hb6)
        have HBW6:=Qh (Below.next HBW.out hb6)
        have HDF6:=Qh ((hb6.block D (δ.1 HDF.out).1).trans HDF.out)
        have hDg: ¬ D=w.heap.size:=by omega
        clear hb6 HMV2 HMW HOW HMT HBW HDF
        rcases vb with _ | _
        ·go_wp2_with (with_reducible refine wpList_store_mn rfl (.tmp 2) (.tmp 99) rfl w.heap.size ⟨0,0,0,0,0,[]⟩ zeroM (.slice none 0 0) (.slice none 0 0) rfl rfl HMT6.out rfl ?_)
         intro W7 hw7
         have HM7:=Qh (show Ah W7 w.heap.size zeroM (.slice none 0 0) by rw [hw7.out];exact HMT6.out.row)
         have HT7:=Qh (show Turned (fun k=>k=w.heap.size) W6 W7 by rw [hw7.out];exact Ak _ _ _)
         have HB7:=Qh (Al HBW6.out HT7.out (fun k hk=>by omega) HBW6.out.size)
         have hdf7:=(HT7.out.block D (δ.1 HDF6.out).1 hDg).trans HDF6.out
         clear hw7
         go_wp2
         have HKF:=Qh (Dj.putObj (B:=X0.heap.size) (.deferred none) hD hdf7 rfl)
         refine⟨by simp,.inl ⟨_,_,rfl,run_takeDeferred hdf7,?_⟩⟩
         exact⟨.tuple #[mnV zeroM (.slice none 0 0),.int .i64 80],Ed rfl _ _ w.heap.size zeroM _ _ rfl rfl (HKF.out.blk HM7.out),_,by rw [HE4.out];rfl,by rw [HE4.out];exact B9 _ _,rfl,HKF.out.after HB7.out (by omega)⟩
        ·go_wp2_with (first | (with_reducible refine wpList_load_mn rfl (.tmp 8) rfl w3.heap.size mn ov rfl HMW6.out ?_) | (with_reducible refine wpList_store_mn rfl (.tmp 2) (.tmp 100) rfl w.heap.size ⟨0,0,0,0,0,[]⟩ mn (.slice none 0 0) ov rfl rfl HMT6.out hov ?_))
         intro W7 hw7
         have HM7:=Qh (show Ah W7 w.heap.size mn ov by rw [hw7.out];exact HMT6.out.row)
         have HT7:=Qh (show Turned (fun k=>k=w.heap.size) W6 W7 by rw [hw7.out];exact Ak _ _ _)
         have HB7:=Qh (Al HBW6.out HT7.out (fun k hk=>by omega) HBW6.out.size)
         have HO7:=Qh (own_turnedB HOW6.out HT7.out (fun k hk=>by omega))
         have hdf7:=(HT7.out.block D (δ.1 HDF6.out).1 hDg).trans HDF6.out
         clear hw7
         go_wp2
         have HKF:=Qh (Dj.putObj (B:=X0.heap.size) (.deferred none) hD hdf7 rfl)
         refine⟨by simp,.inl ⟨_,_,rfl,run_takeDeferred hdf7,?_⟩⟩
         refine⟨.tuple #[mnV mn ov,.int .i64 0],Ed rfl _ _ w.heap.size mn _ _ rfl rfl (HKF.out.blk HM7.out),ov,by rw [HE4.out];rfl,?_,hov,HKF.out.after HB7.out (by omega)⟩
         rw [HE4.out]
         exact sgIn_own (own_kept HO7.out HKF.out) (fun k hk=>by omega)
      ·
       have HG:=Qh (show Bk l=(zeroM,80) by rw [HE2.out,ζ (show D5 body (us,at0,e1) from show (e1≠0∨at0≠body.length∨us.length<8∨us.length % 4≠0∨2199023255552<maxU us) from .inr (.inr (.inr (.inr (by rw [←HXX.out];simp at h5;omega)))))])
       go_wp2_with (first | (go_at_call 159;refine HMX.out.mono ?_;rintro e wx ⟨rfl,rfl⟩) | (with_reducible refine wpList_store_mn rfl (.tmp 2) (.tmp 50) rfl w.heap.size ⟨0,0,0,0,0,[]⟩ zeroM (.slice none 0 0) (.slice none 0 0) rfl rfl HM3.out rfl ?_))
       intro w4 hw4
       have HM4:=Qh (show Ah w4 w.heap.size zeroM (.slice none 0 0) by rw [hw4.out];exact HM3.out.row)
       have HB4:=Qh (show Below w.heap.size w w4 by rw [hw4.out];exact Az HB3.out (ξ _) _)
       clear hw4
       go_wp2
       exact⟨.tuple #[mnV zeroM (.slice none 0 0),.int .i64 80],Ed rfl _ _ w.heap.size zeroM _ _ rfl rfl HM4.out,_,by rw [HG.out],by rw [HG.out];exact B9 _ _,rfl,HB4.out⟩
     ·
      have HG:=Qh (show Bk l=(zeroM,80) by rw [HE2.out,ζ (show D5 body (us,at0,e1) from show (e1≠0∨at0≠body.length∨us.length<8∨us.length % 4≠0∨2199023255552<maxU us) from .inr (.inr (.inr (.inl (by simp at h4;omega)))))])
      go_wp2_with (first | (with_reducible refine wpList_store_mn rfl (.tmp 2) (.tmp 50) rfl w.heap.size ⟨0,0,0,0,0,[]⟩ zeroM (.slice none 0 0) (.slice none 0 0) rfl rfl HM3.out rfl ?_))
      intro w4 hw4
      have HM4:=Qh (show Ah w4 w.heap.size zeroM (.slice none 0 0) by rw [hw4.out];exact HM3.out.row)
      have HB4:=Qh (show Below w.heap.size w w4 by rw [hw4.out];exact Az HB3.out (ξ _) _)
      clear hw4
      go_wp2
      exact⟨.tuple #[mnV zeroM (.slice none 0 0),.int .i64 80],Ed rfl _ _ w.heap.size zeroM _ _ rfl rfl HM4.out,_,by rw [HG.out],by rw [HG.out];exact B9 _ _,rfl,HB4.out⟩
    ·
     have HG:=Qh (show Bk l=(zeroM,80) by rw [HE2.out,ζ (show D5 body (us,at0,e1) from show (e1≠0∨at0≠body.length∨us.length<8∨us.length % 4≠0∨2199023255552<maxU us) from .inr (.inr (.inl (by simp at h3;omega))))])
     go_wp2_with (first | (with_reducible refine wpList_store_mn rfl (.tmp 2) (.tmp 50) rfl w.heap.size ⟨0,0,0,0,0,[]⟩ zeroM (.slice none 0 0) (.slice none 0 0) rfl rfl HM3.out rfl ?_))
     intro w4 hw4
     have HM4:=Qh (show Ah w4 w.heap.size zeroM (.slice none 0 0) by rw [hw4.out];exact HM3.out.row)
     have HB4:=Qh (show Below w.heap.size w w4 by rw [hw4.out];exact Az HB3.out (ξ _) _)
     clear hw4
     go_wp2
     exact⟨.tuple #[mnV zeroM (.slice none 0 0),.int .i64 80],Ed rfl _ _ w.heap.size zeroM _ _ rfl rfl HM4.out,_,by rw [HG.out],by rw [HG.out];exact B9 _ _,rfl,HB4.out⟩
   ·
    have HG:=Qh (show Bk l=(zeroM,80) by rw [HE2.out,ζ (show D5 body (us,at0,e1) from show (e1≠0∨at0≠body.length∨us.length<8∨us.length % 4≠0∨2199023255552<maxU us) from .inr (.inl (by intro e;simp [e] at h2)))])
    go_wp2_with (first | (with_reducible refine wpList_store_mn rfl (.tmp 2) (.tmp 50) rfl w.heap.size ⟨0,0,0,0,0,[]⟩ zeroM (.slice none 0 0) (.slice none 0 0) rfl rfl HM3.out rfl ?_))
    intro w4 hw4
    have HM4:=Qh (show Ah w4 w.heap.size zeroM (.slice none 0 0) by rw [hw4.out];exact HM3.out.row)
    have HB4:=Qh (show Below w.heap.size w w4 by rw [hw4.out];exact Az HB3.out (ξ _) _)
    clear hw4
    go_wp2
    exact⟨.tuple #[mnV zeroM (.slice none 0 0),.int .i64 80],Ed rfl _ _ w.heap.size zeroM _ _ rfl rfl HM4.out,_,by rw [HG.out],by rw [HG.out];exact B9 _ _,rfl,HB4.out⟩
  ·
   have HG:=Qh (show Bk l=(zeroM,80) by rw [HE2.out,ζ (show D5 body (us,at0,e1) from show (e1≠0∨at0≠body.length∨us.length<8∨us.length % 4≠0∨2199023255552<maxU us) from .inl (by simpa using h1))])
   go_wp2_with (first | (with_reducible refine wpList_store_mn rfl (.tmp 2) (.tmp 50) rfl w.heap.size ⟨0,0,0,0,0,[]⟩ zeroM (.slice none 0 0) (.slice none 0 0) rfl rfl HM3.out rfl ?_))
   intro w4 hw4
   have HM4:=Qh (show Ah w4 w.heap.size zeroM (.slice none 0 0) by rw [hw4.out];exact HM3.out.row)
   have HB4:=Qh (show Below w.heap.size w w4 by rw [hw4.out];exact Az HB3.out (ξ _) _)
   clear hw4
   go_wp2
   exact⟨.tuple #[mnV zeroM (.slice none 0 0),.int .i64 80],Ed rfl _ _ w.heap.size zeroM _ _ rfl rfl HM4.out,_,by rw [HG.out],by rw [HG.out];exact B9 _ _,rfl,HB4.out⟩
 ·have HG:=Qh (show Bk l=(zeroM,80) by rw [HE.out,ζ (by simpa using he0)])
  go_wp2_with (with_reducible refine wpList_store_mn rfl (.tmp 2) (.tmp 17) rfl w.heap.size ⟨0,0,0,0,0,[]⟩ zeroM (.slice none 0 0) (.slice none 0 0) rfl rfl HM2.out rfl ?_)
  intro w3 hw3
  have HM3:=Qh (show Ah w3 w.heap.size zeroM (.slice none 0 0) by rw [hw3.out];exact HM2.out.row)
  have HB3:=Qh (show Below w.heap.size w w3 by rw [hw3.out];exact Az HB2.out (ξ _) _)
  clear hw3
  go_wp2
  exact⟨.tuple #[mnV zeroM (.slice none 0 0),.int .i64 80],Ed rfl _ _ w.heap.size zeroM _ _ rfl rfl HM3.out,_,by rw [HG.out],by rw [HG.out];exact B9 _ _,rfl,HB3.out⟩
theorem wpList_cut_lh {ops:Array Oper} {rest:List Oper} {o:Oper} {a:Act} {w:World} {Q:Exit→Act→World→Prop} (hgd:o.guard=none) (x y z:Operand) (ho:o.op= .slice 39 x (some y) (some z) none) (oa:Option Addr) (cap lo hi:Nat) (l:List UInt8) (hx:a.eval x= .slice oa l.length cap) (hy:a.eval y= .int .i64 (lo:Int)) (hz:a.eval z= .int .i64 (hi:Int))
  (hv:A2 w (.slice oa l.length cap) l) (h1:lo≤hi) (h2:hi≤l.length) (h: ∀ v',A2 w v' ((l.take hi).drop lo)→v'.oneCell'=true→wpList Tryz.prog ops Q rest (a.put o.dst v') w):wpList Tryz.prog ops Q (o::rest) a w:=by
 have hv':=hv
 obtain⟨_,c',e,hl',_⟩:=hv'
 simp only [Value.slice.injEq,true_and] at e
 obtain⟨rfl,rfl⟩:=e
 have hb:=Gl (lo:=lo) (hi:=hi) (mx:=cap) hv h1 h2 (by omega)
 refine wpList_plain hgd fun K hK=> ?_
 unfold Oper.wp execOp
 simp only [ho,hx,hy,hz,Option.map_some,Option.map_none,Fl,run_cut_lh oa l.length cap lo hi h1 (μ h2 hl'),Sem.run_bind,Sem.run_pure,Result.andThen_ok]
 exact hK _ _ (h _ hb (by unfold sliced;rfl))
def rdD (d:Ab) (k:Nat):Ab:={d with reads:=IntKind.i64.wrap (d.reads+(k:Int))}
theorem Hn (w:World) (f m:Nat) (d:Ab) (L:List Ad) (h:FsAt w f m d L) (n:List UInt8) (x:A7) (he:Aj d n=0) (hx:atF d.files n=some x) (p k:Nat) (hk:p+k≤x.data.length):
  Calls Tryz.prog 32 #[.pointer (some ⟨f,0,none⟩),.string ⟨n.toArray⟩,.int .i64 (p:Int),.int .i64 (k:Int)] w fun e w'=> ∃ v,e= .returned (.tuple #[v,.int .i64 0])∧OwnB w' w.heap.size v ((x.data.drop p).take k)∧FsAt w' f m (rdD d k) L∧Turned (fun i=>i=f) w w':=by
 have HO:=Qh (Hl w f m d L h n)
 obtain⟨s,hs1,ha,hv,hr,hsm,hsn⟩:=K5 h he
 have hxs:x=s.fil:=by rw [hx] at ha;exact ψ ha
 subst hxs
 have hsl:=h.body.slot s hsm
 obtain⟨ao,cap,hsh,hlc,_⟩:=hsl.2.shape
 have hlen:=Eb (Bi hx).2
 have hus:=h.ok.used
 have hrm:=h.ok.room
 rw [he,hv] at HO
 have c0:=hsl.c0
 rw [hsh] at c0
 have c4:=h.hd.c4
 have f4:=h.hd.free 4
 have t1:decide ((p:Int)<0)=false:=by simp
 have t2:decide ((k:Int)<0)=false:=by simp
 have t3:decide (s.fil.data.length<p)=false:=by simp;omega
 have hpl:p≤s.fil.data.length:=by omega
 have t4:decide ((s.fil.data.length:Int) - (p:Int)<(k:Int))=false:=by simp;omega
 have hw1:IntKind.i64.wrap ((s.fil.data.length:Int) - (p:Int))=(s.fil.data.length:Int) - (p:Int):=by rw [κ];omega
 have hw2:IntKind.i64.wrap ((p:Int)+(k:Int))=((p+k:Nat):Int):=by rw [κ];omega
 obtain⟨R,hR⟩: ∃ R,R=IntKind.i64.wrap (d.reads+(k:Int)):=⟨_,rfl⟩
 have hw3:IntKind.i64.wrap ((Db d).reads+(k:Int))=R:=hR.symm
 have HRR:=Qh hR
 have HH:=Qh h
 have HSM:=Qh hsm
 have HK:=Qh hk
 have hko:p≤p+k:=by omega
 have hdl:s.fil.data.length≤67108864:=by omega
 have F4:=Qh f4
 have HSH:=Qh hsh
 have HLC:=Qh hlc
 have HCL:=Qh (fun W v (hb:A2 W v ((s.fil.data.take (p+k)).drop p))=>clone_any _ v W hb (by rw [Ξ,Θ];omega))
 have HTD:=Qh (show (s.fil.data.take (p+k)).drop p=(s.fil.data.drop p).take k by rw [List.drop_take,Nat.add_sub_cancel_left])
 clear h he hs1 ha hv hr hsm hsn hsl hx hlen hus hrm hk hsh hlc hR
 go_enter Tryz.func32,Tryz.ntmps32
 obtain⟨w2,hw⟩: ∃ w2,w2=w.setCell ⟨f,4,none⟩ (.int .i64 R):=⟨_,rfl⟩
 have HF2:=Qh (show FsAt w2 f m (rdD d k) L by
  rw [hw,HRR.out]
  have hk:=HH.out.ok
  exact⟨HH.out.hd.set 4 _ rfl,HH.out.body.setHd' 4 _,HH.out.fil,⟨hk.rise,hk.names,hk.safe,hk.count,hk.room,hk.used,hk.fuse,hk.steps,by show -9223372036854775808≤IntKind.i64.wrap (d.reads+(k:Int))∧IntKind.i64.wrap (d.reads+(k:Int))≤9223372036854775807;rw [κ];omega⟩⟩)
 have HT2:=Qh (show Turned (fun i=>i=f) w w2 by rw [hw];exact Turned.setCell (S:=fun i=>i=f) _ ⟨f,4,none⟩ _ rfl)
 have HSZ:=Qh (show w2.heap.size=w.heap.size by rw [hw];simp)
 have HBR:=Qh (HF2.out.body.slot s HSM.out).2.brow
 rw [HSH.out,hw] at HBR
 have HW:=Qh hw
 clear hw
 go_wp2_with (first | (go_at_call 59;refine HO.out.mono ?_;rintro e w1 ⟨rfl,rfl⟩) | (with_reducible refine wpList_cut_lh rfl (.tmp 58) (.tmp 59) (.tmp 62) rfl ao cap p (p+k) s.fil.data rfl rfl rfl HBR.out hko HK.out ?_))
 rw [←HW.out]
 intro v' hb' h1'
 go_wp2_with fail
 refine(HCL.out w2 v' hb').mono ?_
 rintro e w3 ⟨v3,rfl,ho3,hb3⟩
 go_wp2
 refine π (v:= .tuple #[v3,.int .i64 0]) (by simp [results,Tryz.results32,go_sem]) rfl ⟨_,rfl,?_,HF2.out.below hb3,HT2.out.trans (Turned.below hb3) fun _ h=> .inl h⟩
 rw [←HTD.out,←HSZ.out]
 exact ho3
attribute [local go_sem] Oper.semAt_some
def takeRun (first most:Nat):Nat→List (Nat×Frm)→List (Nat×Frm)
 | _,[]=>[]
 | c,x::r=>if x.2.k≠1∨(x.2.s:Int) - c≠first then [] else if c+1=most then [x] else x::takeRun first most (c+1) r
def scanRun (b:List UInt8) (p first most:Nat):List Plc×Nat:=(plcs p (takeRun first most 0 (frs (b.drop p))),p+lastEnd 0 (takeRun first most 0 (frs (b.drop p))))
theorem take_stop {first most c:Nat} {x:Nat×Frm} {r:List (Nat×Frm)} (h:x.2.k≠1∨(x.2.s:Int) - c≠first):takeRun first most c (x::r)=[]:=by rw [takeRun,ζ h]
theorem take_full {first most c:Nat} {x:Nat×Frm} {r:List (Nat×Frm)} (h: ¬ (x.2.k≠1∨(x.2.s:Int) - c≠first)) (h2:c+1=most):takeRun first most c (x::r)=[x]:=by rw [takeRun,γ h,ζ h2]
theorem take_go {first most c:Nat} {x:Nat×Frm} {r:List (Nat×Frm)} (h: ¬ (x.2.k≠1∨(x.2.s:Int) - c≠first)) (h2: ¬ c+1=most):takeRun first most c (x::r)=x::takeRun first most (c+1) r:=by rw [takeRun,γ h,γ h2]
theorem Jl {first most:Nat}: ∀ (xs:List (Nat×Frm)) (c:Nat),c<most→(takeRun first most c xs).length+c≤most
 | [],c,h=>by simp only [takeRun,Φ];omega
 | x::r,c,h=>by
  rw [takeRun]
  split
  ·simp only [Φ];omega
  ·split
   ·simp only [φ,Φ];omega
   ·have:=Jl (first:=first) (most:=most) r (c+1) (by omega)
    simp only [φ];omega
theorem Em (w:World) (o:Obj) (k:Nat) (h:k=w.heap.size):(w.alloc o).heap[k]? =some o:=by subst h;exact σ w o
def RunI (B g5 g6 b0 first most:Nat) (b:List UInt8) (X:World) (pre:List FrX) (W:World):Prop:=
 ScI B g5 g6 b0 b X pre W∧(∀ rest,takeRun first most 0 (Gb pre++rest)=Gb pre++takeRun first most pre.length rest)∧pre.length<most
def RunX (B g5 g6 b0 first most:Nat) (b:List UInt8) (X:World) (c:Code) (_:List FrX) (W:World):Prop:=
 c= .exit 0∧ ∃ ys,ScI B g5 g6 b0 b X ys W∧takeRun first most 0 (frs b)=Gb ys
theorem RunI.kept {B g5 g6 b0 first most:Nat} {b:List UInt8} {X:World} (hB:X.heap.size≤B):Ha B (RunI B g5 g6 b0 first most b X):=fun s W W' h hk=>⟨ScI.kept hB s W W' h.1 hk,h.2⟩
theorem RunX.kept {B g5 g6 b0 first most:Nat} {b:List UInt8} {X:World} (hB:X.heap.size≤B) (c:Code):Ha B (RunX B g5 g6 b0 first most b X c):=fun _ W W' ⟨h,ys,h1,h2⟩ hk=>⟨h,ys,ScI.kept hB ys W W' h1 hk,h2⟩
def RunP (w:World) (r:List Plc×Nat) (e:Ending) (w':World):Prop:= ∃ v,e= .returned (.tuple #[v,.int .i64 (r.2:Int)])∧Jn (fun k=>w.heap.size≤k) w' v r.1∧Below w.heap.size w w'
theorem Jk (b:List UInt8) (v:Value) (p first most:Nat) (w:World) (hv:A2 w v b) (hl:b.length≤67108864) (hn:NibTab w) (hp:p≤b.length) (hm:0<most) (hm2:most≤1000000):
  Calls Tryz.prog 36 #[v,.int .i64 (p:Int),.int .i64 (first:Int),.int .i64 (most:Int)] w (RunP w (scanRun b p first most)):=by
 have HV:=Qh hv
 have HN:=Qh hn
 have hv2:=hv
 obtain⟨oa,cap,rfl,hlc,hcc⟩:=hv2
 clear hn hcc
 have t1:decide ((b.length:Nat)<p)=false:=by simp;omega
 have t2:decide ((most:Int)≤0)=false:=by simp;omega
 have HP:=Qh hp
 obtain⟨c,hc⟩: ∃ c,c=b.drop p:=⟨_,rfl⟩
 have HCL:=Qh (show b.length - p=c.length by rw [hc,Ξ])
 have hcl:c.length≤67108864:=by rw [hc,Ξ];omega
 have HCB:=Qh (show p+c.length≤67108864 by rw [hc,Ξ];omega)
 have HSR:=Qh (show scanRun b p first most=(plcs p (takeRun first most 0 (frs c)),p+lastEnd 0 (takeRun first most 0 (frs c))) by rw [hc];rfl)
 obtain⟨oa',cap',hs,hbr⟩: ∃ oa' cap',(∀ W,(Instr.sliceAt 39 (.slice oa b.length cap) (some (.int .i64 (p:Int))) none none).run Tryz.prog W= .ok (.slice oa' c.length cap') W)∧A2 w (.slice oa' c.length cap') c:=by
  have h:=Gl (lo:=p) (hi:=b.length) (mx:=cap) hv hp (ξ _) hlc
  rw [List.take_length,←hc] at h
  unfold sliced at h
  rw [HCL.out] at h
  refine⟨_,_,fun W=> ?_,h⟩
  rw [Fl,J8 oa b.length cap p hp W,←HCL.out]
  rfl
 have HBR:=Qh hbr
 clear hp hc hbr hv hlc
 refine(callsIn_wide (n:=3)).1 (callsIn_of_wp_marks Tryz.func36 rfl trivial (wpIn_wide.2 ?_) rfl)
 simp only [Tryz.ntmps36,List.size_toArray,φ,Φ,Nat.reduceAdd,Nat.reduceSub,Array.replicate_succ,Array.replicate_zero,List.push_toArray,List.append_toArray,List.nil_append,List.cons_append]
 obtain⟨W0,hW0⟩: ∃ W0,W0=((((((w.alloc (.cells #[.int .i64 (p:Int)] 3)).alloc (.cells #[.int .i64 (first:Int)] 3)).alloc (.cells #[.int .i64 (most:Int)] 3)).alloc (.cells #[.slice none 0 0] 89)).alloc (.cells #[.int .i64 (p:Int)] 3)).alloc (.cells #[.slice oa' c.length cap'] 39)):=⟨_,rfl⟩
 have HSZ:=Qh (show W0.heap.size=w.heap.size+6 by rw [hW0];simp)
 have HB0:=Qh (show Below w.heap.size w W0 by rw [hW0];exact((((((τ _ w).alloc (ξ _) _).alloc (by simp) _).alloc (by simp;omega) _).alloc (by simp;omega) _).alloc (by simp;omega) _).alloc (by simp;omega) _)
 have HG0:=Qh (show W0.heap[w.heap.size]? =some (.cells #[.int .i64 (p:Int)] 3 (0,0)) by
  rw [hW0]
  iterate 5 rw [Below.heap_alloc _ _ _ (by simp<;>omega)]
  exact Em _ _ _ (by simp<;>omega))
 have HG1:=Qh (show W0.heap[w.heap.size+1]? =some (.cells #[.int .i64 (first:Int)] 3 (0,0)) by
  rw [hW0]
  iterate 4 rw [Below.heap_alloc _ _ _ (by simp<;>omega)]
  exact Em _ _ _ (by simp<;>omega))
 have HG2:=Qh (show W0.heap[w.heap.size+1+1]? =some (.cells #[.int .i64 (most:Int)] 3 (0,0)) by
  rw [hW0]
  iterate 3 rw [Below.heap_alloc _ _ _ (by simp<;>omega)]
  exact Em _ _ _ (by simp<;>omega))
 have HG3:=Qh (show W0.heap[w.heap.size+1+1+1]? =some (.cells #[.slice none 0 0] 89 (0,0)) by
  rw [hW0]
  iterate 2 rw [Below.heap_alloc _ _ _ (by simp<;>omega)]
  exact Em _ _ _ (by simp<;>omega))
 have HG4:=Qh (show W0.heap[w.heap.size+1+1+1+1]? =some (.cells #[.int .i64 (p:Int)] 3 (0,0)) by
  rw [hW0]
  iterate 1 rw [Below.heap_alloc _ _ _ (by simp<;>omega)]
  exact Em _ _ _ (by simp<;>omega))
 have HG5:=Qh (show W0.heap[w.heap.size+1+1+1+1+1]? =some (.cells #[.slice oa' c.length cap'] 39 (0,0)) by rw [hW0];exact Em _ _ _ (by simp<;>omega))
 have HW0:=Qh hW0
 clear hW0
 go_wp2_with fail
 refine(each_any oa' c.length cap' _).mono ?_
 rintro e w1 ⟨rfl,rfl⟩
 go_wp2_with fail
 rw [show (((((w.alloc (.cells #[.int .i64 (p:Int)] 3)).alloc (.cells #[.int .i64 (first:Int)] 3)).alloc (.cells #[.int .i64 (most:Int)] 3)).alloc (.cells #[.slice none 0 0] 89)).alloc (.cells #[.int .i64 (p:Int)] 3)).alloc (.cells #[.slice oa' c.length cap'] 39)=W0 from HW0.out.symm]
 refine wp_rangeFuncR (gf:=99) (lb:= #[.pointer (some ⟨w.heap.size+1+1+1+1+1,0,none⟩)]) (encs:=frEnc) (R:=FrR c) (Kp:=ScK W0.heap.size (w.heap.size+1+1+1) (w.heap.size+1+1+1+1)) (S:=fun xs=>Gb xs=frs c) (Sp:=fun pre=>pre≠ []∧Gb pre <+: frs c) rfl (enters_of Tryz.func99 (by kernel_rfl) rfl)
  (each1_seq c oa' cap' (w.heap.size+1+1+1+1+1) W0 _ (by omega) (fun W=>Below w.heap.size w W∧W.cell? ⟨w.heap.size+1+1+1+1+1,0,none⟩=some (.slice oa' c.length cap')) ⟨HB0.out,cell_of_row W0 _ 0 _ _ _ HG5.out⟩ (fun W h=>⟨h.2,HBR.out.below h.1,HN.out.below h.1⟩) (fun W W' h hb=>⟨Below.next h.1 hb,cell_later hb h.2⟩) ?hK)
  ScK.trans ScK.put (fun _=>rfl) (RunI W0.heap.size (w.heap.size+1+1+1) (w.heap.size+1+1+1+1) p first most c W0) (RunX W0.heap.size (w.heap.size+1+1+1) (w.heap.size+1+1+1+1) p first most c W0) (RunI.kept (ξ _)) (RunX.kept (ξ _)) ?h0 ?hround ?hdone ?hstop
 case hK=>
  intro W W' hs ⟨h1,h2⟩ hk
  refine⟨⟨Al h1 hk (fun k hk'=>by have:=HSZ.out;omega) h1.size,?_⟩,hk.size⟩
  exact Turned.cell hk h2 (by have:=HSZ.out;rintro(h | h | h)<;>simp only at h<;>omega)
 case h0=>exact⟨⟨.slice none 0 0,HG3.out,HG4.out,pcOwn_nil _ _,List.nil_prefix,Turned.refl _ _⟩,fun _=>rfl,hm⟩
 case hround=>
  rintro l pre ⟨x0,⟨k,s,body⟩,bv⟩ Wo W hl0 hszo hI hko hR
  obtain⟨hpx,hbv,hbl,_,_,hs1⟩:=hR
  dsimp only at hbv hbl hs1
  have HI:=Qh hI
  have HKO:=Qh hko
  have hsz:W0.heap.size≤W.heap.size:=μ hszo hko.size
  clear hko
  have HPX:=Qh hpx
  have HBV:=Qh hbv
  obtain⟨ob,bcap,rfl,_,_⟩:=hbv
  clear hI hpx
  simp only [frEnc]
  gi_wp2
  refine⟨Fi (S:=fun _=>False) (Turned.below (below_alloc W _)) (fun _ _ _ h=>h.elim),Turned.below (below_alloc W _),fun W2 hk2=> ?_⟩
  have HKW:=Qh ((Dj.ofBelow (B:=W0.heap.size) (below_alloc W (.cells #[.int .i64 (k:Int),.int .i64 (s:Int),.slice ob body.length bcap] 101))).trans hk2)
  have HKK:=Qh (HKO.out.trans HKW.out)
  obtain⟨⟨v,h5o,h6o,howno,hprf,htno⟩,htk,hpm⟩:=HI.out
  have h5:=HKK.out.blk h5o
  have h6:=HKK.out.blk h6o
  have hown:=howno.kept HKK.out
  have htn:=htno.kept HKK.out (ξ _)
  have HTK:=Qh htk
  have HPM:=Qh hpm
  have HPR:=Qh hprf
  have HF:=Qh (show Ck W2 W.heap.size (k:Int) (s:Int) (.slice ob body.length bcap) from hk2.blk (C7 W (k:Int) (s:Int) (.slice ob body.length bcap)))
  have HBV2:=Qh (show Ag (fun j=>W0.heap.size≤j∧j<W2.heap.size∧v.ownBlock≠some j) W2 (.slice ob body.length bcap) body from
   (HBV.out.kept HKW.out).mono fun j hj=>⟨μ hszo hj.1,by have:=hj.2;have:=(below_alloc W (.cells (frCs (k:Int) (s:Int) (.slice ob body.length bcap)) 101)).size;have:=hk2.size;simp only [frCs] at *;omega,fun e=>by have:=(howno.1.lt j e).2;have:=hj.1;omega⟩)
  clear h5o h6o howno htno htk hpm hprf
  obtain⟨ov,capv,hvs,_,_⟩:=Ac hown.1
  obtain⟨n,hn⟩: ∃ n,n=(plX p pre).length:=⟨_,rfl⟩
  rw [←hn] at hvs
  have HNL:=Qh (show n=pre.length by rw [hn];simp [plX])
  subst hvs
  have HO2:=Qh hown
  have HT2:=Qh htn
  have H52:=Qh h5
  have H62:=Qh h6
  obtain⟨z,hz⟩: ∃ z,z=body.length+20:=⟨_,rfl⟩
  have HZ:=Qh hz
  have hsz2:W0.heap.size≤W2.heap.size:=μ hsz HKW.out.size
  have HA2:=Qh ((HT2.out.block w.heap.size (by have:=HSZ.out;omega) (by omega)).trans HG0.out)
  have HFI2:=Qh ((HT2.out.block (w.heap.size+1) (by have:=HSZ.out;omega) (by omega)).trans HG1.out)
  have HM2:=Qh ((HT2.out.block (w.heap.size+1+1) (by have:=HSZ.out;omega) (by omega)).trans HG2.out)
  have hlen:=HPX.out.length_le
  have hfl:=frs_len c
  rw [Gg] at hlen
  simp only [η,φ,Φ,Gb,List.length_map] at hlen
  have hnb:n≤67108863:=by have:=HNL.out;omega
  have HLEN:=Qh (show (plX p pre).length+1≤1000000000 by rw [←hn];omega)
  have HTX:Hid ((k≠1∨(s:Int) - pre.length≠first→takeRun first most 0 (frs c)=Gb pre)∧(¬ (k≠1∨(s:Int) - pre.length≠first)→pre.length+1=most→takeRun first most 0 (frs c)=Gb (pre++[(x0,⟨k,s,body⟩,.slice ob body.length bcap)]))∧
    (¬ (k≠1∨(s:Int) - pre.length≠first)→ ¬ pre.length+1=most→ ∀ rest,takeRun first most 0 (Gb (pre++[(x0,⟨k,s,body⟩,.slice ob body.length bcap)])++rest)=Gb (pre++[(x0,⟨k,s,body⟩,.slice ob body.length bcap)])++takeRun first most (pre.length+1) rest)):=Qh (by
   obtain⟨rest,hrest⟩:=HPX.out
   rw [Gg] at hrest
   refine⟨fun h=> ?_,fun h h2=> ?_,fun h h2 rest=> ?_⟩
   ·rw [←hrest,List.append_assoc,HTK.out,List.singleton_append,take_stop h,List.append_nil]
   ·rw [←hrest,List.append_assoc,HTK.out,List.singleton_append,take_full h h2,Gg]
   ·rw [Gg,List.append_assoc,HTK.out,List.singleton_append,take_go h h2,List.append_assoc,List.singleton_append])
  have hpz:x0+z≤c.length:=by
   have h1:=frs_mem (b:=c) (x:=(x0,⟨k,s,body⟩)) (HPX.out.mem (by rw [Gg];simp))
   simp only at h1
   omega
  have HPZ:=Qh hpz
  have hg8:W0.heap.size≤W.heap.size:=hsz
  clear h5 h6 hown htn hk2 HKK HI HBV hz hn hlen hfl hpz
  generalize W.heap.size=g8 at*
  have c80:=HF.out.c0
  have c81:=HF.out.c1
  have cA:=cell_of_row W2 _ 0 _ _ _ HA2.out
  have cF:=cell_of_row W2 _ 0 _ _ _ HFI2.out
  have cV:=cell_of_row W2 _ 0 _ _ _ H52.out
  simp only [List.getElem?_toArray,List.getElem?_cons_zero] at cA cF cV
  have hws:IntKind.i64.wrap ((s:Int) - (n:Int))=(s:Int) - (n:Int):=by rw [κ];omega
  rcases hk:((k:Int) != 1) with _ | _
  ·rcases hsf:((s:Int) - (n:Int) != (first:Int)) with _ | _
   ·have hk1:k=1:=by simp at hk;omega
    have hcond: ¬ (k≠1∨(s:Int) - pre.length≠first):=by have:=HNL.out;subst this;rintro(h | h);exact h hk1;simp at hsf;exact h hsf
    have HTF:=Qh (HTX.out.2.1 hcond)
    have HTG:=Qh (HTX.out.2.2 hcond)
    obtain⟨q,hq⟩: ∃ q,q=p+x0:=⟨_,rfl⟩
    have HQ:=Qh hq
    have hwq:IntKind.i64.wrap ((p:Int)+(x0:Int))=(q:Int):=by have:=HPZ.out;have:=HCB.out;rw [κ];omega
    have hqz:q+z≤67108864:=by have:=HPZ.out;have:=HCB.out;omega
    have hwz:IntKind.i64.wrap ((q:Int)+(z:Int))=(q:Int)+(z:Int):=by rw [κ];omega
    clear hcond hk1 hq HTX
    refine wpIn_block (wpIn_seq (wpIn_seq (Bq (by rfl) (B6 (B6 (Cj Fj))) ?_)))
    go_wp2_with fail
    refine wpIn_cond_false rfl (wpIn_skip ?_)
    refine wpIn_seq (Bq (by rfl) (B6 (Cj Fj)) ?_)
    go_wp2_with (with_reducible refine wpList_load_fr rfl (.tmp 13) rfl g8 (k:Int) (s:Int) (.slice ob body.length bcap) rfl HF.out ?_)
    refine(placed_any q z k s body ob bcap W2 hbl HZ).mono ?_
    rintro e W3 ⟨rfl,hb3⟩
    have HF9:=Qh (σ W3 (.cells (pcCs ⟨q,z,⟨k,s,body⟩⟩ (.slice ob body.length bcap)) 103))
    have HB4:=Qh (Below.next hb3 (below_alloc W3 (.cells (pcCs ⟨q,z,⟨k,s,body⟩⟩ (.slice ob body.length bcap)) 103)))
    have hg9:W2.heap.size≤W3.heap.size:=hb3.size
    simp only [pcCs] at HF9 HB4
    clear hb3
    go_wp2_with fail
    generalize W3.alloc (.cells #[.int .i64 (q:Int),.int .i64 (z:Int),.int .i64 (k:Int),.int .i64 (s:Int),.slice ob body.length bcap] 103)=W4 at*
    generalize W3.heap.size=g9 at*
    have HPB:=Qh (show Eu W4 g9 ⟨q,z,⟨k,s,body⟩⟩ (.slice ob body.length bcap) from HF9.out)
    have HO4:=Qh (HO2.out.below HB4.out)
    have HBV4:=Qh ((HBV2.out.below HB4.out).mono fun j hj=>(⟨hj.1,Nat.lt_of_lt_of_le hj.2.1 HB4.out.size,hj.2.2⟩:W0.heap.size≤j∧j<W4.heap.size∧(Value.slice ov n capv).ownBlock≠some j))
    have H54:=Qh ((HB4.out.block _ (δ.1 H52.out).1).trans H52.out)
    have H64:=Qh ((HB4.out.block _ (δ.1 H62.out).1).trans H62.out)
    have HM4:=Qh ((HB4.out.block _ (δ.1 HM2.out).1).trans HM2.out)
    have hsz4:W0.heap.size≤W4.heap.size:=μ hsz2 HB4.out.size
    have c5:=cell_of_row W4 _ 0 _ _ _ H54.out
    simp only [List.getElem?_toArray,List.getElem?_cons_zero] at c5
    have HLT:=Qh (fun j (e:(Value.slice ov n capv).ownBlock=some j)=>(HO2.out.1.lt j e).2)
    clear HF9
    refine wpIn_seq (Bq (by rfl) (B6 (Cj Fj)) ?_)
    go_wp2_with (first | (with_reducible refine wpList_load_plc rfl (.tmp 14) rfl g9 ⟨q,z,⟨k,s,body⟩⟩ (.slice ob body.length bcap) rfl HPB.out ?_) | (refine wpList_appPl (p:=⟨q,z,⟨k,s,body⟩⟩) (dv:= .slice ob body.length bcap) rfl (.tmp 50) (.tmp 52) rfl rfl rfl HO4.out hsz4 HBV4.out HLEN.out ?_))
    intro v5 W5 ho5 hb5 ht5 h15
    have HO5:=Qh ho5
    have HT5:=Qh ht5
    have H55:=Qh ((hb5.block (w.heap.size+1+1+1) (by have:=HSZ.out;omega)).trans H54.out)
    have H65:=Qh ((hb5.block (w.heap.size+1+1+1+1) (by have:=HSZ.out;omega)).trans H64.out)
    have HM5:=Qh ((hb5.block (w.heap.size+1+1) (by have:=HSZ.out;omega)).trans HM4.out)
    have HPB5:=Qh (show Eu W5 g9 ⟨q,z,⟨k,s,body⟩⟩ (.slice ob body.length bcap) from(ht5.block g9 HPB.out.lt (fun e=>by have:=HLT.out _ e;omega)).trans HPB.out)
    have c55:=cell_of_row W5 _ 0 _ _ _ H55.out
    simp only [List.getElem?_toArray,List.getElem?_cons_zero] at c55
    have f55:W5.frozen? ⟨w.heap.size+1+1+1,0,none⟩=false:=by have:=H55.out;simp [World.frozen?,this]
    clear ho5 hb5 ht5 HO4 HBV4 HPB H54 H64 c5
    go_wp2_with (with_reducible refine wpList_store_cellV rfl 89 (.tmp 10) (.tmp 53) rfl (w.heap.size+1+1+1) 0 v5 (.slice ov n capv) (by kernel_rfl) h15 rfl rfl c55 f55 ?_)
    intro W6 hw6
    have HT6:=Qh (show Turned (fun j=>j=w.heap.size+1+1+1) W5 W6 by rw [hw6.out];exact Turned.setCell (S:=fun j=>j=w.heap.size+1+1+1) _ ⟨w.heap.size+1+1+1,0,none⟩ _ rfl)
    have H56:=Qh (show W6.heap[w.heap.size+1+1+1]? =some (.cells #[v5] 89 (0,0)) by rw [hw6.out];exact row_setCell H55.out 0 v5)
    have H66:=Qh ((HT6.out.block _ (δ.1 H65.out).1 (by omega)).trans H65.out)
    have HM6:=Qh ((HT6.out.block _ (δ.1 HM5.out).1 (by omega)).trans HM5.out)
    have HPB6:=Qh (show Eu W6 g9 ⟨q,z,⟨k,s,body⟩⟩ (.slice ob body.length bcap) from(HT6.out.block g9 HPB5.out.lt (by have:=HSZ.out;omega)).trans HPB5.out)
    have HO6:=Qh (HO5.out.turned HT6.out (fun j hj=>by have:=HSZ.out;omega))
    clear hw6 c55 f55 HO5
    have c6:=cell_of_row W6 _ 0 _ _ _ H66.out
    simp only [List.getElem?_toArray,List.getElem?_cons_zero] at c6
    have f6:W6.frozen? ⟨w.heap.size+1+1+1+1,0,none⟩=false:=by have:=H66.out;simp [World.frozen?,this]
    have c90:W6.cell? ⟨g9,0,none⟩=some (.int .i64 (q:Int)):=HPB6.out.cell 0
    have c91:W6.cell? ⟨g9,1,none⟩=some (.int .i64 (z:Int)):=HPB6.out.cell 1
    refine wpIn_seq (Bq (by rfl) (B6 (Cj Fj)) ?_)
    go_wp2_with fail
    have HT7:=Qh (Turned.setCell (S:=fun j=>j=w.heap.size+1+1+1+1) W6 ⟨w.heap.size+1+1+1+1,0,none⟩ (.int .i64 ((q:Int)+(z:Int))) rfl)
    have H57:=Qh ((HT7.out.block _ (δ.1 H56.out).1 (by omega)).trans H56.out)
    have HM7:=Qh ((HT7.out.block _ (δ.1 HM6.out).1 (by omega)).trans HM6.out)
    have H67:=Qh (row_setCell H66.out 0 (.int .i64 ((q:Int)+(z:Int))))
    have HO7:=Qh (HO6.out.turned HT7.out (fun j hj=>by have:=HSZ.out;omega))
    generalize W6.setCell ⟨w.heap.size+1+1+1+1,0,none⟩ (.int .i64 ((q:Int)+(z:Int)))=W7 at*
    have HTT:=Qh (show Turned (fun j=>j=w.heap.size+1+1+1∨j=w.heap.size+1+1+1+1∨(Value.slice ov n capv).ownBlock=some j) W2 W7 from
     (((Turned.below HB4.out).trans HT5.out (fun i hi=> .inl (.inr (.inr hi)))).trans HT6.out (fun i hi=> .inl (.inl hi))).trans HT7.out (fun i hi=> .inl (.inr (.inl hi))))
    have HKF:=Qh (Fi (B:=W0.heap.size) HTT.out fun j o hj hs ho=>by
     rcases hs with h | h | h
     ·have:=HSZ.out;omega
     ·have:=HSZ.out;omega
     ·rcases HO2.out.1.2 with⟨e,_⟩ | ⟨g,gcap,cur,e,_,hg,_⟩
      ·rw [e] at h;cases h
      ·rw [e] at h
       have e:g=j:=ψ h
       subst e
       rw [hg] at ho
       cases ho
       rfl)
    have HSC:=Qh (show ScI W0.heap.size (w.heap.size+1+1+1) (w.heap.size+1+1+1+1) p c W0 (pre++[(x0,⟨k,s,body⟩,.slice ob body.length bcap)]) W7 from
     ⟨v5,H57.out,by
      have e:(q:Int)+(z:Int)=((p+(x0+body.length+20):Nat):Int):=by have:=HZ.out;have:=HQ.out;omega
      rw [H67.out,Gg,lastEnd_snoc,e]
      rfl,by rw [plX_snoc,←HQ.out,←HZ.out];exact HO7.out,HPX.out,HT2.out.trans HTT.out fun j hj=>by
      rcases hj with h | h | h
      ·exact .inl (.inl h)
      ·exact .inl (.inr h)
      ·exact .inr (HO2.out.1.lt j h).1⟩)
    have HKP:=Qh (show ScK W0.heap.size (w.heap.size+1+1+1) (w.heap.size+1+1+1+1) W2 W7 from HTT.out.mono fun j hj=>by
     rcases hj with h | h | h
     ·exact .inl h
     ·exact .inr (.inl h)
     ·exact .inr (.inr (HO2.out.1.lt j h).1))
    obtain⟨o5,cap5,hs5,_,_⟩:=Ac HO7.out.1
    have HN5:=Qh (show (plX p pre++[((⟨q,z,⟨k,s,body⟩⟩:Plc),Value.slice ob body.length bcap)]).length=n+1 by have:=HNL.out;simp [plX,this])
    rw [HN5.out] at hs5
    have d5:=cell_of_row W7 _ 0 _ _ _ H57.out
    have dM:=cell_of_row W7 _ 0 _ _ _ HM7.out
    simp only [List.getElem?_toArray,List.getElem?_cons_zero,hs5] at d5 dM
    clear c6 f6 c90 c91 HT5 HT6 HT7 H56 H66 H57 H67 HO6 HO7 HPB5 HPB6 HM6 HM7 hs5
    rcases hnm:(((n:Int)+1)==(most:Int)) with _ | _
    ·have HNM:=Qh (show ¬ pre.length+1=most by have:=HNL.out;subst this;simp at hnm;omega)
     refine wpIn_seq (Bq (by rfl) (B6 (Cj Fj)) ?_)
     go_wp2_with fail
     gi_wp2
     exact⟨HKF.out,HKP.out,HSC.out,fun rest=>by rw [HTG.out HNM.out rest];simp,by have:=HPM.out;have:=HNM.out;simp;omega⟩
    ·have HNM:=Qh (show pre.length+1=most by have:=HNL.out;subst this;simp at hnm;omega)
     refine wpIn_seq (Bq (by rfl) (B6 (Cj Fj)) ?_)
     go_wp2_with fail
     gi_wp2
     exact⟨HKF.out,rfl,_,HSC.out,HTF.out HNM.out⟩
   ·refine wpIn_block (wpIn_seq (wpIn_seq (Bq (by rfl) (B6 (B6 (Cj Fj))) ?_)))
    go_wp2_with fail
    gi_wp2
    exact⟨KeepsFrom.refl _ _,rfl,pre,⟨_,H52.out,H62.out,HO2.out,HPR.out,HT2.out⟩,HTX.out.1 (.inr (by have:=HNL.out;subst this;simpa using hsf))⟩
  ·refine wpIn_block (wpIn_seq (wpIn_seq (Bq (by rfl) (B6 (B6 (Cj Fj))) ?_)))
   go_wp2_with fail
   gi_wp2
   exact⟨KeepsFrom.refl _ _,rfl,pre,⟨_,H52.out,H62.out,HO2.out,HPR.out,HT2.out⟩,HTX.out.1 (.inl (by simp at hk;omega))⟩
 case hdone=>
  rintro D xs W hD hxs ⟨⟨v,h5,h6,hown,_,htn⟩,htk,_⟩ hdf
  have hty:takeRun first most 0 (frs c)=Gb xs:=by
   have h:=htk []
   rw [List.append_nil,hxs] at h
   rw [h,hxs,takeRun,List.append_nil]
  clear htk hxs
  have HFST:=Qh (plX_fst p xs)
  have HSE:=Qh (show scanRun b p first most=(plcs p (Gb xs),p+lastEnd 0 (Gb xs)) by rw [HSR.out,hty])
  obtain⟨n,hn⟩: ∃ n,n=p+lastEnd 0 (Gb xs):=⟨_,rfl⟩
  rw [←hn] at h6 HSE
  have HBW:=Qh (Al HB0.out htn (fun j hj=>by omega) HB0.out.size)
  have HO:=Qh hown
  have HDF:=Qh hdf
  have c5:=cell_of_row W _ 0 _ _ _ h5
  have c6:=cell_of_row W _ 0 _ _ _ h6
  have hDlt:w.heap.size≤D:=by have:=HSZ.out;omega
  have HSZW:=Qh (show w.heap.size≤W0.heap.size by have:=HSZ.out;omega)
  simp only [List.getElem?_toArray,List.getElem?_cons_zero] at c5 c6
  clear hn h5 h6 hown htn hdf hty HSZ HB0 HG0 HG1 HG2 HG3 HG4 HG5 HW0 hs
  go_wp2_with fail
  go_quiet (fail)
  go_wp2
  have HBF:=Qh (below_drewN' W nq)
  have hdf:=(HBF.out.block D (δ.1 HDF.out).1).trans HDF.out
  have HKF:=Qh (Dj.putObj (B:=W0.heap.size) (.deferred none) hD hdf rfl)
  refine⟨by simp,.inl ⟨_,_,rfl,run_takeDeferred hdf,?_⟩⟩
  refine⟨.tuple #[v,.int .i64 (n:Int)],by simp [results,Tryz.results36,go_sem],v,by rw [HSE.out],?_,HKF.out.after (HBW.out.trans (HBF.out.mono HBW.out.size)) HSZW.out⟩
  rw [HSE.out]
  have h:=((HO.out.below HBF.out).kept HKF.out).pcIn (A:=fun k=>w.heap.size≤k) (fun k hk=>μ HSZW.out hk)
  rw [HFST.out] at h
  exact h
 case hstop=>
  rintro D _ pre W hD _ ⟨rfl,ys,⟨v,h5,h6,hown,_,htn⟩,hty⟩ hdf
  have HFST:=Qh (plX_fst p ys)
  have HSE:=Qh (show scanRun b p first most=(plcs p (Gb ys),p+lastEnd 0 (Gb ys)) by rw [HSR.out,hty])
  obtain⟨n,hn⟩: ∃ n,n=p+lastEnd 0 (Gb ys):=⟨_,rfl⟩
  rw [←hn] at h6 HSE
  have HBW:=Qh (Al HB0.out htn (fun j hj=>by omega) HB0.out.size)
  have HO:=Qh hown
  have HDF:=Qh hdf
  have c5:=cell_of_row W _ 0 _ _ _ h5
  have c6:=cell_of_row W _ 0 _ _ _ h6
  have hDlt:w.heap.size≤D:=by have:=HSZ.out;omega
  have HSZW:=Qh (show w.heap.size≤W0.heap.size by have:=HSZ.out;omega)
  simp only [List.getElem?_toArray,List.getElem?_cons_zero] at c5 c6
  clear hn h5 h6 hown htn hdf hty HSZ HB0 HG0 HG1 HG2 HG3 HG4 HG5 HW0 hs
  go_wp2_with fail
  go_quiet (fail)
  go_wp2
  have HBF:=Qh (below_drewN' W nq)
  have hdf:=(HBF.out.block D (δ.1 HDF.out).1).trans HDF.out
  have HKF:=Qh (Dj.putObj (B:=W0.heap.size) (.deferred none) hD hdf rfl)
  refine⟨by simp,.inl ⟨_,_,rfl,run_takeDeferred hdf,?_⟩⟩
  refine⟨.tuple #[v,.int .i64 (n:Int)],by simp [results,Tryz.results36,go_sem],v,by rw [HSE.out],?_,HKF.out.after (HBW.out.trans (HBF.out.mono HBW.out.size)) HSZW.out⟩
  rw [HSE.out]
  have h:=((HO.out.below HBF.out).kept HKF.out).pcIn (A:=fun k=>w.heap.size≤k) (fun k hk=>μ HSZW.out hk)
  rw [HFST.out] at h
  exact h
def Ci (b:List UInt8) (g:Sg):Nat×Bool:=((A6 b).2.2.1,decide ((A6 b).2.2.2=0)&&decide (((A6 b).1:Int)=g.num)&&decide (((A6 b).2.1:Int)=g.first))
theorem fs_nib {w:World} {f m:Nat} {d:Ab} {L:List Ad} (h:FsAt w f m d L) (hn:NibTab w): ¬ 1=f:=by
 intro e
 have h1:=h.hd.c0
 rw [←e] at h1
 have h2:=hn.at 0 (by decide)
 rw [h1] at h2
 cases h2
theorem begins_any (l:List UInt8) (v:Value) (g:Sg) (w:World) (hv:A2 w v l) (hl:l.length≤140737488355328) (hn:NibTab w):
  Calls Tryz.prog 132 #[v,sgV g] w fun e w'=>e= .returned (.tuple #[.int .i64 ((Ci l g).1:Int),.bool (Ci l g).2])∧Below w.heap.size w w':=by
 have HB0:=Qh (below_alloc w (.cells (sgCs g) 72))
 have HG0:=Qh (show (w.alloc (.cells (sgCs g) 72)).heap[w.heap.size]? =some (.cells (sgCs g) 72 (0,0)) from σ w _)
 have HHO:=Qh (hdrOf_any l v _ (hv.below HB0.out) hl (hn.below HB0.out))
 have HE:=Qh (show Ci l g=((A6 l).2.2.1,decide ((A6 l).2.2.2=0)&&decide (((A6 l).1:Int)=g.num)&&decide (((A6 l).2.1:Int)=g.first)) from rfl)
 obtain⟨oa,cap,rfl,_,_⟩:=hv
 obtain⟨r,hr⟩: ∃ r,r=A6 l:=⟨_,rfl⟩
 rw [←hr] at HHO HE
 clear hr hn
 obtain⟨num,first,n,e0⟩:=r
 unfold HdrPost at HHO
 simp only [sgCs] at HB0 HG0 HHO
 go_enter Tryz.func132,Tryz.ntmps132
 go_wp2_with fail
 refine HHO.out.mono ?_
 rintro e w1 ⟨rfl,hb1⟩
 have HB1:=Qh (Below.next HB0.out hb1)
 have HG1:=Qh ((hb1.block _ (δ.1 HG0.out).1).trans HG0.out)
 have g0:=cell_of_row w1 _ 0 _ _ _ HG1.out
 have g1:=cell_of_row w1 _ 1 _ _ _ HG1.out
 simp only [List.getElem?_toArray,List.getElem?_cons_zero,List.getElem?_cons_succ] at g0 g1
 clear hb1 HB0 HG0 HHO
 rcases h1:(e0==0) with _ | _
 ·have HE2:=Qh (show Ci l g=(n,false) by rw [HE.out];have: ¬ e0=0:=by simpa using h1
                                         simp [this])
  go_wp2_with fail
  go_quiet (fail)
  go_wp2
  refine π (v:= .tuple #[.int .i64 (n:Int),.bool false]) (by simp [results,Tryz.results132,go_sem]) rfl ⟨by rw [HE2.out],Below.next HB1.out (below_drewN' _ _)⟩
 ·have h1':e0=0:=by simpa using h1
  rcases h2:((num:Int)==g.num) with _ | _
  ·have HE2:=Qh (show Ci l g=(n,false) by rw [HE.out];have: ¬ (num:Int)=g.num:=by simpa using h2
                                          simp [this])
   clear h1'
   go_wp2_with fail
   go_quiet (fail)
   go_wp2
   refine π (v:= .tuple #[.int .i64 (n:Int),.bool false]) (by simp [results,Tryz.results132,go_sem]) rfl ⟨by rw [HE2.out],Below.next HB1.out (below_drewN' _ _)⟩
  ·have h2':(num:Int)=g.num:=by simpa using h2
   rcases h3:((first:Int)==g.first) with _ | _
   ·have HE2:=Qh (show Ci l g=(n,false) by rw [HE.out];have: ¬ (first:Int)=g.first:=by simpa using h3
                                           simp [this])
    clear h1' h2'
    go_wp2_with fail
    go_quiet (fail)
    go_wp2
    refine π (v:= .tuple #[.int .i64 (n:Int),.bool false]) (by simp [results,Tryz.results132,go_sem]) rfl ⟨by rw [HE2.out],Below.next HB1.out (below_drewN' _ _)⟩
   ·have HE2:=Qh (show Ci l g=(n,true) by rw [HE.out];have h3':(first:Int)=g.first:=by simpa using h3
                                          simp [h1',h2',h3'])
    clear h1' h2'
    go_wp2_with fail
    go_quiet (fail)
    go_wp2
    refine π (v:= .tuple #[.int .i64 (n:Int),.bool true]) (by simp [results,Tryz.results132,go_sem]) rfl ⟨by rw [HE2.out],Below.next HB1.out (below_drewN' _ _)⟩
theorem rdD_rdD (d:Ab) (a b:Nat):rdD (rdD d a) b=rdD d (a+b):=by
 unfold rdD
 have:IntKind.i64.wrap (IntKind.i64.wrap (d.reads+(a:Int))+(b:Int))=IntKind.i64.wrap (d.reads+((a+b:Nat):Int)):=by
  rw [κ,κ,κ];omega
 simp only [this]
theorem Hm {d:Ab} (h:At d):rdD d 0=d:=by
 have hr:=h.reads
 have:IntKind.i64.wrap (d.reads+((0:Nat):Int))=d.reads:=by rw [κ];omega
 unfold rdD
 rw [this]
def G0 (d:Ab) (n:List UInt8):Option A7:=if Aj d n=0 then atF d.files n else none
theorem filD_some {d:Ab} {n:List UInt8} (h:Aj d n=0): ∃ x,atF d.files n=some x∧G0 d n=some x:=by
 obtain⟨_,_,x,hx⟩:=G4 h
 exact⟨x,hx,by unfold G0;rw [ζ h,hx]⟩
theorem filD_none {d:Ab} {n:List UInt8} (h: ¬ Aj d n=0):G0 d n=none:=by unfold G0;rw [γ h]
theorem hdrOf_fine {b:List UInt8} (h:(A6 b).2.2.2=0):20≤(A6 b).2.2.1∧(A6 b).2.2.1≤b.length∧(A6 b).2.1≤1099511627777:=by
 unfold A6 at h ⊢
 split at h
 ·exact absurd h (by decide)
 ·rename_i hc
  rw [γ hc]
  have hd:=Ii (b:=b) (by
   rcases Decidable.em ((decF b).2.2=0) with h | h
   ·exact h
   ·exact absurd (.inl h) hc)
  split at h
  ·exact absurd h (by decide)
  ·unfold hdrIn at h ⊢
   split at h
   ·rename_i a c _
    split at h
    ·exact absurd h (by decide)
    ·rename_i hcc
     rw [γ hcc]
     have hb:rightB (a:Int) (c:Int)=true:=by
      rcases hx:rightB (a:Int) (c:Int)
      ·exact absurd (.inr (.inr hx)) hcc
      ·rfl
     unfold rightB at hb
     simp only [Bool.and_eq_true,decide_eq_true_eq] at hb
     simp only
     omega
   ·exact absurd h (by decide)
def Au (d:Ab) (g:Sg):(Nat×Nat×Bool)×Nat:=
 match G0 d (Aa g.num) with
 | none=>((0,0,false),0)
 | some x=>if (Ci x.data g).2=false then ((0,0,false),x.data.length)
  else (((scanRun x.data (Ci x.data g).1 (A6 x.data).2.1 512).2,(scanRun x.data (Ci x.data g).1 (A6 x.data).2.1 512).1.length,true),x.data.length)
theorem sizeE {d:Ab} {n:List UInt8} (h: ¬ Aj d n=0):Aq d (opSize n)=(d,[],0,Aj d n):=by rw [Iu,ζ h]
theorem sizeO {d:Ab} {n:List UInt8} {x:A7} (h:Aj d n=0) (hx:atF d.files n=some x):Aq d (opSize n)=(d,[],(x.data.length:Int),0):=by rw [Iu,γ (fun k=>k h),hx]
theorem fil_len {w:World} {f m:Nat} {d:Ab} {L:List Ad} (h:FsAt w f m d L) {n:List UInt8} {x:A7} (hx:atF d.files n=some x):x.data.length≤67108864:=by
 have h1:=Eb (Bi hx).2
 have h2:=h.ok.used
 have h3:=h.ok.room
 omega
theorem active_any (w:World) (f m:Nat) (d:Ab) (L:List Ad) (h:FsAt w f m d L) (hn:NibTab w) (g:Sg):
  Calls Tryz.prog 89 #[.pointer (some ⟨f,0,none⟩),sgV g] w fun e w'=>e= .returned (.tuple #[.int .i64 ((Au d g).1.1:Int),.int .i64 ((Au d g).1.2.1:Int),.bool (Au d g).1.2.2])∧FsAt w' f m (rdD d (Au d g).2) L∧Turned (fun i=>i=f) w w':=by
 have HB0:=Qh (below_alloc w (.cells (sgCs g) 72))
 have HG0:=Qh (show Dk (w.alloc (.cells (sgCs g) 72)) w.heap.size g from σ w _)
 have HF0:=Qh (h.below HB0.out)
 have HN0:=Qh (hn.below HB0.out)
 have HA:=Qh (show Au d g=match G0 d (Aa g.num) with
  | none=>((0,0,false),0)
  | some x=>if (Ci x.data g).2=false then ((0,0,false),x.data.length)
   else (((scanRun x.data (Ci x.data g).1 (A6 x.data).2.1 512).2,(scanRun x.data (Ci x.data g).1 (A6 x.data).2.1 512).1.length,true),x.data.length) from rfl)
 have hfl:=h.hd.lt
 have g0:=HG0.out.c0
 have HSZ0:=Qh (show (w.alloc (.cells (sgCs g) 72)).heap.size=w.heap.size+1 by simp)
 simp only [sgCs] at HB0 HG0 HF0 HN0 g0 HSZ0
 obtain⟨nm,hnm⟩: ∃ nm,nm=Aa g.num:=⟨_,rfl⟩
 have HSN:=Qh (fun W=>Gf g.num W)
 rw [←hnm] at HSN HA
 clear h hn hnm
 go_enter Tryz.func89,Tryz.ntmps89
 go_wp2_with fail
 refine(HSN.out _).mono ?_
 rintro e w1 ⟨rfl,hb1⟩
 have HB1:=Qh (Below.next HB0.out hb1)
 have HF1:=Qh (HF0.out.below hb1)
 have HN1:=Qh (HN0.out.below hb1)
 have HG1:=Qh ((hb1.block _ (δ.1 HG0.out).1).trans HG0.out)
 have HS1:=Qh (show w.heap.size+1≤w1.heap.size by have:=hb1.size;rw [HSZ0.out] at this;exact this)
 have HSI:=Qh (J9 w1 f m d L HF1.out nm)
 clear hb1 HB0 HF0 HN0 HG0 HSN g0 HSZ0
 by_cases he:Aj d nm=0
 ·obtain⟨x,hx,hfx⟩:=filD_some he
  rw [sizeO he hx] at HSI
  have HLX:=Qh (fil_len HF1.out hx)
  have HRD:=Qh (show Calls Tryz.prog 32 #[.pointer (some ⟨f,0,none⟩),.string ⟨nm.toArray⟩,.int .i64 0,.int .i64 (x.data.length:Int)] w1 fun e w'=> ∃ v,e= .returned (.tuple #[v,.int .i64 0])∧OwnB w' w1.heap.size v x.data∧FsAt w' f m (rdD d x.data.length) L∧Turned (fun i=>i=f) w1 w' by
   have:=Hn w1 f m d L HF1.out nm x he hx 0 x.data.length (by omega)
   rw [List.drop_zero,List.take_length] at this
   exact this)
  have HA2:=Qh (show Au d g=if (Ci x.data g).2=false then ((0,0,false),x.data.length)
   else (((scanRun x.data (Ci x.data g).1 (A6 x.data).2.1 512).2,(scanRun x.data (Ci x.data g).1 (A6 x.data).2.1 512).1.length,true),x.data.length) by rw [HA.out,hfx])
  clear HA he hx hfx
  go_wp2_with fail
  refine HSI.out.mono ?_
  rintro e w1' ⟨rfl,rfl⟩
  go_wp2_with fail
  refine HRD.out.mono ?_
  rintro e w2 ⟨v2,rfl,ho2,hf2,ht2⟩
  have HNE:=fs_nib HF1.out HN1.out
  have HN2:=Qh (HN1.out.turned ht2 HNE HN1.out.lt)
  have HT2:=Qh (show Turned (fun i=>i=f) w w2 from(Turned.below HB1.out).trans ht2 fun i hi=> .inl hi)
  have HG2:=Qh (show Dk w2 w.heap.size g from(ht2.block _ (by have:=HS1.out;omega) (by omega)).trans HG1.out)
  have HF2:=Qh hf2
  have HO2:=Qh ho2
  have HBG:=Qh (begins_any x.data v2 g w2 ho2.brow (by have:=HLX.out;omega) HN2.out)
  obtain⟨o2,cap2,hsh,_,_⟩:=Ac ho2
  subst hsh
  clear hf2 ho2 ht2 HRD HSI HF1 HG1 HN1
  go_wp2_with (with_reducible refine wpList_load_sg rfl (.tmp 3) rfl w.heap.size 0 g rfl HG2.out.range ?_)
  refine HBG.out.mono ?_
  rintro e w3 ⟨rfl,hb3⟩
  have HF3:=Qh (HF2.out.below hb3)
  have HO3:=Qh (HO2.out.later hb3)
  have HN3:=Qh (HN2.out.below hb3)
  have HT3:=Qh (show Turned (fun i=>i=f) w w3 from HT2.out.trans (Turned.below hb3) fun i hi=> .inl hi)
  have HG3:=Qh (show Dk w3 w.heap.size g from(hb3.block _ (δ.1 HG2.out).1).trans HG2.out)
  clear hb3 HBG HF2 HO2 HN2 HT2 HG2
  rcases hbg:(Ci x.data g).2 with _ | _
  ·have HE:=Qh (show Au d g=((0,0,false),x.data.length) by rw [HA2.out,ζ hbg])
   go_wp2
   refine π (v:= .tuple #[.int .i64 0,.int .i64 0,.bool false]) (by simp [results,Tryz.results89,go_sem]) rfl ⟨by rw [HE.out];rfl,by rw [HE.out];exact HF3.out,HT3.out⟩
  ·have hh:(A6 x.data).2.2.2=0∧(((A6 x.data).2.1:Nat):Int)=g.first:=by
    unfold Ci at hbg
    simp only [Bool.and_eq_true,decide_eq_true_eq] at hbg
    exact⟨hbg.1.1,hbg.2⟩
   have hfine:=hdrOf_fine hh.1
   have HE:=Qh (show Au d g=(((scanRun x.data (Ci x.data g).1 (A6 x.data).2.1 512).2,(scanRun x.data (Ci x.data g).1 (A6 x.data).2.1 512).1.length,true),x.data.length) by rw [HA2.out,γ (by rw [hbg];decide)])
   have HRU:=Qh (Jk x.data _ (Ci x.data g).1 (A6 x.data).2.1 512 w3 HO3.out.brow HLX.out HN3.out hfine.2.1 (by decide) (by decide))
   rw [hh.2] at HRU
   obtain⟨r,hr⟩: ∃ r,r=scanRun x.data (Ci x.data g).1 (A6 x.data).2.1 512:=⟨_,rfl⟩
   rw [←hr] at HRU HE
   obtain⟨n0,hn0⟩: ∃ n0,n0=(Ci x.data g).1:=⟨_,rfl⟩
   rw [←hn0] at HRU
   rw [←hn0]
   have c1:=HG3.out.c1
   clear hr hn0 hh hfine hbg
   obtain⟨ps,en⟩:=r
   unfold RunP at HRU
   go_wp2_with fail
   refine HRU.out.mono ?_
   rintro e w4 ⟨v4,rfl,hp4,hb4⟩
   obtain⟨o4,cap4,hs4,_,_,_⟩:=hp4.shape
   subst hs4
   have HF4:=Qh (HF3.out.below hb4)
   have HT4:=Qh (show Turned (fun i=>i=f) w w4 from HT3.out.trans (Turned.below hb4) fun i hi=> .inl hi)
   clear hb4 hp4 HRU
   go_wp2
   refine π (v:= .tuple #[.int .i64 (en:Int),.int .i64 (ps.length:Int),.bool true]) (by simp [results,Tryz.results89,go_sem]) rfl ⟨by rw [HE.out],by rw [HE.out];exact HF4.out,HT4.out⟩
 ·rw [sizeE he] at HSI
  have HE:=Qh (show Au d g=((0,0,false),0) by rw [HA.out,filD_none he])
  have t1:(Aj d nm != 0)=true:=by simpa using he
  generalize Aj d nm=e0 at*
  clear he HA
  go_wp2_with fail
  refine HSI.out.mono ?_
  rintro e w1' ⟨rfl,rfl⟩
  go_wp2
  refine π (v:= .tuple #[.int .i64 0,.int .i64 0,.bool false]) (by simp [results,Tryz.results89,go_sem]) rfl ⟨by rw [HE.out];rfl,by rw [HE.out,Hm HF1.out.ok];exact HF1.out,Turned.below HB1.out⟩
theorem closing_ne {l:List UInt8} {g:Sg} {r:List Mk×Nat} (h:Ba l g=some r):r.1≠ []:=by
 unfold Ba at h
 split at h
 ·cases h
 ·split at h
  ·cases h
  ·rename_i c hc
   unfold closeIn at h
   split at h
   ·cases h
   ·rename_i hn
    split at h
    ·have hcl:1≤c.count∧1≤c.stride:=by
      unfold Cz at hc
      split at hc
      ·cases hc
      ·unfold clsIn at hc
       split at hc
       ·split at hc
        ·cases hc
        ·split at hc
         ·rename_i hx _
          have:=ψ hc
          subst this
          simp only
          omega
         ·cases hc
       ·cases hc
     have e:=ψ h
     subst e
     simp only
     intro e2
     have h3: ¬ c.marks.length≠(c.count+c.stride - 1) / c.stride:=fun h=>hn (.inr (.inr h))
     rw [e2] at h3
     simp only [Φ,ne_eq,Decidable.not_not] at h3
     have:=Nat.div_pos (show c.stride≤c.count+c.stride - 1 by omega) (by omega:0<c.stride)
     omega
    ·cases h
def sealIn (x:A7) (g:Sg):Bool:=match Ba (x.data.drop g.foot.toNat) g with
 | none=>false
 | some r=>match r.1 with
  | []=>false
  | k::_=>k.p==((Ci (x.data.take (min x.data.length 64)) g).1:Int)
def sealedV (d:Ab) (g:Sg):Bool×Nat:=
 match G0 d (Aa g.num) with
 | none=>(false,0)
 | some x=>if (x.data.length:Int)≤g.foot then (false,0)
  else if (Ci (x.data.take (min x.data.length 64)) g).2=false then (false,min x.data.length 64)
  else (sealIn x g,min x.data.length 64+(x.data.length - g.foot.toNat))
theorem sealed_any (w:World) (f m:Nat) (d:Ab) (L:List Ad) (h:FsAt w f m d L) (hn:NibTab w) (g:Sg) (hft:0≤g.foot):
  Calls Tryz.prog 88 #[.pointer (some ⟨f,0,none⟩),sgV g] w fun e w'=>e= .returned (.bool (sealedV d g).1)∧FsAt w' f m (rdD d (sealedV d g).2) L∧Turned (fun i=>i=f) w w':=by
 have HB0:=Qh (below_alloc w (.cells (sgCs g) 72))
 have HG0:=Qh (show Dk (w.alloc (.cells (sgCs g) 72)) w.heap.size g from σ w _)
 have HF0:=Qh (h.below HB0.out)
 have HN0:=Qh (hn.below HB0.out)
 have HA:=Qh (show sealedV d g=match G0 d (Aa g.num) with
  | none=>(false,0)
  | some x=>if (x.data.length:Int)≤g.foot then (false,0)
   else if (Ci (x.data.take (min x.data.length 64)) g).2=false then (false,min x.data.length 64)
   else (sealIn x g,min x.data.length 64+(x.data.length - g.foot.toNat)) from rfl)
 have hfl:=h.hd.lt
 have g0:=HG0.out.c0
 have HSZ0:=Qh (show (w.alloc (.cells (sgCs g) 72)).heap.size=w.heap.size+1 by simp)
 simp only [sgCs] at HB0 HG0 HF0 HN0 g0 HSZ0
 obtain⟨nm,hnm⟩: ∃ nm,nm=Aa g.num:=⟨_,rfl⟩
 have HSN:=Qh (fun W=>Gf g.num W)
 rw [←hnm] at HSN HA
 obtain⟨F,hF⟩:=Int.eq_ofNat_of_zero_le hft
 have HFF:=Qh hF
 clear h hn hnm hft hF
 go_enter Tryz.func88,Tryz.ntmps88
 go_wp2_with fail
 refine(HSN.out _).mono ?_
 rintro e w1 ⟨rfl,hb1⟩
 have HB1:=Qh (Below.next HB0.out hb1)
 have HF1:=Qh (HF0.out.below hb1)
 have HN1:=Qh (HN0.out.below hb1)
 have HG1:=Qh (show Dk w1 w.heap.size g from(hb1.block _ (δ.1 HG0.out).1).trans HG0.out)
 have HS1:=Qh (show w.heap.size+1≤w1.heap.size by have:=hb1.size;rw [HSZ0.out] at this;exact this)
 have HSI:=Qh (J9 w1 f m d L HF1.out nm)
 have g3:w1.cell? ⟨w.heap.size,3,none⟩=some (.int .i64 (F:Int)):=by have:=HG1.out.range 3 _ rfl;rw [HFF.out] at this;simpa using this
 clear hb1 HB0 HF0 HN0 HG0 HSN g0 HSZ0
 by_cases he:Aj d nm=0
 ·obtain⟨x,hx,hfx⟩:=filD_some he
  rw [sizeO he hx] at HSI
  have HLX:=Qh (fil_len HF1.out hx)
  obtain⟨q,hq⟩: ∃ q,q=min x.data.length 64:=⟨_,rfl⟩
  have HQ:=Qh hq
  have hmin:min (x.data.length:Int) 64=(q:Int):=by omega
  have HRD:=Qh (show Calls Tryz.prog 32 #[.pointer (some ⟨f,0,none⟩),.string ⟨nm.toArray⟩,.int .i64 0,.int .i64 (q:Int)] w1 fun e w'=> ∃ v,e= .returned (.tuple #[v,.int .i64 0])∧OwnB w' w1.heap.size v (x.data.take q)∧FsAt w' f m (rdD d q) L∧Turned (fun i=>i=f) w1 w' by
   have:=Hn w1 f m d L HF1.out nm x he hx 0 q (by omega)
   rw [List.drop_zero] at this
   exact this)
  have HA2:=Qh (show sealedV d g=if (x.data.length:Int)≤g.foot then (false,0)
   else if (Ci (x.data.take q) g).2=false then (false,q)
   else (sealIn x g,q+(x.data.length - F)) by rw [HA.out,hfx];simp only [←hq,HFF.out,Int.toNat_natCast])
  have HR2:=Qh (fun W (hF:FsAt W f m (rdD d q) L) (hle:F≤x.data.length)=>(show Calls Tryz.prog 32 #[.pointer (some ⟨f,0,none⟩),.string ⟨nm.toArray⟩,.int .i64 (F:Int),.int .i64 ((x.data.length - F:Nat):Int)] W fun e w'=> ∃ v,e= .returned (.tuple #[v,.int .i64 0])∧OwnB w' W.heap.size v (x.data.drop F)∧FsAt w' f m (rdD d (q+(x.data.length - F))) L∧Turned (fun i=>i=f) W w' by
   have:=Hn W f m (rdD d q) L hF nm x he hx F (x.data.length - F) (by omega)
   rw [List.take_of_length_le (by rw [Ξ];omega),rdD_rdD] at this
   exact this))
  obtain⟨hb,hhb⟩: ∃ hb,hb=x.data.take q:=⟨_,rfl⟩
  obtain⟨fb,hfb⟩: ∃ fb,fb=x.data.drop F:=⟨_,rfl⟩
  have HBL:=Qh (show hb.length≤67108864 by have:=HLX.out;rw [hhb,Θ];omega)
  have HFL:=Qh (show fb.length≤67108864 by have:=HLX.out;rw [hfb,Ξ];omega)
  have HSL0:=Qh (show sealIn x g=match Ba fb g with
   | none=>false
   | some r=>match r.1 with
    | []=>false
    | k::_=>k.p==((Ci hb g).1:Int) by unfold sealIn;simp only [hhb,hfb,HQ.out,HFF.out,Int.toNat_natCast])
  rw [←hhb] at HRD HA2
  rw [←hfb] at HR2
  clear HA he hx hfx hq hhb hfb
  rcases hle:decide (x.data.length≤F) with _ | _
  ·have hgt:F<x.data.length:=by simpa using hle
   obtain⟨r,hr⟩: ∃ r,r=x.data.length - F:=⟨_,rfl⟩
   have HR:=Qh hr
   rw [←hr] at HR2 HA2
   have hwr:IntKind.i64.wrap ((x.data.length:Int) - (F:Int))=(r:Int):=by have:=HLX.out;rw [κ];omega
   have HA3:=Qh (show sealedV d g=if (Ci hb g).2=false then (false,q) else (sealIn x g,q+r) by rw [HA2.out,γ (by rw [HFF.out];show ¬ (x.data.length:Int)≤(F:Int);omega)])
   clear hr
   go_wp2_with fail
   refine HSI.out.mono ?_
   rintro e w1' ⟨rfl,rfl⟩
   go_wp2_with fail
   refine HRD.out.mono ?_
   rintro e w2 ⟨v2,rfl,ho2,hf2,ht2⟩
   have HNE:=fs_nib HF1.out HN1.out
   have HN2:=Qh (HN1.out.turned ht2 HNE HN1.out.lt)
   have HT2:=Qh (show Turned (fun i=>i=f) w w2 from(Turned.below HB1.out).trans ht2 fun i hi=> .inl hi)
   have HG2:=Qh (show Dk w2 w.heap.size g from(ht2.block _ (by have:=HS1.out;omega) (by omega)).trans HG1.out)
   have HF2:=Qh hf2
   have HBG:=Qh (begins_any hb v2 g w2 ho2.brow (by have:=HBL.out;omega) HN2.out)
   obtain⟨o2,cap2,hsh,_,_⟩:=Ac ho2
   subst hsh
   clear hf2 ho2 ht2 HRD HSI HF1 HG1 HN1 g3
   go_wp2_with (with_reducible refine wpList_load_sg rfl (.tmp 3) rfl w.heap.size 0 g rfl HG2.out.range ?_)
   refine HBG.out.mono ?_
   rintro e w3 ⟨rfl,hb3⟩
   have HF3:=Qh (HF2.out.below hb3)
   have HN3:=Qh (HN2.out.below hb3)
   have HT3:=Qh (show Turned (fun i=>i=f) w w3 from HT2.out.trans (Turned.below hb3) fun i hi=> .inl hi)
   have HG3:=Qh (show Dk w3 w.heap.size g from(hb3.block _ (δ.1 HG2.out).1).trans HG2.out)
   have HS3:=Qh (show w.heap.size+1≤w3.heap.size from(δ.1 HG3.out).1)
   have g3:w3.cell? ⟨w.heap.size,3,none⟩=some (.int .i64 (F:Int)):=by have:=HG3.out.range 3 _ rfl;rw [HFF.out] at this;simpa using this
   clear hb3 HBG HF2 HN2 HT2 HG2
   rcases hbg:(Ci hb g).2 with _ | _
   ·have HE:=Qh (show sealedV d g=(false,q) by rw [HA3.out,ζ hbg])
    go_wp2
    go_ret
    exact⟨by rw [HE.out];rfl,by rw [HE.out];exact HF3.out,HT3.out⟩
   ·have HE:=Qh (show sealedV d g=(sealIn x g,q+r) by rw [HA3.out,γ (by rw [hbg];decide)])
    have HSL:=HSL0
    have HRR:=Qh (HR2.out w3 HF3.out (Nat.le_of_lt hgt))
    obtain⟨n0,hn0⟩: ∃ n0,n0=(Ci hb g).1:=⟨_,rfl⟩
    rw [←hn0] at HSL
    rw [←hn0]
    clear hn0
    go_wp2_with fail
    refine HRR.out.mono ?_
    rintro e w4 ⟨v4,rfl,ho4,hf4,ht4⟩
    have HN4:=Qh (HN3.out.turned ht4 HNE HN3.out.lt)
    have HT4:=Qh (show Turned (fun i=>i=f) w w4 from HT3.out.trans ht4 fun i hi=> .inl hi)
    have HG4:=Qh (show Dk w4 w.heap.size g from(ht4.block _ (by have:=HS3.out;omega) (by omega)).trans HG3.out)
    have HF4:=Qh hf4
    have HCL:=Qh (closing_any fb v4 g w4 ho4.brow (by have:=HFL.out;omega) HN4.out)
    have HNE2:=Qh (fun r=> @closing_ne fb g r)
    obtain⟨o4,cap4,hs4,_,_⟩:=Ac ho4
    subst hs4
    obtain⟨cv,hcv⟩: ∃ cv,cv=Ba fb g:=⟨_,rfl⟩
    rw [←hcv] at HCL HSL HNE2
    clear hf4 ho4 ht4 HRR HF3 HG3 HN3 g3 hcv HSL0
    go_wp2_with (with_reducible refine wpList_load_sg rfl (.tmp 3) rfl w.heap.size 0 g rfl HG4.out.range ?_)
    refine HCL.out.mono ?_
    rintro e w5 ⟨hb5,hpost⟩
    have HF5:=Qh (HF4.out.below hb5)
    have HT5:=Qh (show Turned (fun i=>i=f) w w5 from HT4.out.trans (Turned.below hb5) fun i hi=> .inl hi)
    rcases cv with _ | ⟨ms,st⟩
    ·simp only at hpost
     subst hpost
     go_wp2
     go_ret
     exact⟨by rw [HE.out,HSL.out];rfl,by rw [HE.out];exact HF5.out,HT5.out⟩
    ·obtain⟨mv,rfl,hmo⟩:=hpost
     have hne:=HNE2.out _ rfl
     dsimp only at hmo hne
     obtain⟨k,rs,rfl⟩:=List.exists_cons_of_ne_nil hne
     obtain⟨_,mcap,hsh,_,_,hrow⟩:=hmo.row
     subst hsh
     obtain⟨b,off,rfl,hcell⟩:=hrow 0 k rfl
     have cp:w5.cell? ⟨b,off+1,none⟩=some (.int .i64 k.p):=by have:=hcell 1 _ rfl;simpa using this
     have q0:(0:Int)<((k::rs).length:Int):=by simp<;>omega
     clear hrow hcell hmo hne hb5
     go_wp2
     go_ret
     exact⟨by rw [HE.out,HSL.out];rfl,by rw [HE.out];exact HF5.out,HT5.out⟩
  ·have HE:=Qh (show sealedV d g=(false,0) by rw [HA2.out,ζ (by rw [HFF.out];simp at hle;show (x.data.length:Int)≤(F:Int);omega)])
   go_wp2_with fail
   refine HSI.out.mono ?_
   rintro e w1' ⟨rfl,rfl⟩
   go_wp2
   go_ret
   exact⟨by rw [HE.out];rfl,by rw [HE.out,Hm HF1.out.ok];exact HF1.out,Turned.below HB1.out⟩
 ·rw [sizeE he] at HSI
  have HE:=Qh (show sealedV d g=(false,0) by rw [HA.out,filD_none he])
  have t1:(Aj d nm != 0)=true:=by simpa using he
  generalize Aj d nm=e0 at*
  clear he HA
  go_wp2_with fail
  refine HSI.out.mono ?_
  rintro e w1' ⟨rfl,rfl⟩
  go_wp2
  go_ret
  exact⟨by rw [HE.out];rfl,by rw [HE.out,Hm HF1.out.ok];exact HF1.out,Turned.below HB1.out⟩
def d8 (n:Int) (k:Nat):UInt8:=UInt8.ofNat (dgt n 6 k).toNat
theorem six_eq (n:Int):six n=[d8 n 5,d8 n 4,d8 n 3,d8 n 2,d8 n 1,d8 n 0]:=rfl
theorem d8_nat (n:Int) (k:Nat) (hk:k<6):((d8 n k).toNat:Int)=48+n / 10^k % 10:=by
 have h:=dgt_bd n 6 k
 have e:dgt n 6 k=48+n / 10^k % 10:=by rw [dgt,ζ hk]
 rw [d8,←e];simp;omega
theorem d8s (n:Int):((d8 n 0).toNat:Int)=48+n % 10∧((d8 n 1).toNat:Int)=48+n / 10 % 10∧((d8 n 2).toNat:Int)=48+n / 100 % 10∧
  ((d8 n 3).toNat:Int)=48+n / 1000 % 10∧((d8 n 4).toNat:Int)=48+n / 10000 % 10∧((d8 n 5).toNat:Int)=48+n / 100000 % 10:=
 ⟨by simpa using d8_nat n 0 (by decide),by simpa using d8_nat n 1 (by decide),by simpa using d8_nat n 2 (by decide),by simpa using d8_nat n 3 (by decide),by simpa using d8_nat n 4 (by decide),by simpa using d8_nat n 5 (by decide)⟩
theorem Km (n:Int) (h0:0≤n) (h1:n≤999999):Gv (six n)=n:=by
 obtain⟨a0,a1,a2,a3,a4,a5⟩:=d8s n
 rw [six_eq]
 simp only [Gv,List.foldl_cons,List.foldl_nil]
 omega
theorem six_digits (n:Int):(six n).all Jd=true:=by
 obtain⟨a0,a1,a2,a3,a4,a5⟩:=d8s n
 rw [six_eq]
 simp only [List.all_cons,List.all_nil,Bool.and_true,Bool.and_eq_true,J1]
 omega
theorem six_inj (n m:Int) (h0:0≤n) (h1:n≤999999) (h2:0≤m) (h3:m≤999999) (h:six n=six m):n=m:=by
 rw [←Km n h0 h1,←Km m h2 h3,h]
theorem six_of_decOf (t:List UInt8) (hl:t.length=6) (hd:t.all Jd=true):six (Gv t)=t:=by
 match t,hl with
 | [a,b,c,d,e,f],_=>
  simp only [List.all_cons,List.all_nil,Bool.and_true,Bool.and_eq_true,J1] at hd
  obtain⟨a0,a1,a2,a3,a4,a5⟩:=d8s (Gv [a,b,c,d,e,f])
  rw [six_eq]
  have hv:Gv [a,b,c,d,e,f]=100000*((a.toNat:Int) - 48)+10000*((b.toNat:Int) - 48)+1000*((c.toNat:Int) - 48)+100*((d.toNat:Int) - 48)+10*((e.toNat:Int) - 48)+((f.toNat:Int) - 48):=by
   simp only [Gv,List.foldl_cons,List.foldl_nil];omega
  generalize Gv [a,b,c,d,e,f]=n at*
  have u: ∀ x y:UInt8,(x.toNat:Int)=y.toNat→x=y:=fun x y h=>UInt8.toNat_inj.1 (by omega)
  rw [u (d8 n 5) a (by omega),u (d8 n 4) b (by omega),u (d8 n 3) c (by omega),u (d8 n 2) d (by omega),u (d8 n 1) e (by omega),u (d8 n 0) f (by omega)]
theorem numOf_six (n:Int) (h0:0≤n) (h1:n≤999999):numOf (six n)=n:=by
 rw [numOf,ζ ⟨rfl,six_digits n⟩,Km n h0 h1]
theorem pre_append (p t:List UInt8):Lib.hasPrefix (p++t) p=true∧Lib.trimPrefix (p++t) p=t:=by
 have h:Lib.hasPrefix (p++t) p=true:=by simp [Lib.hasPrefix,List.isPrefixOf_iff_prefix]
 exact⟨h,by simp [Lib.trimPrefix,h]⟩
theorem pre_split (l p:List UInt8) (h:Lib.hasPrefix l p=true):l=p++Lib.trimPrefix l p:=by
 have h':p <+: l:=by simpa [Lib.hasPrefix,List.isPrefixOf_iff_prefix] using h
 obtain⟨t,rfl⟩:=h'
 rw [(pre_append p t).2]
theorem numOf_bd (t:List UInt8):0≤numOf t∧numOf t≤999999∧(numOf t≠0→t=six (numOf t)):=by
 unfold numOf
 split
 ·rename_i h
  have hb:=decOf_bd t h.2
  rw [h.1] at hb
  exact⟨hb.1,by omega,fun _=>(six_of_decOf t h.1 h.2).symm⟩
 ·exact⟨by omega,by omega,fun h=>absurd rfl h⟩
theorem parseOf_cases (l:List UInt8):(l=Am∧Ao l=(1,0))∨(l=Ie∧Ao l=(2,0))∨
  (∃ n,1≤n∧n≤999999∧l=segPre++six n∧Ao l=(3,n))∨(∃ n,1≤n∧n≤999999∧l=bookPre++six n∧Ao l=(4,n))∨
  (l≠Am∧l≠Ie∧(∀ n,1≤n→n≤999999→l≠segPre++six n)∧(∀ n,1≤n→n≤999999→l≠bookPre++six n)∧Ao l=(0,0)):=by
 by_cases h1:l=Am
 ·exact .inl ⟨h1,by rw [Ao,ζ h1]⟩
 by_cases h2:l=Ie
 ·exact .inr (.inl ⟨h2,by rw [Ao,γ h1,ζ h2]⟩)
 by_cases h3:Lib.hasPrefix l segPre=true
 ·have e:Ao l=Gs 3 (numOf (Lib.trimPrefix l segPre)):=by rw [Ao,γ h1,γ h2,ζ h3]
  have hs:=pre_split l segPre h3
  obtain⟨b0,b1,b2⟩:=numOf_bd (Lib.trimPrefix l segPre)
  by_cases h0:numOf (Lib.trimPrefix l segPre)=0
  ·refine .inr (.inr (.inr (.inr ⟨h1,h2,?_,?_,by rw [e,Gs,ζ h0]⟩)))
   ·intro n hn1 hn2 hl
    rw [hl,(pre_append segPre (six n)).2,numOf_six n (by omega) hn2] at h0
    omega
   ·intro n _ _ hl
    rw [hl] at h3
    revert h3
    simp [Lib.hasPrefix,segPre,bookPre]
  ·exact .inr (.inr (.inl ⟨_,by omega,b1,by rw [←b2 h0];exact hs,by rw [e,Gs,γ h0]⟩))
 by_cases h4:Lib.hasPrefix l bookPre=true
 ·have e:Ao l=Gs 4 (numOf (Lib.trimPrefix l bookPre)):=by rw [Ao,γ h1,γ h2,γ h3,ζ h4]
  have hs:=pre_split l bookPre h4
  obtain⟨b0,b1,b2⟩:=numOf_bd (Lib.trimPrefix l bookPre)
  by_cases h0:numOf (Lib.trimPrefix l bookPre)=0
  ·refine .inr (.inr (.inr (.inr ⟨h1,h2,?_,?_,by rw [e,Gs,ζ h0]⟩)))
   ·intro n _ _ hl
    rw [hl] at h3
    exact h3 (pre_append segPre (six n)).1
   ·intro n hn1 hn2 hl
    rw [hl,(pre_append bookPre (six n)).2,numOf_six n (by omega) hn2] at h0
    omega
  ·exact .inr (.inr (.inr (.inl ⟨_,by omega,b1,by rw [←b2 h0];exact hs,by rw [e,Gs,γ h0]⟩)))
 ·refine .inr (.inr (.inr (.inr ⟨h1,h2,?_,?_,by rw [Ao,γ h1,γ h2,γ h3,γ h4]⟩)))
  ·intro n _ _ hl;rw [hl] at h3;exact h3 (pre_append segPre (six n)).1
  ·intro n _ _ hl;rw [hl] at h4;exact h4 (pre_append bookPre (six n)).1
theorem K0 (n:Int) (h:1≤n∧n≤999999):Aa n=segPre++six n:=by rw [Aa,ζ h,segPre]
theorem six_ok (n:Int):(six n).all okCh=true:=by
 rw [List.all_eq_true]
 intro c hc
 have:=(J1 c).1 (List.all_eq_true.1 (six_digits n) c hc)
 simp only [okCh,Bool.or_eq_true,Bool.and_eq_true,decide_eq_true_eq]
 omega
theorem rightName_seg (n:Int):rightName (segPre++six n)=true:=by
 simp only [rightName,List.all_append,six_ok]
 simp [segPre,six];decide
theorem rightName_book (n:Int):rightName (bookPre++six n)=true:=by
 simp only [rightName,List.all_append,six_ok]
 simp [bookPre,six];decide
theorem parse_right (l:List UInt8) (h:(Ao l).1≠0):rightName l=true:=by
 rcases parseOf_cases l with⟨rfl,_⟩ | ⟨rfl,_⟩ | ⟨n,h1,h2,rfl,_⟩ | ⟨n,h1,h2,rfl,_⟩ | ⟨_,_,_,_,e⟩
 ·decide
 ·decide
 ·exact rightName_seg n
 ·exact rightName_book n
 ·rw [e] at h;exact absurd rfl h
theorem names_not (n:Int) (h: ¬ (1≤n∧n≤999999)):Aa n=[]∧bookName n=[]:=⟨by rw [Aa,γ h],by rw [bookName,γ h]⟩
theorem parse_seg (n:Int) (h:1≤n∧n≤999999):Ao (Aa n)=(3,n):=by
 rw [K0 n h,Ao,γ (by simp [segPre,Am]),γ (by simp [segPre,Ie]),ζ (pre_append _ _).1,(pre_append _ _).2,numOf_six n (by omega) h.2,Gs,γ (by omega)]
theorem seg_same (n m:Int) (h:1≤n∧n≤999999):(Aa m==Aa n)=(m==n):=by
 rw [Bool.eq_iff_iff,beq_iff_eq,beq_iff_eq]
 constructor
 ·intro e
  by_cases hm:1≤m∧m≤999999
  ·rw [K0 n h,K0 m hm] at e
   exact six_inj m n (by omega) hm.2 (by omega) h.2 (List.append_cancel_left e)
  ·rw [(names_not m hm).1,K0 n h] at e;simp [segPre] at e
 ·rintro rfl;rfl
section
open Go.RowKit Go.Maps
def Gc (m:B3) (n:Int):Bool:=m.segs.any fun g=>g.num==n
def strayN (there:Bool) (m:B3) (l:List UInt8):Bool:=
 if (Ao l).1=3 then !(there&&Gc m (Ao l).2) else if (Ao l).1=4 then !(there&&(m.snap==(Ao l).2)) else (Ao l).1==2
def Ap (d:Ab) (there:Bool) (m:B3):List (List UInt8):=(d.files.map (·.name)).filter (strayN there m)
def CntAt (D:DataW Unit) (ks:List Int):Prop:= ∀ n:Int,∃ c:Int,D.atKey (.int .i64 n) (.lit (.int .i64 0))= .lit (.int .i64 c)∧0≤c∧c≤ks.length∧(0<c↔n∈ks)
theorem cnt_nil:CntAt (.map []) []:=fun n=>⟨0,rfl,by decide,by decide,by simp⟩
theorem cnt_put {D:DataW Unit} {ks:List Int} {k c:Int} (h:CntAt D ks) (hD:IsMap D) (hc:D.atKey (.int .i64 k) (.lit (.int .i64 0))= .lit (.int .i64 c)) (hk:(Lit.int .i64 k).wf=true):CntAt (D.put (.int .i64 k) (.lit (.int .i64 (c+1)))) (ks++[k]):=fun n=>by
 obtain⟨c0,h0,h1,h2,h3⟩:=h k
 rw [hc] at h0
 have e:c=c0:=by simpa using h0
 subst e
 by_cases hn:n=k
 ·subst hn
  exact⟨c+1,atKey_put_same hD (by trivial) _ _,by omega,by simp;omega,by simp;omega⟩
 ·obtain⟨c',g0,g1,g2,g3⟩:=h n
  refine⟨c',by rw [atKey_put_other (by intro e;injection e with _ e;exact hn e)];exact g0,g1,by simp;omega,?_⟩
  rw [g3]
  simp [hn]
theorem parse_bd (l:List UInt8):(Lit.int .i64 (Ao l).2).wf=true:=by
 have h:0≤(Ao l).2∧(Ao l).2≤999999:=by
  unfold Ao Gs
  have h1:=numOf_bd (Lib.trimPrefix l segPre)
  have h2:=numOf_bd (Lib.trimPrefix l bookPre)
  repeat' split
  all_goals simp only
  all_goals omega
 exact WalkArith.wf_i64 (by omega)
theorem seg_mem {m:B3} {n:Int} (h:Gc m n=true):n∈m.segs.map (·.num):=by
 unfold Gc at h
 obtain⟨g,hg,e⟩:=List.any_eq_true.1 h
 exact List.mem_map.2 ⟨g,hg,by simpa using e⟩
theorem seg_not {m:B3} {n:Int} (h:Gc m n=false):n∉m.segs.map (·.num):=fun hm=>by
 obtain⟨g,hg,e⟩:=List.mem_map.1 hm
 unfold Gc at h
 have:=(List.any_eq_true (p:=fun g:Sg=>g.num==n)).2 ⟨g,hg,by simpa using e⟩
 rw [h] at this
 cases this
theorem J3 {w w':World} {P:Program} {k:TypeId} {R:Value→Option (DataW Unit×List MemPlace)} {b n:Nat} {D:DataW Unit} (h:w.ownsMap P k R b n D) (hb:Below w.heap.size w w'):w'.ownsMap P k R b n D:=by
 obtain⟨es,clock,hbb,r⟩:=h
 exact⟨es,clock,(hb.block b (δ.1 hbb).1).trans hbb,r⟩
theorem J6 {w:World} {B B' size n:Nat} {e:TypeId} {v:Value} {xs:List Value} (h:w.ownsRow B e size v n xs) (hB:B'≤B):w.ownsRow B' e size v n xs:=by
 refine⟨h.1,?_⟩
 rcases h.2 with hn | ⟨g,cap,cur,e,hb1,rest⟩
 ·exact .inl hn
 ·exact .inr ⟨g,cap,cur,e,μ hB hb1,rest⟩
theorem wpList_app1S {ops:Array Oper} {rest:List Oper} {o:Oper} {a:Act} {Q:Exit→Act→World→Prop} {w:World} (hgd:o.guard=none) (s y:Operand) (ho:o.op= .call {callee:= .builtin .append,args:= #[s,y],argTypes:= #[73,73]}) {B:Nat} {v:Value} {l:List (List UInt8)} {x:List UInt8} {N:Nat}
  (hs:a.eval s=v) (hN:N=w.heap.size) (hy:a.eval y= .slice (some ⟨N,0,none⟩) 1 1) (hown:w.ownsRow B 9 1 v l.length (l.map encStr)) (hB:B≤w.heap.size) (hl:l.length≤100000)
  (h: ∀ v' w',w'.ownsRow B 9 1 v' (l++[x]).length ((l++[x]).map encStr)→Below B w w'→w.heap.size≤w'.heap.size→wpList Tryz.prog ops Q rest (a.put o.dst v') w'):wpList Tryz.prog ops Q (o::rest) a (w.alloc (.cells #[.string ⟨x.toArray⟩] 9)):=by
 subst hN
 obtain⟨i0,hi,hz0,hz1,hz2⟩:=info_parts (show (Tryz.prog.info? 9).map (fun i=>(i.zero,i.size,i.bytes))=some (some (.string ⟨#[]⟩),1,16) by kernel_rfl)
 have hb:=below_alloc w (.cells #[.string ⟨x.toArray⟩] 9)
 refine wpList_append_own _ hgd s y 73 ho B 9 i0 (.string ⟨#[]⟩) 1 16 Tryz.underlying73 hi hz0 hz1 hz2 rfl (by decide) v l.length (l.map encStr) hs (own_later hown hb) ⟨w.heap.size,0,none⟩ 1 1 [encStr x] hy rfl (fun j u hj=> ?_) (fun u hu=> ?_) (by unfold maxLen;omega) (by omega) (μ hB hb.size) ?_
 ·rw [Bc,Nat.zero_add,World.cell?_alloc_new]
  simpa [encStr] using hj
 ·simp at hu;rcases hu with rfl;rfl
 ·intro v' w' hown' hg _
  refine h v' w' ?_ ((hb.mono hB).trans (Bf (own_later hown hb) (μ hB hb.size) hg)) (μ hb.size hg.size)
  rw [η,List.map_append]
  exact hown'
theorem list_any (w:World) (f m:Nat) (d:Ab) (L:List Ad) (h:FsAt w f m d L) (hdn:d.down=false):Calls Tryz.prog 82 #[.pointer (some ⟨f,0,none⟩)] w fun e w'=> ∃ v,e= .returned v∧w'.ownsRow w.heap.size 9 1 v L.length ((Bm L).map encStr)∧Below w.heap.size w w':=by
 have HLL:=Qh (show L.length≤1000000 by have:=h.ok.count;rw [←h.fil] at this;simp [fils] at this;omega)
 have HN:=Qh (fsNames_any w f m d L h HLL.out)
 have c6:w.cell? ⟨f,6,none⟩=some (.bool false):=by rw [h.hd.c6];show some (Value.bool d.down)=_;rw [hdn]
 clear h hdn
 go_enter Tryz.func82,Tryz.ntmps82
 go_wp2_with fail
 refine HN.out.mono ?_
 rintro e w1 ⟨v1,rfl,hrow,hb1⟩
 go_wp2
 go_ret
 exact⟨_,rfl,hrow,hb1⟩
theorem strays_not (w:World) (f m:Nat) (d:Ab) (L:List Ad) (h:FsAt w f m d L) (hdn:d.down=false) (mn:B3) (sv:Value):
  Calls Tryz.prog 90 #[.pointer (some ⟨f,0,none⟩),.bool false,mnV mn sv] w fun e w'=> ∃ v,e= .returned v∧w'.ownsRow w.heap.size 9 1 v (Ap d false mn).length ((Ap d false mn).map encStr)∧Below w.heap.size w w':=by
 have HB0:=Qh (Below.next (below_alloc w (.cells (mnCs mn sv) 69)) (below_alloc _ (.map #[] 0)))
 have hmk: ∀ W:World,(Instr.makeMap 215 none).run Tryz.prog W= .ok (.map (some W.heap.size)) (W.alloc (.map #[] 0)):=fun _=>rfl
 have HL:=Qh (list_any _ f m d L (h.below HB0.out) hdn)
 have HLL:=Qh (show L.length≤700 by have:=h.ok.count;rw [←h.fil] at this;simpa [fils] using this)
 have HFL:=Qh (show Bm L=d.files.map (·.name) by rw [←h.fil];simp [Bm,fils])
 have HM0:=Qh (World.ownsMap_made (H:=Unit) (w.alloc (.cells (mnCs mn sv) 69)) Tryz.prog 3 (plainElem Tryz.prog 3))
 rw [show (w.alloc (.cells (mnCs mn sv) 69)).heap.size=w.heap.size+1 by simp] at HM0
 have HC0:=Qh ((A4 w mn sv).below (below_alloc _ (.map #[] 0)))
 simp only [mnCs] at HB0 HL HM0 HC0
 clear h hdn
 go_enter Tryz.func90,Tryz.ntmps90
 go_wp2_with fail
 refine HL.out.mono ?_
 rintro e w2 ⟨v2,rfl,hrow,hb2⟩
 have HNR:=Qh hrow
 obtain⟨on,capn,hsh,_,_⟩:=Ac hrow
 subst hsh
 have HB2:=Qh (Below.next HB0.out hb2)
 obtain⟨D,hD⟩: ∃ D:DataW Unit,D= .map []:=⟨_,rfl⟩
 have HMP:=Qh (J3 HM0.out hb2)
 have HCN:=Qh cnt_nil
 rw [←hD] at HMP HCN
 have CSN:=Qh ((HC0.out.below hb2).c3)
 clear hb2 hrow HL HB0 HM0 HC0 hD
 go_wp2
 go_loopw [10,33] (fun ov iv wr=> ∃ (k:Nat) (out:List (List UInt8)),k≤L.length∧iv= .int .i64 (k:Int)∧Hid (out=((Bm L).take k).filter (strayN false mn))∧Hid (out.length≤k)∧Hid (wr.ownsRow w2.heap.size 9 1 ov out.length (out.map encStr))∧Hid (Below w2.heap.size w2 wr)) (fun _ iv _=>L.length - (intOf iv).toNat)
 case atStart=>exact⟨0,[],θ _,rfl,Qh rfl,Qh (ξ _),Qh (World.ownsRow_nil _ _ _ _),Qh (τ _ _)⟩
 case round=>
  obtain⟨k,out,hk,rfl,HOU,HOL,HO,HB⟩:=hrel
  by_cases hlt:k<L.length
  ·have q1:(k:Int)<(L.length:Int):=by omega
   obtain⟨x,hx,htk,_⟩:=Kc (Bm L) k (by simpa [Bm] using hlt)
   have HFS:=Qh (show ((Bm L).take (k+1)).filter (strayN false mn)=((Bm L).take k).filter (strayN false mn)++(if strayN false mn x then [x] else []) by rw [htk,List.filter_append];rcases hs:strayN false mn x<;>simp [hs])
   obtain⟨gn,ncap,hsn,_,_,_,_,hcn⟩:=B8 HNR.out (by omega)
   simp only [Value.slice.injEq,true_and] at hsn
   obtain⟨rfl,rfl⟩:=hsn
   have cx:wr.cell? ⟨gn,k,none⟩=some (.string ⟨x.toArray⟩):=cell_later HB.out (hcn k _ (by rw [List.getElem?_map,hx];rfl))
   have hk1:IntKind.i64.wrap ((k:Int)+1)=(k:Int)+1:=by have:=HLL.out;rw [κ];omega
   have HPA:=Qh (fun W=>Parse_any x W)
   have HBD:=Qh (parse_bd x)
   have HST:=Qh (show strayN false mn x=if (Ao x).1=3 then !(false&&Gc mn (Ao x).2) else if (Ao x).1=4 then !(false&&(mn.snap==(Ao x).2)) else (Ao x).1==2 from rfl)
   obtain⟨r,hr⟩: ∃ r,r=Ao x:=⟨_,rfl⟩
   rw [←hr] at HPA HBD HST
   clear hr hcn hx htk
   obtain⟨kd,n⟩:=r
   go_wp2_with fail
   refine(HPA.out wr).mono ?_
   rintro e w4 ⟨rfl,hb4⟩
   have HB4:=Qh (HB.out.trans (hb4.mono HB.out.size))
   have HO4:=Qh (own_later HO.out hb4)
   have hs4:=HB4.out.size
   have HM4:=Qh (J3 HMP.out (HB4.out))
   have cs:w4.cell? ⟨w.heap.size,3,none⟩=some (.int .i64 mn.snap):=cell_later HB4.out CSN.out
   have HOL2:=Qh (show out.length≤100000 by have:=HOL.out;have:=HLL.out;omega)
   clear hb4 HO HB cx
   rcases h3:(kd==3) with _ | _
   ·rcases h4:(kd==4) with _ | _
    ·rcases h2:(kd==2) with _ | _
     ·have HSX:=Qh (show strayN false mn x=false by rw [HST.out,γ (by simpa using h3),γ (by simpa using h4)];exact h2)
      go_wp2
      go_roundw
      case rel=>exact⟨k+1,out,by omega,by go_num,Qh (by rw [HFS.out,HSX.out,HOU.out];simp),Qh (by have:=HOL.out;omega),HO4,HB4⟩
      case measure=>simp [intOf];omega
     ·have HSX:=Qh (show strayN false mn x=true by rw [HST.out,γ (by simpa using h3),γ (by simpa using h4)];exact h2)
      go_wp2_with (with_reducible refine wpList_app1S (x:=x) rfl (.tmp 60) (.tmp 62) rfl rfl rfl rfl HO4.out hs4 HOL2.out ?_)
      intro v5 w5 ho5 hb5 _
      have HO5:=Qh ho5
      have HB5:=Qh (HB4.out.trans hb5)
      clear ho5 hb5 HO4
      go_wp2
      go_roundw
      case rel=>exact⟨k+1,out++[x],by omega,by go_num,Qh (by rw [HFS.out,HSX.out,HOU.out];simp),Qh (by have:=HOL.out;simp;omega),Qh (by simpa using HO5.out),HB5⟩
      case measure=>simp [intOf];omega
    ·have HSX:=Qh (show strayN false mn x=true by rw [HST.out,γ (by simpa using h3),ζ (by simpa using h4)];rfl)
     go_wp2_with (with_reducible refine wpList_app1S (x:=x) rfl (.tmp 60) (.tmp 62) rfl rfl rfl rfl HO4.out hs4 HOL2.out ?_)
     intro v5 w5 ho5 hb5 _
     have HO5:=Qh ho5
     have HB5:=Qh (HB4.out.trans hb5)
     clear ho5 hb5 HO4
     go_wp2
     go_roundw
     case rel=>exact⟨k+1,out++[x],by omega,by go_num,Qh (by rw [HFS.out,HSX.out,HOU.out];simp),Qh (by have:=HOL.out;simp;omega),Qh (by simpa using HO5.out),HB5⟩
     case measure=>simp [intOf];omega
   ·rcases hsg:Gc mn n with _ | _
    ·have HSX:=Qh (show strayN false mn x=true by rw [HST.out,ζ (by simpa using h3)];simp [hsg])
     go_wp2_with (first | (at_lookup;refine wpList_lookup_own_int _ rfl _ _ 215 rfl 3 3 .i64 (int_keyed Tryz.underlying3) Tryz.underlying215 Tryz.underlying3 (by kernel_rfl) (w.heap.size+1) _ D rfl HM4.out _ _ rfl (keyOf_int_mk Tryz.underlying3 HBD.out) ?_))
     intro c hat _
     have hc:decide (0<c)=false:=by
      obtain⟨c',h1,h2,h3,h4⟩:=HCN.out n
      rw [hat] at h1
      have e:c=c':=by simpa using h1
      subst e
      rw [decide_eq_false_iff_not,h4]
      simp
     clear hat
     go_wp2_with (with_reducible refine wpList_app1S (x:=x) rfl (.tmp 60) (.tmp 62) rfl rfl rfl rfl HO4.out hs4 HOL2.out ?_)
     intro v5 w5 ho5 hb5 _
     have HO5:=Qh ho5
     have HB5:=Qh (HB4.out.trans hb5)
     clear ho5 hb5 HO4
     go_wp2
     go_roundw
     case rel=>exact⟨k+1,out++[x],by omega,by go_num,Qh (by rw [HFS.out,HSX.out,HOU.out];simp),Qh (by have:=HOL.out;simp;omega),Qh (by simpa using HO5.out),HB5⟩
     case measure=>simp [intOf];omega
    ·have HSX:=Qh (show strayN false mn x=true by rw [HST.out,ζ (by simpa using h3)];rfl)
     go_wp2_with (first | (at_lookup;refine wpList_lookup_own_int _ rfl _ _ 215 rfl 3 3 .i64 (int_keyed Tryz.underlying3) Tryz.underlying215 Tryz.underlying3 (by kernel_rfl) (w.heap.size+1) _ D rfl HM4.out _ _ rfl (keyOf_int_mk Tryz.underlying3 HBD.out) ?_))
     intro c hat _
     have hc:decide (0<c)=false:=by
      obtain⟨c',h1,h2,h3,h4⟩:=HCN.out n
      rw [hat] at h1
      have e:c=c':=by simpa using h1
      subst e
      rw [decide_eq_false_iff_not,h4]
      simp
     clear hat
     go_wp2_with (with_reducible refine wpList_app1S (x:=x) rfl (.tmp 60) (.tmp 62) rfl rfl rfl rfl HO4.out hs4 HOL2.out ?_)
     intro v5 w5 ho5 hb5 _
     have HO5:=Qh ho5
     have HB5:=Qh (HB4.out.trans hb5)
     clear ho5 hb5 HO4
     go_wp2
     go_roundw
     case rel=>exact⟨k+1,out++[x],by omega,by go_num,Qh (by rw [HFS.out,HSX.out,HOU.out];simp),Qh (by have:=HOL.out;simp;omega),Qh (by simpa using HO5.out),HB5⟩
     case measure=>simp [intOf];omega
  ·obtain rfl:k=L.length:=by omega
   have HFI:=Qh (show Ap d false mn=out by rw [HOU.out,List.take_of_length_le (by simp [Bm])];unfold Ap;rw [←HFL.out])
   go_wp2
   refine π (v:=_) (results_tmp rfl _ _ _) rfl ⟨_,rfl,?_,Below.next HB2.out HB.out⟩
   rw [HFI.out]
   exact J6 HO.out HB2.out.size
theorem strays_there (w:World) (f m:Nat) (d:Ab) (L:List Ad) (h:FsAt w f m d L) (hdn:d.down=false) (mn:B3) (sv:Value) (hr:Jz w sv mn.segs) (hb: ∀ g∈mn.segs,0≤g.num∧g.num≤1099511627776) (hl:mn.segs.length≤100000):
  Calls Tryz.prog 90 #[.pointer (some ⟨f,0,none⟩),.bool true,mnV mn sv] w fun e w'=> ∃ v,e= .returned v∧w'.ownsRow w.heap.size 9 1 v (Ap d true mn).length ((Ap d true mn).map encStr)∧Below w.heap.size w w':=by
 have HB0:=Qh (Below.next (below_alloc w (.cells (mnCs mn sv) 69)) (below_alloc _ (.map #[] 0)))
 have hmk: ∀ W:World,(Instr.makeMap 215 none).run Tryz.prog W= .ok (.map (some W.heap.size)) (W.alloc (.map #[] 0)):=fun _=>rfl
 have HL:=Qh (fun W (hb:Below w.heap.size w W)=>list_any W f m d L (h.below hb) hdn)
 have HLL:=Qh (show L.length≤700 by have:=h.ok.count;rw [←h.fil] at this;simpa [fils] using this)
 have HFL:=Qh (show Bm L=d.files.map (·.name) by rw [←h.fil];simp [Bm,fils])
 have HM0:=Qh (World.ownsMap_made (H:=Unit) (w.alloc (.cells (mnCs mn sv) 69)) Tryz.prog 3 (plainElem Tryz.prog 3))
 rw [show (w.alloc (.cells (mnCs mn sv) 69)).heap.size=w.heap.size+1 by simp] at HM0
 have HC0:=Qh ((A4 w mn sv).below (below_alloc _ (.map #[] 0)))
 have HSZ0:=Qh (show ((w.alloc (.cells (mnCs mn sv) 69)).alloc (.map #[] 0)).heap.size=w.heap.size+2 by simp)
 have HSR:=Qh (fun W (hb:Below w.heap.size w W)=>hr.below hb)
 have HSB:=Qh hb
 obtain⟨os,scap,hsh,_,_,hcs⟩:=hr
 have HCS:=Qh hcs
 subst hsh
 have c5:=HC0.out.c5
 simp only [mnCs] at HB0 HM0 HC0 HSZ0 c5
 clear h hdn hb hcs
 go_enter Tryz.func90,Tryz.ntmps90
 go_wp2_with fail
 generalize (w.alloc (.cells #[.int .i64 mn.gen,.int .i64 mn.next,.int .i64 mn.floor,.int .i64 mn.snap,.int .i64 mn.snapSeq,.slice os mn.segs.length scap] 69)).alloc (.map #[] 0)=W0 at*
 clear c5
 go_loopw [20] (fun iv wr=> ∃ (k:Nat) (D:DataW Unit),k≤mn.segs.length∧iv= .int .i64 (k:Int)∧Hid (wr.ownsMap Tryz.prog 3 (plainElem Tryz.prog 3) (w.heap.size+1) k D)∧Hid (CntAt D ((mn.segs.take k).map (·.num)))∧Hid (Below (w.heap.size+1) W0 wr)) (fun iv _=>mn.segs.length - (intOf iv).toNat)
 case atStart=>exact⟨0,.map [],θ _,rfl,HM0,Qh (by rw [List.take_zero];exact cnt_nil),Qh (τ _ _)⟩
 case round=>
  obtain⟨k,D,hk,rfl,HMP,HCN,HB⟩:=hrel
  have HBW:=Qh (HB0.out.trans (HB.out.mono (Nat.le_succ _)))
  by_cases hlt:k<mn.segs.length
  ·obtain⟨g,hg,htk,hgm⟩:=Kc mn.segs k hlt
   obtain⟨b,off,rfl,hcell⟩:=HCS.out k g hg
   have q1:(k:Int)<(mn.segs.length:Int):=by omega
   have HCE:=Qh (Ax hcell HBW.out)
   have HTK:=Qh (show (mn.segs.take (k+1)).map (·.num)=(mn.segs.take k).map (·.num)++[g.num] by rw [htk];simp)
   have hgb:=HSB.out g hgm
   have hwf:(Lit.int .i64 g.num).wf=true:=WalkArith.wf_i64 (by omega)
   have HBA:=Qh (below_alloc wr (.cells (sgCs g) 72))
   have HGB:=Qh (show Dk (wr.alloc (.cells (sgCs g) 72)) wr.heap.size g from σ wr _)
   have HMA:=Qh (J3 HMP.out HBA.out)
   have HS1:=Qh (show w.heap.size+2≤wr.heap.size by have:=HB.out.size;have:=HSZ0.out;omega)
   have g0:=HGB.out.c0
   have hk1:IntKind.i64.wrap ((k:Int)+1)=(k:Int)+1:=by rw [κ];omega
   simp only [sgCs] at HBA HGB HMA g0
   clear hg htk hgm hcell hgb
   go_wp2_with (first | (with_reducible refine wpList_load_sg rfl (.tmp 22) rfl b (off+k*4) g rfl HCE.out ?_) | (at_lookup;refine wpList_lookup_own_int _ rfl _ _ 215 rfl 3 3 .i64 (int_keyed Tryz.underlying3) Tryz.underlying215 Tryz.underlying3 (by kernel_rfl) (w.heap.size+1) _ D rfl HMA.out _ _ rfl (keyOf_int_mk Tryz.underlying3 hwf) ?_))
   intro c hat _
   obtain⟨c',h1,h2,h3,_⟩:=HCN.out g.num
   have e:c=c':=by rw [hat] at h1;simpa using h1
   subst e
   have hcl:c≤100000:=by rw [List.length_map,Θ] at h3;omega
   have hwc:IntKind.i64.wrap (c+1)=c+1:=by rw [κ];omega
   have hwfc:(Lit.int .i64 (c+1)).wf=true:=WalkArith.wf_i64 (by omega)
   have HCP:=Qh (cnt_put HCN.out HMA.out.isMap hat hwf)
   clear h1 h2 h3 hat
   go_wp2_with (first | (at_mapUpdate;refine wpList_mapUpdate_own _ rfl _ _ _ 215 rfl 3 3 (int_keyed Tryz.underlying3) Tryz.underlying215 _ (w.heap.size+1) k D rfl HMA.out (by unfold maxLen;omega) _ _ _ rfl rfl (keyOf_int_mk Tryz.underlying3 hwf) _ [] (plainElem_int Tryz.underlying3 hwfc) ?_))
   intro w5 hown5 hg5
   have HM5:=Qh hown5
   have HB5:=Qh (show Below (w.heap.size+1) W0 w5 from(HB.out.trans (HBA.out.mono (by have:=HS1.out;omega))).grown hg5 (by have:=HS1.out;have:=HBA.out.size;omega) (fun j hj=>by cases hj;exact ξ _))
   clear hown5 hg5
   go_wp2
   go_roundw
   case rel=>exact⟨k+1,_,by omega,by go_num,HM5,Qh (by rw [HTK.out];exact HCP.out),HB5⟩
   case measure=>simp [intOf];omega
  ·obtain rfl:k=mn.segs.length:=by omega
   rw [List.take_length] at HCN
   have HLC:=Qh (HL.out wr HBW.out)
   have HC1:=Qh (show Ah wr w.heap.size mn (.slice os mn.segs.length scap) from HC0.out.keep HB.out (Nat.lt_succ_self _))
   go_wp2_with fail
   refine HLC.out.mono ?_
   rintro e w2 ⟨v2,rfl,hrow,hb2⟩
   have HNR:=Qh hrow
   obtain⟨on,capn,hsh,_,_⟩:=Ac hrow
   subst hsh
   have HB2:=Qh (Below.next HBW.out hb2)
   have HMP:=Qh (J3 HMP.out hb2)
   have CSN:=Qh ((HC1.out.below hb2).c3)
   clear hb2 hrow HL HB0 HM0 HC0 HC1 HLC
   go_wp2
   go_loopw [10,33] (fun ov iv wr=> ∃ (k:Nat) (out:List (List UInt8)),k≤L.length∧iv= .int .i64 (k:Int)∧Hid (out=((Bm L).take k).filter (strayN true mn))∧Hid (out.length≤k)∧Hid (wr.ownsRow w2.heap.size 9 1 ov out.length (out.map encStr))∧Hid (Below w2.heap.size w2 wr)) (fun _ iv _=>L.length - (intOf iv).toNat)
   case atStart=>exact⟨0,[],θ _,rfl,Qh rfl,Qh (ξ _),Qh (World.ownsRow_nil _ _ _ _),Qh (τ _ _)⟩
   case round=>
    obtain⟨k,out,hk,rfl,HOU,HOL,HO,HB⟩:=hrel
    by_cases hlt:k<L.length
    ·have q1:(k:Int)<(L.length:Int):=by omega
     obtain⟨x,hx,htk,_⟩:=Kc (Bm L) k (by simpa [Bm] using hlt)
     have HFS:=Qh (show ((Bm L).take (k+1)).filter (strayN true mn)=((Bm L).take k).filter (strayN true mn)++(if strayN true mn x then [x] else []) by rw [htk,List.filter_append];rcases hs:strayN true mn x<;>simp [hs])
     obtain⟨gn,ncap,hsn,_,_,_,_,hcn⟩:=B8 HNR.out (by omega)
     simp only [Value.slice.injEq,true_and] at hsn
     obtain⟨rfl,rfl⟩:=hsn
     have cx:wr.cell? ⟨gn,k,none⟩=some (.string ⟨x.toArray⟩):=cell_later HB.out (hcn k _ (by rw [List.getElem?_map,hx];rfl))
     have hk1:IntKind.i64.wrap ((k:Int)+1)=(k:Int)+1:=by have:=HLL.out;rw [κ];omega
     have HPA:=Qh (fun W=>Parse_any x W)
     have HBD:=Qh (parse_bd x)
     have HST:=Qh (show strayN true mn x=if (Ao x).1=3 then !(true&&Gc mn (Ao x).2) else if (Ao x).1=4 then !(true&&(mn.snap==(Ao x).2)) else (Ao x).1==2 from rfl)
     obtain⟨r,hr⟩: ∃ r,r=Ao x:=⟨_,rfl⟩
     rw [←hr] at HPA HBD HST
     clear hr hcn hx htk
     obtain⟨kd,n⟩:=r
     go_wp2_with fail
     refine(HPA.out wr).mono ?_
     rintro e w4 ⟨rfl,hb4⟩
     have HB4:=Qh (HB.out.trans (hb4.mono HB.out.size))
     have HO4:=Qh (own_later HO.out hb4)
     have hs4:=HB4.out.size
     have HM4:=Qh (J3 HMP.out (HB4.out))
     have cs:w4.cell? ⟨w.heap.size,3,none⟩=some (.int .i64 mn.snap):=cell_later HB4.out CSN.out
     have HOL2:=Qh (show out.length≤100000 by have:=HOL.out;have:=HLL.out;omega)
     clear hb4 HO HB cx
     rcases h3:(kd==3) with _ | _
     ·rcases h4:(kd==4) with _ | _
      ·rcases h2:(kd==2) with _ | _
       ·have HSX:=Qh (show strayN true mn x=false by rw [HST.out,γ (by simpa using h3),γ (by simpa using h4)];exact h2)
        go_wp2
        go_roundw
        case rel=>exact⟨k+1,out,by omega,by go_num,Qh (by rw [HFS.out,HSX.out,HOU.out];simp),Qh (by have:=HOL.out;omega),HO4,HB4⟩
        case measure=>simp [intOf];omega
       ·have HSX:=Qh (show strayN true mn x=true by rw [HST.out,γ (by simpa using h3),γ (by simpa using h4)];exact h2)
        go_wp2_with (with_reducible refine wpList_app1S (x:=x) rfl (.tmp 60) (.tmp 62) rfl rfl rfl rfl HO4.out hs4 HOL2.out ?_)
        intro v5 w5 ho5 hb5 _
        have HO5:=Qh ho5
        have HB5:=Qh (HB4.out.trans hb5)
        clear ho5 hb5 HO4
        go_wp2
        go_roundw
        case rel=>exact⟨k+1,out++[x],by omega,by go_num,Qh (by rw [HFS.out,HSX.out,HOU.out];simp),Qh (by have:=HOL.out;simp;omega),Qh (by simpa using HO5.out),HB5⟩
        case measure=>simp [intOf];omega
      ·rcases hsn:(mn.snap==n) with _ | _
       ·have HSX:=Qh (show strayN true mn x=true by rw [HST.out,γ (by simpa using h3),ζ (by simpa using h4)];simp [hsn])
        go_wp2_with (with_reducible refine wpList_app1S (x:=x) rfl (.tmp 60) (.tmp 62) rfl rfl rfl rfl HO4.out hs4 HOL2.out ?_)
        intro v5 w5 ho5 hb5 _
        have HO5:=Qh ho5
        have HB5:=Qh (HB4.out.trans hb5)
        clear ho5 hb5 HO4
        go_wp2
        go_roundw
        case rel=>exact⟨k+1,out++[x],by omega,by go_num,Qh (by rw [HFS.out,HSX.out,HOU.out];simp),Qh (by have:=HOL.out;simp;omega),Qh (by simpa using HO5.out),HB5⟩
        case measure=>simp [intOf];omega
       ·have HSX:=Qh (show strayN true mn x=false by rw [HST.out,γ (by simpa using h3),ζ (by simpa using h4)];simp [hsn])
        go_wp2
        go_roundw
        case rel=>exact⟨k+1,out,by omega,by go_num,Qh (by rw [HFS.out,HSX.out,HOU.out];simp),Qh (by have:=HOL.out;omega),HO4,HB4⟩
        case measure=>simp [intOf];omega
     ·rcases hsg:Gc mn n with _ | _
      ·have HSX:=Qh (show strayN true mn x=true by rw [HST.out,ζ (by simpa using h3)];simp [hsg])
       go_wp2_with (first | (at_lookup;refine wpList_lookup_own_int _ rfl _ _ 215 rfl 3 3 .i64 (int_keyed Tryz.underlying3) Tryz.underlying215 Tryz.underlying3 (by kernel_rfl) (w.heap.size+1) _ D rfl HM4.out _ _ rfl (keyOf_int_mk Tryz.underlying3 HBD.out) ?_))
       intro c hat _
       have hc:decide (0<c)=false:=by
        obtain⟨c',h1,h2,h3,h4⟩:=HCN.out n
        rw [hat] at h1
        have e:c=c':=by simpa using h1
        subst e
        rw [decide_eq_false_iff_not,h4]
        exact seg_not hsg
       clear hat
       go_wp2_with (with_reducible refine wpList_app1S (x:=x) rfl (.tmp 60) (.tmp 62) rfl rfl rfl rfl HO4.out hs4 HOL2.out ?_)
       intro v5 w5 ho5 hb5 _
       have HO5:=Qh ho5
       have HB5:=Qh (HB4.out.trans hb5)
       clear ho5 hb5 HO4
       go_wp2
       go_roundw
       case rel=>exact⟨k+1,out++[x],by omega,by go_num,Qh (by rw [HFS.out,HSX.out,HOU.out];simp),Qh (by have:=HOL.out;simp;omega),Qh (by simpa using HO5.out),HB5⟩
       case measure=>simp [intOf];omega
      ·have HSX:=Qh (show strayN true mn x=false by rw [HST.out,ζ (by simpa using h3)];simp [hsg])
       go_wp2_with (first | (at_lookup;refine wpList_lookup_own_int _ rfl _ _ 215 rfl 3 3 .i64 (int_keyed Tryz.underlying3) Tryz.underlying215 Tryz.underlying3 (by kernel_rfl) (w.heap.size+1) _ D rfl HM4.out _ _ rfl (keyOf_int_mk Tryz.underlying3 HBD.out) ?_))
       intro c hat _
       have hc:decide (0<c)=true:=by
        obtain⟨c',h1,h2,h3,h4⟩:=HCN.out n
        rw [hat] at h1
        have e:c=c':=by simpa using h1
        subst e
        rw [decide_eq_true_eq,h4]
        exact seg_mem hsg
       clear hat
       go_wp2
       go_roundw
       case rel=>exact⟨k+1,out,by omega,by go_num,Qh (by rw [HFS.out,HSX.out,HOU.out];simp),Qh (by have:=HOL.out;omega),HO4,HB4⟩
       case measure=>simp [intOf];omega
    ·obtain rfl:k=L.length:=by omega
     have HFI:=Qh (show Ap d true mn=out by rw [HOU.out,List.take_of_length_le (by simp [Bm])];unfold Ap;rw [←HFL.out])
     go_wp2
     refine π (v:=_) (results_tmp rfl _ _ _) rfl ⟨_,rfl,?_,Below.next HB2.out HB.out⟩
     rw [HFI.out]
     exact J6 HO.out HB2.out.size
end
def loadM (d:Ab):(B3×Bool×Int)×Nat:=
 match G0 d Am with
 | none=>if Aj d Am=51 then ((zeroM,false,0),0) else ((zeroM,false,Aj d Am),0)
 | some x=>if (Bk x.data).2≠0 then ((zeroM,false,(Bk x.data).2),x.data.length) else (((Bk x.data).1,true,0),x.data.length)
theorem Ji {fn:Func} {p q r:Tmp} (h:fn.results= #[.cell p 69,.tmp q,.tmp r]) (tmps:Array Value) (w:World) (g:Nat) (m:B3) (sv x y:Value)
  (hp:tmps.getD p undef= .pointer (some ⟨g,0,none⟩)) (hq:tmps.getD q undef=x) (hr:tmps.getD r undef=y) (hE:Ah w g m sv):(results fn tmps).run Tryz.prog w= .ok (.tuple #[mnV m sv,x,y]) w:=by
 have hl:=run_load_mn hE
 have hp':tmps[p]?.getD undef= .pointer (some ⟨g,0,none⟩):=by simpa using hp
 have hq':tmps[q]?.getD undef=x:=by simpa using hq
 have hr':tmps[r]?.getD undef=y:=by simpa using hr
 simp [results,h,hp',hq',hr',asAddr,hl]
def LoadMP (w:World) (f m:Nat) (d:Ab) (L:List Ad) (r:(B3×Bool×Int)×Nat) (e:Ending) (w':World):Prop:=
 ∃ sv,e= .returned (.tuple #[mnV r.1.1 sv,.bool r.1.2.1,.int .i64 r.1.2.2])∧Dl (fun k=>w.heap.size≤k) w' sv r.1.1.segs∧sv.oneCell'=true∧FsAt w' f m (rdD d r.2) L∧Turned (fun i=>i=f) w w'
theorem manLoad_any (w:World) (f m:Nat) (d:Ab) (L:List Ad) (h:FsAt w f m d L) (hn:NibTab w):
  Calls Tryz.prog 85 #[.pointer (some ⟨f,0,none⟩)] w (LoadMP w f m d L (loadM d)):=by
 have HB0:=Qh (below_alloc w (.cells (mnCs zeroM (.slice none 0 0)) 69))
 have HM0:=Qh (A4 w zeroM (.slice none 0 0))
 have HF0:=Qh (h.below HB0.out)
 have HN0:=Qh (hn.below HB0.out)
 have HE:=Qh (show loadM d=match G0 d Am with
  | none=>if Aj d Am=51 then ((zeroM,false,0),0) else ((zeroM,false,Aj d Am),0)
  | some x=>if (Bk x.data).2≠0 then ((zeroM,false,(Bk x.data).2),x.data.length) else (((Bk x.data).1,true,0),x.data.length) from rfl)
 have HSI:=Qh (J9 _ f m d L HF0.out Am)
 have hfl:=h.hd.lt
 have HLT:=Qh h.lt
 clear h hn
 simp only [mnCs,zeroM] at HB0 HM0 HF0 HN0 HSI
 go_enter Tryz.func85,Tryz.ntmps85
 by_cases he:Aj d Am=0
 ·obtain⟨x,hx,hfx⟩:=filD_some he
  rw [sizeO he hx] at HSI
  have HLX:=Qh (fil_len HF0.out hx)
  have HRD:=Qh (show Calls Tryz.prog 32 #[.pointer (some ⟨f,0,none⟩),.string ⟨Am.toArray⟩,.int .i64 0,.int .i64 (x.data.length:Int)] (w.alloc (.cells #[.int .i64 0,.int .i64 0,.int .i64 0,.int .i64 0,.int .i64 0,.slice none 0 0] 69)) fun e w'=> ∃ v,e= .returned (.tuple #[v,.int .i64 0])∧OwnB w' (w.heap.size+1) v x.data∧FsAt w' f m (rdD d x.data.length) L∧Turned (fun i=>i=f) (w.alloc (.cells #[.int .i64 0,.int .i64 0,.int .i64 0,.int .i64 0,.int .i64 0,.slice none 0 0] 69)) w' by
   have:=Hn _ f m d L HF0.out Am x he hx 0 x.data.length (by omega)
   rw [List.drop_zero,List.take_of_length_le (ξ _),Ω] at this
   exact this)
  have HE2:=Qh (show loadM d=if (Bk x.data).2≠0 then ((zeroM,false,(Bk x.data).2),x.data.length) else (((Bk x.data).1,true,0),x.data.length) by rw [HE.out,hfx])
  obtain⟨l,hl⟩: ∃ l,l=x.data:=⟨_,rfl⟩
  rw [←hl] at HSI HRD HE2 HLX
  clear HE he hx hfx hl
  obtain⟨mn,hmn⟩: ∃ mn,mn=Am:=⟨_,rfl⟩
  rw [show Am=[109,97,110,105,102,101,115,116] from rfl] at HSI HRD
  clear hmn mn
  go_wp2_with fail
  refine HSI.out.mono ?_
  rintro e w0 ⟨rfl,rfl⟩
  go_wp2_with fail
  refine HRD.out.mono ?_
  rintro e w1 ⟨bv,rfl,hbo,hf1,ht1⟩
  have HNE:=fs_nib HF0.out HN0.out
  have HN1:=Qh (HN0.out.turned ht1 HNE HN0.out.lt)
  have HT1:=Qh (show Turned (fun i=>i=f) w w1 from(Turned.below HB0.out).trans ht1 fun i hi=> .inl hi)
  have HF1:=Qh hf1
  have HM1:=Qh (show Ah w1 w.heap.size ⟨0,0,0,0,0,[]⟩ (.slice none 0 0) by
   have h:=HM0.out
   unfold Ah at h ⊢
   rw [ht1.block _ (δ.1 h).1 (by omega)]
   exact h)
  have HDC:=Qh (manDecode_any l bv w1 hbo.brow HLX.out HN1.out)
  obtain⟨ob,bcap,rfl,_,_⟩:=Ac hbo
  obtain⟨r,hr⟩: ∃ r,r=Bk l:=⟨_,rfl⟩
  rw [←hr] at HDC HE2
  clear hr hbo hf1 ht1 HRD HSI HM0 HF0 HN0 HB0
  obtain⟨mr,e1⟩:=r
  unfold DecMP at HDC
  dsimp only at HE2 HDC
  go_wp2_with fail
  refine HDC.out.mono ?_
  rintro e w2 ⟨sv,rfl,hsg,h1v,hb2⟩
  have HF2:=Qh (HF1.out.below hb2)
  have HT2:=Qh (show Turned (fun i=>i=f) w w2 from HT1.out.trans (Turned.below hb2) fun i hi=> .inl hi)
  have HM2:=Qh (HM1.out.below hb2)
  have hsz1:=HT1.out.size
  have HSG2:=Qh (hsg.mono (A':=fun k=>w.heap.size+1≤k) (fun k hk=>by have:=(δ.1 HM1.out).1;omega))
  obtain⟨osg,scap,rfl,_,_,_⟩:=hsg
  have HMz:=Qh (A4 w2 zeroM (.slice none 0 0))
  have HBz:=Qh (below_alloc w2 (.cells (mnCs zeroM (.slice none 0 0)) 69))
  simp only [mnCs,zeroM] at HMz HBz
  clear hb2 HDC HF1 HN1 HM1 HT1
  go_wp2_with (with_reducible refine wpList_store_mn rfl (.tmp 9) (.tmp 31) rfl w2.heap.size ⟨0,0,0,0,0,[]⟩ mr (.slice none 0 0) (.slice osg mr.segs.length scap) rfl rfl HMz.out rfl ?_)
  intro w3 hw3
  have HB3:=Qh (show Below w2.heap.size w2 w3 by rw [hw3.out];exact Az HBz.out (ξ _) _)
  have HM3:=Qh (show Ah w3 w2.heap.size mr (.slice osg mr.segs.length scap) by rw [hw3.out];exact HMz.out.row)
  have HF3:=Qh (HF2.out.below HB3.out)
  have HT3:=Qh (show Turned (fun i=>i=f) w w3 from HT2.out.trans (Turned.below HB3.out) fun i hi=> .inl hi)
  have HM3':=Qh (HM2.out.below HB3.out)
  have HSG3:=Qh (HSG2.out.below HB3.out)
  clear hw3 HMz HBz HB3 HF2 HT2 HM2 HSG2
  rcases h1:(e1 != 0) with _ | _
  ·have HE3:=Qh (show loadM d=((mr,true,0),l.length) by rw [HE2.out,γ (by simpa using h1)])
   go_wp2_with (first | (with_reducible refine wpList_load_mn rfl (.tmp 9) rfl w2.heap.size mr (.slice osg mr.segs.length scap) rfl HM3.out ?_) | (with_reducible refine wpList_store_mn rfl (.tmp 2) (.tmp 37) rfl w.heap.size ⟨0,0,0,0,0,[]⟩ mr (.slice none 0 0) (.slice osg mr.segs.length scap) rfl rfl HM3'.out rfl ?_))
   intro w4 hw4
   have HM4:=Qh (show Ah w4 w.heap.size mr (.slice osg mr.segs.length scap) by rw [hw4.out];exact HM3'.out.row)
   have ht4:Turned (fun k=>k=w.heap.size) w3 w4:=by rw [hw4.out];exact Ak _ _ _
   have HF4:=Qh (HF3.out.turned ht4 fun k hk=>by have:=HLT.out k hk;omega)
   have HT4:=Qh (show Turned (fun i=>i=f) w w4 from HT3.out.trans ht4 fun i hi=> .inr (by omega))
   have HSG4:=Qh (HSG3.out.turned ht4 fun k hk=>by omega)
   clear hw4
   go_wp2
   exact π (v:= .tuple #[mnV mr (.slice osg mr.segs.length scap),.bool true,.int .i64 0]) (Ji rfl _ _ w.heap.size mr (.slice osg mr.segs.length scap) _ _ rfl rfl rfl HM4.out) rfl ⟨_,by rw [HE3.out],by rw [HE3.out];exact HSG4.out.mono fun k hk=>by omega,rfl,by rw [HE3.out];exact HF4.out,HT4.out⟩
  ·have HE3:=Qh (show loadM d=((zeroM,false,e1),l.length) by rw [HE2.out,ζ (by simpa using h1)])
   go_wp2_with (with_reducible refine wpList_store_mn rfl (.tmp 2) (.tmp 35) rfl w.heap.size ⟨0,0,0,0,0,[]⟩ zeroM (.slice none 0 0) (.slice none 0 0) rfl rfl HM3'.out rfl ?_)
   intro w4 hw4
   have HM4:=Qh (show Ah w4 w.heap.size zeroM (.slice none 0 0) by rw [hw4.out];exact HM3'.out.row)
   have ht4:Turned (fun k=>k=w.heap.size) w3 w4:=by rw [hw4.out];exact Ak _ _ _
   have HF4:=Qh (HF3.out.turned ht4 fun k hk=>by have:=HLT.out k hk;omega)
   have HT4:=Qh (show Turned (fun i=>i=f) w w4 from HT3.out.trans ht4 fun i hi=> .inr (by omega))
   clear hw4
   go_wp2
   exact π (v:= .tuple #[mnV zeroM (.slice none 0 0),.bool false,.int .i64 e1]) (Ji rfl _ _ w.heap.size zeroM (.slice none 0 0) _ _ rfl rfl rfl HM4.out) rfl ⟨_,by rw [HE3.out],by rw [HE3.out];exact B9 _ _,rfl,by rw [HE3.out];exact HF4.out,HT4.out⟩
 ·rw [sizeE he] at HSI
  have HE2:=Qh (show loadM d=if Aj d Am=51 then ((zeroM,false,0),0) else ((zeroM,false,Aj d Am),0) by rw [HE.out,filD_none he])
  have t1:(Aj d Am != 0)=true:=by simpa using he
  obtain⟨e0,he0⟩: ∃ e0,e0=Aj d Am:=⟨_,rfl⟩
  rw [←he0] at HSI HE2 t1
  rw [show Am=[109,97,110,105,102,101,115,116] from rfl] at HSI
  clear he0 he HE
  rcases h1:(e0==51) with _ | _
  ·have HE3:=Qh (show loadM d=((zeroM,false,e0),0) by rw [HE2.out,γ (by simpa using h1)])
   go_wp2_with fail
   refine HSI.out.mono ?_
   rintro e w0 ⟨rfl,rfl⟩
   go_wp2_with (with_reducible refine wpList_store_mn rfl (.tmp 2) (.tmp 20) rfl w.heap.size ⟨0,0,0,0,0,[]⟩ zeroM (.slice none 0 0) (.slice none 0 0) rfl rfl HM0.out rfl ?_)
   intro w4 hw4
   have HM4:=Qh (show Ah w4 w.heap.size zeroM (.slice none 0 0) by rw [hw4.out];exact HM0.out.row)
   have HB4:=Qh (show Below w.heap.size w w4 by rw [hw4.out];exact Az HB0.out (ξ _) _)
   have HF4:=Qh (show FsAt w4 f m d L by rw [hw4.out];exact HF0.out.turned (Ak _ _ _) fun k hk=>by have:=HLT.out k hk;omega)
   clear hw4
   go_wp2
   exact π (v:= .tuple #[mnV zeroM (.slice none 0 0),.bool false,.int .i64 e0]) (Ji rfl _ _ w.heap.size zeroM (.slice none 0 0) _ _ rfl rfl rfl HM4.out) rfl ⟨_,by rw [HE3.out],by rw [HE3.out];exact B9 _ _,rfl,by rw [HE3.out,Hm HF4.out.ok];exact HF4.out,Turned.below HB4.out⟩
  ·have HE3:=Qh (show loadM d=((zeroM,false,0),0) by rw [HE2.out,ζ (by simpa using h1)])
   go_wp2_with fail
   refine HSI.out.mono ?_
   rintro e w0 ⟨rfl,rfl⟩
   go_wp2_with (with_reducible refine wpList_store_mn rfl (.tmp 2) (.tmp 17) rfl w.heap.size ⟨0,0,0,0,0,[]⟩ zeroM (.slice none 0 0) (.slice none 0 0) rfl rfl HM0.out rfl ?_)
   intro w4 hw4
   have HM4:=Qh (show Ah w4 w.heap.size zeroM (.slice none 0 0) by rw [hw4.out];exact HM0.out.row)
   have HB4:=Qh (show Below w.heap.size w w4 by rw [hw4.out];exact Az HB0.out (ξ _) _)
   have HF4:=Qh (show FsAt w4 f m d L by rw [hw4.out];exact HF0.out.turned (Ak _ _ _) fun k hk=>by have:=HLT.out k hk;omega)
   clear hw4
   go_wp2
   exact π (v:= .tuple #[mnV zeroM (.slice none 0 0),.bool false,.int .i64 0]) (Ji rfl _ _ w.heap.size zeroM (.slice none 0 0) _ _ rfl rfl rfl HM4.out) rfl ⟨_,by rw [HE3.out],by rw [HE3.out];exact B9 _ _,rfl,by rw [HE3.out,Hm HF4.out.ok];exact HF4.out,Turned.below HB4.out⟩
def cuCs (v:Value) (p:Nat):Array Value:= #[v,.int .i64 (p:Int)]
def Cc (w:World) (c:Nat) (v:Value) (p:Nat):Prop:=w.heap[c]? =some (.cells (cuCs v p) 298 (0,0))
theorem Cc.below {w w':World} {c p:Nat} {v:Value} (h:Cc w c v p) (hb:Below w.heap.size w w'):Cc w' c v p:=by
 unfold Cc at *;rw [hb.block c (δ.1 h).1];exact h
theorem Cc.lt {w:World} {c p:Nat} {v:Value} (h:Cc w c v p):c<w.heap.size:=(δ.1 h).1
theorem Cc.c0 {w:World} {c p:Nat} {v:Value} (h:Cc w c v p):w.cell? ⟨c,0,none⟩=some v:=by unfold Cc at h;simp [World.cell?,h,cuCs]
theorem Cc.c1 {w:World} {c p:Nat} {v:Value} (h:Cc w c v p):w.cell? ⟨c,1,none⟩=some (.int .i64 (p:Int)):=by unfold Cc at h;simp [World.cell?,h,cuCs]
theorem Cc.free {w:World} {c p:Nat} {v:Value} (h:Cc w c v p) (j:Nat):w.frozen? ⟨c,j,none⟩=false:=by unfold Cc at h;simp [World.frozen?,h]
theorem Cc.set {w:World} {c p q:Nat} {v:Value} (h:Cc w c v p):Cc (w.setCell ⟨c,1,none⟩ (.int .i64 (q:Int))) c v q:=by
 have e:(cuCs v p).setIfInBounds 1 (.int .i64 (q:Int))=cuCs v q:=rfl
 unfold Cc at h ⊢
 rw [←e]
 simp only [World.setCell]
 rw [Array.getElem?_modify]
 simp [h]
def Panics (n:Int) (e:Ending):Prop:=e= .panicked [{v:= .iface 28 (.int .i64 n),recovered:=false}]
def NumPost (w:World) (c:Nat) (v:Value) (p:Nat) (r:Nat×Nat×Int) (e:Ending) (w':World):Prop:=
 (r.2.2=0→e= .returned (.int .u64 (r.1:Int))∧Cc w' c v (p+r.2.1))∧(¬ r.2.2=0→Panics r.2.2 e∧Cc w' c v p)∧Turned (fun k=>k=c) w w'
theorem cuNum_any (l:List UInt8) (v:Value) (w:World) (c p:Nat) (hC:Cc w c v p) (hv:A2 w v l) (hp:p≤l.length) (hl:l.length≤1048576):
  Calls Tryz.prog 191 #[.pointer (some ⟨c,0,none⟩)] w (NumPost w c v p (decV (l.drop p))):=by
 have HC:=Qh hC
 have HV:=Qh hv
 have HVN:=Qh (@Gn (l.drop p))
 obtain⟨oa,cap,rfl,hlc,_⟩:=hv
 have hdl:(l.drop p).length=l.length - p:=Ξ
 have HB1:=Qh (show A2 w (sliced oa p l.length cap 1) (l.drop p) by
  have:=Gl (lo:=p) (hi:=l.length) (mx:=cap) HV.out hp (ξ _) hlc
  rwa [List.take_length] at this)
 have hcut: ∀ W,(Instr.sliceAt 39 (.slice oa l.length cap) (some (.int .i64 (p:Int))) none none).run Tryz.prog W= .ok (sliced oa p l.length cap 1) W:=fun W=>by
  rw [Fl];exact J8 oa l.length cap p hp W
 obtain⟨cv,hcv⟩: ∃ cv,cv=sliced oa p l.length cap 1:=⟨_,rfl⟩
 rw [←hcv] at HB1 hcut
 obtain⟨r,hr⟩: ∃ r,r=decV (l.drop p):=⟨_,rfl⟩
 have HVD:=Qh (fun W (hb:A2 W cv (l.drop p))=>F2 (l.drop p) cv W hb (by omega))
 rw [hdl] at HVN
 rw [←hr] at HVD HVN
 rw [←hr]
 clear hr hcv hC hdl
 obtain⟨u,n,e0⟩:=r
 unfold VarPost at HVD
 dsimp only at HVD HVN
 go_enter Tryz.func191,Tryz.ntmps191
 go_wp2_with fail
 refine ω (S:=fun w'=>Below w.heap.size w w') (by kernel_rfl) (below_drewN' w 1) (fun hHeld=> ?_)
 have FX1:=Qh (fun(wF:World) (hSw:(fun w'=>Below w.heap.size w w') wF)=>And.intro ((cell_later hSw HC.out.c0)) ((cell_later hSw HC.out.c1)))
 refine tf FX1 0 rfl ?_
 refine tf FX1 1 rfl ?_
 refine tf FX1 2 rfl ?_
 refine tf FX1 3 rfl ?_
 refine tf FX1 4 rfl ?_
 refine tf FX1 5 rfl ?_
 refine tf FX1 6 rfl ?_
 refine tf FX1 7 rfl ?_
 clear FX1
 refine tq 8 rfl ?_
 refine Rd 9 rfl fun K hK=> ?_
 go_simp
 go_at_call 76
 refine(HVD.out _ (HB1.out.below hHeld)).mono ?_
 rintro e w1 ⟨rfl,hb1⟩
 have HB:=Qh (Below.next hHeld hb1)
 clear hb1 hHeld
 go_wp2_with fail
 refine hK.out _ _ HB.out (fun hHeld=> ?_)
 clear hK K
 refine tq 10 rfl ?_
 refine tq 11 rfl ?_
 refine tq 12 rfl ?_
 refine tq 13 rfl ?_
 refine tq 14 rfl ?_
 refine tq 15 rfl ?_
 refine tq 16 rfl ?_
 refine Λ (by kernel_rfl) ?_ _
 have HC1:=Qh (HC.out.below HB.out)
 clear hHeld HVD hcut
 rcases he:(e0 != 0) with _ | _
 ·have he0:e0=0:=by simpa using he
  have h2:=HVN.out he0
  have hw:IntKind.i64.wrap ((p:Int)+(n:Int))=((p+n:Nat):Int):=by rw [κ];omega
  have c1:=HC1.out.c1
  have f1:=HC1.out.free 1
  have HE:=Qh he0
  clear he0 HVN h2
  go_wp2
  refine π (v:= .int .u64 (u:Int)) (by simp [results,Tryz.results191,go_sem]) rfl ⟨fun _=>⟨rfl,HC1.out.set⟩,fun h=>absurd HE.out h,?_⟩
  exact(Turned.below HB.out).trans (Turned.setCell (S:=fun k=>k=c) _ ⟨c,1,none⟩ _ rfl) fun i hi=> .inl hi
 ·have he0: ¬ e0=0:=by simpa using he
  have HE:=Qh he0
  clear he0 HVN
  go_wp2
  exact⟨rfl,fun h=>absurd h HE.out,fun _=>⟨rfl,HC1.out⟩,Turned.below HB.out⟩
structure Fld where
 tag:Nat
 text:Bool
 num:Nat
 data:List UInt8
def fld0:Fld:=⟨0,false,0,[]⟩
def fdCs (f:Fld) (bv:Value):Array Value:= #[.int .i64 (f.tag:Int),.bool f.text,.int .u64 (f.num:Int),bv]
@[reducible] def fdV (f : Fld) (bv : Value) : Value := .agg #[.int .i64 (f.tag : Int), .bool f.text, .int .u64 (f.num : Int), bv]
def A1 (w:World) (g:Nat) (f:Fld) (bv:Value):Prop:=w.heap[g]? =some (.cells (fdCs f bv) 257 (0,0))
theorem A1.lt {w:World} {g:Nat} {f:Fld} {bv:Value} (h:A1 w g f bv):g<w.heap.size:=(δ.1 h).1
theorem A1.below {w w':World} {g:Nat} {f:Fld} {bv:Value} (h:A1 w g f bv) (hb:Below w.heap.size w w'):A1 w' g f bv:=by
 unfold A1 at *;rw [hb.block g (δ.1 h).1];exact h
theorem A1.turned {S:Nat→Prop} {w w':World} {g:Nat} {f:Fld} {bv:Value} (h:A1 w g f bv) (ht:Turned S w w') (hS: ¬ S g):A1 w' g f bv:=by
 unfold A1 at *;rw [ht.block g (δ.1 h).1 hS];exact h
theorem A1.cell {w:World} {g:Nat} {f:Fld} {bv:Value} (h:A1 w g f bv) (j:Nat):w.cell? ⟨g,j,none⟩=(fdCs f bv)[j]? :=by
 unfold A1 at h;simp [World.cell?,h]
theorem A1.c0 {w:World} {g:Nat} {f:Fld} {bv:Value} (h:A1 w g f bv):w.cell? ⟨g,0,none⟩=some (.int .i64 (f.tag:Int)):=h.cell 0
theorem A1.c1 {w:World} {g:Nat} {f:Fld} {bv:Value} (h:A1 w g f bv):w.cell? ⟨g,1,none⟩=some (.bool f.text):=h.cell 1
theorem A1.c2 {w:World} {g:Nat} {f:Fld} {bv:Value} (h:A1 w g f bv):w.cell? ⟨g,2,none⟩=some (.int .u64 (f.num:Int)):=h.cell 2
theorem A1.c3 {w:World} {g:Nat} {f:Fld} {bv:Value} (h:A1 w g f bv):w.cell? ⟨g,3,none⟩=some bv:=h.cell 3
theorem A1.free {w:World} {g:Nat} {f:Fld} {bv:Value} (h:A1 w g f bv) (j:Nat):w.frozen? ⟨g,j,none⟩=false:=by unfold A1 at h;simp [World.frozen?,h]
theorem A1.set {w:World} {g j:Nat} {f f':Fld} {bv bv' x:Value} (h:A1 w g f bv) (e:(fdCs f bv).setIfInBounds j x=fdCs f' bv'):A1 (w.setCell ⟨g,j,none⟩ x) g f' bv':=by
 unfold A1 at h ⊢
 rw [←e]
 simp only [World.setCell]
 rw [Array.getElem?_modify]
 simp [h]
theorem A1.other {w:World} {g k j:Nat} {f:Fld} {bv x:Value} (h:A1 w g f bv) (hn:g≠k):A1 (w.setCell ⟨k,j,none⟩ x) g f bv:=by
 unfold A1 at h ⊢
 simp only [World.setCell]
 rw [Array.getElem?_modify,γ (fun e=>hn e.symm)]
 exact h
theorem Cp (w:World) (f:Fld) (bv:Value):A1 (w.alloc (.cells (fdCs f bv) 257)) w.heap.size f bv:=σ w _
theorem fdInfo:(Tryz.prog.info? 257).map (·.size)=some 4:=by kernel_rfl
theorem fdCs_all (f:Fld) (bv:Value) (h:bv.oneCell'=true):(fdCs f bv).all (·.oneCell')=true:=
 Array.all_eq_true_iff_forall_mem.2 (by
  intro u hu
  simp only [fdCs,List.mem_toArray,Γ,List.not_mem_nil,or_false] at hu
  rcases hu with rfl | rfl | rfl | rfl
  ·rfl
  ·rfl
  ·rfl
  ·exact h)
theorem A1.row {w:World} {g:Nat} {f f':Fld} {bv bv':Value} (h:A1 w g f bv):A1 (w.setRow g (fdCs f' bv')) g f' bv':=by
 exact setRow_heap w g _ _ _ _ h
theorem wpList_load_fd {ops:Array Oper} {rest:List Oper} {o:Oper} {a:Act} {w:World} {Q:Exit→Act→World→Prop} (hgd:o.guard=none) (x:Operand) (ho:o.op= .load 257 x)
  (g:Nat) (f:Fld) (bv:Value) (hx:a.eval x= .pointer (some ⟨g,0,none⟩)) (hE:A1 w g f bv)
  (h:wpList Tryz.prog ops Q rest (a.put o.dst (fdV f bv)) w):wpList Tryz.prog ops Q (o::rest) a w:=
 wpList_load_row hgd 257 x ho g hx 257 (fdCs f bv) (0,0) _ hE Tryz.underlying257 rfl fdInfo h
theorem wpList_store_fd {ops:Array Oper} {rest:List Oper} {o:Oper} {a:Act} {w:World} {Q:Exit→Act→World→Prop} (hgd:o.guard=none) (x y:Operand) (ho:o.op= .store 257 x y)
  (g:Nat) (f f':Fld) (bv bv':Value) (hx:a.eval x= .pointer (some ⟨g,0,none⟩)) (hy:a.eval y=fdV f' bv') (hE:A1 w g f bv) (h1:bv'.oneCell'=true)
  (h: ∀ W,Hid (W=w.setRow g (fdCs f' bv'))→wpList Tryz.prog ops Q rest (a.put o.dst undef) W):wpList Tryz.prog ops Q (o::rest) a w:=
 wpList_store_row hgd 257 x y ho g (fdCs f' bv') hx hy 257 (fdCs f bv) hE fdInfo rfl (fdCs_all f' bv' h1) (h _ (Qh rfl))
theorem run_load_fd {w:World} {g:Nat} {f:Fld} {bv:Value} (hE:A1 w g f bv):(loadVar 257 ⟨g,0,none⟩).run Tryz.prog w= .ok (fdV f bv) w:=
 run_loadVar_row (P:=Tryz.prog) w g 257 257 (fdCs f bv) (0,0) _ hE Tryz.underlying257 rfl fdInfo
theorem Ho {fn:Func} {p:Tmp} (h:fn.results= #[.cell p 257]) (tmps:Array Value) (w:World) (g:Nat) (f:Fld) (bv:Value)
  (hp:tmps.getD p undef= .pointer (some ⟨g,0,none⟩)) (hE:A1 w g f bv):(results fn tmps).run Tryz.prog w= .ok (fdV f bv) w:=by
 have hl:=run_load_fd hE
 have hp':tmps[p]?.getD undef= .pointer (some ⟨g,0,none⟩):=by simpa using hp
 simp [results,h,hp',asAddr,hl]
theorem half_wrap {k:Nat} (h:k<64):wrap64 (IntKind.u64.wrap ((k:Int) / 2))=((k / 2:Nat):Int):=by
 obtain⟨t,ht⟩: ∃ t,t=k / 2:=⟨_,rfl⟩
 have h1:((k:Int) / 2)=(t:Int):=by omega
 have h2:t<32:=by omega
 rw [h1,←ht,IntKind.wrap_u64,Int.emod_eq_of_lt (by omega) (by omega)]
 clear h1 ht h
 unfold wrap64
 omega
theorem cu_row' {w w':World} {c p n0 cap0:Nat} {oa0:Option Addr} {v:Value} {l:List UInt8} (h:Cc w c (.slice oa0 n0 cap0) p) (hv:A2 w v l) (ht:Turned (fun k=>k=c) w w'):A2 w' v l:=by
 obtain⟨oa,cap,rfl,hlc,hc⟩:=hv
 refine⟨oa,cap,rfl,hlc,fun hn=> ?_⟩
 obtain⟨b,off,e,hcell⟩:=hc hn
 refine⟨b,off,e,fun i x hx=> ?_⟩
 refine ht.cell (hcell i x hx) fun hb=> ?_
 have hb':b=c:=hb
 subst hb'
 have h1:=hcell i x hx
 unfold Cc at h
 simp only [World.cell?,h,cuCs] at h1
 rcases hj:off+i with _ | _ | k
 ·rw [hj] at h1;simp at h1
 ·rw [hj] at h1;simp at h1
 ·rw [hj] at h1;simp at h1
theorem cu_row {w w':World} {c p:Nat} {v:Value} {l:List UInt8} (h:Cc w c v p) (hv:A2 w v l) (ht:Turned (fun k=>k=c) w w'):A2 w' v l:=by
 obtain⟨oa,cap,rfl,_,_⟩:=id hv
 exact cu_row' h hv ht
def Df (b:List UInt8) (p last:Nat):Int×Fld×Nat:=
 if (decV (b.drop p)).2.2≠0 then ((decV (b.drop p)).2.2,fld0,0)
 else if 63<(decV (b.drop p)).1∨(decV (b.drop p)).1 / 2=0 then (20,fld0,0)
 else if (decV (b.drop p)).1 / 2≤last then (21,fld0,0)
 else
  let q:=p+(decV (b.drop p)).2.1
  let k:=(decV (b.drop p)).1
  if (decV (b.drop q)).2.2≠0 then ((decV (b.drop q)).2.2,fld0,0)
  else
   let u:=(decV (b.drop q)).1
   let s:=q+(decV (b.drop q)).2.1
   if u=0 then (22,fld0,0)
   else if k % 2=0 then (0,⟨k / 2,false,u,[]⟩,s)
   else if 200<u then (23,fld0,0)
   else if b.length - s<u then (10,fld0,0)
   else (0,⟨k / 2,true,0,(b.drop s).take u⟩,s+u)
def FldPost (w:World) (c:Nat) (v:Value) (r:Int×Fld×Nat) (e:Ending) (w':World):Prop:=
 (r.1=0→ ∃ bv,e= .returned (fdV r.2.1 bv)∧OwnB w' w.heap.size bv r.2.1.data∧Cc w' c v r.2.2)∧(¬ r.1=0→Panics r.1 e)∧Turned (fun k=>k=c) w w'
theorem cuField_any (l:List UInt8) (v:Value) (w:World) (c p last:Nat) (hC:Cc w c v p) (hv:A2 w v l) (hp:p≤l.length) (hl:l.length≤1048576):
  Calls Tryz.prog 183 #[.pointer (some ⟨c,0,none⟩),.int .i64 (last:Int)] w (FldPost w c v (Df l p last)):=by
 have HB0:=Qh (below_alloc w (.cells #[.int .i64 0,.bool false,.int .u64 0,.slice none 0 0] 257))
 have HR0:=Qh (show A1 (w.alloc (.cells #[.int .i64 0,.bool false,.int .u64 0,.slice none 0 0] 257)) w.heap.size fld0 (.slice none 0 0) from Cp w fld0 (.slice none 0 0))
 have HC0:=Qh (hC.below HB0.out)
 have HV0:=Qh (hv.below HB0.out)
 have hcl:=hC.lt
 have HCW:=Qh hC
 have HVW:=Qh hv
 have HNM:=Qh (cuNum_any l v _ c p HC0.out HV0.out hp hl)
 have HE:=Qh (show Df l p last=if (decV (l.drop p)).2.2≠0 then ((decV (l.drop p)).2.2,fld0,0)
 else if 63<(decV (l.drop p)).1∨(decV (l.drop p)).1 / 2=0 then (20,fld0,0)
 else if (decV (l.drop p)).1 / 2≤last then (21,fld0,0)
 else
  let q:=p+(decV (l.drop p)).2.1
  let k:=(decV (l.drop p)).1
  if (decV (l.drop q)).2.2≠0 then ((decV (l.drop q)).2.2,fld0,0)
  else
   let u:=(decV (l.drop q)).1
   let s:=q+(decV (l.drop q)).2.1
   if u=0 then (22,fld0,0)
   else if k % 2=0 then (0,⟨k / 2,false,u,[]⟩,s)
   else if 200<u then (23,fld0,0)
   else if l.length - s<u then (10,fld0,0)
   else (0,⟨k / 2,true,0,(l.drop s).take u⟩,s+u) from rfl)
 have HVN:=Qh (@Gn (l.drop p))
 have hdl:(l.drop p).length=l.length - p:=Ξ
 rw [hdl] at HVN
 obtain⟨r,hr⟩: ∃ r,r=decV (l.drop p):=⟨_,rfl⟩
 rw [←hr] at HNM HE HVN
 clear hr hC hv hdl
 obtain⟨k,n,e0⟩:=r
 unfold NumPost at HNM
 dsimp only at HNM HE HVN
 go_enter Tryz.func183,Tryz.ntmps183
 go_wp2_with fail
 refine HNM.out.mono ?_
 rintro e w1 ⟨h1,h2,ht⟩
 by_cases he:e0=0
 case neg=>
  obtain⟨rfl,hc1⟩:=h2 he
  have HT:=Qh (show Turned (fun k=>k=c) w w1 from(Turned.below HB0.out).trans ht fun i hi=> .inl hi)
  have HE2:=Qh (show Df l p last=(e0,fld0,0) by rw [HE.out,ζ he])
  have HNE:=Qh he
  clear he h1 h2 ht
  go_wp2
  exact⟨rfl,fun h=>absurd (by rw [HE2.out] at h;exact h) HNE.out,fun _=>by rw [HE2.out];rfl,HT.out⟩
 obtain⟨rfl,hc1⟩:=h1 he
 have HT:=Qh (show Turned (fun k=>k=c) w w1 from(Turned.below HB0.out).trans ht fun i hi=> .inl hi)
 have HC1:=Qh hc1
 have HV1:=Qh (cu_row HC0.out HV0.out ht)
 have HR1:=Qh (HR0.out.turned ht (by omega))
 have hn:=HVN.out he
 clear h1 h2 ht hc1 HNM HC0 HV0 HB0 HR0 HVN
 rcases hk:decide ((63:Int)<(k:Int)) with _ | _
 case true=>
  have HE2:=Qh (show Df l p last=(20,fld0,0) by rw [HE.out,γ (fun h=>h he),ζ (.inl (by simp at hk;omega))])
  clear he
  go_wp2
  exact⟨rfl,fun h=>absurd (by rw [HE2.out] at h;exact h) (by decide),fun _=>by rw [HE2.out];rfl,HT.out⟩
 have hk63:k≤63:=by simp at hk;omega
 have HK63:=Qh hk63
 obtain⟨tg,htg⟩: ∃ tg,tg=k / 2:=⟨_,rfl⟩
 have HTG:=Qh htg
 have hq:wrap64 (IntKind.u64.wrap ((k:Int) / 2))=(tg:Int):=by
  rw [htg];exact half_wrap (Nat.lt_succ_of_le HK63.out)
 have HE1:=Qh (show Df l p last=if tg=0 then (20,fld0,0) else if tg≤last then (21,fld0,0)
 else
  if (decV (l.drop (p+n))).2.2≠0 then ((decV (l.drop (p+n))).2.2,fld0,0)
  else
   if (decV (l.drop (p+n))).1=0 then (22,fld0,0)
   else if k % 2=0 then (0,⟨tg,false,(decV (l.drop (p+n))).1,[]⟩,p+n+(decV (l.drop (p+n))).2.1)
   else if 200<(decV (l.drop (p+n))).1 then (23,fld0,0)
   else if l.length - (p+n+(decV (l.drop (p+n))).2.1)<(decV (l.drop (p+n))).1 then (10,fld0,0)
   else (0,⟨tg,true,0,(l.drop (p+n+(decV (l.drop (p+n))).2.1)).take (decV (l.drop (p+n))).1⟩,p+n+(decV (l.drop (p+n))).2.1+(decV (l.drop (p+n))).1) by
  rw [HE.out,γ (fun h=>h he),htg]
  by_cases h0:k / 2=0
  ·rw [ζ (.inr h0),ζ h0]
  ·rw [γ (by rintro(h | h)<;>(clear hq;omega)),γ h0])
 clear htg hk63 HE
 rcases h1:((tg:Int)==0) with _ | _
 case true=>
  have HE2:=Qh (show Df l p last=(20,fld0,0) by rw [HE1.out,ζ (by simp at h1;clear hq;omega)])
  clear he
  rcases hb:((k:Int) % 2==1) with _ | _
  ·go_wp2
   exact⟨rfl,fun h=>absurd (by rw [HE2.out] at h;exact h) (by decide),fun _=>by rw [HE2.out];rfl,HT.out.trans (Turned.below (below_alloc _ _)) fun i hi=> .inl hi⟩
  ·go_wp2
   exact⟨rfl,fun h=>absurd (by rw [HE2.out] at h;exact h) (by decide),fun _=>by rw [HE2.out];rfl,HT.out.trans (Turned.below (below_alloc _ _)) fun i hi=> .inl hi⟩
 rcases h2:decide (tg≤last) with _ | _
 case true=>
  have HE2:=Qh (show Df l p last=(21,fld0,0) by rw [HE1.out,γ (by simp at h1;clear hq;omega),ζ (by simp at h2;clear hq;omega)])
  clear he
  rcases hb:((k:Int) % 2==1) with _ | _
  ·go_wp2
   exact⟨rfl,fun h=>absurd (by rw [HE2.out] at h;exact h) (by decide),fun _=>by rw [HE2.out];rfl,HT.out.trans (Turned.below (below_alloc _ _)) fun i hi=> .inl hi⟩
  ·go_wp2
   exact⟨rfl,fun h=>absurd (by rw [HE2.out] at h;exact h) (by decide),fun _=>by rw [HE2.out];rfl,HT.out.trans (Turned.below (below_alloc _ _)) fun i hi=> .inl hi⟩
 have HE2:=Qh (show Df l p last=if (decV (l.drop (p+n))).2.2≠0 then ((decV (l.drop (p+n))).2.2,fld0,0)
  else
   if (decV (l.drop (p+n))).1=0 then (22,fld0,0)
   else if k % 2=0 then (0,⟨tg,false,(decV (l.drop (p+n))).1,[]⟩,p+n+(decV (l.drop (p+n))).2.1)
   else if 200<(decV (l.drop (p+n))).1 then (23,fld0,0)
   else if l.length - (p+n+(decV (l.drop (p+n))).2.1)<(decV (l.drop (p+n))).1 then (10,fld0,0)
   else (0,⟨tg,true,0,(l.drop (p+n+(decV (l.drop (p+n))).2.1)).take (decV (l.drop (p+n))).1⟩,p+n+(decV (l.drop (p+n))).2.1+(decV (l.drop (p+n))).1) by rw [HE1.out,γ (by simp at h1;clear hq;omega),γ (by simp at h2;clear hq;omega)])
 clear HE1
 have hqq:p+n≤l.length:=by clear hq;omega
 obtain⟨q,hqe⟩: ∃ q,q=p+n:=⟨_,rfl⟩
 rw [←hqe] at HE2 hqq HC1
 have HVN:=Qh (@Gn (l.drop q))
 have hdl:(l.drop q).length=l.length - q:=Ξ
 rw [hdl] at HVN
 have HNM:=Qh (fun W (hC:Cc W c v q) (hv:A2 W v l)=>cuNum_any l v W c q hC hv hqq hl)
 have HLT:=Qh (decV_lt (l.drop q))
 obtain⟨r,hr⟩: ∃ r,r=decV (l.drop q):=⟨_,rfl⟩
 rw [←hr] at HNM HE2 HVN HLT
 clear hr hdl hqe hn hp he
 obtain⟨u,m,e1⟩:=r
 unfold NumPost at HNM
 dsimp only at HNM HE2 HVN HLT
 have hw1:w.heap.size<w1.heap.size:=HR1.out.lt
 have hcl1:c<w1.heap.size:=HC1.out.lt
 rcases hb:((k:Int) % 2==1) with _ | _
 ·
  have HE3:=Qh (show Df l p last=if e1≠0 then (e1,fld0,0) else if u=0 then (22,fld0,0) else (0,⟨tg,false,u,[]⟩,q+m) by rw [HE2.out,ζ (show k % 2=0 by simp at hb;clear hq;omega)])
  have HBA:=Qh (below_alloc w1 (.cells #[.int .i64 (tg:Int),.bool false,.int .u64 0,.slice none 0 0] 257))
  have HFA:=Qh (show A1 (w1.alloc (.cells #[.int .i64 (tg:Int),.bool false,.int .u64 0,.slice none 0 0] 257)) w1.heap.size ⟨tg,false,0,[]⟩ (.slice none 0 0) from Cp w1 ⟨tg,false,0,[]⟩ (.slice none 0 0))
  have HN2:=Qh (HNM.out _ (HC1.out.below HBA.out) (HV1.out.below HBA.out))
  clear HE2 HNM
  go_wp2_with fail
  refine HN2.out.mono ?_
  rintro e w2 ⟨g1,g2,ht⟩
  have HT2:=Qh (show Turned (fun k=>k=c) w w2 from(HT.out.trans (Turned.below HBA.out) fun i hi=> .inl hi).trans ht fun i hi=> .inl hi)
  have HR2:=Qh ((HR1.out.below HBA.out).turned ht (by clear hq;omega))
  have HF2:=Qh (HFA.out.turned ht (by clear hq;omega))
  by_cases he1:e1=0
  case neg=>
   obtain⟨rfl,hc2⟩:=g2 he1
   have HE4:=Qh (show Df l p last=(e1,fld0,0) by rw [HE3.out,ζ he1])
   have HNE:=Qh he1
   clear he1 g1 g2 ht
   go_wp2
   exact⟨rfl,fun h=>absurd (by rw [HE4.out] at h;exact h) HNE.out,fun _=>by rw [HE4.out];rfl,HT2.out⟩
  obtain⟨rfl,hc2⟩:=g1 he1
  have HC2:=Qh hc2
  clear g1 g2 ht hc2 HBA HFA HN2
  rcases hu:((u:Int)==0) with _ | _
  case true=>
   have HE4:=Qh (show Df l p last=(22,fld0,0) by rw [HE3.out,γ (fun h=>h he1),ζ (by simp at hu;clear hq;omega)])
   clear he1
   go_wp2
   exact⟨rfl,fun h=>absurd (by rw [HE4.out] at h;exact h) (by decide),fun _=>by rw [HE4.out];rfl,HT2.out⟩
  have HE4:=Qh (show Df l p last=(0,⟨tg,false,u,[]⟩,q+m) by rw [HE3.out,γ (fun h=>h he1),γ (by simp at hu;clear hq;omega)])
  have d1:=HF2.out.c1
  have d2:=HF2.out.c2
  have f2:=HF2.out.free 2
  have HF3:=Qh (show A1 (w2.setCell ⟨w1.heap.size,2,none⟩ (.int .u64 (u:Int))) w1.heap.size ⟨tg,false,u,[]⟩ (.slice none 0 0) from HF2.out.set rfl)
  have HR3:=Qh (show A1 (w2.setCell ⟨w1.heap.size,2,none⟩ (.int .u64 (u:Int))) w.heap.size fld0 (.slice none 0 0) from HR2.out.other (by clear hq;omega))
  clear he1
  go_wp2_with (first | (with_reducible refine wpList_load_fd rfl (.tmp 6) rfl w1.heap.size ⟨tg,false,u,[]⟩ (.slice none 0 0) rfl HF3.out ?_) | (with_reducible refine wpList_store_fd rfl (.tmp 4) (.tmp 41) rfl w.heap.size fld0 ⟨tg,false,u,[]⟩ (.slice none 0 0) (.slice none 0 0) rfl rfl HR3.out rfl ?_))
  intro w4 hw4
  have HR4:=Qh (show A1 w4 w.heap.size ⟨tg,false,u,[]⟩ (.slice none 0 0) by rw [hw4.out];exact HR3.out.row)
  have HT4:=Qh (show Turned (fun k=>k=w1.heap.size∨k=w.heap.size) w2 w4 by rw [hw4.out];exact(Turned.setCell (S:=fun k=>k=w1.heap.size∨k=w.heap.size) _ ⟨w1.heap.size,2,none⟩ _ (.inl rfl)).trans (Ak _ _ _) fun i hi=> .inl (.inr hi))
  have HC4:=Qh (show Cc w4 c v (q+m) by
   have h:=HC2.out
   unfold Cc at h ⊢
   rw [HT4.out.block _ (δ.1 h).1 (by clear hq;omega)]
   exact h)
  clear hw4
  go_wp2
  exact π (v:=fdV ⟨tg,false,u,[]⟩ (.slice none 0 0)) (Ho rfl _ _ w.heap.size _ _ rfl HR4.out) rfl ⟨fun _=>by rw [HE4.out];exact⟨_,rfl,OwnB.nil _ _,HC4.out⟩,fun h=>absurd (by rw [HE4.out]) h,HT2.out.trans HT4.out fun i hi=> .inr (by rcases hi with h | h<;>(clear hq;omega))⟩
 ·
  have HE3:=Qh (show Df l p last=if e1≠0 then (e1,fld0,0) else if u=0 then (22,fld0,0) else if 200<u then (23,fld0,0) else if l.length - (q+m)<u then (10,fld0,0) else (0,⟨tg,true,0,(l.drop (q+m)).take u⟩,q+m+u) by rw [HE2.out,γ (show ¬ k % 2=0 by simp at hb;clear hq;omega)])
  have HBA:=Qh (below_alloc w1 (.cells #[.int .i64 (tg:Int),.bool true,.int .u64 0,.slice none 0 0] 257))
  have HFA:=Qh (show A1 (w1.alloc (.cells #[.int .i64 (tg:Int),.bool true,.int .u64 0,.slice none 0 0] 257)) w1.heap.size ⟨tg,true,0,[]⟩ (.slice none 0 0) from Cp w1 ⟨tg,true,0,[]⟩ (.slice none 0 0))
  have HN2:=Qh (HNM.out _ (HC1.out.below HBA.out) (HV1.out.below HBA.out))
  have HCA:=Qh (HC1.out.below HBA.out)
  have HVA:=Qh (HV1.out.below HBA.out)
  clear HE2 HNM
  go_wp2_with fail
  refine HN2.out.mono ?_
  rintro e w2 ⟨g1,g2,ht⟩
  have HT2:=Qh (show Turned (fun k=>k=c) w w2 from(HT.out.trans (Turned.below HBA.out) fun i hi=> .inl hi).trans ht fun i hi=> .inl hi)
  have HR2:=Qh ((HR1.out.below HBA.out).turned ht (by clear hq;omega))
  have HF2:=Qh (HFA.out.turned ht (by clear hq;omega))
  have HV2:=Qh (cu_row HCA.out HVA.out ht)
  by_cases he1:e1=0
  case neg=>
   obtain⟨rfl,hc2⟩:=g2 he1
   have HE4:=Qh (show Df l p last=(e1,fld0,0) by rw [HE3.out,ζ he1])
   have HNE:=Qh he1
   clear he1 g1 g2 ht
   go_wp2
   exact⟨rfl,fun h=>absurd (by rw [HE4.out] at h;exact h) HNE.out,fun _=>by rw [HE4.out];rfl,HT2.out⟩
  obtain⟨rfl,hc2⟩:=g1 he1
  have hm:=HVN.out he1
  obtain⟨s,hs⟩: ∃ s,s=q+m:=⟨_,rfl⟩
  have hsl:s≤l.length:=by clear hq;omega
  rw [←hs] at HE3 hc2
  have HC2:=Qh hc2
  clear g1 g2 ht hc2 HBA HFA HN2 HCA HVA hs hm HVN HTG HK63 hq
  rcases hu:((u:Int)==0) with _ | _
  case true=>
   have HE4:=Qh (show Df l p last=(22,fld0,0) by rw [HE3.out,γ (fun h=>h he1),ζ (by simp at hu;omega)])
   clear he1
   have d1:=HF2.out.c1
   go_wp2
   exact⟨rfl,fun h=>absurd (by rw [HE4.out] at h;exact h) (by decide),fun _=>by rw [HE4.out];rfl,HT2.out⟩
  have HE4:=Qh (show Df l p last=if 200<u then (23,fld0,0) else if l.length - s<u then (10,fld0,0) else (0,⟨tg,true,0,(l.drop s).take u⟩,s+u) by rw [HE3.out,γ (fun h=>h he1),γ (by simp at hu;omega)])
  clear he1 HE3
  have d1:=HF2.out.c1
  rcases h200:decide ((200:Int)<(u:Int)) with _ | _
  case true=>
   have HE5:=Qh (show Df l p last=(23,fld0,0) by rw [HE4.out,ζ (by simp at h200;omega)])
   go_wp2
   exact⟨rfl,fun h=>absurd (by rw [HE5.out] at h;exact h) (by decide),fun _=>by rw [HE5.out];rfl,HT2.out⟩
  have hu200:u≤200:=by simp at h200;omega
  have HE5:=Qh (show Df l p last=if l.length - s<u then (10,fld0,0) else (0,⟨tg,true,0,(l.drop s).take u⟩,s+u) by rw [HE4.out,γ (by simp at h200;omega)])
  obtain⟨oa,cap,hv,hlc,_⟩:=HV2.out
  subst hv
  have c0:=HC2.out.c0
  have c1:=HC2.out.c1
  obtain⟨rm,hrm⟩: ∃ rm,rm=l.length - s:=⟨_,rfl⟩
  rw [←hrm] at HE5
  have hw1:IntKind.i64.wrap ((l.length:Int) - (s:Int))=(rm:Int):=by rw [κ];omega
  have hw2:IntKind.u64.wrap (rm:Int)=(rm:Int):=by rw [IntKind.wrap_u64,Int.emod_eq_of_lt (by omega) (by omega)]
  rcases hsh:decide (rm<u) with _ | _
  case true=>
   have HE6:=Qh (show Df l p last=(10,fld0,0) by rw [HE5.out,ζ (by simpa using hsh)])
   clear hrm
   go_wp2_with fail
   go_quiet (fail)
   go_wp2
   exact⟨rfl,fun h=>absurd (by rw [HE6.out] at h;exact h) (by decide),fun _=>by rw [HE6.out];rfl,HT2.out.trans (Turned.below (below_drewN' _ _)) fun i hi=> .inl hi⟩
  have HE6:=Qh (show Df l p last=(0,⟨tg,true,0,(l.drop s).take u⟩,s+u) by rw [HE5.out,γ (by simpa using hsh)])
  have hsu:s+u≤l.length:=by simp at hsh;omega
  have hw3:IntKind.i64.wrap ((s:Int)+(u:Int))=((s+u:Nat):Int):=by rw [κ];omega
  have hw4:IntKind.i64.wrap (u:Int)=(u:Int):=by rw [κ];omega
  have hcut: ∀ W,(Instr.sliceAt 39 (.slice oa l.length cap) (some (.int .i64 (s:Int))) (some (.int .i64 ((s+u:Nat):Int))) none).run Tryz.prog W= .ok (sliced oa s (s+u) cap 1) W:=fun W=>by
   rw [Fl];exact run_cut_lh oa l.length cap s (s+u) (by omega) (by omega) W
  obtain⟨dl,hdl⟩: ∃ dl,dl=(l.drop s).take u:=⟨_,rfl⟩
  have HBD:=Qh (fun W (ht:Turned (fun k=>k=c) w W)=>(show A2 W (sliced oa s (s+u) cap 1) dl by
   have:=Gl (lo:=s) (hi:=s+u) (mx:=cap) HVW.out (by omega) hsu (by omega)
   rw [List.drop_take,Nat.add_sub_cancel_left] at this
   rw [hdl];exact cu_row' HCW.out this ht))
  have hdll:dl.length≤1048576:=by rw [hdl,Θ];omega
  rw [←hdl] at HE6
  obtain⟨cv,hcv⟩: ∃ cv,cv=sliced oa s (s+u) cap 1:=⟨_,rfl⟩
  rw [←hcv] at hcut HBD
  clear hrm hdl hcv
  obtain⟨su,hsu'⟩: ∃ su,su=s+u:=⟨_,rfl⟩
  rw [←hsu'] at hcut HE6 hw3 hsu
  clear hsu'
  have hw4':wrap64 (u:Int)=(u:Int):=by unfold wrap64;clear hw1 hw2 hw3 hw4;omega
  go_wp2_with fail
  go_quiet (fail)
  clear hw4' d1 hsh
  go_wp2_with fail
  generalize hWq:World.drewN _ _=wq
  have HBQ:=Qh (show Below w2.heap.size w2 wq by rw [←hWq];exact below_drewN' _ _)
  clear hWq c0 c1
  have HCq:=Qh (HC2.out.below HBQ.out)
  have HTq:=Qh (show Turned (fun k=>k=c) w wq from HT2.out.trans (Turned.below HBQ.out) fun i hi=> .inl hi)
  have HFq:=Qh (HF2.out.below HBQ.out)
  have HRq:=Qh (HR2.out.below HBQ.out)
  have hwl:w1.heap.size<wq.heap.size:=HFq.out.lt
  have hwl2:w.heap.size<wq.heap.size:=HRq.out.lt
  have hwl3:c<wq.heap.size:=HCq.out.lt
  refine ω (S:=fun w'=>Turned (fun k=>k=w1.heap.size) wq w') (by kernel_rfl) (Turned.below (below_drewN' wq 1)) (fun hHeld=> ?_)
  have FX1:=Qh (fun(wF:World) (hSw:(fun w'=>Turned (fun k=>k=w1.heap.size) wq w') wF)=>And.intro ((hSw.cell HCq.out.c0 (by simp only;omega))) ((hSw.cell HCq.out.c1 (by simp only;omega))))
  refine tf FX1 0 rfl ?_
  refine tf FX1 1 rfl ?_
  refine tf FX1 2 rfl ?_
  refine tf FX1 3 rfl ?_
  refine tf FX1 4 rfl ?_
  refine tf FX1 5 rfl ?_
  refine tf FX1 6 rfl ?_
  refine tf FX1 7 rfl ?_
  refine tf FX1 8 rfl ?_
  refine tf FX1 9 rfl ?_
  refine tf FX1 10 rfl ?_
  refine tf FX1 11 rfl ?_
  refine tf FX1 12 rfl ?_
  refine tf FX1 13 rfl ?_
  refine tf FX1 14 rfl ?_
  clear FX1
  refine tq 15 rfl ?_
  have HFd:=Qh (HFq.out.below (show Below wq.heap.size wq (World.drew wq) from below_drewN' wq 1))
  have HRd:=Qh (HRq.out.below (show Below wq.heap.size wq (World.drew wq) from below_drewN' wq 1))
  have HCd:=Qh (HCq.out.below (show Below wq.heap.size wq (World.drew wq) from below_drewN' wq 1))
  generalize World.drew _=wd at*
  have HTd:=Qh (show Turned (fun k=>k=c) w wd from HTq.out.trans hHeld fun i hi=> .inr (by omega))
  refine Rd 16 rfl fun K hK=> ?_
  go_simp
  go_at_call 47
  refine(clone_any dl cv _ (HBD.out _ HTd.out) (by omega)).mono ?_
  rintro e w3 ⟨bv,rfl,hbo,hb3⟩
  have HT3:=Qh (show Turned (fun k=>k=w1.heap.size) wq w3 from hHeld.trans (Turned.below hb3) fun i hi=> .inl hi)
  have HBV:=Qh (hbo.mono (show wq.heap.size≤_ from hHeld.size))
  obtain⟨ob,bcap,rfl,_,_⟩:=Ac hbo
  have HF3:=Qh (HFd.out.below hb3)
  have HR3:=Qh (HRd.out.below hb3)
  have HC3:=Qh (HCd.out.below hb3)
  clear hb3 hHeld hbo HFd HRd HCd
  go_wp2_with fail
  refine hK.out _ _ HT3.out (fun hHeld=> ?_)
  clear hK K
  have d3:=HF3.out.c3
  have f3:=HF3.out.free 3
  refine tq 17 rfl ?_
  refine Rd 18 rfl fun K hK=> ?_
  rw [ζ (by kernel_rfl)]
  refine Da 39 (.tmp 78) (.tmp 77) rfl w1.heap.size 3 (.slice ob dl.length bcap) (.slice none 0 0) (by kernel_rfl) rfl rfl rfl d3 f3 ?_
  have HT5:=Qh (show Turned (fun k=>k=w1.heap.size) wq (w3.setCell ⟨w1.heap.size,3,none⟩ (.slice ob dl.length bcap)) from HT3.out.trans (Turned.setCell (S:=fun k=>k=w1.heap.size) _ ⟨w1.heap.size,3,none⟩ _ rfl) fun i hi=> .inl hi)
  refine hK.out _ _ HT5.out (fun _=> ?_)
  clear hK K hHeld
  refine Λ (by kernel_rfl) ?_ _
  have HF5:=Qh (show A1 (w3.setCell ⟨w1.heap.size,3,none⟩ (.slice ob dl.length bcap)) w1.heap.size ⟨tg,true,0,dl⟩ (.slice ob dl.length bcap) from HF3.out.set rfl)
  have HR5:=Qh (show A1 (w3.setCell ⟨w1.heap.size,3,none⟩ (.slice ob dl.length bcap)) w.heap.size fld0 (.slice none 0 0) from HR3.out.other (by omega))
  have HC5:=Qh (show Cc (w3.setCell ⟨w1.heap.size,3,none⟩ (.slice ob dl.length bcap)) c (.slice oa l.length cap) s by
   have h:=HC3.out
   unfold Cc at h ⊢
   simp only [World.setCell]
   rw [Array.getElem?_modify,γ (fun e=>by omega)]
   exact h)
  have HO5:=Qh (show OwnB (w3.setCell ⟨w1.heap.size,3,none⟩ (.slice ob dl.length bcap)) wq.heap.size (.slice ob dl.length bcap) dl from own_turnedB HBV.out (Turned.setCell (S:=fun k=>k=w1.heap.size) _ ⟨w1.heap.size,3,none⟩ _ rfl) fun k hk=>by omega)
  clear HF3 HR3 HC3 d3 f3 HT3 HBV
  generalize World.setCell _ _ _=w5 at*
  have c1:=HC5.out.c1
  have f1:=HC5.out.free 1
  have HF6:=Qh (show A1 (w5.setCell ⟨c,1,none⟩ (.int .i64 (su:Int))) w1.heap.size ⟨tg,true,0,dl⟩ (.slice ob dl.length bcap) from HF5.out.other (by omega))
  have HR6:=Qh (show A1 (w5.setCell ⟨c,1,none⟩ (.int .i64 (su:Int))) w.heap.size fld0 (.slice none 0 0) from HR5.out.other (by omega))
  have HC6:=Qh (show Cc (w5.setCell ⟨c,1,none⟩ (.int .i64 (su:Int))) c (.slice oa l.length cap) su from HC5.out.set)
  have HT6:=Qh (show Turned (fun k=>k=c) w (w5.setCell ⟨c,1,none⟩ (.int .i64 (su:Int))) from(HTq.out.trans HT5.out fun i hi=> .inr (by omega)).trans (Turned.setCell (S:=fun k=>k=c) _ ⟨c,1,none⟩ _ rfl) fun i hi=> .inl hi)
  clear hw1 hw2 hcut
  go_wp2_with (first | (with_reducible refine wpList_load_fd rfl (.tmp 6) rfl w1.heap.size ⟨tg,true,0,dl⟩ (.slice ob dl.length bcap) rfl HF6.out ?_) | (with_reducible refine wpList_store_fd rfl (.tmp 4) (.tmp 88) rfl w.heap.size fld0 ⟨tg,true,0,dl⟩ (.slice none 0 0) (.slice ob dl.length bcap) rfl rfl HR6.out rfl ?_))
  intro w7 hw7
  have HR7:=Qh (show A1 w7 w.heap.size ⟨tg,true,0,dl⟩ (.slice ob dl.length bcap) by rw [hw7.out];exact HR6.out.row)
  have HT7:=Qh (show Turned (fun k=>k=w.heap.size) (w5.setCell ⟨c,1,none⟩ (.int .i64 (su:Int))) w7 by rw [hw7.out];exact Ak _ _ _)
  have HC7:=Qh (show Cc w7 c (.slice oa l.length cap) su by
   have h:=HC6.out
   unfold Cc at h ⊢
   rw [HT7.out.block _ (δ.1 h).1 (by omega)]
   exact h)
  have HO7:=Qh (show OwnB w7 wq.heap.size (.slice ob dl.length bcap) dl from own_turnedB HO5.out ((Turned.setCell (S:=fun k=>k=c∨k=w.heap.size) _ ⟨c,1,none⟩ _ (.inl rfl)).trans HT7.out fun i hi=> .inl (.inr hi)) fun k hk=>by rcases hk with h | h<;>omega)
  clear hw7
  go_wp2
  exact π (v:=fdV ⟨tg,true,0,dl⟩ (.slice ob dl.length bcap)) (Ho rfl _ _ w.heap.size _ _ rfl HR7.out) rfl ⟨fun _=>by rw [HE6.out];exact⟨_,rfl,HO7.out.mono (Nat.le_of_lt hwl2),HC7.out⟩,fun h=>absurd (by rw [HE6.out]) h,HT6.out.trans HT7.out fun i hi=> .inr (by omega)⟩
def H9 (xs:List (Fld×Value)):List Value:=xs.flatMap fun x=>(fdCs x.1 x.2).toList
theorem fdCells_snoc (xs:List (Fld×Value)) (x:Fld×Value):H9 (xs++[x])=H9 xs++(fdCs x.1 x.2).toList:=by simp [H9]
theorem fdCells_at: ∀ (xs:List (Fld×Value)) (i:Nat) (x:Fld×Value),xs[i]? =some x→ ∀ (j:Nat) u,(fdCs x.1 x.2)[j]? =some u→(H9 xs)[i*4+j]? =some u
 | [],i,x,h=>by simp at h
 | y::ys,0,x,h=>by
  intro j u hj
  simp at h;subst h
  have hl:j<4:=by have:=(δ.1 hj).1;simpa [fdCs] using this
  unfold H9
  rw [List.flatMap_cons,Nat.zero_mul,Nat.zero_add,List.getElem?_append_left (by simpa [fdCs] using hl)]
  simpa using hj
 | y::ys,i+1,x,h=>by
  intro j u hj
  have:=fdCells_at ys i x (by simpa using h) j u hj
  unfold H9 at this ⊢
  rw [List.flatMap_cons,List.getElem?_append_right (by simp [fdCs];omega)]
  rw [←this]
  congr 1
  simp [fdCs];omega
def Ge (w:World) (B:Nat) (v:Value) (xs:List (Fld×Value)):Prop:=
 w.ownsRow B 257 4 v xs.length (H9 xs)∧ ∀ x∈xs,Ag (fun k=>B≤k∧k<w.heap.size∧v.ownBlock≠some k) w x.2 x.1.data
theorem fdOwn_nil (w:World) (B:Nat):Ge w B (.slice none 0 0) []:=⟨⟨rfl,.inl ⟨rfl,rfl⟩⟩,fun _ h=>by cases h⟩
theorem Ge.turned {S:Nat→Prop} {w w':World} {B:Nat} {v:Value} {xs:List (Fld×Value)} (h:Ge w B v xs) (ht:Turned S w w') (hS: ∀ k,S k→k<B∨w.heap.size≤k):Ge w' B v xs:=by
 refine⟨⟨h.1.1,?_⟩,fun x hx=>(Ag.turned' (h.2 x hx) ht (fun k hk hlt hs=>by have:=hS k hs;omega)).mono fun k hk=>⟨hk.1,Nat.lt_of_lt_of_le hk.2.1 ht.size,hk.2.2⟩⟩
 rcases h.1.2 with hn | ⟨g,cap,cur,rfl,hb1,hg,rest⟩
 ·exact .inl hn
 ·have hlt:=(δ.1 hg).1
  exact .inr ⟨g,cap,cur,rfl,hb1,by rw [ht.block _ hlt (fun hs=>by have:=hS _ hs;omega)];exact hg,rest⟩
theorem Ge.below {w w':World} {B:Nat} {v:Value} {xs:List (Fld×Value)} (h:Ge w B v xs) (hb:Below w.heap.size w w'):Ge w' B v xs:=
 h.turned (S:=fun _=>False) (Turned.below hb) (fun _ h=>h.elim)
def zeroFd:Value:= .agg #[.int .i64 0,.bool false,.int .u64 0,.slice none 0 0]
theorem infoFd:(Tryz.prog.info? 257).map (fun i=>(i.zero,i.size,i.bytes))=some (some zeroFd,4,48):=by kernel_rfl
theorem wpList_appFd {ops:Array Oper} {rest:List Oper} {o:Oper} {a:Act} {Q:Exit→Act→World→Prop} {w:World} (hgd:o.guard=none) (s y:Operand) (ho:o.op= .call {callee:= .builtin .append,args:= #[s,y],argTypes:= #[223,223]}) {B:Nat} {v:Value} {xs:List (Fld×Value)} {p:Fld} {dv:Value}
  (hs:a.eval s=v) (hy:a.eval y= .slice (some ⟨w.heap.size,0,none⟩) 1 1) (hown:Ge w B v xs) (hB:B≤w.heap.size) (hd:Ag (fun k=>B≤k∧k<w.heap.size∧v.ownBlock≠some k) w dv p.data) (hl:xs.length+1≤1000000000)
  (h: ∀ v' w',Ge w' B v' (xs++[(p,dv)])→Below B w w'→Turned (fun k=>v.ownBlock=some k) w w'→v'.oneCell'=true→wpList Tryz.prog ops Q rest (a.put o.dst v') w'):wpList Tryz.prog ops Q (o::rest) a (w.alloc (.cells #[.int .i64 (p.tag:Int),.bool p.text,.int .u64 (p.num:Int),dv] 257)):=by
 obtain⟨i0,hi,hz0,hz1,hz2⟩:=info_parts infoFd
 have hb:=below_alloc w (.cells #[.int .i64 (p.tag:Int),.bool p.text,.int .u64 (p.num:Int),dv] 257)
 have h1d:dv.oneCell'=true:=by obtain⟨_,_,e,_,_⟩:=hd;rw [e];rfl
 refine wpList_append_ownB _ hgd s y 223 ho B 257 i0 zeroFd 4 48 Tryz.underlying223 hi hz0 hz1 hz2 rfl (by decide) v xs.length (H9 xs) hs (own_later hown.1 hb) ⟨w.heap.size,0,none⟩ 1 1 (fdCs p dv).toList hy rfl (fun j u hj=> ?_) (fun u hu=> ?_) (by unfold maxLen;omega) (by omega) (μ hB hb.size) (by decide) ?_
 ·rw [Bc,Nat.zero_add,World.cell?_alloc_new]
  simpa [fdCs] using hj
 ·simp [fdCs] at hu;rcases hu with rfl | rfl | rfl | rfl
  ·rfl
  ·rfl
  ·rfl
  ·exact h1d
 ·intro v' w' hown' hg hnew
  have hb2:=Bf (own_later hown.1 hb) (μ hB hb.size) hg
  have hrow: ∀ (x:Value) (l:List UInt8),Ag (fun k=>B≤k∧k<w.heap.size∧v.ownBlock≠some k) w x l→Ag (fun k=>B≤k∧k<w'.heap.size∧v'.ownBlock≠some k) w' x l:=fun x l hx=>by
   obtain⟨oa,cap,e1,e2,e3⟩:=hx.below hb
   refine⟨oa,cap,e1,e2,fun hn=> ?_⟩
   obtain⟨b,off,e4,ha,hc⟩:=e3 hn
   refine⟨b,off,e4,⟨ha.1,Nat.lt_of_lt_of_le ha.2.1 (μ hb.size hg.size),fun e=> ?_⟩,fun i u hu=>hg.cell (hc i u hu) fun e=>ha.2.2 e.symm⟩
   have:=ha.2.1
   rcases hnew with h | h
   ·rw [h] at e;exact ha.2.2 e
   ·rw [h] at e
    have e':=ψ e
    have:=hb.size
    omega
  have hone:v'.oneCell'=true:=by obtain⟨_,_,e,_⟩:=Ac hown';rw [e];rfl
  refine h v' w' ⟨?_,fun x hx=> ?_⟩ ((hb.mono hB).trans hb2) ⟨hg.os.trans hb.os,hg.tape.trans hb.tape,hg.output.trans hb.output,μ hb.size hg.size,fun k hk hne=> ?_⟩ hone
  ·rw [η,fdCells_snoc]
   exact hown'
  ·rcases List.mem_append.1 hx with hx | hx
   ·exact hrow _ _ (hown.2 x hx)
   ·simp at hx;rw [hx];exact hrow _ _ hd
  ·rw [hg.block k (Nat.lt_of_lt_of_le hk hb.size) (fun e=>hne e.symm)]
   exact hb.block k hk
theorem tlvCatch_panicking (a b:Nat) (n:Int) (va vb:Value) (older:List PanicEntry) (w:World) (ha:w.cell? ⟨a,0,none⟩=some va) (hb:w.cell? ⟨b,0,none⟩=some vb) (fa:w.frozen? ⟨a,0,none⟩=false) (fb:w.frozen? ⟨b,0,none⟩=false) (hab: ¬ a=b):
  CallsD Tryz.prog 182 #[.pointer (some ⟨a,0,none⟩),.pointer (some ⟨b,0,none⟩)] (.panicking ({v:= .iface 28 (.int .i64 n),recovered:=false}::older)) w fun e u' w'=>
   e= .returned (.tuple #[])∧u'= .panicking ({v:= .iface 28 (.int .i64 n),recovered:=true}::older)∧w'=(w.setCell ⟨a,0,none⟩ (.slice none 0 0)).setCell ⟨b,0,none⟩ (.int .i64 n):=by
 have hne: ∀ W,(binOp .neq 20 (.iface 28 (.int .i64 n)) .nilIface).run Tryz.prog W= .ok (.bool true) W:=fun W=>by rfl
 have hta: ∀ W,(Instr.typeAssert (.iface 28 (.int .i64 n)) 20 28 true).run Tryz.prog W= .ok (.tuple #[.int .i64 n,.bool true]) W:=fun W=>by
  simp [Instr.typeAssert,run_underlying Tryz.underlying28,go_sem,Result.andThen]
 refine callsD_of_wpS Tryz.func182 rfl fun c₀ cs hu=> ?_
 apply wpS_seq
 apply wpS_region
 simp [wpOpsS,go_sem,recoverD,hu,Tryz.ntmps182,Exit.thenS]
 refine wpS_of_wp ?_
 simp only [Array.replicate_succ,Array.replicate_zero,List.push_toArray,List.nil_append,List.cons_append]
 go_wp2
 simp [bodyPostS,results,Tryz.results182,go_sem]
theorem tlvCatch_idle (a b:Nat) (w:World):
  CallsD Tryz.prog 182 #[.pointer (some ⟨a,0,none⟩),.pointer (some ⟨b,0,none⟩)] .returning w fun e u' w'=>e= .returned (.tuple #[])∧u'= .returning∧w'=w:=by
 refine callsD_of_wpS Tryz.func182 rfl fun c₀ cs hu=> ?_
 apply wpS_seq
 apply wpS_region
 simp [wpOpsS,go_sem,recoverD,hu,Tryz.ntmps182,Exit.thenS]
 refine wpS_of_wp ?_
 simp only [Array.replicate_succ,Array.replicate_zero,List.push_toArray,List.nil_append,List.cons_append]
 go_wp2
 cases c₀
 simp_all [bodyPostS,results,Tryz.results182,go_sem]
def Gu (b:List UInt8):Nat→Nat→Nat→List Fld→Int×List Fld
 | 0,_,_,fs=>(0,fs)
 | n+1,p,last,fs=>if p<b.length then (if (Df b p last).1=0 then Gu b n (Df b p last).2.2 (Df b p last).2.1.tag (fs++[(Df b p last).2.1]) else ((Df b p last).1,[])) else (0,fs)
def B2 (b:List UInt8):Int×List Fld:=if 1024<b.length then (24,[]) else Gu b (b.length+1) 0 0 []
theorem tlvGo_end {b:List UInt8} {n p last:Nat} {fs:List Fld} (h: ¬ p<b.length):Gu b n p last fs=(0,fs):=by
 cases n with
 | zero=>rfl
 | succ n=>rw [Gu,γ h]
theorem tlvGo_bad {b:List UInt8} {n p last:Nat} {fs:List Fld} (h:p<b.length) (h2: ¬ (Df b p last).1=0):Gu b (n+1) p last fs=((Df b p last).1,[]):=by rw [Gu,ζ h,γ h2]
theorem tlvGo_ok {b:List UInt8} {n p last:Nat} {fs:List Fld} (h:p<b.length) (h2:(Df b p last).1=0):Gu b (n+1) p last fs=Gu b n (Df b p last).2.2 (Df b p last).2.1.tag (fs++[(Df b p last).2.1]):=by rw [Gu,ζ h,ζ h2]
theorem fldV_ok {b:List UInt8} {p last:Nat} (h:(Df b p last).1=0):p<(Df b p last).2.2∧(Df b p last).2.2≤b.length∧last<(Df b p last).2.1.tag∧(Df b p last).2.1.tag≤31:=by
 have h1:= @Gn (b.drop p)
 rw [Ξ] at h1
 have h2:= @Gn (b.drop (p+(decV (b.drop p)).2.1))
 rw [Ξ] at h2
 unfold Df at h ⊢
 dsimp only at h ⊢
 by_cases c1:(decV (b.drop p)).2.2=0
 ·rw [γ (fun h=>h c1)] at h ⊢
  have h1':=h1 c1
  by_cases c2:63<(decV (b.drop p)).1∨(decV (b.drop p)).1 / 2=0
  ·rw [ζ c2] at h;cases h
  ·rw [γ c2] at h ⊢
   by_cases c3:(decV (b.drop p)).1 / 2≤last
   ·rw [ζ c3] at h;cases h
   ·rw [γ c3] at h ⊢
    by_cases c4:(decV (b.drop (p+(decV (b.drop p)).2.1))).2.2=0
    ·rw [γ (fun h=>h c4)] at h ⊢
     have h2':=h2 c4
     by_cases c5:(decV (b.drop (p+(decV (b.drop p)).2.1))).1=0
     ·rw [ζ c5] at h;cases h
     ·rw [γ c5] at h ⊢
      by_cases c6:(decV (b.drop p)).1 % 2=0
      ·rw [ζ c6]
       dsimp only
       omega
      ·rw [γ c6] at h ⊢
       by_cases c7:200<(decV (b.drop (p+(decV (b.drop p)).2.1))).1
       ·rw [ζ c7] at h;cases h
       ·rw [γ c7] at h ⊢
        by_cases c8:b.length - (p+(decV (b.drop p)).2.1+(decV (b.drop (p+(decV (b.drop p)).2.1))).2.1)<(decV (b.drop (p+(decV (b.drop p)).2.1))).1
        ·rw [ζ c8] at h;cases h
        ·rw [γ c8]
         dsimp only
         omega
    ·rw [ζ c4] at h;exact absurd h c4
 ·rw [ζ c1] at h;exact absurd h c1
def TlvPost (w:World) (r:Int×List Fld) (e:Ending) (w':World):Prop:= ∃ (v:Value) (i:Int) (xs:List (Fld×Value)),e= .returned (.tuple #[v,.int .i64 i,.int .i64 r.1])∧xs.map (·.1)=r.2∧Ge w' w.heap.size v xs∧Below w.heap.size w w'
theorem He {w:World} {g:Nat} {x:Value} {T:TypeId} (h:w.heap[g]? =some (.cells #[x] T (0,0))):w.cell? ⟨g,0,none⟩=some x:=by simp [World.cell?,h]
theorem free_blk {w:World} {g:Nat} {x:Value} {T:TypeId} (h:w.heap[g]? =some (.cells #[x] T (0,0))):w.frozen? ⟨g,0,none⟩=false:=by simp [World.frozen?,h]
theorem set_blk {w:World} {g:Nat} {x y:Value} {T:TypeId} (h:w.heap[g]? =some (.cells #[x] T (0,0))):(w.setCell ⟨g,0,none⟩ y).heap[g]? =some (.cells #[y] T (0,0)):=by
 simp only [World.setCell]
 rw [Array.getElem?_modify]
 simp [h]
theorem Ik {w:World} {g k j:Nat} {o:Obj} {y:Value} (h:w.heap[g]? =some o) (hn: ¬ g=k):(w.setCell ⟨k,j,none⟩ y).heap[g]? =some o:=by
 simp only [World.setCell]
 rw [Array.getElem?_modify,γ (fun e=>hn e.symm)]
 exact h
theorem load_fs {w:World} {a:Addr} {x:Value} (h:w.cell? a=some x):(loadVar 223 a).run Tryz.prog w= .ok x w:=by
 simp [loadVar,isAgg,underlying,Tryz.underlying223,h,Result.andThen]
theorem load_er {w:World} {a:Addr} {x:Value} (h:w.cell? a=some x):(loadVar 28 a).run Tryz.prog w= .ok x w:=by
 simp [loadVar,isAgg,underlying,Tryz.underlying28,h,Result.andThen]
theorem results_tl {fn:Func} {p q r:Tmp} (h:fn.results= #[.cell p 223,.tmp q,.cell r 28]) (tmps:Array Value) (w:World) (g k:Nat) (v x y:Value)
  (hp:tmps.getD p undef= .pointer (some ⟨g,0,none⟩)) (hq:tmps.getD q undef=x) (hr:tmps.getD r undef= .pointer (some ⟨k,0,none⟩)) (hg:w.heap[g]? =some (.cells #[v] 223 (0,0))) (hk:w.heap[k]? =some (.cells #[y] 28 (0,0))):
  (results fn tmps).run Tryz.prog w= .ok (.tuple #[v,x,y]) w:=by
 have h1:=load_fs (He hg)
 have h2:=load_er (He hk)
 have hp':tmps[p]?.getD undef= .pointer (some ⟨g,0,none⟩):=by simpa using hp
 have hq':tmps[q]?.getD undef=x:=by simpa using hq
 have hr':tmps[r]?.getD undef= .pointer (some ⟨k,0,none⟩):=by simpa using hr
 simp [results,h,hp',hq',hr',asAddr,h1,h2]
theorem tlvDecode_any (l:List UInt8) (v:Value) (w:World) (hv:A2 w v l) (hl:l.length≤9223372036854775807):
  Calls Tryz.prog 152 #[v] w (TlvPost w (B2 l)):=by
 have HV:=Qh hv
 have hmf: ∀ (fn:Fn) (first cap:Array Value) (w:World),(Instr.makeFunc fn first cap).run Tryz.prog w= .ok (.func fn first cap) w:=fun _ _ _ _=>rfl
 have HBA:=Qh (Below.next (below_alloc w (.cells #[.slice none 0 0] 223)) (below_alloc _ (.cells #[.int .i64 0] 28)))
 obtain⟨oa,cap,rfl,hlc,_⟩:=hv
 rcases hb:decide ((1024:Int)<(l.length:Int)) with _ | _
 ·have HE:=Qh (show B2 l=Gu l (l.length+1) 0 0 [] by unfold B2;rw [γ (by simp at hb;omega)])
  have hl2:l.length≤1024:=by simp at hb;omega
  have HBZ:=Qh (Below.next HBA.out (below_alloc _ (.cells #[.slice oa l.length cap,.int .i64 0] 298)))
  have HV3:=Qh (HV.out.below HBZ.out)
  have HC3:=Qh (show Cc (((w.alloc (.cells #[.slice none 0 0] 223)).alloc (.cells #[.int .i64 0] 28)).alloc (.cells #[.slice oa l.length cap,.int .i64 0] 298)) (w.heap.size+2) (.slice oa l.length cap) 0 by
   have h:=σ ((w.alloc (.cells #[.slice none 0 0] 223)).alloc (.cells #[.int .i64 0] 28)) (.cells #[.slice oa l.length cap,.int .i64 0] 298)
   simp only [Ω] at h
   exact h)
  have HX3:=Qh (show (((w.alloc (.cells #[.slice none 0 0] 223)).alloc (.cells #[.int .i64 0] 28)).alloc (.cells #[.slice oa l.length cap,.int .i64 0] 298)).heap[w.heap.size]? =some (.cells #[.slice none 0 0] 223 (0,0)) by
   have h:=σ w (.cells #[.slice none 0 0] 223)
   exact((Below.next (below_alloc _ (.cells #[.int .i64 0] 28)) (below_alloc _ (.cells #[.slice oa l.length cap,.int .i64 0] 298))).block _ (δ.1 h).1).trans h)
  have HY3:=Qh (show (((w.alloc (.cells #[.slice none 0 0] 223)).alloc (.cells #[.int .i64 0] 28)).alloc (.cells #[.slice oa l.length cap,.int .i64 0] 298)).heap[w.heap.size+1]? =some (.cells #[.int .i64 0] 28 (0,0)) by
   have h:=σ (w.alloc (.cells #[.slice none 0 0] 223)) (.cells #[.int .i64 0] 28)
   rw [Ω] at h
   exact((below_alloc _ (.cells #[.slice oa l.length cap,.int .i64 0] 298)).block _ (δ.1 h).1).trans h)
  go_enter_defers Tryz.func152,Tryz.ntmps152
  clear hb HBA
  go_wp2_with fail
  generalize (((w.alloc (.cells #[.slice none 0 0] 223)).alloc (.cells #[.int .i64 0] 28)).alloc (.cells #[.slice oa l.length cap,.int .i64 0] 298))=w3 at*
  go_loopw [3,6] (fun av lv wr=> ∃ (n p last:Nat) (i:Int) (xs:List (Fld×Value)) (sv:Value),p≤l.length∧l.length<n+p∧av= .int .i64 i∧lv= .int .i64 (last:Int)∧xs.length≤p∧last≤31∧
   Hid (B2 l=Gu l n p last (xs.map (·.1)))∧Hid (Cc wr (w.heap.size+2) (.slice oa l.length cap) p)∧Hid (wr.heap[w.heap.size]? =some (.cells #[sv] 223 (0,0)))∧Hid (wr.heap[w.heap.size+1]? =some (.cells #[.int .i64 0] 28 (0,0)))∧
   Hid (Ge wr (w.heap.size+3) sv xs)∧Hid (A2 wr (.slice oa l.length cap) l)∧Hid (Below w.heap.size w wr)) (fun _ _ wr=>l.length - (intOf ((wr.cell? ⟨w.heap.size+2,1,none⟩).getD undef)).toNat)
  case atStart=>exact⟨l.length+1,0,0,0,[],.slice none 0 0,θ _,by omega,rfl,rfl,θ _,by omega,Qh HE.out,Qh HC3.out,Qh HX3.out,Qh HY3.out,Qh (fdOwn_nil _ _),Qh HV3.out,Qh HBZ.out⟩
  case round=>
   obtain⟨n,p,last,i,xs,sv,hp,hn,rfl,rfl,hxp,hlast,HR,HC,HX,HY,HO,HBV,HB⟩:=hrel
   have c1:=HC.out.c1
   have hsw:w.heap.size+3≤wr.heap.size:=by have:=HC.out.lt;omega
   by_cases hlt:p<l.length
   ·have q1:(p:Int)<(l.length:Int):=by omega
    obtain⟨n',rfl⟩: ∃ n',n=n'+1:=⟨n - 1,by omega⟩
    have HFD:=Qh (cuField_any l (.slice oa l.length cap) wr (w.heap.size+2) p last HC.out HBV.out hp (by omega))
    have HFO:=Qh (@fldV_ok l p last)
    have HRB:=Qh (fun h=>HR.out.trans (@tlvGo_bad l n' p last (xs.map (·.1)) hlt h))
    have HRO:=Qh (fun h=>HR.out.trans (@tlvGo_ok l n' p last (xs.map (·.1)) hlt h))
    obtain⟨r,hr⟩: ∃ r,r=Df l p last:=⟨_,rfl⟩
    rw [←hr] at HFD HFO HRB HRO
    clear hr HR hlt
    obtain⟨e0,fd,np⟩:=r
    unfold FldPost at HFD
    dsimp only at HFD HFO HRB HRO
    go_wp2_with fail
    refine HFD.out.mono ?_
    rintro e w1 ⟨g1,g2,ht⟩
    by_cases he:e0=0
    ·obtain⟨bv,rfl,hob,hc1⟩:=g1 he
     have HR1:=Qh (HRO.out he)
     have hfo:=HFO.out he
     have HC1:=Qh hc1
     have HX1:=Qh ((ht.block _ (δ.1 HX.out).1 (by omega)).trans HX.out)
     have HY1:=Qh ((ht.block _ (δ.1 HY.out).1 (by omega)).trans HY.out)
     have HO1:=Qh (HO.out.turned ht (fun k hk=> .inl (by omega)))
     have HBV1:=Qh (cu_row HC.out HBV.out ht)
     have HB1:=Qh (Al HB.out ht (fun k hk=>by omega) (μ (Nat.le_add_right _ _) hsw))
     have h1b:bv.oneCell'=true:=by obtain⟨_,_,e,_⟩:=Ac hob;rw [e];rfl
     have HD1:=Qh (show Ag (fun k=>w.heap.size+3≤k∧k<w1.heap.size∧sv.ownBlock≠some k) w1 bv fd.data from(browIn_own (A:=fun k=>wr.heap.size≤k) hob (fun k hk=>hk)).low.mono fun k hk=>⟨by omega,hk.2,fun e=>by have:=(HO.out.1.lt k e).2;omega⟩)
     have hsw1:wr.heap.size≤w1.heap.size:=ht.size
     have HMS:=Qh c1
     clear g1 g2 ht hob hc1 HC HX HY HO HBV HB he HRB HRO HFO HFD c1
     have HFZ:=Qh (show A1 (w1.alloc (.cells #[.int .i64 0,.bool false,.int .u64 0,.slice none 0 0] 257)) w1.heap.size fld0 (.slice none 0 0) from Cp w1 fld0 (.slice none 0 0))
     have HBZ:=Qh (below_alloc w1 (.cells #[.int .i64 0,.bool false,.int .u64 0,.slice none 0 0] 257))
     go_wp2_with (with_reducible refine wpList_store_fd rfl (.tmp 7) (.tmp 28) rfl w1.heap.size fld0 fd (.slice none 0 0) bv rfl rfl HFZ.out h1b ?_)
     intro w2 hw2
     have HF2:=Qh (show A1 w2 w1.heap.size fd bv by rw [hw2.out];exact HFZ.out.row)
     have HB2:=Qh (show Below w1.heap.size w1 w2 by rw [hw2.out];exact Az HBZ.out (ξ _) _)
     clear hw2 HFZ HBZ
     have HC2:=Qh (HC1.out.below HB2.out)
     have HX2:=Qh ((HB2.out.block _ (δ.1 HX1.out).1).trans HX1.out)
     have HY2:=Qh ((HB2.out.block _ (δ.1 HY1.out).1).trans HY1.out)
     have HO2:=Qh (HO1.out.below HB2.out)
     have HBV2:=Qh (HBV1.out.below HB2.out)
     have HD2:=Qh ((HD1.out.below HB2.out).mono (A':=fun k=>w.heap.size+3≤k∧k<w2.heap.size∧sv.ownBlock≠some k) fun k hk=>⟨hk.1,Nat.lt_of_lt_of_le hk.2.1 HB2.out.size,hk.2.2⟩)
     have HBW2:=Qh (Below.next HB1.out HB2.out)
     have hsw2:w.heap.size+3≤w2.heap.size:=by have:=HB2.out.size;omega
     have x2:=He HX2.out
     have d0:=HF2.out.c0
     clear HC1 HX1 HY1 HO1 HBV1 HD1 HB1 HB2
     go_wp2_with (first | (with_reducible refine wpList_load_fd rfl (.tmp 7) rfl w1.heap.size fd bv rfl HF2.out ?_) | (refine wpList_appFd (p:=fd) (dv:=bv) rfl (.tmp 31) (.tmp 33) rfl rfl rfl HO2.out hsw2 HD2.out (by omega) ?_))
     intro v' w3' hown hbel htur h1v
     have HO3:=Qh hown
     have HX3':=Qh ((hbel.block _ (by omega)).trans HX2.out)
     have HY3':=Qh ((hbel.block _ (by omega)).trans HY2.out)
     have HC4:=Qh (show Cc (w3'.setCell ⟨w.heap.size,0,none⟩ v') (w.heap.size+2) (.slice oa l.length cap) np from Ik ((hbel.block _ (by omega)).trans HC2.out) (by omega))
     have HX4:=Qh (set_blk (y:=v') HX3'.out)
     have HY4:=Qh (Ik (k:=w.heap.size) (j:=0) (y:=v') HY3'.out (by omega))
     have HTS:=Qh (Turned.setCell (S:=fun k=>k=w.heap.size) w3' ⟨w.heap.size,0,none⟩ v' rfl)
     have HO4:=Qh (hown.turned HTS.out (fun k hk=> .inl (by omega)))
     have HB4:=Qh (show Below w.heap.size w (w3'.setCell ⟨w.heap.size,0,none⟩ v') from Al (HBW2.out.trans (hbel.mono (by omega))) HTS.out (fun k hk=>by omega) (by have:=hbel.size;omega))
     have HBV4:=Qh (HV.out.below HB4.out)
     have x3:=He HX3'.out
     have f3:=free_blk HX3'.out
     clear hown hbel htur x2 d0 HC2 HX2 HY2 HO2 HBV2 HD2 HBW2
     go_wp2_with (with_reducible refine wpList_store_cellV rfl 223 (.tmp 2) (.tmp 34) rfl w.heap.size 0 v' sv (by kernel_rfl) h1v rfl rfl x3 f3 ?_)
     intro W4 hW4
     obtain rfl:=hW4.out
     have HMZ:=Qh HC4.out.c1
     generalize w3'.setCell ⟨w.heap.size,0,none⟩ v'=W4 at*
     clear x3 f3
     go_wp2
     go_roundw
     case rel=>exact⟨n',np,fd.tag,(p:Int),xs++[(fd,bv)],v',by omega,by omega,rfl,rfl,by simp;omega,by omega,Qh (by rw [HR1.out];simp),HC4,HX4,HY4,HO4,HBV4,HB4⟩
     case measure=>rw [HMS.out,HMZ.out];simp [intOf];omega
    ·obtain rfl:=g2 he
     have hE:=HRB.out he
     have HX1:=(ht.block _ (δ.1 HX.out).1 (by omega)).trans HX.out
     have HY1:=(ht.block _ (δ.1 HY.out).1 (by omega)).trans HY.out
     have HB1:=Al HB.out ht (fun k hk=>by omega) (μ (Nat.le_add_right _ _) hsw)
     have HE1:=Qh hE
     have HX2:=Qh HX1
     have HY2:=Qh HY1
     have HB2:=Qh HB1
     clear g1 g2 hE HX1 HY1 HB1 he
     go_wp2
     refine leaves_cons (f:=182) (args:= #[.pointer (some ⟨w.heap.size,0,none⟩),.pointer (some ⟨w.heap.size+1,0,none⟩)]) (by simp) (by simp [go_sem]) ?_
     refine(tlvCatch_panicking w.heap.size (w.heap.size+1) e0 sv (.int .i64 0) [] w1 (He HX2.out) (He HY2.out) (free_blk HX2.out) (free_blk HY2.out) (by omega)).mono ?_
     rintro e u' w'' ⟨rfl,rfl,rfl⟩
     refine⟨.tuple #[.slice none 0 0,.int .i64 (p:Int),.int .i64 e0],results_tl rfl _ _ w.heap.size (w.heap.size+1) _ _ _ rfl rfl rfl (Ik (set_blk HX2.out) (by omega)) (set_blk (Ik HY2.out (by omega))),.slice none 0 0,(p:Int),[],by rw [HE1.out],by rw [HE1.out];rfl,fdOwn_nil _ _,?_⟩
     exact Al HB2.out ((Turned.setCell (S:=fun k=>k=w.heap.size∨k=w.heap.size+1) _ ⟨w.heap.size,0,none⟩ _ (.inl rfl)).trans (Turned.setCell (S:=fun k=>k=w.heap.size∨k=w.heap.size+1) _ ⟨w.heap.size+1,0,none⟩ _ (.inr rfl)) fun i hi=> .inl hi) (fun k hk=>by omega) (by have:=ht.size;omega)
   ·obtain rfl:p=l.length:=by omega
    have HRE:=Qh (HR.out.trans (tlvGo_end (Nat.lt_irrefl _)))
    have x0:=He HX.out
    have y0:=He HY.out
    have fx:=free_blk HX.out
    have fy:=free_blk HY.out
    have h1s:sv.oneCell'=true:=by obtain⟨_,_,e,_⟩:=Ac HO.out.1;rw [e];rfl
    have HX2:=Qh (set_blk (y:=sv) HX.out)
    have HY2:=Qh (Ik (k:=w.heap.size) (j:=0) (y:=sv) HY.out (by omega))
    have HX3:=Qh (Ik (k:=w.heap.size+1) (j:=0) (y:= .int .i64 0) HX2.out (by omega))
    have HY3:=Qh (set_blk (y:= .int .i64 0) HY2.out)
    clear HR hlt hn
    go_wp2_with (with_reducible refine wpList_store_cellV rfl 223 (.tmp 2) (.tmp 35) rfl w.heap.size 0 sv sv (by kernel_rfl) h1s rfl rfl x0 fx ?_)
    intro W4 hW4
    obtain rfl:=hW4.out
    go_wp2
    refine leaves_cons (f:=182) (args:= #[.pointer (some ⟨w.heap.size,0,none⟩),.pointer (some ⟨w.heap.size+1,0,none⟩)]) (by simp) (by simp [go_sem]) ?_
    refine(tlvCatch_idle w.heap.size (w.heap.size+1) _).mono ?_
    rintro e u' w'' ⟨rfl,rfl,rfl⟩
    have HTS:=(Turned.setCell (S:=fun k=>k=w.heap.size∨k=w.heap.size+1) wr ⟨w.heap.size,0,none⟩ sv (.inl rfl)).trans (Turned.setCell (S:=fun k=>k=w.heap.size∨k=w.heap.size+1) _ ⟨w.heap.size+1,0,none⟩ (.int .i64 0) (.inr rfl)) fun i hi=> .inl hi
    refine⟨.tuple #[sv,.int .i64 0,.int .i64 0],results_tl rfl _ _ w.heap.size (w.heap.size+1) _ _ _ rfl rfl rfl HX3.out HY3.out,sv,0,xs,by rw [HRE.out],by rw [HRE.out],?_,?_⟩
    ·have h:=HO.out.turned HTS (fun k hk=> .inl (by omega))
     exact⟨J6 h.1 (by omega),fun x hx=>(h.2 x hx).mono fun k hk=>⟨by omega,hk.2⟩⟩
    ·exact Al HB.out HTS (fun k hk=>by omega) (by omega)
 ·have HE:=Qh (show B2 l=(24,[]) by unfold B2;rw [ζ (by simp at hb;omega)])
  go_enter_defers Tryz.func152,Tryz.ntmps152
  go_wp2
  have hx:=σ w (.cells #[.slice none 0 0] 223)
  have hy:=σ (w.alloc (.cells #[.slice none 0 0] 223)) (.cells #[.int .i64 24] 28)
  rw [Ω] at hy
  refine⟨.tuple #[.slice none 0 0,.int .i64 0,.int .i64 24],results_tl rfl _ _ w.heap.size (w.heap.size+1) _ _ _ rfl rfl rfl (((below_alloc _ _).block _ (δ.1 hx).1).trans hx) hy,.slice none 0 0,0,[],by rw [HE.out],by rw [HE.out];rfl,fdOwn_nil _ _,Below.next (below_alloc _ _) (below_alloc _ _)⟩
section
open Go.RowKit Go.Maps
def heldR (v:Value):Option (DataW Value×List MemPlace):=some (.held v,[])
def tagIs (k:Int) (x:Fld×Value):Bool:=(x.1.tag:Int)==k
structure FdD (D:DataW Value) (xs:List (Fld×Value)):Prop where
 tidy:Tidy D
 size:Maps.size D=xs.length
 has: ∀ k:Int,Maps.has D (.int .i64 k)=xs.any (tagIs k)
 at_: ∀ (k:Int) z,D.atKey (.int .i64 k) z=match xs.find? (tagIs k) with | some x=> .held (fdV x.1 x.2) | none=>z
theorem fdD_nil:FdD (.map []) []:=⟨tidy_empty,rfl,fun _=>rfl,fun _ _=>rfl⟩
theorem FdD.put {D:DataW Value} {xs:List (Fld×Value)} (h:FdD D xs) (f:Fld) (bv:Value) (hn: ∀ x∈xs,x.1.tag≠f.tag):FdD (D.put (.int .i64 (f.tag:Int)) (.held (fdV f bv))) (xs++[(f,bv)]):=by
 have hh:Maps.has D (.int .i64 (f.tag:Int))=false:=by
  rw [h.has,List.any_eq_false]
  intro x hx
  unfold tagIs
  have:=hn x hx
  simp;omega
 refine⟨h.tidy.put (by trivial) _,?_,fun k=> ?_,fun k z=> ?_⟩
 ·rw [size_put h.tidy,hh];simp [h.size]
 ·by_cases hk:k=(f.tag:Int)
  ·subst hk
   rw [has_put_same h.tidy.isMap (by trivial),List.any_append]
   simp [tagIs]
  ·rw [has_put_other (by intro e;injection e with _ e;exact hk e),h.has,List.any_append]
   have e:(([(f,bv)]:List (Fld×Value)).any (tagIs k))=false:=by simp [tagIs];exact fun e=>hk e.symm
   rw [e,Bool.or_false]
 ·by_cases hk:k=(f.tag:Int)
  ·subst hk
   rw [atKey_put_same h.tidy.isMap (by trivial),List.find?_append]
   have:xs.find? (tagIs (f.tag:Int))=none:=List.find?_eq_none.2 fun x hx=>by
    have:=hn x hx
    unfold tagIs
    simp;omega
   rw [this]
   simp [tagIs]
  ·rw [atKey_put_other (by intro e;injection e with _ e;exact hk e),h.at_,List.find?_append]
   have: [(f,bv)].find? (tagIs k)=none:=List.find?_eq_none.2 fun x hx=>by
    simp at hx
    subst hx
    unfold tagIs
    simp;exact fun e=>hk e.symm
   rw [this]
   simp
def Fy (k:Int) (xs:List (Fld×Value)):List (Fld×Value):=xs.filter fun x=> !tagIs k x
theorem any_rest (k k':Int) (xs:List (Fld×Value)):(Fy k xs).any (tagIs k')=(xs.any (tagIs k')&& !(k'==k)):=by
 unfold Fy
 rw [List.any_filter]
 by_cases hk:k'=k
 ·subst hk
  simp
 ·have e:(fun x:Fld×Value=>(!tagIs k x&&tagIs k' x))=tagIs k':=by
   funext x
   unfold tagIs
   by_cases h1:(x.1.tag:Int)=k'
   ·have: ¬ (x.1.tag:Int)=k:=by omega
    simp [h1,hk]
   ·simp [h1]
  rw [e]
  simp [hk]
theorem find_rest_ne {k k':Int} (h:k'≠k) (xs:List (Fld×Value)):(Fy k xs).find? (tagIs k')=xs.find? (tagIs k'):=by
 unfold Fy
 rw [List.find?_filter]
 congr 1
 funext x
 unfold tagIs
 by_cases h1:(x.1.tag:Int)=k'
 ·have: ¬ (x.1.tag:Int)=k:=by omega
  simp [h1,h]
 ·simp [h1]
theorem find_rest_same (k:Int) (xs:List (Fld×Value)):(Fy k xs).find? (tagIs k)=none:=by
 unfold Fy
 rw [List.find?_filter]
 refine List.find?_eq_none.2 fun x _=> ?_
 simp
theorem FdD.del {D:DataW Value} {xs:List (Fld×Value)} (h:FdD D xs) (k:Int) (ht:xs.Pairwise fun a b=>a.1.tag<b.1.tag):FdD (D.del (.int .i64 k)) (Fy k xs):=by
 refine⟨h.tidy.del _,?_,fun k'=> ?_,fun k' z=> ?_⟩
 ·have h1:=size_del (k:= .int .i64 k) h.tidy
  rw [h.has,h.size] at h1
  have h2:(Fy k xs).length+(if xs.any (tagIs k) then 1 else 0)=xs.length:=by
   clear h1 h
   unfold Fy
   induction xs with
   | nil=>rfl
   | cons x xs ih=>
    have ih:=ih (List.Pairwise.of_cons ht)
    have hx:=(List.pairwise_cons.1 ht).1
    by_cases hk:tagIs k x=true
    ·have hno:xs.any (tagIs k)=false:=List.any_eq_false.2 fun y hy=>by
      have:=hx y hy
      unfold tagIs at hk ⊢
      simp at hk ⊢
      omega
     rw [hno] at ih
     simp [hk] at ih ⊢
     exact ih
    ·have hk':tagIs k x=false:=by simpa using hk
     simp only [List.filter_cons,hk',Bool.not_false,if_true,List.any_cons,Bool.false_or,φ]
     omega
  omega
 ·rw [any_rest]
  by_cases hk:k'=k
  ·subst hk
   rw [has_del_same]
   simp
  ·rw [has_del_other (by intro e;injection e with _ e;exact hk e),h.has]
   simp [hk]
 ·by_cases hk:k'=k
  ·subst hk
   rw [atKey_del_same,find_rest_same]
  ·rw [atKey_del_other (by intro e;injection e with _ e;exact hk e),h.at_,find_rest_ne hk]
structure En (w:World) (r m:Nat) (bad:Int) (xs:List (Fld×Value)):Prop where
 blk:w.heap[r]? =some (.cells #[.map (some m),.int .i64 bad] 255 (0,0))
 map: ∃ D,w.ownsMap Tryz.prog 3 heldR m 1000 D∧FdD D xs
 tags:xs.Pairwise fun a b=>a.1.tag<b.1.tag
 rows: ∀ x∈xs,Ag (fun k=>k≠r∧k≠m) w x.2 x.1.data
theorem En.ne {w:World} {r m:Nat} {bad:Int} {xs:List (Fld×Value)} (h:En w r m bad xs):r≠m:=fun e=>by
 obtain⟨D,⟨es,clock,hb,_⟩,_⟩:=h.map
 have:=h.blk
 rw [e,hb] at this
 cases this
theorem En.lt {w:World} {r m:Nat} {bad:Int} {xs:List (Fld×Value)} (h:En w r m bad xs):r<w.heap.size∧m<w.heap.size:=⟨(δ.1 h.blk).1,h.map.elim fun _ h=>h.1.lt⟩
theorem Iz {w w':World} {b n:Nat} {D:DataW Value} (h:w.ownsMap Tryz.prog 3 heldR b n D) (hb:Below w.heap.size w w'):w'.ownsMap Tryz.prog 3 heldR b n D:=by
 obtain⟨es,clock,hbb,r⟩:=h
 exact⟨es,clock,(hb.block b (δ.1 hbb).1).trans hbb,r⟩
theorem En.below {w w':World} {r m:Nat} {bad:Int} {xs:List (Fld×Value)} (h:En w r m bad xs) (hb:Below w.heap.size w w'):En w' r m bad xs:=by
 obtain⟨D,h1,h2⟩:=h.map
 exact⟨(hb.block _ h.lt.1).trans h.blk,⟨D,Iz h1 hb,h2⟩,h.tags,fun x hx=>(h.rows x hx).below hb⟩
theorem En.c0 {w:World} {r m:Nat} {bad:Int} {xs:List (Fld×Value)} (h:En w r m bad xs):w.cell? ⟨r,0,none⟩=some (.map (some m)):=by simp [World.cell?,h.blk]
theorem En.c1 {w:World} {r m:Nat} {bad:Int} {xs:List (Fld×Value)} (h:En w r m bad xs):w.cell? ⟨r,1,none⟩=some (.int .i64 bad):=by simp [World.cell?,h.blk]
theorem En.free {w:World} {r m:Nat} {bad:Int} {xs:List (Fld×Value)} (h:En w r m bad xs) (j:Nat):w.frozen? ⟨r,j,none⟩=false:=by simp [World.frozen?,h.blk]
end
end Go.Proofs.YtgkdenejkcngnaaGreatDoor
