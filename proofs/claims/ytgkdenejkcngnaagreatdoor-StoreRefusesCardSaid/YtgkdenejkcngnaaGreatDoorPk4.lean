import Derived.Lib.ItoaNum
import Derived.Lib.AtoiAll
import Derived.Deep.RegionHeld3
import Derived.Laws.StructEq
import Derived.Deep.MidRow
import Derived.Deep.CutRange
import Derived.StillTailTactics
import Derived.Test.YtgkdenejkcngnaaGreatDoorPk3
set_option maxRecDepth 100000
set_option maxHeartbeats 8000000
namespace Go.Proofs.YtgkdenejkcngnaaGreatDoor
open Go.RowKit
section
open Go.RowKit Go.Maps
theorem tlvGo_rise (b:List UInt8): ∀ (n p last:Nat) (fs:List Fld),fs.Pairwise (fun a b=>a.tag<b.tag)→(∀ f∈fs,f.tag≤last)→last≤31→(Gu b n p last fs).1=0→
  (Gu b n p last fs).2.Pairwise (fun a b=>a.tag<b.tag)∧ ∀ f∈(Gu b n p last fs).2,f.tag≤31
 | 0,p,last,fs=>fun h1 h2 h3 _=>⟨h1,fun f hf=>μ (h2 f hf) h3⟩
 | n+1,p,last,fs=>fun h1 h2 h3 h4=>by
  by_cases hp:p<b.length
  ·by_cases he:(Df b p last).1=0
   ·rw [tlvGo_ok hp he] at h4 ⊢
    obtain⟨_,_,g1,g2⟩:=fldV_ok he
    refine tlvGo_rise b n _ _ _ ?_ ?_ g2 h4
    ·rw [List.pairwise_append]
     refine⟨h1,List.pairwise_singleton _ _,fun a ha c hc=> ?_⟩
     have:=h2 a ha
     simp at hc
     subst hc
     omega
    ·intro f hf
     rcases List.mem_append.1 hf with h | h
     ·have:=h2 f h;omega
     ·simp at h;subst h;exact ξ _
   ·rw [tlvGo_bad hp he] at h4
    exact absurd h4 he
  ·rw [tlvGo_end hp]
   exact⟨h1,fun f hf=>μ (h2 f hf) h3⟩
theorem tlvDec_rise {b:List UInt8} (h:(B2 b).1=0):(B2 b).2.Pairwise (fun a b=>a.tag<b.tag)∧ ∀ f∈(B2 b).2,f.tag≤31:=by
 unfold B2 at h ⊢
 split at h
 ·cases h
 ·rename_i hc
  rw [γ hc]
  exact tlvGo_rise b _ _ _ _ List.Pairwise.nil (fun f hf=>by cases hf) (by omega) h
theorem rise_len: ∀ (xs:List (Fld×Value)) (lo hi:Nat),xs.Pairwise (fun a b=>a.1.tag<b.1.tag)→(∀ x∈xs,lo≤x.1.tag∧x.1.tag≤hi)→lo≤hi+1→xs.length≤hi+1 - lo
 | [],_,_=>fun _ _ _=>θ _
 | x::xs,lo,hi=>fun h1 h2 h3=>by
  obtain⟨g1,g2⟩:=List.pairwise_cons.1 h1
  have hx:=h2 x List.mem_cons_self
  have:=rise_len xs (x.1.tag+1) hi g2 (fun y hy=>⟨g1 y hy,(h2 y (List.mem_cons_of_mem _ hy)).2⟩) (by omega)
  simp only [φ]
  omega
theorem wp_mapPut {o:Oper} {a:Act} {K:Act→World→Prop} {Q:Exit→Act→World→Prop} {w:World} {m n:Nat} {D:DataW Value} {f:Fld} {bv:Value} (x y z:Operand) (hop:o.op=Op.mapUpdate 253 x y z)
  (hx:a.eval x= .map (some m)) (hy:a.eval y= .int .i64 (f.tag:Int)) (hz:a.eval z=fdV f bv) (hM:w.ownsMap Tryz.prog 3 heldR m n D) (hn:n<1000) (hf:f.tag≤1000)
  (hK: ∀ w',w'.ownsMap Tryz.prog 3 heldR m (n+1) (D.put (.int .i64 (f.tag:Int)) (.held (fdV f bv)))→w.grownBy w' (some m)→K (a.put o.dst undef) w'):o.wp Tryz.prog a w K Q:=by
 obtain⟨w',hrun,h3,h4⟩:=hM.update (int_keyed Tryz.underlying3) Tryz.underlying253 (by unfold maxLen;omega) (keyOf_int_mk Tryz.underlying3 (a:=(f.tag:Int)) (WalkArith.wf_i64 (by omega))) (val:=fdV f bv) (d:= .held (fdV f bv)) (ps:=[]) rfl
 unfold Oper.wp
 simp [execOp,hop,hx,hy,hz,hrun,Result.andThen]
 exact hK w' h3 h4
theorem wpList_load_fdAt {ops:Array Oper} {rest:List Oper} {o:Oper} {a:Act} {w:World} {Q:Exit→Act→World→Prop} (hgd:o.guard=none) (x:Operand) (ho:o.op= .load 257 x)
  (b off:Nat) (f:Fld) (bv:Value) (hx:a.eval x= .pointer (some ⟨b,off,none⟩)) (hE:w.rangeAt b off (fdCs f bv).toList)
  (h:wpList Tryz.prog ops Q rest (a.put o.dst (fdV f bv)) w):wpList Tryz.prog ops Q (o::rest) a w:=
 wpList_load_mid hgd 257 x ho b off hx (fdCs f bv).toList _ hE Tryz.underlying257 rfl fdInfo h
theorem Ge.at {w:World} {B:Nat} {v:Value} {xs:List (Fld×Value)} (h:Ge w B v xs) (hn:0<xs.length): ∃ g cap,v= .slice (some ⟨g,0,none⟩) xs.length cap∧xs.length≤cap∧ ∀ (i:Nat) x,xs[i]? =some x→w.rangeAt g (0+i*4) (fdCs x.1 x.2).toList:=by
 obtain⟨g,cap,e,_,_,h1,_,h3⟩:=B8 h.1 hn
 refine⟨g,cap,e,h1,fun i x hx j u hj=> ?_⟩
 rw [Nat.zero_add]
 exact h3 _ _ (fdCells_at xs i x hx j u (by simpa using hj))
theorem Ja {w:World} {B:Nat} {v:Value} {xs:List (Fld×Value)} (h:Ge w B v xs): ∃ oa cap,v= .slice oa xs.length cap∧xs.length≤cap∧ ∀ (i:Nat) x,xs[i]? =some x→ ∃ b off,oa=some ⟨b,off,none⟩∧w.rangeAt b (off+i*4) (fdCs x.1 x.2).toList:=by
 by_cases hn:xs=[]
 ·subst hn
  obtain⟨oa,cap,e,h1,_⟩:=Ac h.1
  exact⟨oa,cap,e,h1,fun i x hx=>by simp at hx⟩
 ·obtain⟨g,cap,e,h1,h2⟩:=h.at (Ψ.2 hn)
  exact⟨_,cap,e,h1,fun i x hx=>⟨g,0,rfl,h2 i x hx⟩⟩
def NewRdPost (w:World) (r:Int×List Fld) (e:Ending) (w':World):Prop:=
 (¬ r.1=0→e= .returned (.tuple #[.pointer none,.int .i64 r.1]))∧(r.1=0→ ∃ rb mb xs,e= .returned (.tuple #[.pointer (some ⟨rb,0,none⟩),.int .i64 0])∧xs.map (·.1)=r.2∧En w' rb mb 0 xs∧w.heap.size≤rb∧w.heap.size≤mb)∧Below w.heap.size w w'
theorem newReader_any (l:List UInt8) (v:Value) (w:World) (hv:A2 w v l) (hl:l.length≤9223372036854775807):
  Calls Tryz.prog 117 #[v] w (NewRdPost w (B2 l)):=by
 have HD:=Qh (tlvDecode_any l v w hv hl)
 have HRS:=Qh (@tlvDec_rise l)
 obtain⟨oa,cap,rfl,_,_⟩:=hv
 obtain⟨r,hr⟩: ∃ r,r=B2 l:=⟨_,rfl⟩
 rw [←hr] at HD HRS
 rw [←hr]
 clear hr
 obtain⟨e0,fs⟩:=r
 unfold TlvPost at HD
 dsimp only at HD HRS
 go_enter Tryz.func117,Tryz.ntmps117
 go_wp2_with fail
 refine HD.out.mono ?_
 rintro e w1 ⟨sv,i,xs,rfl,hxs,hown,hb1⟩
 have HB1:=Qh hb1
 have HO:=Qh hown
 have HXS:=Qh hxs
 obtain⟨os,scap,rfl,hsl,_⟩:=Ja hown
 clear hb1 hown HD hxs
 rcases he:(e0 != 0) with _ | _
 case true=>
  have he0: ¬ e0=0:=by simpa using he
  have HE:=Qh he0
  clear he0
  go_wp2
  go_ret2
  exact⟨fun _=>rfl,fun h=>absurd h HE.out,HB1.out⟩
 have he0:e0=0:=by simpa using he
 have HE:=Qh he0
 obtain⟨hr1,hr2⟩:=HRS.out he0
 rw [←HXS.out,List.pairwise_map] at hr1
 have HR1:=Qh hr1
 have HR2:=Qh (fun x (hx:x∈xs)=>hr2 x.1 (by rw [←HXS.out];exact List.mem_map.2 ⟨x,hx,rfl⟩))
 have hxl:xs.length≤32:=rise_len xs 0 31 hr1 (fun x hx=>⟨θ _,HR2.out x hx⟩) (by omega)
 clear he0 hr1 hr2 HRS
 have hmk: ∀ W:World,(Instr.makeMap 253 none).run Tryz.prog W= .ok (.map (some W.heap.size)) (W.alloc (.map #[] 0)):=fun _=>rfl
 have HM0:=Qh (World.ownsMap_made (H:=Value) w1 Tryz.prog 3 heldR)
 have HB2:=Qh (Below.next (below_alloc w1 (.map #[] 0)) (below_alloc _ (.cells #[.map (some w1.heap.size),.int .i64 0] 255)))
 have HX2:=Qh (show ((w1.alloc (.map #[] 0)).alloc (.cells #[.map (some w1.heap.size),.int .i64 0] 255)).heap[w1.heap.size+1]? =some (.cells #[.map (some w1.heap.size),.int .i64 0] 255 (0,0)) by
  have h:=σ (w1.alloc (.map #[] 0)) (.cells #[.map (some w1.heap.size),.int .i64 0] 255)
  rw [Ω] at h
  exact h)
 have HM2:=Qh (Iz HM0.out (below_alloc _ (.cells #[.map (some w1.heap.size),.int .i64 0] 255)))
 have HSH:=Qh (Ja HO.out)
 go_wp2
 generalize (w1.alloc (.map #[] 0)).alloc (.cells #[.map (some w1.heap.size),.int .i64 0] 255)=w2 at*
 go_loopw [24] (fun iv wr=> ∃ (k:Nat) (D:DataW Value),k≤xs.length∧iv= .int .i64 (k:Int)∧Hid (wr.heap[w1.heap.size+1]? =some (.cells #[.map (some w1.heap.size),.int .i64 0] 255 (0,0)))∧Hid (wr.ownsMap Tryz.prog 3 heldR w1.heap.size k D)∧Hid (FdD D (xs.take k))∧Hid (Below w1.heap.size w1 wr)) (fun iv _=>xs.length - (intOf iv).toNat)
 case atStart=>exact⟨0,.map [],θ _,rfl,HX2,HM2,Qh fdD_nil,HB2⟩
 case round=>
  obtain⟨k,D,hk,rfl,HX,HM,HF,HB⟩:=hrel
  by_cases hlt:k<xs.length
  ·obtain⟨x,hx,htk,hxm⟩:=Kc xs k hlt
   obtain⟨_,_,e2,_,hat⟩:=HSH.out
   simp only [Value.slice.injEq,true_and] at e2
   obtain⟨rfl,rfl⟩:=e2
   obtain⟨b,off,rfl,hcell⟩:=hat k x hx
   have q1:(k:Int)<(xs.length:Int):=by omega
   have HCE:=Qh (Ax hcell HB.out)
   have HTK:=Qh htk
   have HNO:=Qh (fun y (hy:y∈xs.take k)=>(show y.1.tag≠x.1.tag by
    have h:=HR1.out
    rw [←List.take_append_drop (k+1) xs,htk,List.append_assoc,List.pairwise_append] at h
    have:=h.2.2 y hy x (by simp)
    omega))
   have hx31:=HR2.out x hxm
   have h1v:x.2.oneCell'=true:=by obtain⟨_,_,e,_⟩:=HO.out.2 x hxm;rw [e];rfl
   have hk1:IntKind.i64.wrap ((k:Int)+1)=(k:Int)+1:=by rw [κ];omega
   have HFZ:=Qh (show A1 (wr.alloc (.cells #[.int .i64 0,.bool false,.int .u64 0,.slice none 0 0] 257)) wr.heap.size fld0 (.slice none 0 0) from Cp wr fld0 (.slice none 0 0))
   have HBZ:=Qh (below_alloc wr (.cells #[.int .i64 0,.bool false,.int .u64 0,.slice none 0 0] 257))
   obtain⟨f,bv⟩:=x
   dsimp only at HCE HNO hx31 h1v
   clear hx htk hxm hcell hat
   go_wp2_with (first | (with_reducible refine wpList_load_fdAt rfl (.tmp 26) rfl b (off+k*4) f bv rfl HCE.out ?_) | (with_reducible refine wpList_store_fd rfl (.tmp 9) (.tmp 27) rfl wr.heap.size fld0 f (.slice none 0 0) bv rfl rfl HFZ.out h1v ?_))
   intro w3 hw3
   have HF3:=Qh (show A1 w3 wr.heap.size f bv by rw [hw3.out];exact HFZ.out.row)
   have HB3:=Qh (show Below wr.heap.size wr w3 by rw [hw3.out];exact Az HBZ.out (ξ _) _)
   clear hw3 HFZ HBZ HCE
   have hsz:w1.heap.size+2≤wr.heap.size:=by have:=(δ.1 HX.out).1;omega
   have hszk:wr.heap.size<w3.heap.size:=HF3.out.lt
   have HX3:=Qh ((HB3.out.block _ (by omega)).trans HX.out)
   have HM3:=Qh (Iz HM.out HB3.out)
   have HBW:=Qh (show Below w1.heap.size w1 w3 from HB.out.trans (HB3.out.mono (by omega)))
   clear HX HM HB HB3
   generalize wr.heap.size=gx at*
   go_wp2_with fail
   have hbd:Below w3.heap.size w3 (World.drew w3):=below_drewN' w3 1
   refine ω (S:=fun w'=>Turned (fun k=>k=w1.heap.size) w3 w') (by kernel_rfl) (Turned.below hbd) (fun hHeld=> ?_)
   have FX1:=Qh (fun(wF:World) (hSw:(fun w'=>Turned (fun k=>k=w1.heap.size) w3 w') wF)=>And.intro ((show wF.cell? ⟨w1.heap.size+1,0,none⟩=some (.map (some w1.heap.size)) from hSw.cell (by simp [World.cell?,HX3.out]) (by simp only;omega))) ((hSw.cell HF3.out.c0 (by simp only;omega))))
   refine tf FX1 0 rfl ?_
   refine tf FX1 1 rfl ?_
   refine tf FX1 2 rfl ?_
   refine tf FX1 3 rfl ?_
   refine tf FX1 4 rfl ?_
   refine tf FX1 5 rfl ?_
   clear FX1
   refine tkl 6 gx 0 [.int .i64 (f.tag:Int),.bool f.text,.int .u64 (f.num:Int),bv] rfl rfl (fun w' h j v hv=>by rw [Nat.zero_add];exact h.cell (by rw [HF3.out.cell];simpa [fdCs] using hv) (by simp only;omega)) Tryz.underlying257 rfl (by rw [fdInfo];rfl) ?_
   simp only [pA,pB,pC,pD]
   have HXd:=Qh ((hbd.block _ (by omega)).trans HX3.out)
   have HMd:=Qh (Iz HM3.out hbd)
   have HBd:=Qh (show Below w1.heap.size w1 (World.drew w3) from HBW.out.trans (hbd.mono (by omega)))
   have hszd:w3.heap.size≤(World.drew w3).heap.size:=hbd.size
   clear hbd HM3
   generalize World.drew w3=wd at*
   refine Rd 7 rfl fun K hK=> ?_
   refine wp_mapPut (f:=f) (bv:=bv) (.tmp 31) (.tmp 33) (.tmp 34) rfl rfl rfl rfl HMd.out (by omega) (by omega) (fun W4 hM4 hg4=> ?_)
   have HT4:=Qh (show Turned (fun k=>k=w1.heap.size) w3 W4 from hHeld.trans (Turned.grown hg4 (S:=fun k=>k=w1.heap.size) fun k hk=>by cases hk;rfl) fun i hi=> .inl hi)
   have HB4:=Qh (show Below w1.heap.size w1 W4 from HBd.out.grown hg4 (by omega) (fun j hj=>by cases hj;exact ξ _))
   have HX4:=Qh ((hg4.block (w1.heap.size+1) (by omega) (fun e=>by injection e with e;omega)).trans HXd.out)
   have HM4:=Qh hM4
   have HF4:=Qh (show FdD (D.put (.int .i64 (f.tag:Int)) (.held (fdV f bv))) (xs.take (k+1)) by rw [HTK.out];exact HF.out.put f bv HNO.out)
   refine hK.out _ _ HT4.out (fun _=> ?_)
   clear hK K hHeld hM4 hg4
   refine Λ (by kernel_rfl) ?_ _
   go_wp2
   go_roundw
   case rel=>exact⟨k+1,_,by omega,by go_num,HX4,HM4,HF4,HB4⟩
   case measure=>simp [intOf];omega
  ·obtain rfl:k=xs.length:=by omega
   have HF2:=Qh (show FdD D xs by have:=HF.out;rw [List.take_length] at this;exact this)
   go_wp2
   go_ret2
   refine⟨fun h=>absurd HE.out h,fun _=>⟨w1.heap.size+1,w1.heap.size,xs,rfl,HXS.out,⟨HX.out,⟨D,HM.out.mono (by omega),HF2.out⟩,HR1.out,fun x hx=> ?_⟩,by have:=HB1.out.size;omega,HB1.out.size⟩,Below.next HB1.out HB.out⟩
   exact((HO.out.2 x hx).mono (A':=fun k=>k≠w1.heap.size+1∧k≠w1.heap.size) fun k hk=>⟨by omega,by omega⟩).below HB.out
end
section
open Go.RowKit Go.Maps
def Bw (xs:List (Fld×Value)) (bad:Int) (k:Int) (t:Bool):(Fld×Value)×List (Fld×Value)×Int:=
 match xs.find? (tagIs k) with
 | none=>((fld0,.slice none 0 0),xs,bad)
 | some x=>if x.1.text=t then (x,Fy k xs,bad) else ((fld0,.slice none 0 0),Fy k xs,33)
theorem En.left {w w':World} {r m:Nat} {bad k:Int} {xs:List (Fld×Value)} {D:DataW Value} (h:En w r m bad xs) (hg:w.grownBy w' (some m)) (hM:w'.ownsMap Tryz.prog 3 heldR m 1000 (D.del (.int .i64 k))) (hF:FdD D xs):En w' r m bad (Fy k xs):=
 ⟨(hg.block _ h.lt.1 (fun e=>by injection e with e;exact h.ne e)).trans h.blk,⟨_,hM,hF.del k h.tags⟩,h.tags.filter _,fun x hx=>Ag.turned (h.rows x (List.mem_filter.1 hx).1) (Turned.grown hg (S:=fun j=>j=m) fun j hj=>by cases hj;rfl) fun j hj=>hj.2⟩
theorem En.setBad {w:World} {r m:Nat} {bad b':Int} {xs:List (Fld×Value)} (h:En w r m bad xs):En (w.setCell ⟨r,1,none⟩ (.int .i64 b')) r m b' xs:=by
 obtain⟨D,h1,h2⟩:=h.map
 refine⟨?_,⟨D,h1.setCell (fun e=>h.ne e.symm) _,h2⟩,h.tags,fun x hx=>Ag.turned (h.rows x hx) (Turned.setCell (S:=fun j=>j=r) w ⟨r,1,none⟩ (.int .i64 b') rfl) fun j hj=>hj.1⟩
 simp only [World.setCell]
 rw [Array.getElem?_modify]
 simp [h.blk]
theorem En.other {w w':World} {r m:Nat} {bad:Int} {xs:List (Fld×Value)} {B:Nat} {S:Nat→Prop} (h:En w r m bad xs) (ht:Turned S w w') (hS: ∀ k,S k→B≤k) (hr:r<B) (hm:m<B) (hx: ∀ x∈xs,Ag (fun k=>k<B) w x.2 x.1.data):En w' r m bad xs:=by
 obtain⟨D,⟨es,clock,hb,hf⟩,h2⟩:=h.map
 have hb':=(ht.block _ (δ.1 hb).1 (fun hs=>by have:=hS _ hs;omega)).trans hb
 refine⟨(ht.block _ h.lt.1 (fun hs=>by have:=hS _ hs;omega)).trans h.blk,⟨D,⟨es,clock,hb',hf⟩,h2⟩,h.tags,fun x hxm=> ?_⟩
 obtain⟨oa,cap,e1,e2,e3⟩:=h.rows x hxm
 obtain⟨oa',cap',e1',_,e3'⟩:=hx x hxm
 rw [e1] at e1'
 simp only [Value.slice.injEq,true_and] at e1'
 obtain⟨rfl,rfl⟩:=e1'
 refine⟨oa,cap,e1,e2,fun hn=> ?_⟩
 obtain⟨b,off,rfl,ha,hc⟩:=e3 hn
 obtain⟨b',off',e,ha',_⟩:=e3' hn
 simp only [Option.some.injEq,Addr.mk.injEq,and_true] at e
 obtain⟨rfl,rfl⟩:=e
 exact⟨b,off,rfl,ha,fun i u hu=>ht.cell (hc i u hu) fun hs=>by have:=hS _ hs;simp only at this;omega⟩
def TakePost (w:World) (r m:Nat) (y:(Fld×Value)×List (Fld×Value)×Int) (e:Ending) (w':World):Prop:=e= .returned (fdV y.1.1 y.1.2)∧En w' r m y.2.2 y.2.1∧Turned (fun k=>k=r∨k=m) w w'
theorem rdTake_any (w:World) (r m:Nat) (bad k:Int) (t:Bool) (xs:List (Fld×Value)) (h:En w r m bad xs) (hk:0≤k∧k≤1000):
  Calls Tryz.prog 153 #[.pointer (some ⟨r,0,none⟩),.int .i64 k,.bool t] w (TakePost w r m (Bw xs bad k t)):=by
 have HB0:=Qh (below_alloc w (.cells #[.int .i64 0,.bool false,.int .u64 0,.slice none 0 0] 257))
 have HR0:=Qh (show A1 (w.alloc (.cells #[.int .i64 0,.bool false,.int .u64 0,.slice none 0 0] 257)) w.heap.size fld0 (.slice none 0 0) from Cp w fld0 (.slice none 0 0))
 have HH:=Qh (h.below HB0.out)
 have HLT:=Qh h.lt
 have HROW:=Qh (fun x (hx:x∈xs)=>(h.rows x hx).low)
 have c0:=HH.out.c0
 obtain⟨D,hM,hF⟩:=HH.out.map
 have HM:=Qh hM
 have HF:=Qh hF
 have hkey:keyOf Tryz.prog 3 (.int .i64 k)=some (.int .i64 k):=keyOf_int_mk Tryz.underlying3 (WalkArith.wf_i64 (by omega))
 have HZ:=Qh (show ∀ W:World,(zeroValue 257).run Tryz.prog W= .ok (fdV fld0 (.slice none 0 0)) W from fun W=>by kernel_rfl)
 clear h hM hF
 go_enter Tryz.func153,Tryz.ntmps153
 go_wp2_with (at_lookup;refine wpList_lookup_own_ok _ rfl _ _ 253 rfl 3 257 (int_keyed Tryz.underlying3) Tryz.underlying253 heldR (HZ.out _) (.held (fdV fld0 (.slice none 0 0))) [] rfl m 1000 D rfl HM.out _ _ rfl hkey ?_)
 intro v ps hv
 rw [HF.out.at_] at hv
 rw [HF.out.has]
 have HSZ:=Qh (show (w.alloc (.cells #[.int .i64 0,.bool false,.int .u64 0,.slice none 0 0] 257)).heap.size=w.heap.size+1 by simp)
 generalize w.alloc (.cells #[.int .i64 0,.bool false,.int .u64 0,.slice none 0 0] 257)=w0 at*
 have HFZ:=Qh (show A1 (w0.alloc (.cells #[.int .i64 0,.bool false,.int .u64 0,.slice none 0 0] 257)) w0.heap.size fld0 (.slice none 0 0) from Cp w0 fld0 (.slice none 0 0))
 have HBZ:=Qh (below_alloc w0 (.cells #[.int .i64 0,.bool false,.int .u64 0,.slice none 0 0] 257))
 have hlt:=HLT.out
 rcases hfd:xs.find? (tagIs k) with _ | x
 ·have HE:=Qh (show Bw xs bad k t=((fld0,.slice none 0 0),xs,bad) by unfold Bw;rw [hfd])
  have hany:xs.any (tagIs k)=false:=List.any_eq_false.2 fun y hy=>List.find?_eq_none.1 hfd y hy
  rw [hfd] at hv
  have hv':v=fdV fld0 (.slice none 0 0):=by
   unfold heldR at hv
   dsimp only at hv
   injection hv with h
   injection h with h1 _
   injection h1
  rw [hany,hv']
  clear hv hv' hfd hany c0
  go_wp2_with (with_reducible refine wpList_store_fd rfl (.tmp 7) (.tmp 19) rfl w0.heap.size fld0 fld0 (.slice none 0 0) (.slice none 0 0) rfl rfl HFZ.out rfl ?_)
  intro w2 hw2
  have HF2:=Qh (show A1 w2 w0.heap.size fld0 (.slice none 0 0) by rw [hw2.out];exact HFZ.out.row)
  have HB2:=Qh (show Below w0.heap.size w0 w2 by rw [hw2.out];exact Az HBZ.out (ξ _) _)
  clear hw2
  have HR2:=Qh (HR0.out.below HB2.out)
  have HH2:=Qh (HH.out.below HB2.out)
  go_wp2_with (first | (with_reducible refine wpList_load_fd rfl (.tmp 7) rfl w0.heap.size fld0 (.slice none 0 0) rfl HF2.out ?_) | (with_reducible refine wpList_store_fd rfl (.tmp 6) (.tmp 23) rfl w.heap.size fld0 fld0 (.slice none 0 0) (.slice none 0 0) rfl rfl HR2.out rfl ?_))
  intro w3 hw3
  have HR3:=Qh (show A1 w3 w.heap.size fld0 (.slice none 0 0) by rw [hw3.out];exact HR2.out.row)
  have HT3:=Qh (show Turned (fun j=>j=w.heap.size) w2 w3 by rw [hw3.out];exact Ak _ _ _)
  clear hw3
  have HH3:=Qh (show En w3 r m bad xs from HH2.out.other (B:=w.heap.size) HT3.out (fun j hj=>by omega) hlt.1 hlt.2 fun x hx=>(((HROW.out x hx).mono fun j hj=>hj.2).below HB0.out).below HB2.out)
  go_wp2
  exact π (v:=fdV fld0 (.slice none 0 0)) (Ho rfl _ _ w.heap.size _ _ rfl HR3.out) rfl ⟨by rw [HE.out],by rw [HE.out];exact HH3.out,((Turned.below (Below.next HB0.out HB2.out)).trans HT3.out fun i hi=> .inr (by omega))⟩
 ·have hxm:x∈xs:=List.mem_of_find?_eq_some hfd
  have hany:xs.any (tagIs k)=true:=List.any_eq_true.2 ⟨x,hxm,List.find?_some hfd⟩
  have HE:=Qh (show Bw xs bad k t=if x.1.text=t then (x,Fy k xs,bad) else ((fld0,.slice none 0 0),Fy k xs,33) by unfold Bw;rw [hfd])
  rw [hfd] at hv
  obtain⟨f,bv⟩:=x
  have hv':v=fdV f bv:=by
   unfold heldR at hv
   dsimp only at hv
   injection hv with h
   injection h with h1 _
   injection h1
  have h1v:bv.oneCell'=true:=by obtain⟨_,_,e,_⟩:=HROW.out _ hxm;dsimp only at e;rw [e];rfl
  rw [hany,hv']
  dsimp only at HE
  clear hv hv' hfd hany c0 hxm
  go_wp2_with (with_reducible refine wpList_store_fd rfl (.tmp 7) (.tmp 19) rfl w0.heap.size fld0 f (.slice none 0 0) bv rfl rfl HFZ.out h1v ?_)
  intro w2 hw2
  have HF2:=Qh (show A1 w2 w0.heap.size f bv by rw [hw2.out];exact HFZ.out.row)
  have HB2:=Qh (show Below w0.heap.size w0 w2 by rw [hw2.out];exact Az HBZ.out (ξ _) _)
  clear hw2
  have HR2:=Qh (HR0.out.below HB2.out)
  have HH2:=Qh (HH.out.below HB2.out)
  have HM2:=Qh (Iz HM.out HB2.out)
  have HW2:=Qh (Below.next HB0.out HB2.out)
  have c0:=HH2.out.c0
  have hsz:w.heap.size<w0.heap.size:=by have:=HSZ.out;omega
  clear HM HH HR0 HB0
  go_wp2_with (at_delete;refine wpList_delete_own _ rfl _ _ 253 3 rfl 257 (int_keyed Tryz.underlying3) Tryz.underlying253 heldR m 1000 D rfl HM2.out _ _ rfl hkey ?_)
  intro w3 hM3 ht3
  have hg3:=ht3.grown
  have HH3:=Qh (HH2.out.left (k:=k) hg3 hM3 HF.out)
  have HT3:=Qh (show Turned (fun j=>j=m) w2 w3 from Turned.grown hg3 (S:=fun j=>j=m) fun j hj=>by cases hj;rfl)
  have HF3:=Qh (HF2.out.turned HT3.out (by omega))
  have HR3:=Qh (HR2.out.turned HT3.out (by omega))
  have HROW3:=Qh (fun x (hx:x∈Fy k xs)=>(show Ag (fun j=>(j≠r∧j≠m)∧j<w.heap.size) w3 x.2 x.1.data from((HROW.out x (List.mem_filter.1 hx).1).below HW2.out).turned HT3.out fun j hj=>hj.1.2))
  have d1:=HF3.out.c1
  have HW3:=Qh (show Turned (fun j=>j=r∨j=m) w w3 from(Turned.below HW2.out).trans HT3.out fun i hi=> .inl (.inr hi))
  clear hM3 ht3 hg3 c0 HM2 HH2 HT3
  rcases hft:(f.text==t) with _ | _
  case true=>
   have HE2:=Qh (show Bw xs bad k t=((f,bv),Fy k xs,bad) by rw [HE.out,ζ (by simpa using hft)])
   go_wp2_with (first | (with_reducible refine wpList_load_fd rfl (.tmp 7) rfl w0.heap.size f bv rfl HF3.out ?_) | (with_reducible refine wpList_store_fd rfl (.tmp 6) (.tmp 37) rfl w.heap.size fld0 f (.slice none 0 0) bv rfl rfl HR3.out h1v ?_))
   intro w4 hw4
   have HR4:=Qh (show A1 w4 w.heap.size f bv by rw [hw4.out];exact HR3.out.row)
   have HT4:=Qh (show Turned (fun j=>j=w.heap.size) w3 w4 by rw [hw4.out];exact Ak _ _ _)
   clear hw4
   have HH4:=Qh (show En w4 r m bad (Fy k xs) from HH3.out.other (B:=w.heap.size) HT4.out (fun j hj=>by omega) hlt.1 hlt.2 fun x hx=>(HROW3.out x hx).mono fun j hj=>hj.2)
   go_wp2
   exact π (v:=fdV f bv) (Ho rfl _ _ w.heap.size _ _ rfl HR4.out) rfl ⟨by rw [HE2.out],by rw [HE2.out];exact HH4.out,HW3.out.trans HT4.out fun i hi=> .inr (by omega)⟩
  case false=>
   have HE2:=Qh (show Bw xs bad k t=((fld0,.slice none 0 0),Fy k xs,33) by rw [HE.out,γ (by simpa using hft)])
   have e1:=HH3.out.c1
   have f1:=HH3.out.free 1
   have HH4:=Qh (HH3.out.setBad (b':=33))
   have HTB:=Qh (Turned.setCell (S:=fun j=>j=r) w3 ⟨r,1,none⟩ (.int .i64 33) rfl)
   have HR4:=Qh (HR3.out.turned HTB.out (by omega))
   go_wp2_with (with_reducible refine wpList_store_fd rfl (.tmp 6) (.tmp 36) rfl w.heap.size fld0 fld0 (.slice none 0 0) (.slice none 0 0) rfl rfl HR4.out rfl ?_)
   intro w4 hw4
   have HR5:=Qh (show A1 w4 w.heap.size fld0 (.slice none 0 0) by rw [hw4.out];exact HR4.out.row)
   have HT4:=Qh (show Turned (fun j=>j=w.heap.size) (w3.setCell ⟨r,1,none⟩ (.int .i64 33)) w4 by rw [hw4.out];exact Ak _ _ _)
   clear hw4
   have HH5:=Qh (show En w4 r m 33 (Fy k xs) from HH4.out.other (B:=w.heap.size) HT4.out (fun j hj=>by omega) hlt.1 hlt.2 fun x hx=>((HROW3.out x hx).turned HTB.out fun j hj=>hj.1.1).mono fun j hj=>hj.2)
   go_wp2
   exact π (v:=fdV fld0 (.slice none 0 0)) (Ho rfl _ _ w.heap.size _ _ rfl HR5.out) rfl ⟨by rw [HE2.out],by rw [HE2.out];exact HH5.out,(HW3.out.trans HTB.out fun i hi=> .inl (.inl hi)).trans HT4.out fun i hi=> .inr (by omega)⟩
end
section
open Go.RowKit Go.Maps
theorem takeP_row {w w':World} {r m:Nat} {bad k:Int} {t:Bool} {xs:List (Fld×Value)} (h:En w r m bad xs) (ht:Turned (fun j=>j=r∨j=m) w w'):Ag (fun j=>j≠r∧j≠m) w' (Bw xs bad k t).1.2 (Bw xs bad k t).1.1.data:=by
 have hnil:Ag (fun j=>j≠r∧j≠m) w' (.slice none 0 0) fld0.data:=Ex _ _
 unfold Bw
 rcases hfd:xs.find? (tagIs k) with _ | x
 ·exact hnil
 ·dsimp only
  split
  ·exact Ag.turned (h.rows x (List.mem_of_find?_eq_some hfd)) ht fun j hj hs=>by rcases hs with h | h<;>omega
  ·exact hnil
theorem rdNum_any (w:World) (r m:Nat) (bad k:Int) (xs:List (Fld×Value)) (h:En w r m bad xs) (hk:0≤k∧k≤1000):
  Calls Tryz.prog 118 #[.pointer (some ⟨r,0,none⟩),.int .i64 k] w fun e w'=>e= .returned (.int .u64 ((Bw xs bad k false).1.1.num:Int))∧En w' r m (Bw xs bad k false).2.2 (Bw xs bad k false).2.1∧Turned (fun j=>j=r∨j=m) w w':=by
 have HT:=Qh (rdTake_any w r m bad k false xs h hk)
 unfold TakePost at HT
 generalize Bw xs bad k false=y at*
 clear h hk
 have hfl: ∀ (f:Fld) (bv:Value) (W:World),(Instr.field 257 (fdV f bv) 2).run Tryz.prog W= .ok (.int .u64 (f.num:Int)) W:=fun f bv W=>by kernel_rfl
 go_enter Tryz.func118,Tryz.ntmps118
 go_wp2_with fail
 refine HT.out.mono ?_
 rintro e w1 ⟨rfl,h1,h2⟩
 go_wp2
 go_ret
 exact⟨rfl,h1,h2⟩
theorem rdText_any (w:World) (r m:Nat) (bad k:Int) (xs:List (Fld×Value)) (h:En w r m bad xs) (hk:0≤k∧k≤1000):
  Calls Tryz.prog 120 #[.pointer (some ⟨r,0,none⟩),.int .i64 k] w fun e w'=>e= .returned (Bw xs bad k true).1.2∧Ag (fun j=>j≠r∧j≠m) w' (Bw xs bad k true).1.2 (Bw xs bad k true).1.1.data∧En w' r m (Bw xs bad k true).2.2 (Bw xs bad k true).2.1∧Turned (fun j=>j=r∨j=m) w w':=by
 have HT:=Qh (rdTake_any w r m bad k true xs h hk)
 have HR:=Qh (fun W ht=> @takeP_row w W r m bad k true xs h ht)
 unfold TakePost at HT
 generalize Bw xs bad k true=y at*
 clear h hk
 have hfl: ∀ (f:Fld) (bv:Value) (W:World),(Instr.field 257 (fdV f bv) 3).run Tryz.prog W= .ok bv W:=fun f bv W=>by kernel_rfl
 go_enter Tryz.func120,Tryz.ntmps120
 go_wp2_with fail
 refine HT.out.mono ?_
 rintro e w1 ⟨rfl,h1,h2⟩
 have HR1:=Qh (HR.out w1 h2)
 go_wp2
 go_ret
 exact⟨rfl,HR1.out,h1,h2⟩
def errR (xs:List (Fld×Value)) (bad:Int):Int:=if bad≠0 then bad else if xs=[] then 0 else 20
theorem rdErr_any (w:World) (r m:Nat) (bad:Int) (xs:List (Fld×Value)) (h:En w r m bad xs):
  Calls Tryz.prog 121 #[.pointer (some ⟨r,0,none⟩)] w fun e w'=>e= .returned (.int .i64 (errR xs bad))∧w=w':=by
 obtain⟨D,hM,hF⟩:=h.map
 have HM:=Qh hM
 have c0:=h.c0
 have c1:=h.c1
 have HS:=Qh hF.size
 clear hM hF h
 rcases hb:(bad != 0) with _ | _
 ·have hb0:bad=0:=by simpa using hb
  have HE:=Qh (show errR xs bad=if xs=[] then 0 else 20 by unfold errR;rw [γ (fun h=>h hb0)])
  clear hb0
  rcases xs with _ | ⟨x,xs⟩
  ·have HE2:=Qh (show errR [] bad=0 by rw [HE.out,ζ rfl])
   have q:decide (0<Maps.size D)=false:=by rw [HS.out];rfl
   go_enter Tryz.func121,Tryz.ntmps121
   go_wp2_with (at_len;refine wpList_len_own _ rfl _ 253 rfl 3 257 Tryz.underlying253 heldR m 1000 D rfl HM.out ?_)
   go_ret
   rw [HE2.out]
   exact⟨rfl,rfl⟩
  ·have HE2:=Qh (show errR (x::xs) bad=20 by rw [HE.out,γ (by simp)])
   have q:decide (0<Maps.size D)=true:=by rw [HS.out];simp
   go_enter Tryz.func121,Tryz.ntmps121
   go_wp2_with (at_len;refine wpList_len_own _ rfl _ 253 rfl 3 257 Tryz.underlying253 heldR m 1000 D rfl HM.out ?_)
   go_ret
   rw [HE2.out]
   exact⟨rfl,rfl⟩
 ·have HE:=Qh (show errR xs bad=bad by unfold errR;rw [ζ (by simpa using hb)])
  go_enter Tryz.func121,Tryz.ntmps121
  go_wp2
  go_ret
  rw [HE.out]
  exact⟨rfl,rfl⟩
def Cw (u:Nat):Int:=(min u 4611686018427387904:Nat)
end
def I64 (n:Int):Prop:= -9223372036854775808≤n∧n≤9223372036854775807
def isDgt (c:UInt8):Prop:=48≤c.toNat∧c.toNat≤57
instance (c:UInt8):Decidable (isDgt c):=by unfold isDgt;infer_instance
def numberOf (s:List UInt8):Option Int:=
 match Lib.atoiAll s with
 | .ok n=>if Lib.itoa n=s then some n else none
 | _=>none
def hx (d:Nat):UInt8:=if d<10 then UInt8.ofNat (48+d) else UInt8.ofNat (87+d)
def unhx (c:UInt8):Option Nat:=if 48≤c.toNat∧c.toNat≤57 then some (c.toNat - 48) else if 97≤c.toNat∧c.toNat≤102 then some (c.toNat - 87) else none
def unhexOf:List UInt8→Option (List UInt8)
 | []=>some []
 | [_]=>none
 | a::b::l=>match unhx a,unhx b with
  | some x,some y=>(unhexOf l).map (UInt8.ofNat (16*x+y):: ·)
  | _,_=>none
structure Ev where
 kind:Int
 order:Int
 item:Int
 qty:Int
 price:Int
 cur:Int
 tax:Int
 who:List UInt8
 stamp:Int
 note:List UInt8
def evNone:Ev:=⟨0,0,0,0,0,0,0,[],0,[]⟩
theorem Ev.ext' {a b:Ev} (h0:a.kind=b.kind) (h1:a.order=b.order) (h2:a.item=b.item) (h3:a.qty=b.qty) (h4:a.price=b.price) (h5:a.cur=b.cur) (h6:a.tax=b.tax)
  (h7:a.who=b.who) (h8:a.stamp=b.stamp) (h9:a.note=b.note):a=b:=by
 cases a;cases b;simp at *;exact⟨h0,h1,h2,h3,h4,h5,h6,h7,h8,h9⟩
def I0 (c:UInt8):Bool:=c.toNat==45 || (decide (48≤c.toNat)&&decide (c.toNat≤57)) || (decide (97≤c.toNat)&&decide (c.toNat≤122))
def Er (s:List UInt8):Bool:=s.all I0
def Bz (v:Int):Int:=if v<3 then 5 else if v=3 then 7 else if v=4 then 9 else 10
def Ir (x lo hi:Int):Bool:=decide (lo≤x)&&decide (x≤hi)
def D6 (v:Int) (e:Ev):Bool:=
 Ir e.order 1 1099511627776&&Ir e.item 0 65535&&Ir e.qty (if v<3 then -10000 else 0) 10000&&Ir e.price 0 (if v=1 then 1000000 else 100000000)&&
 Ir e.cur 0 (if v<2 then 0 else 3)&&Ir e.tax 0 (if v<3 then 0 else 5000)&&(if v<4 then e.who.isEmpty else Er e.who)&&Ir e.stamp 0 (if v<5 then 0 else 1099511627776)&&(decide (5≤v) || e.note.isEmpty)
def Af (v:Int) (e:Ev):Int:=
 if v<1∨5<v then 30
 else if e.kind<1∨Bz v<e.kind then 31
 else if 16<e.who.length∨120<e.note.length then 24
 else if D6 v e=true then 0 else 32
def cutAt (c:UInt8):List UInt8→Option (List UInt8×List UInt8)
 | []=>none
 | x::l=>if x=c then some ([],l) else (cutAt c l).map fun p=>(x::p.1,p.2)
def keyW:List (List UInt8):=[[111,114,100,101,114],[105,116,101,109],[113,116,121],[112,114,105,99,101],[99,117,114],[116,97,120],[119,104,111],[115,116,97,109,112]]
def noteW:List UInt8:=[110,111,116,101]
def keyIdx (w:List UInt8):Option Nat:=keyW.findIdx? (· ==w)
def setKey (e:Ev) (k:Nat) (n:Int):Ev:=
 match k with | 0=>{e with order:=n} | 1=>{e with item:=n} | 2=>{e with qty:=n} | 3=>{e with price:=n} | 4=>{e with cur:=n} | 5=>{e with tax:=n} | 7=>{e with stamp:=n} | _=>e
def fieldsOf (next:Nat) (e:Ev):List (List UInt8)→Ev×Int
 | []=>(e,0)
 | w::ws=>
  match cutAt 61 w with
  | none=>(evNone,100)
  | some (name,val)=>
   if name=noteW∧ws=[] then
    match unhexOf val with
    | none=>(evNone,101)
    | some b=>if b=[] then (evNone,101) else ({e with note:=b},0)
   else match keyIdx name with
   | none=>(evNone,100)
   | some k=>
    if k<next then (evNone,100)
    else if k=6 then (if val=[] then (evNone,101) else fieldsOf 7 {e with who:=val} ws)
    else match numberOf val with
    | none=>(evNone,101)
    | some n=>if n=0 then (evNone,101) else fieldsOf (k+1) (setKey e k n) ws
def hasOf (v:Int):Int:=if v=1 then 5 else if v=2 then 6 else if v=3 then 7 else if v=4 then 8 else 10
def Hv (e:Ev):List Int:=[0,e.kind,e.order,e.item,e.qty,e.price,e.cur,e.tax,0,e.stamp,0]
def I4 (v:Int):List Int:=[0,1,1,0,if v<3 then -10000 else 0,0,0,0,0,0,0]
def Fp (v:Int):List Int:=[0,10,1099511627776,65535,10000,if v=1 then 1000000 else 100000000,3,5000,0,1099511627776,0]
def Jt (v:Int) (e:Ev) (k:Nat):Prop:=hasOf v<k∧(Hv e).getD k 0≠0∨(Hv e).getD k 0<(I4 v).getD k 0∨(Fp v).getD k 0<(Hv e).getD k 0
theorem fits_iff (v:Int) (e:Ev) (h0:1≤v) (h1:v≤5) (hk0:1≤e.kind) (hk1:e.kind≤Bz v):
  D6 v e=true↔(∀ k,1≤k→k≤10→ ¬ Jt v e k)∧ ¬ (v<4∧e.who≠ []∨v<5∧e.note≠ [])∧Er e.who=true:=by
 have hl:Bz v≤10:=by unfold Bz;split<;>(try split)<;>(try split)<;>omega
 unfold D6 Ir
 simp only [Bool.and_eq_true,decide_eq_true_eq,Bool.or_eq_true,List.isEmpty_iff]
 constructor
 ·rintro⟨⟨⟨⟨⟨⟨⟨⟨h2,h3⟩,h4⟩,h5⟩,h6⟩,h7⟩,h8⟩,h9⟩,h10⟩
  refine⟨fun k g0 g1=> ?_,?_,?_⟩
  ·unfold Jt hasOf
   match k,g0,g1 with
   | 1,_,_=>simp only [Hv,I4,Fp,List.getD_cons_succ,List.getD_cons_zero];split<;>(try split)<;>(try split)<;>(try split)<;>omega
   | 2,_,_=>simp only [Hv,I4,Fp,List.getD_cons_succ,List.getD_cons_zero];split<;>(try split)<;>(try split)<;>(try split)<;>omega
   | 3,_,_=>simp only [Hv,I4,Fp,List.getD_cons_succ,List.getD_cons_zero];split<;>(try split)<;>(try split)<;>(try split)<;>omega
   | 4,_,_=>simp only [Hv,I4,Fp,List.getD_cons_succ,List.getD_cons_zero];split at h4<;>rename_i hv<;>simp only [hv,if_true,if_false]<;>(split<;>(try split)<;>(try split)<;>(try split)<;>omega)
   | 5,_,_=>simp only [Hv,I4,Fp,List.getD_cons_succ,List.getD_cons_zero];split at h5<;>rename_i hv<;>simp only [hv,if_true,if_false]<;>(try split)<;>(try split)<;>(try split)<;>omega
   | 6,_,_=>simp only [Hv,I4,Fp,List.getD_cons_succ,List.getD_cons_zero];split at h6<;>(split<;>(try split)<;>(try split)<;>(try split)<;>omega)
   | 7,_,_=>simp only [Hv,I4,Fp,List.getD_cons_succ,List.getD_cons_zero];split at h7<;>(split<;>(try split)<;>(try split)<;>(try split)<;>omega)
   | 8,_,_=>simp only [Hv,I4,Fp,List.getD_cons_succ,List.getD_cons_zero];omega
   | 9,_,_=>simp only [Hv,I4,Fp,List.getD_cons_succ,List.getD_cons_zero];split at h9<;>(split<;>(try split)<;>(try split)<;>(try split)<;>omega)
   | 10,_,_=>simp only [Hv,I4,Fp,List.getD_cons_succ,List.getD_cons_zero];omega
  ·rintro(⟨hv,hw⟩ | ⟨hv,hn⟩)
   ·rw [ζ hv] at h8;exact hw (List.isEmpty_iff.1 h8)
   ·rcases h10 with h | h
    ·omega
    ·exact hn h
  ·split at h8
   ·rw [List.isEmpty_iff.1 h8];rfl
   ·exact h8
 ·rintro⟨ht,hwn,hp⟩
  have t2:=ht 2 (by omega) (by omega)
  have t3:=ht 3 (by omega) (by omega)
  have t4:=ht 4 (by omega) (by omega)
  have t5:=ht 5 (by omega) (by omega)
  have t6:=ht 6 (by omega) (by omega)
  have t7:=ht 7 (by omega) (by omega)
  have t9:=ht 9 (by omega) (by omega)
  unfold Jt hasOf at t2 t3 t4 t5 t6 t7 t9
  simp only [Hv,I4,Fp,List.getD_cons_succ,List.getD_cons_zero] at t2 t3 t4 t5 t6 t7 t9
  refine⟨⟨⟨⟨⟨⟨⟨⟨?_,?_⟩,?_⟩,?_⟩,?_⟩,?_⟩,?_⟩,?_⟩,?_⟩
  ·omega
  ·omega
  ·split<;>rename_i hv<;>simp only [hv,if_true,if_false] at t4<;>omega
  ·split<;>rename_i hv<;>simp only [hv,if_true,if_false] at t5<;>omega
  ·split<;>rename_i hv<;>(split at t6<;>(try split at t6)<;>(try split at t6)<;>(try split at t6)<;>omega)
  ·split<;>rename_i hv<;>(split at t7<;>(try split at t7)<;>(try split at t7)<;>(try split at t7)<;>omega)
  ·split
   ·rename_i hv
    rw [List.isEmpty_iff]
    exact Classical.byContradiction fun h=>hwn (.inl ⟨hv,h⟩)
   ·exact hp
  ·split<;>rename_i hv<;>(split at t9<;>(try split at t9)<;>(try split at t9)<;>(try split at t9)<;>omega)
  ·by_cases hv:v<5
   ·exact .inr (Classical.byContradiction fun h=>hwn (.inr ⟨hv,h⟩))
   ·exact .inl (by omega)
structure Ln where
 item:Int
 price:Int
 qty:Int
 shipped:Int
structure St where
 order:Int
 status:Int
 prior:Int
 cur:Int
 tax:Int
 lines:List Ln
 paid:Int
 refunded:Int
 events:Int
 refused:Int
 stamp:Int
 who:List UInt8
def netOf (ls:List Ln):Int:=ls.foldl (fun n l=>n+l.qty*l.price) 0
def dueOf (s:St):Int:=netOf s.lines+netOf s.lines*s.tax / 10000
def lnFine (l:Ln):Bool:=Ir l.item 0 65535&&Ir l.price 0 100000000&&Ir l.qty 1 100000&&Ir l.shipped 0 l.qty
def risen:Int→List Ln→Bool
 | _,[]=>true
 | b,l::ls=>decide (b<l.item)&&lnFine l&&risen l.item ls
def linedB (ls:List Ln):Bool:=decide (ls.length≤16)&&risen (-1) ls
def namedB (who:List UInt8):Bool:=decide (who.length≤16)&&Er who
def noneB (ls:List Ln):Bool:=ls.all fun l=>l.shipped==0
def wholeB (ls:List Ln):Bool:=ls.all fun l=>l.shipped==l.qty
def boundedB (s:St):Bool:=
 Ir s.order 1 1099511627776&&(Ir s.status 0 5&&(Ir s.cur 0 3&&(Ir s.tax 0 5000&&(linedB s.lines&&(Ir s.refunded 0 s.paid&&(Ir s.events 0 1099511627776&&(Ir s.refused 0 s.events&&(Ir s.stamp 0 1099511627776&&namedB s.who))))))))
def standB (s:St) (at_:Int):Bool:=
 let full:=s.paid==dueOf s&&decide (0<s.paid)
 if at_=0 then s.lines.isEmpty&&s.cur==0&&s.tax==0&&s.events==s.refused&&s.stamp==0&&s.who.isEmpty
 else if at_=1 then noneB s.lines&& !full&&s.refunded==0
 else if at_=3 then full&& !wholeB s.lines
 else if at_=4 then full&&wholeB s.lines
 else noneB s.lines
def validB (s:St):Bool:=
 boundedB s&&decide (s.paid≤dueOf s)&&(if s.status=2 then (s.prior==1 || s.prior==3)&&standB s s.prior else s.prior==0&&standB s s.status)
@[reducible] def Dx (e : Ev) : Value := .agg #[.int .i64 e.kind, .int .i64 e.order, .int .i64 e.item, .int .i64 e.qty, .int .i64 e.price, .int .i64 e.cur, .int .i64 e.tax, .string ⟨e.who.toArray⟩, .int .i64 e.stamp, .string ⟨e.note.toArray⟩]
structure I3 (n:Nat) (e:Ev):Prop where
 kind:I64 e.kind
 order:I64 e.order
 item:I64 e.item
 qty:I64 e.qty
 price:I64 e.price
 cur:I64 e.cur
 tax:I64 e.tax
 stamp:I64 e.stamp
 who:e.who.length≤n
 note:e.note.length≤n
structure EvAt (w:World) (b:Nat) (e:Ev):Prop where
 c0:w.cell? ⟨b,0,none⟩=some (.int .i64 e.kind)
 c1:w.cell? ⟨b,1,none⟩=some (.int .i64 e.order)
 c2:w.cell? ⟨b,2,none⟩=some (.int .i64 e.item)
 c3:w.cell? ⟨b,3,none⟩=some (.int .i64 e.qty)
 c4:w.cell? ⟨b,4,none⟩=some (.int .i64 e.price)
 c5:w.cell? ⟨b,5,none⟩=some (.int .i64 e.cur)
 c6:w.cell? ⟨b,6,none⟩=some (.int .i64 e.tax)
 c7:w.cell? ⟨b,7,none⟩=some (.string ⟨e.who.toArray⟩)
 c8:w.cell? ⟨b,8,none⟩=some (.int .i64 e.stamp)
 c9:w.cell? ⟨b,9,none⟩=some (.string ⟨e.note.toArray⟩)
theorem EvAt.below {w w':World} {b:Nat} {e:Ev} (h:EvAt w b e) (hb:Below w.heap.size w w'):EvAt w' b e:=
 ⟨cell_later hb h.c0,cell_later hb h.c1,cell_later hb h.c2,cell_later hb h.c3,cell_later hb h.c4,cell_later hb h.c5,cell_later hb h.c6,cell_later hb h.c7,cell_later hb h.c8,cell_later hb h.c9⟩
theorem Iv (w:World) (e:Ev) (t:TypeId):
  EvAt (w.alloc (.cells #[.int .i64 e.kind,.int .i64 e.order,.int .i64 e.item,.int .i64 e.qty,.int .i64 e.price,.int .i64 e.cur,.int .i64 e.tax,.string ⟨e.who.toArray⟩,.int .i64 e.stamp,.string ⟨e.note.toArray⟩] t)) w.heap.size e:=by
 constructor<;>(rw [World.cell?_alloc_new];rfl)
theorem refHas_any (v:Int) (w:World) (h0:1≤v) (h1:v≤5):Calls Tryz.prog 50 #[.int .i64 v] w fun e w'=>e= .returned (.int .i64 (hasOf v))∧Below w.heap.size w w':=by
 rcases (show v=1∨v=2∨v=3∨v=4∨v=5 by omega) with rfl | rfl | rfl | rfl | rfl
 all_goals
  clear h0 h1
  go_enter Tryz.func50,Tryz.ntmps50
  go_wp2
  go_ret
  exact⟨rfl,(τ _ _).alloc (ξ _) _⟩
theorem refLast_any (v:Int) (w:World) (h0:1≤v) (h1:v≤5):Calls Tryz.prog 48 #[.int .i64 v] w fun e w'=>e= .returned (.int .i64 (Bz v))∧Below w.heap.size w w':=by
 rcases (show v=1∨v=2∨v=3∨v=4∨v=5 by omega) with rfl | rfl | rfl | rfl | rfl
 all_goals
  clear h0 h1
  go_enter Tryz.func48,Tryz.ntmps48
  go_wp2
  go_ret
  exact⟨rfl,(τ _ _).alloc (ξ _) _⟩
def Dr (w:World) (b:Nat) (l:List Int):Prop:= ∀ (k:Nat) x,l[k]? =some x→w.cell? ⟨b,k,none⟩=some (.int .i64 x)
theorem Dr.below {w w':World} {b:Nat} {l:List Int} (h:Dr w b l) (hb:Below w.heap.size w w'):Dr w' b l:=fun k x hx=>cell_later hb (h k x hx)
theorem intsAt_alloc (w:World) (l:List Int) (t:TypeId):Dr (w.alloc (.cells (l.map (Value.int .i64)).toArray t)) w.heap.size l:=fun k x hx=>by
 rw [World.cell?_alloc_new];simp [hx]
theorem G2 {w:World} {b:Nat} {l:List Int} {cs:Array Value} {t:TypeId} (hb:w.heap.size=b) (hc:(l.map (Value.int .i64)).toArray=cs):Dr (w.alloc (.cells cs t)) b l:=by
 subst hb;subst hc;exact intsAt_alloc w l t
theorem refNums_any (e:Ev) (w:World):Calls Tryz.prog 49 #[Dx e] w fun x w'=> ∃ b,x= .returned (.slice (some ⟨b,0,none⟩) 11 11)∧w.heap.size≤b∧Dr w' b (Hv e)∧Below w.heap.size w w':=by
 unfold Dx
 go_enter Tryz.func49,Tryz.ntmps49
 go_wp2
 go_ret
 refine⟨_,rfl,by simp,G2 (by simp) (by rfl),?_⟩
 exact(((τ _ _).alloc (ξ _) _)).alloc (by simp) _
def Eo (a b:Ev):Bool:=a.kind==b.kind&&(a.order==b.order&&(a.item==b.item&&(a.qty==b.qty&&(a.price==b.price&&(a.cur==b.cur&&(a.tax==b.tax&&(a.who==b.who&&(a.stamp==b.stamp&&a.note==b.note))))))))
theorem evSame_iff (a b:Ev):Eo a b=true↔a=b:=by
 unfold Eo
 simp only [Bool.and_eq_true,beq_iff_eq]
 constructor
 ·rintro⟨h0,h1,h2,h3,h4,h5,h6,h7,h8,h9⟩
  exact Ev.ext' h0 h1 h2 h3 h4 h5 h6 h7 h8 h9
 ·rintro rfl;simp
theorem run_evEqual (a b:Ev) (w:World):(Op.equalIn 10000 38 (Dx a) (Dx b)).run Tryz.prog w= .ok (Eo a b) w:=by
 have hS:Tryz.prog.underlying 38=some (.struct (Tryz.prog.fieldsOf 38)):=by kernel_rfl
 have hp:Tryz.prog.stoodInHeld 38=false:=by kernel_rfl
 unfold Dx
 rw [show (10000:Nat)=9999+1 from rfl,run_equalIn_agg w 9999 38 _ _ hS hp]
 simp only [Program.fieldsOf,Tryz.underlying38]
 go_simp
 unfold Eo
 by_cases h0:a.kind=b.kind
 case neg=>simp [h0]
 rw [ζ h0]
 by_cases h1:a.order=b.order
 case neg=>simp [h1]
 rw [ζ h1]
 by_cases h2:a.item=b.item
 case neg=>simp [h2]
 rw [ζ h2]
 by_cases h3:a.qty=b.qty
 case neg=>simp [h3]
 rw [ζ h3]
 by_cases h4:a.price=b.price
 case neg=>simp [h4]
 rw [ζ h4]
 by_cases h5:a.cur=b.cur
 case neg=>simp [h5]
 rw [ζ h5]
 by_cases h6:a.tax=b.tax
 case neg=>simp [h6]
 rw [ζ h6]
 by_cases h7:a.who=b.who
 case neg=>simp [h7]
 rw [ζ h7]
 by_cases h8:a.stamp=b.stamp
 case neg=>simp [h8]
 rw [ζ h8]
 by_cases h9:a.note=b.note
 case neg=>simp [h9]
 rw [ζ h9]
 simp [h0,h1,h2,h3,h4,h5,h6,h7,h8,h9]
theorem Im (a b:Ev) (w:World):(binOp .neq 38 (Dx a) (Dx b)).run Tryz.prog w= .ok (.bool (!Eo a b)) w:=by
 unfold Dx;rw [run_neq_struct];have:=run_evEqual a b w;unfold Dx at this;rw [this];rfl
def Fe (n:Int) (w:World) (x:Ending) (w':World):Prop:=x= .returned (.int .i64 n)∧Below w.heap.size w w'
theorem chk30 {v:Int} {e:Ev} (h:v<1∨5<v):Af v e=30:=by unfold Af;rw [ζ h]
theorem chk31 {v:Int} {e:Ev} (h0: ¬ (v<1∨5<v)) (h:e.kind<1∨Bz v<e.kind):Af v e=31:=by unfold Af;rw [γ h0,ζ h]
theorem chk24 {v:Int} {e:Ev} (h0: ¬ (v<1∨5<v)) (h1: ¬ (e.kind<1∨Bz v<e.kind)) (h:16<e.who.length∨120<e.note.length):Af v e=24:=by
 unfold Af;rw [γ h0,γ h1,ζ h]
theorem chkRest {v:Int} {e:Ev} (h0: ¬ (v<1∨5<v)) (h1: ¬ (e.kind<1∨Bz v<e.kind)) (h2: ¬ (16<e.who.length∨120<e.note.length)):Af v e=if D6 v e=true then 0 else 32:=by
 unfold Af;rw [γ h0,γ h1,γ h2]
theorem refCheck_version (v:Int) (e:Ev) (w:World) (h:v<1∨5<v):Calls Tryz.prog 20 #[.int .i64 v,Dx e] w (Fe (Af v e) w):=by
 have hf:=Qh (chk30 (e:=e) h)
 unfold Dx
 go_enter Tryz.func20,Tryz.ntmps20
 go_wp2
 all_goals go_ret
 all_goals exact⟨by rw [hf.out];rfl,(τ _ _).alloc (ξ _) _⟩
theorem refCheck_kind (v:Int) (e:Ev) (w:World) (h0:1≤v) (h1:v≤5) (h:e.kind<1∨Bz v<e.kind):Calls Tryz.prog 20 #[.int .i64 v,Dx e] w (Fe (Af v e) w):=by
 have hf:=Qh (chk31 (e:=e) (show ¬ (v<1∨5<v) by omega) h)
 unfold Dx
 by_cases hk:e.kind<1
 ·have d1:decide (e.kind<1)=true:=by simpa using hk
  clear h
  go_enter Tryz.func20,Tryz.ntmps20
  go_wp2
  go_quiet (fail)
  go_wp2
  go_ret
  exact⟨by rw [hf.out];rfl,Below.next ((τ _ _).alloc (ξ _) _) (below_drewN' _ _)⟩
 ·have hk2:Bz v<e.kind:=by rcases h with h | h;exact absurd h hk;exact h
  have d1:decide (e.kind<1)=false:=by simpa using hk
  have d2:decide (Bz v<e.kind)=true:=by simpa using hk2
  clear h hk hk2
  have HL:=Qh (fun W=>refLast_any v W h0 h1)
  go_enter Tryz.func20,Tryz.ntmps20
  go_wp2
  have hE:=Iv w e 38
  have hb1:Below w.heap.size w (w.alloc (.cells #[.int .i64 e.kind,.int .i64 e.order,.int .i64 e.item,.int .i64 e.qty,.int .i64 e.price,.int .i64 e.cur,.int .i64 e.tax,.string ⟨e.who.toArray⟩,.int .i64 e.stamp,.string ⟨e.note.toArray⟩] 38)):=(τ _ _).alloc (ξ _) _
  have hsz0:w.heap.size<(w.alloc (.cells #[.int .i64 e.kind,.int .i64 e.order,.int .i64 e.item,.int .i64 e.qty,.int .i64 e.price,.int .i64 e.cur,.int .i64 e.tax,.string ⟨e.who.toArray⟩,.int .i64 e.stamp,.string ⟨e.note.toArray⟩] 38)).heap.size:=by simp
  generalize w.alloc (.cells #[.int .i64 e.kind,.int .i64 e.order,.int .i64 e.item,.int .i64 e.qty,.int .i64 e.price,.int .i64 e.cur,.int .i64 e.tax,.string ⟨e.who.toArray⟩,.int .i64 e.stamp,.string ⟨e.note.toArray⟩] 38)=w1 at*
  have HE:=Qh hE
  have HB1:=Qh hb1
  have c0:=hE.c0
  clear hE hb1
  go_region_held3 (fun w'=>w'.cell? ⟨w.heap.size,0,none⟩=some (.int .i64 e.kind)) (first | assumption | exact cell_later hb2 c0 | go_keep)
   (first | (go_at_call 48;refine(HL.out _).mono ?_;rintro x w2 ⟨rfl,hb2⟩))
  go_wp2
  go_ret
  exact⟨by rw [hf.out];rfl,Below.next HB1.out (Below.next ((τ _ _).drew) hb2)⟩
theorem refCheck_long (v:Int) (e:Ev) (w:World) (hn:e.who.length≤281474976710656∧e.note.length≤281474976710656) (h0:1≤v) (h1:v≤5) (h2:1≤e.kind) (h3:e.kind≤Bz v) (h:16<e.who.length∨120<e.note.length):
  Calls Tryz.prog 20 #[.int .i64 v,Dx e] w (Fe (Af v e) w):=by
 have hf:=Qh (chk24 (e:=e) (show ¬ (v<1∨5<v) by omega) (by omega) h)
 obtain⟨hn1,hn2⟩:=hn
 unfold Dx
 have d1:decide (e.kind<1)=false:=by simpa using h2
 have d2:decide (Bz v<e.kind)=false:=by simpa using h3
 have HL:=Qh (fun W=>refLast_any v W h0 h1)
 go_enter Tryz.func20,Tryz.ntmps20
 go_wp2
 have hE:=Iv w e 38
 have hb1:Below w.heap.size w (w.alloc (.cells #[.int .i64 e.kind,.int .i64 e.order,.int .i64 e.item,.int .i64 e.qty,.int .i64 e.price,.int .i64 e.cur,.int .i64 e.tax,.string ⟨e.who.toArray⟩,.int .i64 e.stamp,.string ⟨e.note.toArray⟩] 38)):=(τ _ _).alloc (ξ _) _
 have hsz0:w.heap.size<(w.alloc (.cells #[.int .i64 e.kind,.int .i64 e.order,.int .i64 e.item,.int .i64 e.qty,.int .i64 e.price,.int .i64 e.cur,.int .i64 e.tax,.string ⟨e.who.toArray⟩,.int .i64 e.stamp,.string ⟨e.note.toArray⟩] 38)).heap.size:=by simp
 generalize w.alloc (.cells #[.int .i64 e.kind,.int .i64 e.order,.int .i64 e.item,.int .i64 e.qty,.int .i64 e.price,.int .i64 e.cur,.int .i64 e.tax,.string ⟨e.who.toArray⟩,.int .i64 e.stamp,.string ⟨e.note.toArray⟩] 38)=w1 at*
 have HE:=Qh hE
 have HB1:=Qh hb1
 have c0:=hE.c0
 clear hE hb1
 go_region_held3 (fun w'=>w'.cell? ⟨w.heap.size,0,none⟩=some (.int .i64 e.kind)) (first | assumption | exact cell_later hb2 c0 | go_keep)
  (first | (go_at_call 48;refine(HL.out _).mono ?_;rintro x w2 ⟨rfl,hb2⟩))
 have HB2:=Qh (show Below w.heap.size w w2 from Below.next HB1.out (Below.next ((τ _ _).drew) hb2))
 have HE2:=Qh (HE.out.below (Below.next ((τ _ _).drew) hb2))
 have c7:=HE2.out.c7
 have c9:=HE2.out.c9
 clear hb2 c0
 by_cases hw:16<e.who.length
 ·go_wp2
  go_ret
  exact⟨by rw [hf.out];rfl,HB2.out⟩
 ·have hnn:120<e.note.length:=by omega
  clear h
  go_wp2
  go_ret
  exact⟨by rw [hf.out];rfl,HB2.out⟩
def lnCs (l:Ln):Array Value:= #[.int .i64 l.item,.int .i64 l.price,.int .i64 l.qty,.int .i64 l.shipped]
def stCs (s:St) (lv:Value):Array Value:= #[.int .i64 s.order,.int .i64 s.status,.int .i64 s.prior,.int .i64 s.cur,.int .i64 s.tax,lv,.int .i64 s.paid,.int .i64 s.refunded,.int .i64 s.events,.int .i64 s.refused,.int .i64 s.stamp,.string ⟨s.who.toArray⟩]
def stNone:St:=⟨0,0,0,0,0,[],0,0,0,0,0,[]⟩
def LnIn (A:Nat→Prop) (w:World) (v:Value) (ls:List Ln):Prop:=
 ∃ oa cap,v= .slice oa ls.length cap∧ls.length≤cap∧cap≤9223372036854775807∧(ls≠ []→ ∃ b off,oa=some ⟨b,off,none⟩∧A b∧ ∀ (i:Nat) l,ls[i]? =some l→w.rangeAt b (off+i*4) (lnCs l).toList)
theorem own_setRow {w:World} {B size n k:Nat} {e:TypeId} {v:Value} {xs:List Value} (h:w.ownsRow B e size v n xs) (hk:k<B) (cs:Array Value):(w.setRow k cs).ownsRow B e size v n xs:=by
 refine⟨h.1,?_⟩
 rcases h.2 with hn | ⟨g,cap,cur,rfl,hb1,hg,rest⟩
 ·exact .inl hn
 ·exact .inr ⟨g,cap,cur,rfl,hb1,(setRow_other _ _ _ _ (show ¬ g=k by omega)).trans hg,rest⟩
def StsIn (A:Nat→Prop) (w:World) (v:Value) (ss:List St):Prop:=
 ∃ oa cap,v= .slice oa ss.length cap∧ss.length≤cap∧cap≤maxLen∧(ss≠ []→ ∃ b off,oa=some ⟨b,off,none⟩∧A b∧ ∀ (i:Nat) s,ss[i]? =some s→ ∃ lv,w.rangeAt b (off+i*12) (stCs s lv).toList∧LnIn A w lv s.lines)
def unlineGo:Nat→List UInt8→List Int→Option (List Int×List UInt8)
 | 0,b,vs=>some (vs,b)
 | n+1,b,vs=>if (decV b).2.2≠0 then none else unlineGo n (b.drop (decV b).2.1) (vs++[Cw (decV b).1])
def ln0:Ln:=⟨0,0,0,0⟩
def unlineV (b:List UInt8):Ln×Bool:=match unlineGo 4 b [] with
 | none=>(ln0,false)
 | some (vs,r)=>(⟨vs.getD 0 0,vs.getD 1 0,vs.getD 2 0,vs.getD 3 0⟩,decide (r.length=0))
section
open Go.RowKit Go.Maps
def tagQ (k:Int) (f:Fld):Bool:=(f.tag:Int)==k
def restQ (k:Int) (fs:List Fld):List Fld:=fs.filter fun f=> !tagQ k f
def Bx (q:List Fld×Int) (k:Int) (t:Bool):Fld×List Fld×Int:=
 match q.1.find? (tagQ k) with
 | none=>(fld0,q)
 | some f=>if f.text=t then (f,restQ k q.1,q.2) else (fld0,restQ k q.1,33)
theorem takeP_Q (xs:List (Fld×Value)) (bad k:Int) (t:Bool):Bx (xs.map (·.1),bad) k t=((Bw xs bad k t).1.1,(Bw xs bad k t).2.1.map (·.1),(Bw xs bad k t).2.2):=by
 unfold Bx Bw
 dsimp only
 have e1:(xs.map (·.1)).find? (tagQ k)=(xs.find? (tagIs k)).map (·.1):=by rw [List.find?_map];rfl
 have e2:restQ k (xs.map (·.1))=(Fy k xs).map (·.1):=by unfold restQ Fy;rw [List.filter_map];rfl
 rw [e1,e2]
 rcases xs.find? (tagIs k) with _ | x
 ·rfl
 ·dsimp only [Option.map_some]
  split<;>rfl
def numQ (q:List Fld×Int) (k:Int):Int×List Fld×Int:=(Cw (Bx q k false).1.num,(Bx q k false).2)
def linesQ:Nat→Int→List Fld×Int→Bool→List Ln→List Ln×Bool×List Fld×Int
 | 0,_,q,ok,ls=>(ls,ok,q)
 | n+1,k,q,ok,ls=>if (Bx q k true).1.data=[] then (ls,ok,(Bx q k true).2)
  else linesQ n (k+1) (Bx q k true).2 (ok&&(unlineV (Bx q k true).1.data).2) (ls++[(unlineV (Bx q k true).1.data).1])
def errQ (q:List Fld×Int):Int:=if q.2≠0 then q.2 else if q.1=[] then 0 else 20
theorem errR_Q (xs:List (Fld×Value)) (bad:Int):errR xs bad=errQ (xs.map (·.1),bad):=by
 unfold errR errQ
 cases xs<;>simp
def numsQ:Nat→Int→List Fld×Int→List Int→List Int×List Fld×Int
 | 0,_,q,vs=>(vs,q)
 | n+1,k,q,vs=>numsQ n (k+1) (numQ q k).2 (vs++[(numQ q k).1])
def stOf (vs:List Int) (ls:List Ln) (who:List UInt8):St:=⟨vs.getD 0 0,vs.getD 1 0,vs.getD 2 0,vs.getD 3 0,vs.getD 4 0,ls,vs.getD 5 0,vs.getD 6 0,vs.getD 7 0,vs.getD 8 0,vs.getD 9 0,who⟩
def decSt (b:List UInt8):St×Int:=
 if (B2 b).1≠0 then (stNone,(B2 b).1)
 else
  let ns:=numsQ 10 1 ((B2 b).2,0) []
  let tx:=Bx ns.2 11 true
  let ls:=linesQ 16 12 tx.2 true []
  if errQ ls.2.2≠0 then (stNone,errQ ls.2.2)
  else if ls.2.1&&validB (stOf ns.1 ls.1 tx.1.data) then (stOf ns.1 ls.1 tx.1.data,0) else (stNone,40)
end
theorem decGo_enc (r:List UInt8): ∀ (n i u:Nat),i≤9→n*128^i<18446744073709551616→(0<i→0<n)→decGo i u (encV n++r)=(u+n*128^i,i+(encV n).length,0):=by
 intro n
 induction n using Nat.strongRecOn with
 | ind n ih=>
  intro i u hi hb h0
  have h9:(128:Nat)^9=9223372036854775808:=by decide
  by_cases hl:n<128
  ·rw [encV_low hl,List.singleton_append,decGo]
   have hn:(UInt8.ofNat n).toNat=n:=by rw [UInt8.toNat_ofNat'];omega
   rw [hn,γ,γ (by omega),γ,Nat.mod_eq_of_lt hl]
   ·rfl
   ·rintro⟨a,b⟩
    have:=h0 b
    omega
   ·rintro⟨rfl,h1⟩
    rw [h9] at hb
    omega
  ·rw [encV_high hl,List.cons_append,decGo]
   have hm:n % 128<128:=Nat.mod_lt _ (by decide)
   have hn:(UInt8.ofNat (128+n % 128)).toNat=128+n % 128:=by rw [UInt8.toNat_ofNat'];omega
   have hd:n=128*(n / 128)+n % 128:=(Nat.div_add_mod n 128).symm
   have hp:128^(i+1)=128^i*128:=Nat.pow_succ ..
   have hi8:i≤8:=by
    rcases Nat.lt_or_ge i 9 with h | h
    ·omega
    ·have e:i=9:=by omega
     subst e
     rw [h9] at hb
     omega
   rw [hn,γ (by omega),ζ (by omega)]
   have hq:n / 128*128^(i+1)≤n*128^i:=by
    rw [hp,←Nat.mul_assoc,Nat.mul_right_comm]
    exact Nat.mul_le_mul_right _ (Nat.div_mul_le_self n 128)
   rw [ih (n / 128) (by omega) (i+1) _ (by omega) (by omega) (fun _=>by omega),φ]
   have e1:(128+n % 128) % 128=n % 128:=by omega
   have e2:u+n % 128*128^i+n / 128*128^(i+1)=u+n*128^i:=by
    rw [hp,←Nat.mul_assoc,Nat.mul_right_comm,Nat.add_assoc,←Nat.add_mul]
    congr 2
    omega
   rw [e1,e2]
   congr 2
   omega
theorem Eh {n:Nat} (h:n<18446744073709551616) (r:List UInt8):decV (encV n++r)=(n,(encV n).length,0):=by
 have:=decGo_enc r n 0 0 (by omega) (by simpa using h) (fun h=>by omega)
 unfold decV
 rw [this]
 simp
theorem leNat_le8 (n:Nat): ∀ k,leNat (le8 n k)=n % 256^k
 | 0=>by simp [le8,leNat,Nat.mod_one]
 | k+1=>by
  rw [le8_succ,leNat_snoc,leNat_le8 n k,le8_length,UInt8.toNat_ofNat']
  have:n / 256^k % 256 % 2^8=n / 256^k % 256:=by omega
  rw [this,Nat.pow_succ,show n % (256^k*256)=n % 256^k+256^k*(n / 256^k % 256) from Nat.mod_mul,Nat.mul_comm (256^k)]
theorem byteAt_app {a b:List UInt8} {i:Nat} (h:i<a.length):byteAt (a++b) i=byteAt a i:=by
 unfold byteAt
 rw [List.getD_eq_getElem?_getD,List.getD_eq_getElem?_getD,List.getElem?_append_left h]
theorem crcOk_app (b:List UInt8):Hf (b++Cq (Dz b))=true:=by
 unfold Hf
 have hl:(b++Cq (Dz b)).length=b.length+4:=by rw [η,El]
 rw [hl,Nat.add_sub_cancel,List.drop_left,List.take_left]
 simp
theorem decF_enc {k s:Nat} {body:List UInt8} (hk:1≤k∧k≤7) (hs:s≤1099511627776) (hb:body.length≤16384) (r:List UInt8):decF (frameOf k s body++r)=(⟨k,s,body⟩,body.length+20,0):=by
 obtain⟨H,hH⟩: ∃ H,H=Jo k body.length s:=⟨_,rfl⟩
 have hHl:H.length=12:=by rw [hH];exact Jp _ _ _
 have hF:frameOf k s body++r=(H++Cq (Dz H))++((body++Cq (Dz body))++r):=by
  unfold frameOf
  rw [←hH]
  simp only [List.append_assoc]
 have h16:(H++Cq (Dz H)).length=16:=by rw [η,hHl,El]
 have hln:(frameOf k s body++r).length=body.length+20+r.length:=by rw [η,An]
 have ht16:(frameOf k s body++r).take 16=H++Cq (Dz H):=by rw [hF,←h16,List.take_left]
 have hby: ∀ i,i<12→byteAt (frameOf k s body++r) i=byteAt H i:=fun i hi=>by
  rw [hF,byteAt_app (by omega),byteAt_app (by omega)]
 have b0:byteAt H 0=165:=by rw [hH];rfl
 have b1:byteAt H 1=k:=by
  rw [hH]
  show (UInt8.ofNat k).toNat=k
  rw [UInt8.toNat_ofNat'];omega
 have b2:byteAt H 2=body.length % 256:=by
  rw [hH]
  show (UInt8.ofNat (body.length % 256)).toNat=_
  rw [UInt8.toNat_ofNat'];omega
 have b3:byteAt H 3=body.length / 256:=by
  rw [hH]
  show (UInt8.ofNat (body.length / 256)).toNat=_
  rw [UInt8.toNat_ofNat'];omega
 have hle:leNat (((frameOf k s body++r).drop 4).take 8)=s:=by
  have:((frameOf k s body++r).drop 4).take 8=le8 s 8:=by
   rw [hF,hH]
   unfold Jo
   simp only [List.append_assoc,List.cons_append,List.nil_append,List.drop_succ_cons,List.drop_zero]
   rw [List.take_append_of_le_length (by rw [le8_length];exact ξ _),List.take_of_length_le (by rw [le8_length];exact ξ _)]
  rw [this,leNat_le8]
  exact Nat.mod_eq_of_lt (by omega)
 have hlen:body.length % 256+body.length / 256*256=body.length:=by omega
 have hp:B4 (frameOf k s body++r)=(k,s,body.length+20,0):=by
  unfold B4
  rw [hby 0 (by decide),hby 1 (by decide),hby 2 (by decide),hby 3 (by decide),b0,b1,b2,b3,ht16,crcOk_app,hle,hlen]
  rw [γ (by omega),γ (by decide),γ (by decide),γ (by omega)]
 have hd:((frameOf k s body++r).take (body.length+20)).drop 16=body++Cq (Dz body):=by
  have e:(frameOf k s body++r).take (body.length+20)=frameOf k s body:=by rw [←An k s body,List.take_left]
  rw [e]
  have e2:frameOf k s body=(H++Cq (Dz H))++(body++Cq (Dz body)):=by
   unfold frameOf
   rw [←hH]
   simp only [List.append_assoc]
  rw [e2,←h16,List.drop_left]
 unfold decF
 rw [hp]
 simp only [ne_eq,not_true_eq_false,if_false]
 rw [γ (by omega),hd,crcOk_app]
 simp only [Bool.true_eq_false,if_false]
 rw [Nat.add_sub_cancel,List.take_left]
theorem wholeF_enc {k s:Nat} {body:List UInt8} (hk:1≤k∧k≤7) (hs:s≤1099511627776) (hb:body.length≤16384):Bv (frameOf k s body) k=(⟨k,s,body⟩,0):=by
 have h:=decF_enc hk hs hb []
 rw [List.append_nil] at h
 unfold Bv
 rw [h,An]
 simp
theorem decNs_enc: ∀ (us:List Nat) (b:List UInt8) (a:Nat) (pre:List Nat) (r:List UInt8),(∀ u∈us,u<18446744073709551616)→b.drop a=us.flatMap encV++r→decNs us.length b a pre=(pre++us,a+(us.flatMap encV).length,0)
 | [],b,a,pre,r,_,_=>by simp [decNs]
 | u::us,b,a,pre,r,h,hd=>by
  rw [List.flatMap_cons,List.append_assoc] at hd
  have hu:=Eh (h u (by simp)) (us.flatMap encV++r)
  rw [←hd] at hu
  rw [φ,decNs_go (by rw [hu]),hu]
  have hd2:b.drop (a+(encV u).length)=us.flatMap encV++r:=by rw [←List.drop_drop,hd,List.drop_left]
  rw [decNs_enc us b _ (pre++[u]) r (fun x hx=>h x (by simp [hx])) hd2,List.flatMap_cons,η]
  simp [Nat.add_assoc]
theorem decAll_enc {us:List Nat} {most:Nat} (h: ∀ u∈us,u<18446744073709551616) (hl:us.length≤most) (hl2:us.length<18446744073709551616) (r:List UInt8):Bj (encAll us++r) most=(us,(encAll us).length,0):=by
 have h1:=Eh hl2 (us.flatMap encV++r)
 have e:encAll us++r=encV us.length++(us.flatMap encV++r):=by unfold encAll;rw [List.append_assoc]
 unfold Bj
 rw [e,h1]
 simp only [ne_eq,not_true_eq_false,if_false]
 rw [γ (by omega),decNs_enc us _ _ [] r h (by rw [List.drop_left])]
 unfold encAll
 rw [η]
 simp
theorem hdrOf_enc {num first:Nat} (h1:1≤num∧num≤999999) (h2:1≤first∧first≤1099511627777) (r:List UInt8):
  A6 ((E4 num first).1++r)=(num,first,(E4 num first).1.length,0):=by
 rw [hdrEnc_ok (by omega) (by omega) (by omega) (by omega)]
 simp only [Int.toNat_natCast]
 have hb:(encV num++encV first).length≤16384:=by
  have:=Bl (show num<18446744073709551616 by omega)
  have:=Bl (show first<18446744073709551616 by omega)
  rw [η];omega
 have hd:=decF_enc (k:=2) (s:=num) (by decide) (by omega) hb r
 have hu:unnumsV 2 (encV num++encV first) []=some ([num,first],[]):=by
  have e1:=Eh (show num<18446744073709551616 by omega) (encV first)
  have e2:=Eh (show first<18446744073709551616 by omega) []
  rw [List.append_nil] at e2
  rw [Gj (by rw [e1];simp only;omega),e1]
  simp only [List.drop_left]
  rw [Gj (by rw [e2];simp only;omega),e2]
  simp [unnumsV]
 unfold A6
 rw [hd,An]
 simp only [ne_eq,not_true_eq_false,or_self,if_false,hu]
 unfold hdrIn
 simp only
 rw [γ]
 rintro(h | h | h)
 ·exact h rfl
 ·exact h rfl
 ·unfold rightB at h
  simp only [Bool.and_eq_false_iff,decide_eq_false_iff_not] at h
  omega
theorem fours_segs: ∀ l:List Sg,(∀ g∈l,0≤g.num∧0≤g.first∧0≤g.count∧0≤g.foot)→(fours (l.flatMap sgNums)).map segOf=l
 | [],_=>rfl
 | g::l,h=>by
  have hg:=h g (by simp)
  rw [List.flatMap_cons]
  show (fours (g.num.toNat::g.first.toNat::g.count.toNat::g.foot.toNat::l.flatMap sgNums)).map segOf=_
  rw [fours,List.map_cons,fours_segs l fun x hx=>h x (by simp [hx])]
  congr 1
  show (⟨(g.num.toNat:Int),(g.first.toNat:Int),(g.count.toNat:Int),(g.foot.toNat:Int)⟩:Sg)=g
  obtain⟨a,b,c,d⟩:=g
  simp only at hg
  simp only [Sg.mk.injEq]
  omega
theorem maxU_lt {us:List Nat} {b:Nat} (h: ∀ u∈us,u≤b):maxU us≤b:=by
 suffices h2: ∀ (us:List Nat) (a:Nat),a≤b→(∀ u∈us,u≤b)→us.foldl Nat.max a≤b from h2 us 0 (θ _) h
 intro us
 induction us with
 | nil=>intro a ha _;exact ha
 | cons x r ih=>intro a ha hu;exact ih _ (Nat.max_le.2 ⟨ha,hu x (by simp)⟩) fun y hy=>hu y (by simp [hy])
theorem decMan_enc {m:B3} (h:Bt m=true):Bk (Bs m).1=(m,0):=by
 have hf:=B7 h
 have hg:=hf.gen
 rw [encMan_ok h]
 have hlt:=manNums_lt hf
 have hln:=Iy m
 have hl:=hf.len
 have hne:1≤m.segs.length:=by
  have:=(Is _ _ _ _ hf.chain)
  obtain⟨g,_,_,_,_,hm⟩:=this
  exact Ψ.2 (List.ne_nil_of_mem hm)
 have hbl:=manBody_len hf
 have hw:=wholeF_enc (k:=4) (s:=m.gen.toNat) (by decide) (by omega) (μ hbl (by decide))
 have hd:=decAll_enc (us:=manNums m) (most:=1028) (fun u hu=>Nat.lt_trans (hlt u hu) (by decide)) (by omega) (by omega) []
 rw [List.append_nil] at hd
 have hmo:manOf m.gen.toNat (manNums m)=m:=by
  unfold manOf
  have e:(manNums m).drop 4=m.segs.flatMap sgNums:=rfl
  rw [e,fours_segs m.segs fun g hgm=>by have:=hf.seg g hgm;omega]
  show (⟨(m.gen.toNat:Int),(m.next.toNat:Int),(m.floor.toNat:Int),(m.snap.toNat:Int),(m.snapSeq.toNat:Int),m.segs⟩:B3)=m
  have h1:=hf.next
  have h2:=hf.floor
  have h3:=hf.snap
  have h4:=hf.snapSeq
  obtain⟨a,b,c,d,e,g⟩:=m
  simp only at hg h1 h2 h3 h4
  simp only [B3.mk.injEq,and_true]
  omega
 unfold Bk
 simp only
 rw [hw]
 simp only [ne_eq,not_true_eq_false,if_false]
 rw [hd,γ,hmo,ζ h]
 unfold D5
 have hmx:=maxU_lt (us:=manNums m) (b:=2199023255552) fun u hu=>Nat.le_of_lt (by have:=hlt u hu;omega)
 simp only
 omega
def lay (fl:List Frm):List UInt8:=fl.flatMap fun f=>frameOf f.k f.s f.body
def FrmOk (f:Frm):Prop:=(1≤f.k∧f.k≤7)∧f.s≤1099511627776∧f.body.length≤16384
def posL:Nat→List Frm→List (Nat×Frm)
 | _,[]=>[]
 | p,f::r=>(p,f)::posL (p+f.body.length+20) r
theorem lay_cons (f:Frm) (r:List Frm):lay (f::r)=frameOf f.k f.s f.body++lay r:=by simp [lay]
theorem lay_append (a b:List Frm):lay (a++b)=lay a++lay b:=by simp [lay]
theorem Ec: ∀ (fl:List Frm) (p:Nat),(posL p fl).length=fl.length
 | [],_=>rfl
 | f::r,p=>by rw [posL,φ,Ec r,φ]
theorem frsGo_lay (rest:List UInt8) (hr:rest=[]∨(decF rest).2.2≠0): ∀ (fl:List Frm) (n:Nat) (b:List UInt8) (p:Nat),(∀ f∈fl,FrmOk f)→b.drop p=lay fl++rest→b.length≤p+n→frsGo n b p=posL p fl
 | [],n,b,p,_,hd,hn=>by
  rw [show lay []=[] from rfl,List.nil_append] at hd
  rcases hr with h | h
  ·rw [h] at hd
   rw [frsGo_end (by have:=congrArg List.length hd;simp at this;omega),posL]
  ·rw [frsGo_bad (by rw [hd];exact h),posL]
 | f::r,n,b,p,hf,hd,hn=>by
  obtain⟨h1,h2,h3⟩:=hf f (by simp)
  rw [lay_cons,List.append_assoc] at hd
  have hde:=decF_enc h1 h2 h3 (lay r++rest)
  rw [←hd] at hde
  have hlt:p<b.length:=by
   have:=congrArg List.length hd
   rw [Ξ,η,An] at this
   omega
  obtain⟨n',rfl⟩: ∃ n',n=n'+1:=⟨n - 1,by omega⟩
  have hd2:b.drop (p+(f.body.length+20))=lay r++rest:=by rw [←List.drop_drop,hd,←An f.k f.s f.body,List.drop_left]
  rw [frsGo_step hlt (by rw [hde]),hde,posL,frsGo_lay rest hr r n' b _ (fun x hx=>hf x (by simp [hx])) hd2 (by omega)]
  rfl
theorem frs_lay {fl:List Frm} {rest:List UInt8} (hf: ∀ f∈fl,FrmOk f) (hr:rest=[]∨(decF rest).2.2≠0):frs (lay fl++rest)=posL 0 fl:=
 frsGo_lay rest hr fl _ _ 0 hf (by rw [List.drop_zero]) (by omega)
theorem takeRun_all {first most:Nat}: ∀ (fl:List Frm) (p c:Nat),(∀ (i:Nat) f,fl[i]? =some f→f.k=1∧f.s=first+c+i)→c+fl.length≤most→takeRun first most c (posL p fl)=posL p fl
 | [],_,_,_,_=>by rw [posL,takeRun]
 | f::r,p,c,h,hm=>by
  obtain⟨h1,h2⟩:=h 0 f rfl
  rw [φ] at hm
  rw [posL]
  by_cases hc:c+1=most
  ·have hr:r=[]:=List.length_eq_zero_iff.1 (by omega)
   subst hr
   rw [take_full (by simp only;omega) hc,posL]
  ·rw [take_go (by simp only;omega) hc,takeRun_all r _ (c+1) (fun i x hx=>by
    have:=h (i+1) x (by simpa using hx)
    omega) (by omega)]
theorem lastEnd_lay: ∀ (fl:List Frm) (p:Nat),lastEnd p (posL p fl)=p+(lay fl).length
 | [],p=>by rw [posL,lastEnd];rfl
 | f::r,p=>by
  rw [posL,lastEnd,lastEnd_lay r,lay_cons,η,An]
  simp only
  omega
theorem Fd (x lo hi:Int) (w:World):Calls Tryz.prog 231 #[.int .i64 x,.int .i64 lo,.int .i64 hi] w fun e w'=>e= .returned (.bool (Ir x lo hi))∧w=w':=by
 by_cases h1:lo≤x
 ·by_cases h2:x≤hi
  ·have hr:=Qh (show Ir x lo hi=true by simp [Ir,h1,h2])
   have d1:=ν h1
   have d2:=ν h2
   go_enter Tryz.func231,Tryz.ntmps231
   go_wp2
   go_ret
   exact⟨by rw [hr.out];rfl,rfl⟩
  ·have hr:=Qh (show Ir x lo hi=false by simp [Ir,h2])
   have d1:=ν h1
   have d2:=ρ h2
   go_enter Tryz.func231,Tryz.ntmps231
   go_wp2
   go_ret
   exact⟨by rw [hr.out];rfl,rfl⟩
 ·have hr:=Qh (show Ir x lo hi=false by simp [Ir,h1])
  have d1:=ρ h1
  go_enter Tryz.func231,Tryz.ntmps231
  go_wp2
  go_ret
  exact⟨by rw [hr.out];rfl,rfl⟩
def coreB (e:Ev) (least dear:Int):Bool:=Ir e.order 1 1099511627776&&Ir e.item 0 65535&&Ir e.qty least 10000&&Ir e.price 0 dear
@[reducible] def v1V (e : Ev) : Value := .agg #[.int .i64 e.kind, .int .i64 e.order, .int .i64 e.item, .int .i64 e.qty, .int .i64 e.price]
@[reducible] def v2V (e : Ev) : Value := .agg #[.int .i64 e.kind, .int .i64 e.order, .int .i64 e.item, .int .i64 e.qty, .int .i64 e.price, .int .i64 e.cur]
@[reducible] def v3V (e : Ev) : Value := .agg #[.int .i64 e.kind, .int .i64 e.order, .int .i64 e.item, .int .i64 e.qty, .int .i64 e.price, .int .i64 e.cur, .int .i64 e.tax]
@[reducible] def v4V (e : Ev) : Value := .agg #[.int .i64 e.kind, .int .i64 e.order, .int .i64 e.item, .int .i64 e.qty, .int .i64 e.price, .int .i64 e.cur, .int .i64 e.tax, .string ⟨e.who.toArray⟩]
@[reducible] def v5V (e : Ev) : Value := .agg #[.int .i64 e.kind, .int .i64 e.order, .int .i64 e.item, .int .i64 e.qty, .int .i64 e.price, .int .i64 e.cur, .int .i64 e.tax, .string ⟨e.who.toArray⟩, .int .i64 e.stamp, .string ⟨e.note.toArray⟩]
theorem core_any (e:Ev) (least dear:Int) (w:World):Calls Tryz.prog 227 #[v1V e,.int .i64 least,.int .i64 dear] w fun x w'=>x= .returned (.bool (coreB e least dear))∧Below w.heap.size w w':=by
 obtain⟨b1,hb1⟩: ∃ b,b=Ir e.order 1 1099511627776:=⟨_,rfl⟩
 obtain⟨b2,hb2⟩: ∃ b,b=Ir e.item 0 65535:=⟨_,rfl⟩
 obtain⟨b3,hb3⟩: ∃ b,b=Ir e.qty least 10000:=⟨_,rfl⟩
 obtain⟨b4,hb4⟩: ∃ b,b=Ir e.price 0 dear:=⟨_,rfl⟩
 have hr:=Qh (show coreB e least dear=(b1&&b2&&b3&&b4) by rw [coreB,hb1,hb2,hb3,hb4])
 have W1:=Qh (fun W=>hb1▸Fd e.order 1 1099511627776 W)
 have W2:=Qh (fun W=>hb2▸Fd e.item 0 65535 W)
 have W3:=Qh (fun W=>hb3▸Fd e.qty least 10000 W)
 have W4:=Qh (fun W=>hb4▸Fd e.price 0 dear W)
 clear hb1 hb2 hb3 hb4
 cases b1<;>cases b2<;>cases b3<;>cases b4
 all_goals
  go_enter Tryz.func227,Tryz.ntmps227
  go_wp2_with (first
   | (go_at_call 231;(with_reducible refine(W1.out _).mono ?_);rintro x w' ⟨rfl,rfl⟩)
   | (go_at_call 231;(with_reducible refine(W2.out _).mono ?_);rintro x w' ⟨rfl,rfl⟩)
   | (go_at_call 231;(with_reducible refine(W3.out _).mono ?_);rintro x w' ⟨rfl,rfl⟩)
   | (go_at_call 231;(with_reducible refine(W4.out _).mono ?_);rintro x w' ⟨rfl,rfl⟩))
  go_ret
  exact⟨by rw [hr.out];rfl,(τ _ _).alloc (ξ _) _⟩
theorem last1_any (e:Ev) (w:World):Calls Tryz.prog 225 #[v1V e] w fun x w'=>x= .returned (.int .i64 5)∧Below w.heap.size w w':=by
 unfold v1V
 go_enter Tryz.func225,Tryz.ntmps225
 go_wp2
 go_ret
 exact⟨rfl,(τ _ _).alloc (ξ _) _⟩
theorem last3_any (e:Ev) (w:World):Calls Tryz.prog 238 #[v3V e] w fun x w'=>x= .returned (.int .i64 7)∧Below w.heap.size w w':=by
 unfold v3V
 go_enter Tryz.func238,Tryz.ntmps238
 go_wp2
 go_ret
 exact⟨rfl,(τ _ _).alloc (ξ _) _⟩
theorem last4_any (e:Ev) (w:World):Calls Tryz.prog 242 #[v4V e] w fun x w'=>x= .returned (.int .i64 9)∧Below w.heap.size w w':=by
 unfold v4V
 go_enter Tryz.func242,Tryz.ntmps242
 go_wp2
 go_ret
 exact⟨rfl,(τ _ _).alloc (ξ _) _⟩
theorem last5_any (e:Ev) (w:World):Calls Tryz.prog 248 #[v5V e] w fun x w'=>x= .returned (.int .i64 10)∧Below w.heap.size w w':=by
 unfold v5V
 go_enter Tryz.func248,Tryz.ntmps248
 go_wp2
 go_ret
 exact⟨rfl,(τ _ _).alloc (ξ _) _⟩
theorem plain_any (s:List UInt8) (w:World) (hs:s.length≤9223372036854775000):Calls Tryz.prog 244 #[.string ⟨s.toArray⟩] w fun x w'=>x= .returned (.bool (Er s))∧Below w.heap.size w w':=by
 go_enter Tryz.func244,Tryz.ntmps244
 go_wp2
 go_loopw [7] (fun i wr=> ∃ k:Nat,k≤s.length∧i= .int .i64 k∧Hid (Er (s.take k)=true)∧w=wr) (fun i _=>s.length - (intOf i).toNat)
 case atStart=>exact⟨0,by omega,rfl,Qh rfl,rfl⟩
 case round=>
  obtain⟨k,hk,rfl,HP,rfl⟩:=hrel
  by_cases hlt:k<s.length
  ·obtain⟨x,hx,ht,hmem⟩:=Kc s k hlt
   have gx: ∀ hh,(⟨s.toArray⟩:ByteArray)[k]'hh=x:=ba_get hx
   have HX:=Qh (show Er (s.take (k+1))=I0 x by
    rw [ht];unfold Er;rw [List.all_append];have:=HP.out;unfold Er at this;rw [this];simp)
   have hxl:=x.toNat_lt
   have hno:Hid (I0 x=false→Er s=false):=Qh fun h=>by
    rw [←Bool.not_eq_true];intro h2
    have:=List.all_eq_true.1 h2 x hmem
    rw [h] at this;cases this
   clear hx ht hmem
   have hpc:Hid (I0 x=true↔x.toNat=45∨(48≤x.toNat∧x.toNat≤57)∨(97≤x.toNat∧x.toNat≤122)):=Qh (by
    simp only [I0,Bool.or_eq_true,Bool.and_eq_true,beq_iff_eq,decide_eq_true_eq];omega)
   by_cases hp:I0 x=true
   ·have hpa:=hpc.out.1 hp
    have HP2:=Qh (HX.out.trans hp)
    clear hp
    by_cases h45:x.toNat=45
    ·have k45:((x.toNat:Int) != 45)=false:=by rw [bne_eq_false_iff_eq];omega
     clear hpa h45
     go_wp2
     go_roundw
     case rel=>exact⟨k+1,by omega,by go_num,HP2,trivial⟩
     case measure=>simp [intOf];omega
    ·have k45:((x.toNat:Int) != 45)=true:=by rw [bne_iff_ne];omega
     by_cases h57:x.toNat≤57
     ·have hr:48≤x.toNat:=by omega
      have t48:decide ((x.toNat:Int)<48)=false:=by simp;omega
      have t57:decide ((57:Int)<x.toNat)=false:=by simp;omega
      have t97:decide ((x.toNat:Int)<97)=true:=by simp;omega
      have t122:decide ((122:Int)<x.toNat)=false:=by simp;omega
      clear hpa h45 h57 hr
      go_wp2
      go_roundw
      case rel=>exact⟨k+1,by omega,by go_num,HP2,trivial⟩
      case measure=>simp [intOf];omega
     ·have hr:97≤x.toNat∧x.toNat≤122:=by omega
      have t48:decide ((x.toNat:Int)<48)=false:=by simp;omega
      have t57:decide ((57:Int)<x.toNat)=true:=by simp;omega
      have t97:decide ((x.toNat:Int)<97)=false:=by simp;omega
      have t122:decide ((122:Int)<x.toNat)=false:=by simp;omega
      clear hpa h45 h57 hr
      go_wp2
      go_roundw
      case rel=>exact⟨k+1,by omega,by go_num,HP2,trivial⟩
      case measure=>simp [intOf];omega
   ·have hpa: ¬ (x.toNat=45∨(48≤x.toNat∧x.toNat≤57)∨(97≤x.toNat∧x.toNat≤122)):=fun h=>hp (hpc.out.2 h)
    have hfin:=Qh (hno.out (by simpa using hp))
    have k45:((x.toNat:Int) != 45)=true:=by rw [bne_iff_ne];omega
    clear hp
    by_cases h48:x.toNat<48
    ·have hr:x.toNat<48:=h48
     have t48:decide ((x.toNat:Int)<48)=true:=by simp;omega
     have t57:decide ((57:Int)<x.toNat)=false:=by simp;omega
     have t97:decide ((x.toNat:Int)<97)=true:=by simp;omega
     have t122:decide ((122:Int)<x.toNat)=false:=by simp;omega
     clear hpa h48 hr
     go_wp2
     go_ret
     exact⟨by rw [hfin.out];rfl,τ _ _⟩
    ·by_cases h97:x.toNat<97
     ·have hr:57<x.toNat:=by omega
      have t48:decide ((x.toNat:Int)<48)=false:=by simp;omega
      have t57:decide ((57:Int)<x.toNat)=true:=by simp;omega
      have t97:decide ((x.toNat:Int)<97)=true:=by simp;omega
      have t122:decide ((122:Int)<x.toNat)=false:=by simp;omega
      clear hpa h48 h97 hr
      go_wp2
      go_ret
      exact⟨by rw [hfin.out];rfl,τ _ _⟩
     ·have hr:122<x.toNat:=by omega
      have t48:decide ((x.toNat:Int)<48)=false:=by simp;omega
      have t57:decide ((57:Int)<x.toNat)=true:=by simp;omega
      have t97:decide ((x.toNat:Int)<97)=false:=by simp;omega
      have t122:decide ((122:Int)<x.toNat)=true:=by simp;omega
      clear hpa h48 h97 hr
      go_wp2
      go_ret
      exact⟨by rw [hfin.out];rfl,τ _ _⟩
  ·obtain rfl:k=s.length:=by omega
   have hfin:=Qh (show Er s=true by simpa using HP.out)
   go_wp2
   go_ret
   exact⟨by rw [hfin.out];rfl,τ _ _⟩
def fitsV1 (e:Ev):Bool:=coreB e (-10000) 1000000
def fits2 (e:Ev):Bool:=coreB e (-10000) 100000000&&Ir e.cur 0 3
def fits3 (e:Ev):Bool:=fits2 e&&decide (0≤e.qty)&&Ir e.tax 0 5000
def fits4 (e:Ev):Bool:=fits3 e&&Er e.who
def fits5 (e:Ev):Bool:=fits4 e&&Ir e.stamp 0 1099511627776
theorem fits1_any (e:Ev) (w:World):Calls Tryz.prog 224 #[v1V e] w fun x w'=>x= .returned (.bool (fitsV1 e))∧Below w.heap.size w w':=by
 unfold v1V
 go_enter Tryz.func224,Tryz.ntmps224
 go_wp2_with fail
 refine(core_any e _ _ _).mono ?_
 rintro x w2 ⟨rfl,hb⟩
 go_wp2
 go_ret
 exact⟨rfl,Below.next ((τ _ _).alloc (ξ _) _) hb⟩
theorem fits2_any (e:Ev) (w:World):Calls Tryz.prog 234 #[v2V e] w fun x w'=>x= .returned (.bool (fits2 e))∧Below w.heap.size w w':=by
 obtain⟨b1,hb1⟩: ∃ b,b=coreB e (-10000) 100000000:=⟨_,rfl⟩
 obtain⟨b2,hb2⟩: ∃ b,b=Ir e.cur 0 3:=⟨_,rfl⟩
 have hr:=Qh (show fits2 e=(b1&&b2) by rw [fits2,hb1,hb2])
 have W1:=Qh (fun W=>hb1▸core_any e (-10000) 100000000 W)
 have W2:=Qh (fun W=>hb2▸Fd e.cur 0 3 W)
 clear hb1 hb2
 cases b1<;>cases b2
 all_goals
  unfold v2V
  go_enter Tryz.func234,Tryz.ntmps234
  go_wp2_with fail
  refine(W1.out _).mono ?_
  rintro x w2 ⟨rfl,hb⟩
  have c1:w2.cell? ⟨w.heap.size,5,none⟩=some (.int .i64 e.cur):=cell_later hb (by rw [World.cell?_alloc_new];rfl)
  have HB:=Qh hb
  clear hb
  go_wp2_with (first | (go_at_call 231;(with_reducible refine(W2.out _).mono ?_);rintro x w' ⟨rfl,rfl⟩))
  go_ret
  exact⟨by rw [hr.out];rfl,Below.next ((τ _ _).alloc (ξ _) _) HB.out⟩
theorem fits3_any (e:Ev) (w:World):Calls Tryz.prog 237 #[v3V e] w fun x w'=>x= .returned (.bool (fits3 e))∧Below w.heap.size w w':=by
 obtain⟨b1,hb1⟩: ∃ b,b=fits2 e:=⟨_,rfl⟩
 obtain⟨b2,hb2⟩: ∃ b,b=decide (0≤e.qty):=⟨_,rfl⟩
 obtain⟨b3,hb3⟩: ∃ b,b=Ir e.tax 0 5000:=⟨_,rfl⟩
 have hr:=Qh (show fits3 e=(b1&&b2&&b3) by rw [fits3,hb1,hb2,hb3])
 have W1:=Qh (fun W=>hb1▸fits2_any e W)
 have W2:=Qh (fun W=>hb3▸Fd e.tax 0 5000 W)
 clear hb1 hb3
 cases b1<;>cases b2<;>cases b3
 all_goals
  have k:=hb2.symm
  clear hb2
  unfold v3V
  go_enter Tryz.func237,Tryz.ntmps237
  go_wp2_with fail
  refine(W1.out _).mono ?_
  rintro x w2 ⟨rfl,hb⟩
  have c1:w2.cell? ⟨w.heap.size,3,none⟩=some (.int .i64 e.qty):=cell_later hb (by rw [World.cell?_alloc_new];rfl)
  have c2:w2.cell? ⟨w.heap.size,6,none⟩=some (.int .i64 e.tax):=cell_later hb (by rw [World.cell?_alloc_new];rfl)
  have HB:=Qh hb
  clear hb
  go_wp2_with (first | (go_at_call 231;(with_reducible refine(W2.out _).mono ?_);rintro x w' ⟨rfl,rfl⟩))
  go_ret
  exact⟨by rw [hr.out];rfl,Below.next ((τ _ _).alloc (ξ _) _) HB.out⟩
theorem fits4_any (e:Ev) (w:World) (hs:e.who.length≤9223372036854775000):Calls Tryz.prog 241 #[v4V e] w fun x w'=>x= .returned (.bool (fits4 e))∧Below w.heap.size w w':=by
 obtain⟨b1,hb1⟩: ∃ b,b=fits3 e:=⟨_,rfl⟩
 obtain⟨b2,hb2⟩: ∃ b,b=Er e.who:=⟨_,rfl⟩
 have hr:=Qh (show fits4 e=(b1&&b2) by rw [fits4,hb1,hb2])
 have W1:=Qh (fun W=>hb1▸fits3_any e W)
 have W2:=Qh (fun W=>hb2▸plain_any e.who W hs)
 clear hb1 hb2
 cases b1<;>cases b2
 all_goals
  unfold v4V
  go_enter Tryz.func241,Tryz.ntmps241
  go_wp2_with fail
  refine(W1.out _).mono ?_
  rintro x w2 ⟨rfl,hb⟩
  have c1:w2.cell? ⟨w.heap.size,7,none⟩=some (.string ⟨e.who.toArray⟩):=cell_later hb (by rw [World.cell?_alloc_new];rfl)
  have HB:=Qh (Below.next ((τ _ _).alloc (ξ _) _) hb)
  clear hb
  go_wp2_with (first | (go_at_call 244;(with_reducible refine(W2.out _).mono ?_);rintro x w3 ⟨rfl,hb3⟩))
  go_ret
  exact⟨by rw [hr.out];rfl,by first | exact Below.next HB.out hb3 | exact HB.out⟩
theorem fits5_any (e:Ev) (w:World) (hs:e.who.length≤9223372036854775000):Calls Tryz.prog 247 #[v5V e] w fun x w'=>x= .returned (.bool (fits5 e))∧Below w.heap.size w w':=by
 obtain⟨b1,hb1⟩: ∃ b,b=fits4 e:=⟨_,rfl⟩
 obtain⟨b2,hb2⟩: ∃ b,b=Ir e.stamp 0 1099511627776:=⟨_,rfl⟩
 have hr:=Qh (show fits5 e=(b1&&b2) by rw [fits5,hb1,hb2])
 have W1:=Qh (fun W=>hb1▸fits4_any e W hs)
 have W2:=Qh (fun W=>hb2▸Fd e.stamp 0 1099511627776 W)
 clear hb1 hb2
 cases b1<;>cases b2
 all_goals
  unfold v5V
  go_enter Tryz.func247,Tryz.ntmps247
  go_wp2_with fail
  refine(W1.out _).mono ?_
  rintro x w2 ⟨rfl,hb⟩
  have c1:w2.cell? ⟨w.heap.size,8,none⟩=some (.int .i64 e.stamp):=cell_later hb (by rw [World.cell?_alloc_new];rfl)
  have HB:=Qh hb
  clear hb
  go_wp2_with (first | (go_at_call 231;(with_reducible refine(W2.out _).mono ?_);rintro x w' ⟨rfl,rfl⟩))
  go_ret
  exact⟨by rw [hr.out];rfl,Below.next ((τ _ _).alloc (ξ _) _) HB.out⟩
def ev1 (e:Ev):Ev:={e with cur:=0,tax:=0,who:=[],stamp:=0,note:=[]}
def ev2 (e:Ev):Ev:={e with tax:=0,who:=[],stamp:=0,note:=[]}
def ev3 (e:Ev):Ev:={e with who:=[],stamp:=0,note:=[]}
def ev4 (e:Ev):Ev:={e with stamp:=0,note:=[]}
theorem event1_x (e:Ev) (w:World):Calls Tryz.prog 222 #[v1V e] w fun x w'=>x= .returned (Dx (ev1 e))∧((w.alloc (.cells #[.int .i64 e.kind,.int .i64 e.order,.int .i64 e.item,.int .i64 e.qty,.int .i64 e.price] 227)).alloc (.cells #[.int .i64 e.kind,.int .i64 e.order,.int .i64 e.item,.int .i64 e.qty,.int .i64 e.price,.int .i64 0,.int .i64 0,.string ⟨#[]⟩,.int .i64 0,.string ⟨#[]⟩] 38))=w':=by
 unfold v1V
 go_enter Tryz.func222,Tryz.ntmps222
 go_wp2
 refine π (v:= .agg #[.int .i64 e.kind,.int .i64 e.order,.int .i64 e.item,.int .i64 e.qty,.int .i64 e.price,.int .i64 0,.int .i64 0,.string ⟨#[]⟩,.int .i64 0,.string ⟨#[]⟩]) (by simp [results,Tryz.results222,go_sem]) rfl ⟨rfl,rfl⟩
theorem event2_x (e:Ev) (w:World):Calls Tryz.prog 233 #[v2V e] w fun x w'=>x= .returned (Dx (ev2 e))∧(((((w.alloc (.cells #[.int .i64 e.kind,.int .i64 e.order,.int .i64 e.item,.int .i64 e.qty,.int .i64 e.price,.int .i64 e.cur] 229)).alloc (.cells #[.int .i64 e.kind,.int .i64 e.order,.int .i64 e.item,.int .i64 e.qty,.int .i64 e.price,.int .i64 e.cur,.int .i64 0,.string ⟨#[]⟩,.int .i64 0,.string ⟨#[]⟩] 38)).alloc (.cells #[.int .i64 e.kind,.int .i64 e.order,.int .i64 e.item,.int .i64 e.qty,.int .i64 e.price] 227)).alloc (.cells #[.int .i64 e.kind,.int .i64 e.order,.int .i64 e.item,.int .i64 e.qty,.int .i64 e.price,.int .i64 0,.int .i64 0,.string ⟨#[]⟩,.int .i64 0,.string ⟨#[]⟩] 38)).alloc (.cells #[.int .i64 e.kind,.int .i64 e.order,.int .i64 e.item,.int .i64 e.qty,.int .i64 e.price,.int .i64 e.cur,.int .i64 0,.string ⟨#[]⟩,.int .i64 0,.string ⟨#[]⟩] 38))=w':=by
 unfold v2V
 go_enter Tryz.func233,Tryz.ntmps233
 go_wp2_with (go_at_call 222;(with_reducible refine(event1_x e _).mono ?_);rintro x w' ⟨rfl,rfl⟩)
 refine π (v:= .agg #[.int .i64 e.kind,.int .i64 e.order,.int .i64 e.item,.int .i64 e.qty,.int .i64 e.price,.int .i64 e.cur,.int .i64 0,.string ⟨#[]⟩,.int .i64 0,.string ⟨#[]⟩]) (by simp [results,Tryz.results233,go_sem,ev1]) rfl ⟨rfl,rfl⟩
theorem event3_x (e:Ev) (w:World):Calls Tryz.prog 236 #[v3V e] w fun x w'=>x= .returned (Dx (ev3 e))∧((((((((w.alloc (.cells #[.int .i64 e.kind,.int .i64 e.order,.int .i64 e.item,.int .i64 e.qty,.int .i64 e.price,.int .i64 e.cur,.int .i64 e.tax] 231)).alloc (.cells #[.int .i64 e.kind,.int .i64 e.order,.int .i64 e.item,.int .i64 e.qty,.int .i64 e.price,.int .i64 e.cur,.int .i64 e.tax,.string ⟨#[]⟩,.int .i64 0,.string ⟨#[]⟩] 38)).alloc (.cells #[.int .i64 e.kind,.int .i64 e.order,.int .i64 e.item,.int .i64 e.qty,.int .i64 e.price,.int .i64 e.cur] 229)).alloc (.cells #[.int .i64 e.kind,.int .i64 e.order,.int .i64 e.item,.int .i64 e.qty,.int .i64 e.price,.int .i64 e.cur,.int .i64 0,.string ⟨#[]⟩,.int .i64 0,.string ⟨#[]⟩] 38)).alloc (.cells #[.int .i64 e.kind,.int .i64 e.order,.int .i64 e.item,.int .i64 e.qty,.int .i64 e.price] 227)).alloc (.cells #[.int .i64 e.kind,.int .i64 e.order,.int .i64 e.item,.int .i64 e.qty,.int .i64 e.price,.int .i64 0,.int .i64 0,.string ⟨#[]⟩,.int .i64 0,.string ⟨#[]⟩] 38)).alloc (.cells #[.int .i64 e.kind,.int .i64 e.order,.int .i64 e.item,.int .i64 e.qty,.int .i64 e.price,.int .i64 e.cur,.int .i64 0,.string ⟨#[]⟩,.int .i64 0,.string ⟨#[]⟩] 38)).alloc (.cells #[.int .i64 e.kind,.int .i64 e.order,.int .i64 e.item,.int .i64 e.qty,.int .i64 e.price,.int .i64 e.cur,.int .i64 e.tax,.string ⟨#[]⟩,.int .i64 0,.string ⟨#[]⟩] 38))=w':=by
 unfold v3V
 go_enter Tryz.func236,Tryz.ntmps236
 go_wp2_with (go_at_call 233;(with_reducible refine(event2_x e _).mono ?_);rintro x w' ⟨rfl,rfl⟩)
 refine π (v:= .agg #[.int .i64 e.kind,.int .i64 e.order,.int .i64 e.item,.int .i64 e.qty,.int .i64 e.price,.int .i64 e.cur,.int .i64 e.tax,.string ⟨#[]⟩,.int .i64 0,.string ⟨#[]⟩]) (by simp [results,Tryz.results236,go_sem,ev2]) rfl ⟨rfl,rfl⟩
theorem event4_x (e:Ev) (w:World):Calls Tryz.prog 240 #[v4V e] w fun x w'=>x= .returned (Dx (ev4 e))∧(((((((((((w.alloc (.cells #[.int .i64 e.kind,.int .i64 e.order,.int .i64 e.item,.int .i64 e.qty,.int .i64 e.price,.int .i64 e.cur,.int .i64 e.tax,.string ⟨e.who.toArray⟩] 233)).alloc (.cells #[.int .i64 e.kind,.int .i64 e.order,.int .i64 e.item,.int .i64 e.qty,.int .i64 e.price,.int .i64 e.cur,.int .i64 e.tax,.string ⟨e.who.toArray⟩,.int .i64 0,.string ⟨#[]⟩] 38)).alloc (.cells #[.int .i64 e.kind,.int .i64 e.order,.int .i64 e.item,.int .i64 e.qty,.int .i64 e.price,.int .i64 e.cur,.int .i64 e.tax] 231)).alloc (.cells #[.int .i64 e.kind,.int .i64 e.order,.int .i64 e.item,.int .i64 e.qty,.int .i64 e.price,.int .i64 e.cur,.int .i64 e.tax,.string ⟨#[]⟩,.int .i64 0,.string ⟨#[]⟩] 38)).alloc (.cells #[.int .i64 e.kind,.int .i64 e.order,.int .i64 e.item,.int .i64 e.qty,.int .i64 e.price,.int .i64 e.cur] 229)).alloc (.cells #[.int .i64 e.kind,.int .i64 e.order,.int .i64 e.item,.int .i64 e.qty,.int .i64 e.price,.int .i64 e.cur,.int .i64 0,.string ⟨#[]⟩,.int .i64 0,.string ⟨#[]⟩] 38)).alloc (.cells #[.int .i64 e.kind,.int .i64 e.order,.int .i64 e.item,.int .i64 e.qty,.int .i64 e.price] 227)).alloc (.cells #[.int .i64 e.kind,.int .i64 e.order,.int .i64 e.item,.int .i64 e.qty,.int .i64 e.price,.int .i64 0,.int .i64 0,.string ⟨#[]⟩,.int .i64 0,.string ⟨#[]⟩] 38)).alloc (.cells #[.int .i64 e.kind,.int .i64 e.order,.int .i64 e.item,.int .i64 e.qty,.int .i64 e.price,.int .i64 e.cur,.int .i64 0,.string ⟨#[]⟩,.int .i64 0,.string ⟨#[]⟩] 38)).alloc (.cells #[.int .i64 e.kind,.int .i64 e.order,.int .i64 e.item,.int .i64 e.qty,.int .i64 e.price,.int .i64 e.cur,.int .i64 e.tax,.string ⟨#[]⟩,.int .i64 0,.string ⟨#[]⟩] 38)).alloc (.cells #[.int .i64 e.kind,.int .i64 e.order,.int .i64 e.item,.int .i64 e.qty,.int .i64 e.price,.int .i64 e.cur,.int .i64 e.tax,.string ⟨e.who.toArray⟩,.int .i64 0,.string ⟨#[]⟩] 38))=w':=by
 unfold v4V
 go_enter Tryz.func240,Tryz.ntmps240
 go_wp2_with (go_at_call 236;(with_reducible refine(event3_x e _).mono ?_);rintro x w' ⟨rfl,rfl⟩)
 refine π (v:= .agg #[.int .i64 e.kind,.int .i64 e.order,.int .i64 e.item,.int .i64 e.qty,.int .i64 e.price,.int .i64 e.cur,.int .i64 e.tax,.string ⟨e.who.toArray⟩,.int .i64 0,.string ⟨#[]⟩]) (by simp [results,Tryz.results240,go_sem,ev3]) rfl ⟨rfl,rfl⟩
theorem event5_x (e:Ev) (w:World):Calls Tryz.prog 246 #[v5V e] w fun x w'=>x= .returned (Dx e)∧((((((((((((((w.alloc (.cells #[.int .i64 e.kind,.int .i64 e.order,.int .i64 e.item,.int .i64 e.qty,.int .i64 e.price,.int .i64 e.cur,.int .i64 e.tax,.string ⟨e.who.toArray⟩,.int .i64 e.stamp,.string ⟨e.note.toArray⟩] 235)).alloc (.cells #[.int .i64 e.kind,.int .i64 e.order,.int .i64 e.item,.int .i64 e.qty,.int .i64 e.price,.int .i64 e.cur,.int .i64 e.tax,.string ⟨e.who.toArray⟩,.int .i64 e.stamp,.string ⟨e.note.toArray⟩] 38)).alloc (.cells #[.int .i64 e.kind,.int .i64 e.order,.int .i64 e.item,.int .i64 e.qty,.int .i64 e.price,.int .i64 e.cur,.int .i64 e.tax,.string ⟨e.who.toArray⟩] 233)).alloc (.cells #[.int .i64 e.kind,.int .i64 e.order,.int .i64 e.item,.int .i64 e.qty,.int .i64 e.price,.int .i64 e.cur,.int .i64 e.tax,.string ⟨e.who.toArray⟩,.int .i64 0,.string ⟨#[]⟩] 38)).alloc (.cells #[.int .i64 e.kind,.int .i64 e.order,.int .i64 e.item,.int .i64 e.qty,.int .i64 e.price,.int .i64 e.cur,.int .i64 e.tax] 231)).alloc (.cells #[.int .i64 e.kind,.int .i64 e.order,.int .i64 e.item,.int .i64 e.qty,.int .i64 e.price,.int .i64 e.cur,.int .i64 e.tax,.string ⟨#[]⟩,.int .i64 0,.string ⟨#[]⟩] 38)).alloc (.cells #[.int .i64 e.kind,.int .i64 e.order,.int .i64 e.item,.int .i64 e.qty,.int .i64 e.price,.int .i64 e.cur] 229)).alloc (.cells #[.int .i64 e.kind,.int .i64 e.order,.int .i64 e.item,.int .i64 e.qty,.int .i64 e.price,.int .i64 e.cur,.int .i64 0,.string ⟨#[]⟩,.int .i64 0,.string ⟨#[]⟩] 38)).alloc (.cells #[.int .i64 e.kind,.int .i64 e.order,.int .i64 e.item,.int .i64 e.qty,.int .i64 e.price] 227)).alloc (.cells #[.int .i64 e.kind,.int .i64 e.order,.int .i64 e.item,.int .i64 e.qty,.int .i64 e.price,.int .i64 0,.int .i64 0,.string ⟨#[]⟩,.int .i64 0,.string ⟨#[]⟩] 38)).alloc (.cells #[.int .i64 e.kind,.int .i64 e.order,.int .i64 e.item,.int .i64 e.qty,.int .i64 e.price,.int .i64 e.cur,.int .i64 0,.string ⟨#[]⟩,.int .i64 0,.string ⟨#[]⟩] 38)).alloc (.cells #[.int .i64 e.kind,.int .i64 e.order,.int .i64 e.item,.int .i64 e.qty,.int .i64 e.price,.int .i64 e.cur,.int .i64 e.tax,.string ⟨#[]⟩,.int .i64 0,.string ⟨#[]⟩] 38)).alloc (.cells #[.int .i64 e.kind,.int .i64 e.order,.int .i64 e.item,.int .i64 e.qty,.int .i64 e.price,.int .i64 e.cur,.int .i64 e.tax,.string ⟨e.who.toArray⟩,.int .i64 0,.string ⟨#[]⟩] 38)).alloc (.cells #[.int .i64 e.kind,.int .i64 e.order,.int .i64 e.item,.int .i64 e.qty,.int .i64 e.price,.int .i64 e.cur,.int .i64 e.tax,.string ⟨e.who.toArray⟩,.int .i64 e.stamp,.string ⟨e.note.toArray⟩] 38))=w':=by
 unfold v5V
 go_enter Tryz.func246,Tryz.ntmps246
 go_wp2_with (go_at_call 240;(with_reducible refine(event4_x e _).mono ?_);rintro x w' ⟨rfl,rfl⟩)
 refine π (v:= .agg #[.int .i64 e.kind,.int .i64 e.order,.int .i64 e.item,.int .i64 e.qty,.int .i64 e.price,.int .i64 e.cur,.int .i64 e.tax,.string ⟨e.who.toArray⟩,.int .i64 e.stamp,.string ⟨e.note.toArray⟩]) (by simp [results,Tryz.results246,go_sem,ev4]) rfl ⟨rfl,rfl⟩
theorem event1_any (e:Ev) (w:World):Calls Tryz.prog 222 #[v1V e] w fun x w'=>x= .returned (Dx (ev1 e))∧Below w.heap.size w w':=
 (event1_x e w).mono fun x w' ⟨he,hw⟩=>⟨he,by
  subst hw
  repeat (first | exact τ _ _ | refine Below.alloc ?_ (by simp;try omega) _)⟩
theorem event2_any (e:Ev) (w:World):Calls Tryz.prog 233 #[v2V e] w fun x w'=>x= .returned (Dx (ev2 e))∧Below w.heap.size w w':=
 (event2_x e w).mono fun x w' ⟨he,hw⟩=>⟨he,by
  subst hw
  repeat (first | exact τ _ _ | refine Below.alloc ?_ (by simp;try omega) _)⟩
theorem event3_any (e:Ev) (w:World):Calls Tryz.prog 236 #[v3V e] w fun x w'=>x= .returned (Dx (ev3 e))∧Below w.heap.size w w':=
 (event3_x e w).mono fun x w' ⟨he,hw⟩=>⟨he,by
  subst hw
  repeat (first | exact τ _ _ | refine Below.alloc ?_ (by simp;try omega) _)⟩
theorem event4_any (e:Ev) (w:World):Calls Tryz.prog 240 #[v4V e] w fun x w'=>x= .returned (Dx (ev4 e))∧Below w.heap.size w w':=
 (event4_x e w).mono fun x w' ⟨he,hw⟩=>⟨he,by
  subst hw
  repeat (first | exact τ _ _ | refine Below.alloc ?_ (by simp;try omega) _)⟩
theorem event5_any (e:Ev) (w:World):Calls Tryz.prog 246 #[v5V e] w fun x w'=>x= .returned (Dx e)∧Below w.heap.size w w':=
 (event5_x e w).mono fun x w' ⟨he,hw⟩=>⟨he,by
  subst hw
  repeat (first | exact τ _ _ | refine Below.alloc ?_ (by simp;try omega) _)⟩
theorem lift_x (e:Ev) (w:World):Calls Tryz.prog 137 #[Dx e] w fun x w'=>x= .returned (v5V e)∧Below w.heap.size w w':=by
 unfold Dx
 go_enter Tryz.func137,Tryz.ntmps137
 go_wp2
 refine π (v:=v5V e) (by simp [results,Tryz.results137,go_sem]) rfl ⟨rfl,?_⟩
 repeat (first | exact τ _ _ | refine Below.alloc ?_ (by simp;try omega) _)
theorem m1last (k:Nat) (e:Ev) (w:World):(Go.method (k+1) 227 (v1V e) "daybook/schema.last").run Tryz.prog w= .ok (225,v1V e) w:=by kernel_rfl
theorem m2last (k:Nat) (e:Ev) (w:World):(Go.method (k+1) 229 (v2V e) "daybook/schema.last").run Tryz.prog w= .ok (225,v1V e) w:=by kernel_rfl
theorem m3last (k:Nat) (e:Ev) (w:World):(Go.method (k+1) 231 (v3V e) "daybook/schema.last").run Tryz.prog w= .ok (238,v3V e) w:=by kernel_rfl
theorem m4last (k:Nat) (e:Ev) (w:World):(Go.method (k+1) 233 (v4V e) "daybook/schema.last").run Tryz.prog w= .ok (242,v4V e) w:=by kernel_rfl
theorem m5last (k:Nat) (e:Ev) (w:World):(Go.method (k+1) 235 (v5V e) "daybook/schema.last").run Tryz.prog w= .ok (248,v5V e) w:=by kernel_rfl
theorem m1fits (k:Nat) (e:Ev) (w:World):(Go.method (k+1) 227 (v1V e) "daybook/schema.fits").run Tryz.prog w= .ok (224,v1V e) w:=by kernel_rfl
theorem m2fits (k:Nat) (e:Ev) (w:World):(Go.method (k+1) 229 (v2V e) "daybook/schema.fits").run Tryz.prog w= .ok (234,v2V e) w:=by kernel_rfl
theorem m3fits (k:Nat) (e:Ev) (w:World):(Go.method (k+1) 231 (v3V e) "daybook/schema.fits").run Tryz.prog w= .ok (237,v3V e) w:=by kernel_rfl
theorem m4fits (k:Nat) (e:Ev) (w:World):(Go.method (k+1) 233 (v4V e) "daybook/schema.fits").run Tryz.prog w= .ok (241,v4V e) w:=by kernel_rfl
theorem m5fits (k:Nat) (e:Ev) (w:World):(Go.method (k+1) 235 (v5V e) "daybook/schema.fits").run Tryz.prog w= .ok (247,v5V e) w:=by kernel_rfl
theorem m1event (k:Nat) (e:Ev) (w:World):(Go.method (k+1) 227 (v1V e) "Event").run Tryz.prog w= .ok (222,v1V e) w:=by kernel_rfl
theorem m2event (k:Nat) (e:Ev) (w:World):(Go.method (k+1) 229 (v2V e) "Event").run Tryz.prog w= .ok (233,v2V e) w:=by kernel_rfl
theorem m3event (k:Nat) (e:Ev) (w:World):(Go.method (k+1) 231 (v3V e) "Event").run Tryz.prog w= .ok (236,v3V e) w:=by kernel_rfl
theorem m4event (k:Nat) (e:Ev) (w:World):(Go.method (k+1) 233 (v4V e) "Event").run Tryz.prog w= .ok (240,v4V e) w:=by kernel_rfl
theorem m5event (k:Nat) (e:Ev) (w:World):(Go.method (k+1) 235 (v5V e) "Event").run Tryz.prog w= .ok (246,v5V e) w:=by kernel_rfl
def Gd (v:Int) (e:Ev):Value:=
 if v=1 then .iface 227 (v1V e) else if v=2 then .iface 229 (v2V e) else if v=3 then .iface 231 (v3V e) else if v=4 then .iface 233 (v4V e) else if v=5 then .iface 235 (v5V e) else .nilIface
theorem D9 (v:Int) (e:Ev) (w:World):Calls Tryz.prog 103 #[.int .i64 v,Dx e] w fun x w'=>x= .returned (Gd v e)∧Below w.heap.size w w':=by
 have HL:=Qh (lift_x e)
 unfold Dx
 have hE:=Iv w e 38
 have HE:=Qh hE
 clear hE
 by_cases h:1≤v∧v≤5
 ·rcases (show v=1∨v=2∨v=3∨v=4∨v=5 by omega) with rfl | rfl | rfl | rfl | rfl
  all_goals
   clear h
   go_enter Tryz.func103,Tryz.ntmps103
   go_wp2_with fail
   refine(HL.out _).mono ?_
   rintro x w2 ⟨rfl,hb⟩
   have HB:=Qh (Below.next ((τ _ _).alloc (ξ _) _) hb)
   clear hb
   go_wp2
   go_ret
   exact⟨rfl,Below.next HB.out ((τ _ _).alloc (ξ _) _)⟩
 ·have d1:(v==1)=false:=by simp;omega
  have d2:(v==2)=false:=by simp;omega
  have d3:(v==3)=false:=by simp;omega
  have d4:(v==4)=false:=by simp;omega
  have d5:(v==5)=false:=by simp;omega
  have hv:=Qh (show Gd v e= .nilIface by unfold Gd;rw [γ (by omega),γ (by omega),γ (by omega),γ (by omega),γ (by omega)])
  clear h
  go_enter Tryz.func103,Tryz.ntmps103
  go_wp2_with fail
  refine(HL.out _).mono ?_
  rintro x w2 ⟨rfl,hb⟩
  have HB:=Qh (Below.next ((τ _ _).alloc (ξ _) _) hb)
  clear hb
  go_wp2
  go_ret
  exact⟨by rw [hv.out];rfl,Below.next HB.out ((τ _ _).alloc (ξ _) _)⟩
theorem schemaCheck_version (v:Int) (e:Ev) (w:World) (h:v<1∨5<v):Calls Tryz.prog 101 #[.int .i64 v,Dx e] w (Fe (Af v e) w):=by
 have hf:=Qh (chk30 (e:=e) h)
 have hT:=Qh (show Gd v e= .nilIface by unfold Gd;rw [γ (by omega),γ (by omega),γ (by omega),γ (by omega),γ (by omega)])
 have HT:=Qh (fun W=>hT.out▸D9 v e W)
 clear h
 unfold Dx
 go_enter Tryz.func101,Tryz.ntmps101
 go_wp2_with fail
 refine(HT.out _).mono ?_
 rintro x w2 ⟨rfl,hb⟩
 have HB:=Qh (Below.next ((τ _ _).alloc (ξ _) _) hb)
 clear hb
 go_wp2
 go_ret
 exact⟨by rw [hf.out];rfl,HB.out⟩
theorem evCells {w':World} {b:Nat} {e:Ev} (h:EvAt w' b e):w'.cell? ⟨b,0,none⟩=some (.int .i64 e.kind)∧w'.cell? ⟨b,1,none⟩=some (.int .i64 e.order)∧w'.cell? ⟨b,2,none⟩=some (.int .i64 e.item)∧w'.cell? ⟨b,3,none⟩=some (.int .i64 e.qty)∧w'.cell? ⟨b,4,none⟩=some (.int .i64 e.price)∧w'.cell? ⟨b,5,none⟩=some (.int .i64 e.cur)∧w'.cell? ⟨b,6,none⟩=some (.int .i64 e.tax)∧w'.cell? ⟨b,7,none⟩=some (.string ⟨e.who.toArray⟩)∧w'.cell? ⟨b,8,none⟩=some (.int .i64 e.stamp)∧w'.cell? ⟨b,9,none⟩=some (.string ⟨e.note.toArray⟩):=
 ⟨h.c0,h.c1,h.c2,h.c3,h.c4,h.c5,h.c6,h.c7,h.c8,h.c9⟩
theorem evFits_1 (e:Ev):D6 1 e=(fitsV1 e&&Eo (ev1 e) e):=by
 rw [Bool.eq_iff_iff]
 simp only [D6,fitsV1,coreB,ev1,Eo,Ir,Bool.and_eq_true,decide_eq_true_eq,beq_iff_eq,Bool.or_eq_true,List.isEmpty_iff]
 grind
theorem evFits_2 (e:Ev):D6 2 e=(fits2 e&&Eo (ev2 e) e):=by
 rw [Bool.eq_iff_iff]
 simp only [D6,fits2,coreB,ev2,Eo,Ir,Bool.and_eq_true,decide_eq_true_eq,beq_iff_eq,Bool.or_eq_true,List.isEmpty_iff]
 grind
theorem evFits_3 (e:Ev):D6 3 e=(fits3 e&&Eo (ev3 e) e):=by
 rw [Bool.eq_iff_iff]
 simp only [D6,fits3,fits2,coreB,ev3,Eo,Ir,Bool.and_eq_true,decide_eq_true_eq,beq_iff_eq,Bool.or_eq_true,List.isEmpty_iff]
 grind
theorem evFits_4 (e:Ev):D6 4 e=(fits4 e&&Eo (ev4 e) e):=by
 rw [Bool.eq_iff_iff]
 simp only [D6,fits4,fits3,fits2,coreB,ev4,Eo,Ir,Bool.and_eq_true,decide_eq_true_eq,beq_iff_eq,Bool.or_eq_true,List.isEmpty_iff]
 grind
theorem evFits_5 (e:Ev):D6 5 e=fits5 e:=by
 rw [Bool.eq_iff_iff]
 simp only [D6,fits5,fits4,fits3,fits2,coreB,Ir,Bool.and_eq_true,decide_eq_true_eq,Bool.or_eq_true,List.isEmpty_iff]
 grind
def zigV (n:Int):Nat:=if 0≤n then (2*n).toNat else (-2*n - 1).toNat
def zagV (u:Nat):Int:=if u % 2=0 then ((u / 2:Nat):Int) else -((u / 2:Nat):Int) - 1
theorem zag_zig (n:Int):zagV (zigV n)=n:=by
 unfold zigV zagV
 split<;>split<;>omega
def Hs (f:Fld):List UInt8:=if f.text then encV (f.tag*2+1)++encV f.data.length++f.data else encV (f.tag*2)++encV f.num
def recEnc (fs:List Fld):List UInt8:=fs.flatMap Hs
def nz (f:Fld):Bool:=if f.text then !f.data.isEmpty else f.num != 0
def nF (t:Nat) (n:Int):Fld:=⟨t,false,n.toNat,[]⟩
def tF (t:Nat) (l:List UInt8):Fld:=⟨t,true,0,l⟩
def cand (v:Int) (e:Ev):List Fld:=
 [nF 1 e.kind,nF 2 e.order,nF 3 e.item,if v<3 then ⟨4,false,zigV e.qty,[]⟩ else nF 4 e.qty,nF 5 e.price]++(if 2≤v then [nF 6 e.cur] else [])++
  (if 3≤v then [nF 7 e.tax] else [])++(if 4≤v then [tF 8 e.who] else [])++(if 5≤v then [nF 9 e.stamp,tF 10 e.note] else [])
def evFlds (v:Int) (e:Ev):List Fld:=(cand v e).filter nz
def J7 (v:Int) (e:Ev):List UInt8:=encV v.toNat++recEnc (evFlds v e)
def Kl (v:Int) (q:List Fld×Int):Ev×Int:=
 let k:=numQ q 1
 let o:=numQ k.2 2
 let i:=numQ o.2 3
 let c:=if v<3 then (zagV (Bx i.2 4 false).1.num,(Bx i.2 4 false).2) else numQ i.2 4
 let p:=numQ c.2 5
 let n:=if v=5 then ((Bx p.2 10 true).1.data,numQ (Bx p.2 10 true).2 9) else ([],0,p.2)
 let h:=if 4≤v then ((Bx n.2.2 8 true).1.data,(Bx n.2.2 8 true).2) else ([],n.2.2)
 let t:=if 3≤v then numQ h.2 7 else (0,h.2)
 let u:=if 2≤v then numQ t.2 6 else (0,t.2)
 let e:Ev:=⟨k.1,o.1,i.1,c.1,p.1,u.1,t.1,h.1,n.2.1,n.1⟩
 if errQ u.2≠0 then (evNone,errQ u.2) else if Af v e≠0 then (evNone,Af v e) else (e,0)
def D4 (v:Int) (b:List UInt8):Ev×Int:=
 if v<1∨5<v then (evNone,30) else if (B2 b).1≠0 then (evNone,(B2 b).1) else Kl v ((B2 b).2,0)
def Ca (b:List UInt8):Int×Ev×Int:=
 if (decV b).2.2≠0 then (0,evNone,(decV b).2.2)
 else if (D4 (Cw (decV b).1) (b.drop (decV b).2.1)).2≠0 then (0,evNone,(D4 (Cw (decV b).1) (b.drop (decV b).2.1)).2)
 else (Cw (decV b).1,(D4 (Cw (decV b).1) (b.drop (decV b).2.1)).1,0)
def FldOk (f:Fld):Prop:=1≤f.tag∧f.tag≤31∧nz f=true∧f.num<18446744073709551616∧f.data.length≤200∧(f.text=true→f.num=0)∧(f.text=false→f.data=[])
theorem fldV_enc {f:Fld} (h:FldOk f) {b r:List UInt8} {p last:Nat} (hd:b.drop p=Hs f++r) (hl:last<f.tag):Df b p last=(0,f,p+(Hs f).length):=by
 obtain⟨t,tx,n,d⟩:=f
 obtain⟨h1,h2,h3,h4,h5,h6,h7⟩:=h
 simp only at h1 h2 h4 h5 h6 h7 hl
 cases tx
 ·have hd0:d=[]:=h7 rfl
  subst hd0
  have hn:n≠0:=by simpa [nz] using h3
  have e0:Hs ⟨t,false,n,[]⟩=encV (t*2)++encV n:=rfl
  rw [e0] at hd ⊢
  have e1:=Eh (show t*2<18446744073709551616 by omega) (encV n++r)
  rw [←List.append_assoc,←hd] at e1
  have hd2:b.drop (p+(encV (t*2)).length)=encV n++r:=by rw [←List.drop_drop,hd,List.append_assoc,List.drop_left]
  have e2:=Eh h4 r
  rw [←hd2] at e2
  unfold Df
  simp only [e1,e2]
  rw [γ (by decide),γ (by omega),γ (by omega),γ (by decide),γ hn,ζ (by omega),Nat.mul_div_cancel _ (by decide),η,Nat.add_assoc]
 ·have hn0:n=0:=h6 rfl
  subst hn0
  have hn:d≠ []:=by simpa [nz] using h3
  have hp:=Ψ.2 hn
  have e0:Hs ⟨t,true,0,d⟩=encV (t*2+1)++encV d.length++d:=rfl
  rw [e0] at hd ⊢
  have e1:=Eh (show t*2+1<18446744073709551616 by omega) (encV d.length++(d++r))
  have hq:b.drop p=encV (t*2+1)++(encV d.length++(d++r)):=by rw [hd];simp only [List.append_assoc]
  rw [←hq] at e1
  have hd2:b.drop (p+(encV (t*2+1)).length)=encV d.length++(d++r):=by rw [←List.drop_drop,hq,List.drop_left]
  have e2:=Eh (show d.length<18446744073709551616 by omega) (d++r)
  rw [←hd2] at e2
  have hd3:b.drop (p+(encV (t*2+1)).length+(encV d.length).length)=d++r:=by rw [←List.drop_drop,hd2,List.drop_left]
  have hl3:=congrArg List.length hd3
  rw [Ξ,η] at hl3
  unfold Df
  simp only [e1,e2]
  rw [γ (by decide),γ (by omega),γ (by omega),γ (by decide),γ (by omega),γ (by omega),γ (by omega),γ (by omega),hd3,List.take_left]
  simp only [Prod.mk.injEq,Fld.mk.injEq,true_and,and_true,η]
  omega
theorem tlvGo_enc: ∀ (fs:List Fld) (n p last:Nat) (acc:List Fld) (b:List UInt8),(∀ f∈fs,FldOk f)→fs.Pairwise (fun a b=>a.tag<b.tag)→(∀ f∈fs,last<f.tag)→b.drop p=recEnc fs→b.length<p+n→Gu b n p last acc=(0,acc++fs)
 | [],n,p,last,acc,b,_,_,_,hd,hn=>by
  have:=congrArg List.length hd
  rw [Ξ,show recEnc []=[] from rfl,Φ] at this
  rw [tlvGo_end (by omega),List.append_nil]
 | f::fs,n,p,last,acc,b,ho,hp,hl,hd,hn=>by
  obtain⟨hp1,hp2⟩:=List.pairwise_cons.1 hp
  have hd':b.drop p=Hs f++recEnc fs:=by rw [hd];rfl
  have hv:=fldV_enc (ho f (by simp)) hd' (hl f (by simp))
  have hpos:0<(Hs f).length:=by
   unfold Hs
   split
   ·have:=encV_pos (f.tag*2+1);simp only [η];omega
   ·have:=encV_pos (f.tag*2);simp only [η];omega
  have hlen:=congrArg List.length hd'
  rw [Ξ,η] at hlen
  obtain⟨n',rfl⟩: ∃ n',n=n'+1:=⟨n - 1,by omega⟩
  rw [tlvGo_ok (by omega) (by rw [hv]),hv]
  simp only
  rw [tlvGo_enc fs n' _ f.tag _ b (fun x hx=>ho x (by simp [hx])) hp2 hp1 (by rw [←List.drop_drop,hd',List.drop_left]) (by omega)]
  simp
theorem tlvDec_enc {fs:List Fld} (ho: ∀ f∈fs,FldOk f) (hp:fs.Pairwise fun a b=>a.tag<b.tag) (hl:(recEnc fs).length≤1024):B2 (recEnc fs)=(0,fs):=by
 unfold B2
 rw [γ (by omega),tlvGo_enc fs _ 0 0 [] _ ho hp (fun f hf=>(ho f hf).1) (by rw [List.drop_zero]) (by omega)]
 rfl
theorem tag_inj {C:List Fld} (hC:C.Pairwise fun a b=>a.tag<b.tag) {x y:Fld} (hx:x∈C) (hy:y∈C) (h:x.tag=y.tag):x=y:=by
 induction C with
 | nil=>cases hx
 | cons z r ih=>
  obtain⟨h1,h2⟩:=List.pairwise_cons.1 hC
  rcases Γ.1 hx with hx2 | hx2<;>rcases Γ.1 hy with hy2 | hy2
  ·rw [hx2,hy2]
  ·have:=h1 y hy2;rw [←hx2] at this;omega
  ·have:=h1 x hx2;rw [←hy2] at this;omega
  ·exact ih h2 hx2 hy2
def lf (C:List Fld) (S:Nat→Bool):List Fld:=C.filter fun x=>nz x&&S x.tag
theorem takeQ_mem {C:List Fld} (hC:C.Pairwise fun a b=>a.tag<b.tag) {S:Nat→Bool} {f:Fld} {bad:Int} (hf:f∈C) (hS:S f.tag=true) (h0:f.text=true→f.num=0) (h1:f.text=false→f.data=[]):
  (Bx (C.filter (fun x=>nz x&&S x.tag),bad) f.tag f.text).1.num=f.num∧(Bx (C.filter (fun x=>nz x&&S x.tag),bad) f.tag f.text).1.data=f.data∧
   (Bx (C.filter (fun x=>nz x&&S x.tag),bad) f.tag f.text).2=(C.filter (fun x=>nz x&&(S x.tag&&x.tag != f.tag)),bad):=by
 unfold Bx
 simp only
 rcases hz:nz f with _ | _
 ·have hn:(C.filter fun x=>nz x&&S x.tag).find? (tagQ f.tag)=none:=List.find?_eq_none.2 fun x hx hk=>by
   obtain⟨hx1,hx2⟩:=List.mem_filter.1 hx
   have e:x.tag=f.tag:=by simp only [tagQ,beq_iff_eq] at hk;omega
   rw [tag_inj hC hx1 hf e,hz] at hx2
   cases hx2
  rw [hn]
  simp only
  refine⟨?_,?_,?_⟩
  ·rcases ht:f.text with _ | _
   ·unfold nz at hz;rw [ht] at hz;simp at hz;rw [hz];rfl
   ·rw [h0 ht];rfl
  ·rcases ht:f.text with _ | _
   ·rw [h1 ht];rfl
   ·unfold nz at hz;rw [ht] at hz;simp at hz;rw [hz];rfl
  ·congr 1
   refine List.filter_congr fun x hx=> ?_
   by_cases e:x.tag=f.tag
   ·rw [tag_inj hC hx hf e,hz];rfl
   ·have:(x.tag != f.tag)=true:=by simpa using e
    rw [this,Bool.and_true]
 ·have hn:(C.filter fun x=>nz x&&S x.tag).find? (tagQ f.tag)=some f:=by
   rcases h:(C.filter fun x=>nz x&&S x.tag).find? (tagQ f.tag) with _ | x
   ·have:=List.find?_eq_none.1 h f (List.mem_filter.2 ⟨hf,by rw [hz,hS];rfl⟩)
    simp [tagQ] at this
   ·have h2:=List.find?_some h
    have hx1:=(List.mem_filter.1 (List.mem_of_find?_eq_some h)).1
    rw [tag_inj hC hx1 hf (by simp only [tagQ,beq_iff_eq] at h2;omega)]
  rw [hn]
  simp only [if_true]
  refine⟨trivial,trivial,?_⟩
  unfold restQ
  rw [List.filter_filter]
  congr 1
  refine List.filter_congr fun x _=> ?_
  have:(!tagQ (f.tag:Int) x)=(x.tag != f.tag):=by
   unfold tagQ
   rw [Bool.eq_iff_iff]
   simp
   omega
  rw [this]
  cases nz x<;>cases S x.tag<;>cases (x.tag != f.tag)<;>rfl
theorem D7 {C:List Fld} (hC:C.Pairwise fun a b=>a.tag<b.tag) {S:Nat→Bool} {t:Nat} {n k:Int} {bad:Int} (hk:k=(t:Int)) (hf:nF t n∈C) (hS:S t=true) (hn:0≤n∧n≤4611686018427387904):
  numQ (lf C S,bad) k=(n,lf C (fun y=>S y&&y != t),bad):=by
 subst hk
 obtain⟨e1,_,e3⟩:=takeQ_mem (bad:=bad) hC hf hS (fun h=>by cases h) (fun _=>rfl)
 unfold numQ lf
 show (Cw (Bx _ ((nF t n).tag:Int) (nF t n).text).1.num,(Bx _ ((nF t n).tag:Int) (nF t n).text).2)=_
 rw [e1,e3]
 congr 1
 unfold Cw nF
 simp only
 omega
theorem textQ_mem {C:List Fld} (hC:C.Pairwise fun a b=>a.tag<b.tag) {S:Nat→Bool} {t:Nat} {l:List UInt8} {k bad:Int} (hk:k=(t:Int)) (hf:tF t l∈C) (hS:S t=true):
  (Bx (lf C S,bad) k true).1.data=l∧(Bx (lf C S,bad) k true).2=(lf C (fun y=>S y&&y != t),bad):=by
 subst hk
 obtain⟨_,e2,e3⟩:=takeQ_mem (bad:=bad) hC hf hS (fun _=>rfl) (fun h=>by cases h)
 exact⟨e2,e3⟩
structure EvFit (v:Int) (e:Ev):Prop where
 ver:1≤v∧v≤5
 kind:1≤e.kind∧e.kind≤10
 order:1≤e.order∧e.order≤1099511627776
 item:0≤e.item∧e.item≤65535
 qty:(if v<3 then -10000 else 0)≤e.qty∧e.qty≤10000
 price:0≤e.price∧e.price≤100000000
 cur:0≤e.cur∧e.cur≤(if v<2 then 0 else 3)
 tax:0≤e.tax∧e.tax≤(if v<3 then 0 else 5000)
 who:e.who.length≤16∧(v<4→e.who=[])
 stamp:0≤e.stamp∧e.stamp≤(if v<5 then 0 else 1099511627776)
 note:e.note.length≤120∧(v<5→e.note=[])
theorem evFit {v:Int} {e:Ev} (h:Af v e=0):EvFit v e:=by
 unfold Af at h
 split at h
 ·cases h
 ·rename_i h1
  split at h
  ·cases h
  ·rename_i h2
   split at h
   ·cases h
   ·rename_i h3
    split at h
    ·rename_i h4
     unfold D6 Ir at h4
     simp only [Bool.and_eq_true,decide_eq_true_eq,Bool.or_eq_true,List.isEmpty_iff] at h4
     obtain⟨⟨⟨⟨⟨⟨⟨⟨a1,a2⟩,a3⟩,a4⟩,a5⟩,a6⟩,a7⟩,a8⟩,a9⟩:=h4
     have hk:Bz v≤10:=by unfold Bz;repeat' split<;>omega
     refine⟨by omega,by omega,a1,a2,a3,⟨a4.1,?_⟩,a5,a6,⟨by omega,fun hv=> ?_⟩,a8,⟨by omega,fun hv=> ?_⟩⟩
     ·have:=a4.2;split at this<;>omega
     ·rw [ζ hv] at a7;simpa using a7
     ·rcases a9 with h | h
      ·omega
      ·exact h
    ·cases h
theorem Gy {v:Int} (e:Ev) (hv:1≤v∧v≤5):(cand v e).Pairwise fun a b=>a.tag<b.tag:=by
 have:v=1∨v=2∨v=3∨v=4∨v=5:=by omega
 rcases this with rfl | rfl | rfl | rfl | rfl<;>simp [cand,nF,tF]
theorem cand_ok {v:Int} {e:Ev} (h:EvFit v e): ∀ f∈cand v e,nz f=true→FldOk f:=by
 have h1:=h.kind
 have h2:=h.order
 have h3:=h.item
 have h4:=h.qty
 have h5:=h.price
 have h6:=h.cur
 have h7:=h.tax
 have h8:=h.who.1
 have h9:=h.stamp
 have h10:=h.note.1
 have hq:zigV e.qty<18446744073709551616:=by unfold zigV;split<;>split at h4<;>omega
 have hn: ∀ (t:Nat) (n:Int),1≤t→t≤10→0≤n→n<18446744073709551616→nz (nF t n)=true→FldOk (nF t n):=fun t n a b c d hz=>
  ⟨a,by show t≤31;omega,hz,by show n.toNat<_;omega,by show 0≤200;omega,(fun h=>by cases h),fun _=>rfl⟩
 have ht: ∀ (t:Nat) (l:List UInt8),1≤t→t≤10→l.length≤200→nz (tF t l)=true→FldOk (tF t l):=fun t l a b c hz=>
  ⟨a,by show t≤31;omega,hz,by show 0<_;omega,c,(fun _=>rfl),fun h=>by cases h⟩
 intro f hf hz
 unfold cand at hf
 simp only [List.mem_append,Γ,List.not_mem_nil,or_false,List.mem_ite_nil_right] at hf
 rcases hf with((((hf | hf | hf | hf | hf) | ⟨_,hf⟩) | ⟨_,hf⟩) | ⟨_,hf⟩) | ⟨_,hf | hf⟩<;>subst hf
 ·exact hn _ _ (by omega) (by omega) (by omega) (by omega) hz
 ·exact hn _ _ (by omega) (by omega) (by omega) (by omega) hz
 ·exact hn _ _ (by omega) (by omega) (by omega) (by omega) hz
 ·split at hz
  ·rename_i hv
   rw [ζ hv]
   exact⟨by show 1≤4;omega,by show 4≤31;omega,hz,hq,by show 0≤200;omega,(fun h=>by cases h),fun _=>rfl⟩
  ·rename_i hv
   rw [γ hv] at h4 ⊢
   exact hn _ _ (by omega) (by omega) (by omega) (by omega) hz
 ·exact hn _ _ (by omega) (by omega) (by omega) (by omega) hz
 ·exact hn _ _ (by omega) (by omega) (by omega) (by split at h6<;>omega) hz
 ·exact hn _ _ (by omega) (by omega) (by omega) (by split at h7<;>omega) hz
 ·exact ht _ _ (by omega) (by omega) (by omega) hz
 ·exact hn _ _ (by omega) (by omega) (by omega) (by split at h9<;>omega) hz
 ·exact ht _ _ (by omega) (by omega) (by omega) hz
theorem Kq {v:Int} {e:Ev} (h:EvFit v e):(∀ f∈evFlds v e,FldOk f)∧(evFlds v e).Pairwise fun a b=>a.tag<b.tag:=
 ⟨fun f hf=>by obtain⟨h1,h2⟩:=List.mem_filter.1 hf;exact cand_ok h f h1 h2,(Gy e h.ver).sublist List.filter_sublist⟩
theorem fldEnc_len {f:Fld} (h:FldOk f):(Hs f).length≤20+f.data.length:=by
 obtain⟨h1,h2,_,h4,h5,_⟩:=h
 unfold Hs
 split
 ·have a:=Bl (show f.tag*2+1<18446744073709551616 by omega)
  have b:=Bl (show f.data.length<18446744073709551616 by omega)
  simp only [η];omega
 ·have a:=Bl (show f.tag*2<18446744073709551616 by omega)
  have b:=Bl h4
  simp only [η];omega
theorem recEnc_len: ∀ {fs:List Fld},(∀ f∈fs,FldOk f)→(recEnc fs).length≤20*fs.length+(fs.map fun f=>f.data.length).sum
 | [],_=>by simp [recEnc]
 | f::fs,h=>by
  have h1:=fldEnc_len (h f (by simp))
  have h2:=recEnc_len (fs:=fs) fun x hx=>h x (by simp [hx])
  simp only [recEnc,List.flatMap_cons,η,φ,List.map_cons,List.sum_cons] at h2 ⊢
  omega
theorem filt_sum (p:Fld→Bool): ∀ C:List Fld,((C.filter p).map fun f=>f.data.length).sum≤(C.map fun f=>f.data.length).sum
 | []=>by simp
 | f::C=>by
  have:=filt_sum p C
  rw [List.filter_cons]
  split<;>simp only [List.map_cons,List.sum_cons]<;>omega
theorem Iw {v:Int} {e:Ev} (h:EvFit v e):(recEnc (evFlds v e)).length≤336:=by
 have h1:=recEnc_len (Kq h).1
 have h2:(evFlds v e).length≤(cand v e).length:=List.length_filter_le _ _
 have h3:=filt_sum nz (cand v e)
 have h4:(cand v e).length≤10∧((cand v e).map fun f=>f.data.length).sum≤136:=by
  have hv:=h.ver
  have a:=h.who.1
  have b:=h.note.1
  have:v=1∨v=2∨v=3∨v=4∨v=5:=by omega
  rcases this with rfl | rfl | rfl | rfl | rfl<;>simp [cand,nF,tF]<;>omega
 unfold evFlds at*
 omega
theorem smallV_id {n:Nat} (h:n≤5):Cw n=(n:Int):=by unfold Cw;omega
theorem decEv_enc {v:Int} {e:Ev} (hc:Af v e=0):D4 v (recEnc (evFlds v e))=(e,0):=by
 have h:=evFit hc
 have hr:=Gy e h.ver
 obtain⟨ho,hp⟩:=Kq h
 have hl:=Iw h
 have hv:=h.ver
 unfold D4
 rw [γ (by omega),tlvDec_enc ho hp (by omega),γ (fun h=>h rfl)]
 have h1:=h.kind
 have h2:=h.order
 have h3:=h.item
 have h4:=h.qty
 have h5:=h.price
 have h6:=h.cur
 have h7:=h.tax
 have h9:=h.stamp
 have q0:evFlds v e=lf (cand v e) (fun _=>true):=List.filter_congr fun x _=>by simp
 unfold Kl
 simp only
 rw [q0]
 have c1:nF 1 e.kind∈cand v e:=by unfold cand;simp
 have c2:nF 2 e.order∈cand v e:=by unfold cand;simp
 have c3:nF 3 e.item∈cand v e:=by unfold cand;simp
 have c5:nF 5 e.price∈cand v e:=by unfold cand;simp
 rw [D7 (t:=1) (k:=1) hr rfl c1 rfl (by omega)]
 simp only
 rw [D7 (t:=2) (k:=2) hr rfl c2 rfl (by omega)]
 simp only
 rw [D7 (t:=3) (k:=3) hr rfl c3 rfl (by omega)]
 simp only
 have hcu:(2≤v→nF 6 e.cur∈cand v e)∧(3≤v→nF 7 e.tax∈cand v e)∧(4≤v→tF 8 e.who∈cand v e)∧(5≤v→nF 9 e.stamp∈cand v e∧tF 10 e.note∈cand v e):=by
  unfold cand
  refine⟨fun h=> ?_,fun h=> ?_,fun h=> ?_,fun h=> ?_⟩<;>simp [h]
 have hq: ∀ S:Nat→Bool,S 4=true→(if v<3 then (zagV (Bx (lf (cand v e) S,0) 4 false).1.num,(Bx (lf (cand v e) S,0) 4 false).2) else numQ (lf (cand v e) S,0) 4)=
   (e.qty,lf (cand v e) (fun y=>S y&&y != 4),0):=fun S hS=>by
  split
  ·rename_i hlt
   have c4:(⟨4,false,zigV e.qty,[]⟩:Fld)∈cand v e:=by unfold cand;simp [hlt]
   obtain⟨e1,_,e3⟩:=takeQ_mem (bad:=0) hr c4 hS (fun h=>by cases h) (fun _=>rfl)
   have e1':(Bx (lf (cand v e) S,0) 4 false).1.num=zigV e.qty:=e1
   rw [e1',zag_zig]
   exact congrArg (Prod.mk e.qty) e3
  ·rename_i hlt
   have c4:nF 4 e.qty∈cand v e:=by unfold cand;simp [hlt]
   rw [γ hlt] at h4
   exact D7 (t:=4) (k:=4) hr rfl c4 hS (by omega)
 rw [hq _ rfl]
 simp only
 rw [D7 (t:=5) (k:=5) hr rfl c5 rfl (by omega)]
 simp only
 have hfin: ∀ S:Nat→Bool,(∀ x∈cand v e,S x.tag=false)→errQ (lf (cand v e) S,0)=0:=fun S hS=>by
  unfold errQ
  rw [γ (fun h=>h rfl),ζ]
  exact List.filter_eq_nil_iff.2 fun x hx=>by rw [hS x hx];simp
 have:v=1∨v=2∨v=3∨v=4∨v=5:=by omega
 rcases this with rfl | rfl | rfl | rfl | rfl
 ·simp only [show ¬ (1:Int)=5 by decide,show ¬ (4:Int)≤1 by decide,show ¬ (3:Int)≤1 by decide,show ¬ (2:Int)≤1 by decide,if_false]
  rw [hfin _ (by simp [cand,nF])]
  have ee:(⟨e.kind,e.order,e.item,e.qty,e.price,0,0,[],0,[]⟩:Ev)=e:=Ev.ext' rfl rfl rfl rfl rfl (by simp at h6;simp;omega) (by simp at h7;simp;omega) (h.who.2 (by omega)).symm (by simp at h9;simp;omega) (h.note.2 (by omega)).symm
  rw [ee,hc]
  rfl
 ·simp only [show ¬ (2:Int)=5 by decide,show ¬ (4:Int)≤2 by decide,show ¬ (3:Int)≤2 by decide,show (2:Int)≤2 by decide,if_false,if_true]
  rw [D7 (t:=6) (k:=6) hr rfl (hcu.1 (by omega)) rfl (by simp at h6;omega)]
  simp only
  rw [hfin _ (by simp [cand,nF])]
  have ee:(⟨e.kind,e.order,e.item,e.qty,e.price,e.cur,0,[],0,[]⟩:Ev)=e:=Ev.ext' rfl rfl rfl rfl rfl rfl (by simp at h7;simp;omega) (h.who.2 (by omega)).symm (by simp at h9;simp;omega) (h.note.2 (by omega)).symm
  rw [ee,hc]
  rfl
 ·simp only [show ¬ (3:Int)=5 by decide,show ¬ (4:Int)≤3 by decide,show (3:Int)≤3 by decide,show (2:Int)≤3 by decide,if_false,if_true]
  rw [D7 (t:=7) (k:=7) hr rfl (hcu.2.1 (by omega)) rfl (by simp at h7;omega)]
  simp only
  rw [D7 (t:=6) (k:=6) hr rfl (hcu.1 (by omega)) rfl (by simp at h6;omega)]
  simp only
  rw [hfin _ (by simp [cand,nF])]
  have ee:(⟨e.kind,e.order,e.item,e.qty,e.price,e.cur,e.tax,[],0,[]⟩:Ev)=e:=Ev.ext' rfl rfl rfl rfl rfl rfl rfl (h.who.2 (by omega)).symm (by simp at h9;simp;omega) (h.note.2 (by omega)).symm
  rw [ee,hc]
  rfl
 ·simp only [show ¬ (4:Int)=5 by decide,show (4:Int)≤4 by decide,show (3:Int)≤4 by decide,show (2:Int)≤4 by decide,if_false,if_true]
  have w8:=fun(S:Nat→Bool) (hS:S 8=true)=>textQ_mem (S:=S) (t:=8) (k:=8) (bad:=0) hr rfl (hcu.2.2.1 (by omega)) hS
  rw [(w8 _ rfl).1,(w8 _ rfl).2,D7 (t:=7) (k:=7) hr rfl (hcu.2.1 (by omega)) rfl (by simp at h7;omega)]
  simp only
  rw [D7 (t:=6) (k:=6) hr rfl (hcu.1 (by omega)) rfl (by simp at h6;omega)]
  simp only
  rw [hfin _ (by simp [cand,nF,tF])]
  have ee:(⟨e.kind,e.order,e.item,e.qty,e.price,e.cur,e.tax,e.who,0,[]⟩:Ev)=e:=Ev.ext' rfl rfl rfl rfl rfl rfl rfl rfl (by simp at h9;simp;omega) (h.note.2 (by omega)).symm
  rw [ee,hc]
  rfl
 ·simp only [show (4:Int)≤5 by decide,show (3:Int)≤5 by decide,show (2:Int)≤5 by decide,if_true]
  have w10:=fun(S:Nat→Bool) (hS:S 10=true)=>textQ_mem (S:=S) (t:=10) (k:=10) (bad:=0) hr rfl (hcu.2.2.2 (by omega)).2 hS
  have w8:=fun(S:Nat→Bool) (hS:S 8=true)=>textQ_mem (S:=S) (t:=8) (k:=8) (bad:=0) hr rfl (hcu.2.2.1 (by omega)) hS
  rw [(w10 _ rfl).1,(w10 _ rfl).2,D7 (t:=9) (k:=9) hr rfl (hcu.2.2.2 (by omega)).1 rfl (by simp at h9;omega)]
  simp only
  rw [(w8 _ rfl).1,(w8 _ rfl).2,D7 (t:=7) (k:=7) hr rfl (hcu.2.1 (by omega)) rfl (by simp at h7;omega)]
  simp only
  rw [D7 (t:=6) (k:=6) hr rfl (hcu.1 (by omega)) rfl (by simp at h6;omega)]
  simp only
  rw [hfin _ (by simp [cand,nF,tF]),hc]
  rfl
theorem If {v:Int} {e:Ev} (hc:Af v e=0):Ca (J7 v e)=(v,e,0):=by
 have hv:=(evFit hc).ver
 have h1:=Eh (show v.toNat<18446744073709551616 by omega) (recEnc (evFlds v e))
 have hs:Cw v.toNat=v:=by rw [smallV_id (by omega)];omega
 unfold Ca J7
 rw [h1]
 simp only [ne_eq,not_true_eq_false,if_false,List.drop_left,hs,decEv_enc hc]
def numF (f:Frm):Nat×Bool:=((decV f.body).1,decide ((decV f.body).2.2=0)&&decide ((decV f.body).2.1=f.body.length))
def stsP:List Plc→List St→Option (List St)
 | [],ss=>some ss
 | p::r,ss=>if (decSt p.f.body).2≠0∨p.f.k≠5∨(p.f.s:Int)≠(decSt p.f.body).1.order then none else stsP r (ss++[(decSt p.f.body).1])
def bookOk:Int→List St→Bool
 | _,[]=>true
 | last,s::r=>decide (last<s.order)&&decide (1≤s.events)&&validB s&&bookOk s.order r
def zPlc:Plc:=⟨0,0,Jv⟩
def bookBad (p q:Frm) (n:Nat):Prop:=(numF p).2=false∨(numF q).2=false∨p.k≠6∨q.k≠7∨q.s≠p.s∨p.s<1∨999999<p.s∨(numF p).1<1∨1099511627776<(numF p).1∨(numF q).1≠n
instance (p q:Frm) (n:Nat):Decidable (bookBad p q n):=by unfold bookBad;infer_instance
def decBook (b:List UInt8):Option (Nat×Nat×List St):=
 let ps:=(scanAll b).1
 if (scanAll b).2.2≠0∨ps.length<2 then none
 else if bookBad (ps.getD 0 zPlc).f (ps.getD (ps.length - 1) zPlc).f (ps.length - 2) then none
 else match stsP ((ps.take (ps.length - 1)).drop 1) [] with
  | none=>none
  | some ss=>if bookOk 0 ss then some ((ps.getD 0 zPlc).f.s,(numF (ps.getD 0 zPlc).f).1,ss) else none
def bookV (d:Ab) (num:Int):(Int×Nat×List St)×Nat:=
 match G0 d (bookName num) with
 | none=>((Aj d (bookName num),0,[]),0)
 | some x=>match decBook x.data with
  | none=>((81,0,[]),x.data.length)
  | some r=>if (r.1:Int)≠num then ((81,0,[]),x.data.length) else ((0,r.2.1,r.2.2),x.data.length)
def Es (d:Ab):List Sg→Bool×Nat
 | []=>(true,0)
 | g::r=>if (sealedV d g).1 then ((Es d r).1,(sealedV d g).2+(Es d r).2) else (false,(sealedV d g).2)
def sizeN (d:Ab) (n:List UInt8):Nat:=match atF d.files n with | none=>0 | some f=>f.data.length
def sizesN (d:Ab) (ns:List (List UInt8)):Nat:=(ns.map (sizeN d)).sum
def Fs (d:Ab):Pl×Int:=
 if d.room - (usedF d.files:Int)+(sizesN d (Ap d false firstM):Int)<51∨700<(d.files.length:Int) - ((Ap d false firstM).length:Int)+2 then (planZ,54)
 else (⟨true,firstM,Ap d false firstM,22,0⟩,0)
def F0 (d:Ab) (m:B3):Bool×Nat:=if 0<m.snap then (decide ((bookV d m.snap).1.1=0)&&decide (((bookV d m.snap).1.2.1:Int)=m.snapSeq),(bookV d m.snap).2) else (true,0)
def Hw (d:Ab) (m:B3):(Pl×Int)×Nat:=
 if (F0 d m).1=false then ((planZ,4),(F0 d m).2)
 else if (Es d m.segs.dropLast).1=false then ((planZ,4),(F0 d m).2+(Es d m.segs.dropLast).2)
 else if (Au d (lastSg m)).1.2.2=false∨(lastSg m).first - 1+((Au d (lastSg m)).1.2.1:Int)<m.snapSeq then ((planZ,4),(F0 d m).2+(Es d m.segs.dropLast).2+(Au d (lastSg m)).2)
 else ((⟨false,m,Ap d true m,((Au d (lastSg m)).1.1:Int),(lastSg m).first - 1+((Au d (lastSg m)).1.2.1:Int)⟩,0),(F0 d m).2+(Es d m.segs.dropLast).2+(Au d (lastSg m)).2)
def Ay (d:Ab):(Pl×Int)×Nat:=
 if (loadM d).1.2.2≠0 then ((planZ,if (loadM d).1.2.2=80 then 4 else (loadM d).1.2.2),(loadM d).2)
 else if (loadM d).1.2.1=false then (Fs d,(loadM d).2)
 else ((Hw d (loadM d).1.1).1,(loadM d).2+(Hw d (loadM d).1.1).2)
theorem K4 {d:Ab} {n:List UInt8} {x:A7} (h:atF d.files n=some x):sizeN d n=x.data.length:=by unfold sizeN;rw [h]
theorem filD_at {d:Ab} {n:List UInt8} {x:A7} (h:G0 d n=some x):atF d.files n=some x:=by
 unfold G0 at h
 split at h
 ·exact h
 ·cases h
theorem atF_take {n k:List UInt8} (fs:List A7) (h:k≠n):atF (takeF n fs) k=atF fs k:=by
 unfold atF takeF
 rw [List.find?_filter]
 congr 1
 funext f
 by_cases hf:f.name=k
 ·simp [hf,h]
 ·simp [hf]
theorem sizes_le: ∀ (ns:List (List UInt8)) (fs:List A7),Ff fs→ns.Nodup→(ns.map fun n=>match atF fs n with | none=>0 | some f=>f.data.length).sum≤usedF fs
 | [],fs,_,_=>by simp
 | n::ns,fs,hr,hn=>by
  obtain⟨h1,h2⟩:=List.nodup_cons.1 hn
  have ih:=sizes_le ns (takeF n fs) (G6 hr) h2
  have e:(ns.map fun k=>match atF (takeF n fs) k with | none=>0 | some f=>f.data.length)=ns.map fun k=>match atF fs k with | none=>0 | some f=>f.data.length:=
   List.map_congr_left fun k hk=>by rw [atF_take fs (by rintro rfl;exact h1 hk)]
  rw [e] at ih
  rw [List.map_cons,List.sum_cons]
  rcases ha:atF fs n with _ | f
  ·rw [Hu ha] at ih
   simpa using ih
  ·have:=Ch hr ha
   simp only
   omega
theorem sizesN_le {d:Ab} {ns:List (List UInt8)} (h:Ff d.files) (hn:ns.Nodup):sizesN d ns≤usedF d.files:=by
 have:=sizes_le ns d.files h hn
 exact this
theorem load_read (d:Ab):(loadM d).2≤sizeN d Am:=by
 unfold loadM
 rcases h:G0 d Am with _ | x
 ·dsimp only;split<;>exact θ _
 ·dsimp only
  rw [K4 (filD_at h)]
  split<;>exact ξ _
theorem book_read (d:Ab) (n:Int):(bookV d n).2≤sizeN d (bookName n):=by
 unfold bookV
 rcases h:G0 d (bookName n) with _ | x
 ·exact θ _
 ·dsimp only
  rw [K4 (filD_at h)]
  repeat' split
  all_goals exact ξ _
theorem sealed_read (d:Ab) (g:Sg):(sealedV d g).2≤2*sizeN d (Aa g.num):=by
 unfold sealedV
 rcases h:G0 d (Aa g.num) with _ | x
 ·exact θ _
 ·dsimp only
  rw [K4 (filD_at h)]
  repeat' split
  all_goals simp only
  all_goals omega
theorem chain_nums (nx:Int): ∀ (l:List Sg) (first num:Int),chainOk nx first num l=true→l.Pairwise (fun a b=>a.num<b.num)∧ ∀ g∈l,num<g.num∧g.num<nx
 | [],_,_,h=>by simp [chainOk] at h
 | g::r,first,num,h=>by
  simp only [chainOk,Bool.and_eq_true,decide_eq_true_eq] at h
  obtain⟨⟨⟨a1,a2⟩,a3⟩,a4⟩:=h
  by_cases hr:r=[]
  ·subst hr
   exact⟨List.pairwise_singleton _ _,fun x hx=>by simp at hx;subst hx;exact⟨a2,a3⟩⟩
  ·rw [γ (by cases r<;>simp_all)] at a4
   simp only [Bool.and_eq_true,decide_eq_true_eq] at a4
   obtain⟨h1,h2⟩:=chain_nums nx r (first+g.count) g.num a4.2
   refine⟨List.pairwise_cons.2 ⟨fun x hx=>(h2 x hx).1,h1⟩,fun x hx=> ?_⟩
   rcases Γ.1 hx with rfl | hx
   ·exact⟨a2,a3⟩
   ·have:=h2 x hx;omega
theorem last_segs {m:B3} (h:ManFine m):m.segs=m.segs.dropLast++[lastSg m]∧lastSg m∈m.segs:=by
 obtain⟨g,h1,_,_,_,h2⟩:=Is _ _ _ _ h.chain
 have e:lastSg m=g:=by unfold lastSg;rw [h1];rfl
 rw [e]
 have hne:m.segs≠ []:=by rintro h;rw [h] at h1;cases h1
 refine⟨?_,h2⟩
 have h3:m.segs.getLast hne=g:=by rw [List.getLast?_eq_some_getLast hne] at h1;exact ψ h1
 rw [←h3]
 exact(List.dropLast_concat_getLast hne).symm
theorem load_ok {d:Ab} (h:(loadM d).1.2.1=true):Bt (loadM d).1.1=true∧(loadM d).1.2.2=0∧ ∃ x,G0 d Am=some x∧Bk x.data=((loadM d).1.1,0):=by
 unfold loadM at h ⊢
 rcases hf:G0 d Am with _ | x
 ·rw [hf] at h;dsimp only at h;split at h<;>cases h
 ·rw [hf] at h
  dsimp only at h ⊢
  split at h
  ·cases h
  ·rename_i hc
   rw [γ hc]
   have h0:(Bk x.data).2=0:=by simpa using hc
   refine⟨?_,rfl,x,rfl,Prod.ext rfl h0⟩
   show Bt (Bk x.data).1=true
   revert h0
   unfold Bk
   repeat' split
   ·simp
   ·simp
   ·rename_i h;intro _;simpa using h
   ·simp
theorem hdr_pos {b:List UInt8} {g:Sg} (h:(Ci b g).2=true):20≤(Ci b g).1∧(Ci b g).1≤b.length:=by
 unfold Ci at h ⊢
 simp only [Bool.and_eq_true,decide_eq_true_eq] at h
 have:=hdrOf_fine h.1.1
 exact⟨this.1,this.2.1⟩
theorem active_pos {d:Ab} {g:Sg} (h:(Au d g).1.2.2=true):20≤(Au d g).1.1:=by
 unfold Au at h ⊢
 rcases hf:G0 d (Aa g.num) with _ | x
 ·rw [hf] at h;cases h
 ·rw [hf] at h
  dsimp only at h ⊢
  split at h
  ·cases h
  ·rename_i hc
   rw [γ hc]
   have:=hdr_pos (b:=x.data) (g:=g) (by simpa using hc)
   show 20≤(scanRun _ _ _ _).2
   unfold scanRun
   simp only
   omega
theorem plan_bad {d:Ab} (h:(Ay d).1.2≠0):(Ay d).1.1=planZ:=by
 unfold Ay Hw Fs at h ⊢
 repeat' split
 all_goals first
  | rfl
  | (exfalso;simp_all)
theorem strays_sub (d:Ab) (t:Bool) (m:B3) (h:Ff d.files):(Ap d t m).Pairwise (fun a b=>bytesBefore a b=true)∧ ∀ n∈Ap d t m,∃ x,atF d.files n=some x:=by
 unfold Ap
 refine⟨List.Pairwise.filter _ (List.pairwise_map.2 h),fun n hn=> ?_⟩
 obtain⟨h1,_⟩:=List.mem_filter.1 hn
 obtain⟨f,hf,rfl⟩:=List.mem_map.1 h1
 rcases ha:atF d.files f.name with _ | x
 ·have:=List.find?_eq_none.1 ha f hf
  simp at this
 ·exact⟨x,rfl⟩
theorem plan_good {d:Ab} (h:(Ay d).1.2=0):(Ay d).1.1.man.snapSeq≤(Ay d).1.1.last∧0<(Ay d).1.1.cut∧ ∃ t m,(Ay d).1.1.remove=Ap d t m:=by
 unfold Ay at h ⊢
 split at h
 ·rename_i h1
  exfalso
  simp only at h
  split at h
  ·cases h
  ·exact h1 h
 ·rename_i h1
  rw [γ h1]
  split at h
  ·rename_i h2
   rw [ζ h2]
   unfold Fs at h ⊢
   split at h
   ·cases h
   ·rename_i h3
    simp only [γ h3]
    exact⟨by decide,by decide,_,_,rfl⟩
  ·rename_i h2
   rw [γ h2]
   simp only at h ⊢
   unfold Hw at h ⊢
   split at h
   ·cases h
   ·rename_i h3
    rw [γ h3]
    split at h
    ·cases h
    ·rename_i h4
     rw [γ h4]
     split at h
     ·cases h
     ·rename_i h5
      rw [γ h5]
      have ha:(Au d (lastSg (loadM d).1.1)).1.2.2=true:=by
       rcases hx:(Au d (lastSg (loadM d).1.1)).1.2.2
       ·exact absurd (.inl hx) h5
       ·rfl
      have hp:=active_pos ha
      have h6: ¬ (lastSg (loadM d).1.1).first - 1+((Au d (lastSg (loadM d).1.1)).1.2.1:Int)<(loadM d).1.1.snapSeq:=fun h=>h5 (.inr h)
      simp only
      exact⟨by omega,by omega,_,_,rfl⟩
def planS (ss:List (List UInt8)):Pl:=⟨true,firstM,ss,22,0⟩
theorem stray_open {d:Ab} (hd:d.down=false) (hn: ∀ f∈d.files,rightName f.name=true) {t:Bool} {m:B3} {n:List UInt8} (h:n∈Ap d t m):Aj d n=0∧(Aq d (opSize n)).2.2.1=(sizeN d n:Int):=by
 unfold Ap at h
 obtain⟨h1,_⟩:=List.mem_filter.1 h
 obtain⟨f,hf,rfl⟩:=List.mem_map.1 h1
 rcases ha:atF d.files f.name with _ | x
 ·have:=List.find?_eq_none.1 ha f hf
  simp at this
 ·have ho:Aj d f.name=0:=by unfold Aj;rw [hd,hn f hf,ha];rfl
  refine⟨ho,?_⟩
  rw [sizeO ho ha,K4 ha]
theorem strays_len (d:Ab) (t:Bool) (m:B3):(Ap d t m).length≤d.files.length:=by
 unfold Ap
 refine μ (List.length_filter_le _ _) ?_
 simp
theorem sizesN_snoc (d:Ab) (a:List (List UInt8)) (n:List UInt8):sizesN d (a++[n])=sizesN d a+sizeN d n:=by simp [sizesN]
theorem strays_nodup {d:Ab} (h:Ff d.files) (t:Bool) (m:B3):(Ap d t m).Nodup:=(strays_sub d t m h).1.imp fun h=>Hc h
theorem sizesN_take (d:Ab): ∀ (ss:List (List UInt8)) (k:Nat),sizesN d (ss.take k)≤sizesN d ss
 | [],k=>by simp
 | x::r,0=>by simp [sizesN]
 | x::r,k+1=>by
  have:=sizesN_take d r k
  simp only [sizesN,List.take_succ_cons,List.map_cons,List.sum_cons] at this ⊢
  omega
def FreshP (w:World) (r:Pl×Int) (e:Ending) (w':World):Prop:=
 ∃ sv rv,e= .returned (.tuple #[plV r.1 sv rv,.int .i64 r.2])∧Dl (fun k=>w.heap.size≤k) w' sv r.1.man.segs∧StIn (fun k=>w.heap.size≤k) w' rv r.1.remove∧sv.oneCell'=true∧rv.oneCell'=true∧Below w.heap.size w w'
theorem Gt (A:Nat→Prop) (w:World):StIn A w (.slice none 0 0) []:=⟨none,0,rfl,ξ _,by decide,fun i g hg=>by simp at hg⟩
theorem freshG_any (w:World) (f m:Nat) (d:Ab) (L:List Ad) (h:FsAt w f m d L) (hdn:d.down=false) (hn:NibTab w):
  Calls Tryz.prog 86 #[.pointer (some ⟨f,0,none⟩)] w (FreshP w (Fs d)):=by
 have HH:=Qh h
 have HDN:=Qh hdn
 have HNB:=Qh hn
 have hrm:=h.ok.room
 have hus:=h.ok.used
 have HSN:=Qh (fun n (hm:n∈Ap d false firstM)=>stray_open hdn h.ok.names hm)
 have HSL:=Qh (strays_len d false firstM)
 have hcn:=h.ok.count
 have HLL:=Qh (show L.length=d.files.length by rw [←h.fil];simp [fils])
 have HSZ:=Qh (sizesN_le (ns:=Ap d false firstM) h.ok.rise (strays_nodup h.ok.rise false firstM))
 have HFD:=Qh (show Fs d=if d.room - (usedF d.files:Int)+(sizesN d (Ap d false firstM):Int)<51∨700<(d.files.length:Int) - ((Ap d false firstM).length:Int)+2 then (planZ,54) else (planS (Ap d false firstM),0) from rfl)
 have HSTR:=Qh (fun W (hb:Below w.heap.size w W) mn sv=>strays_not W f m d L (h.below hb) hdn mn sv)
 have HRF:=Qh (fun(W:World) (hb:Below w.heap.size w W)=>h.below hb)
 have HB0:=Qh (below_alloc w (.cells #[.bool false,.int .i64 0,.int .i64 0,.int .i64 0,.int .i64 0,.int .i64 0,.slice none 0 0,.slice none 0 0,.int .i64 0,.int .i64 0] 75))
 have HR0:=Qh (show A5 (w.alloc (.cells #[.bool false,.int .i64 0,.int .i64 0,.int .i64 0,.int .i64 0,.int .i64 0,.slice none 0 0,.slice none 0 0,.int .i64 0,.int .i64 0] 75)) w.heap.size planZ (.slice none 0 0) (.slice none 0 0) from E7 w planZ (.slice none 0 0) (.slice none 0 0))
 obtain⟨ss,hss⟩: ∃ ss,ss=Ap d false firstM:=⟨_,rfl⟩
 have hss1: ∀ mn,mn=firstM→Ap d false mn=ss:=fun mn e=>by rw [e,hss]
 have HSTR:=Qh (fun W hb sv=>by have:=HSTR.out W hb firstM sv;rw [hss1 firstM rfl] at this;exact this)
 rw [←hss] at HSN HSL HSZ HFD
 have HFD2:=Qh (show Fs d=if d.room - (usedF d.files:Int)+(sizesN d ss:Int)<51∨700<(d.files.length:Int) - (ss.length:Int)+2 then (planZ,54) else (planS ss,0) from HFD.out)
 clear h hdn hn hss hss1 HFD
 obtain⟨U,hU⟩: ∃ U,U=usedF d.files:=⟨_,rfl⟩
 rw [←hU] at hus HSZ HFD2
 have HUU:=Qh hU
 clear hU
 go_enter Tryz.func86,Tryz.ntmps86
 go_wp2_with fail
 refine(first_any _).mono ?_
 rintro e w1 ⟨sv,rfl,hsg,hone,hb1⟩
 have HB1:=Qh (Below.next HB0.out hb1)
 have HR1:=Qh (HR0.out.below hb1)
 have HSG:=Qh (hsg.mono (A':=fun k=>w.heap.size+1≤k) (fun k hk=>by simp at hk;omega))
 obtain⟨osg,scap,rfl,_,_,_⟩:=hsg
 have HMz:=Qh (A4 w1 zeroM (.slice none 0 0))
 simp only [mnCs,zeroM] at HMz
 clear hb1 HB0 HR0 hone
 go_wp2_with (with_reducible refine wpList_store_mn rfl (.tmp 4) (.tmp 13) rfl w1.heap.size ⟨0,0,0,0,0,[]⟩ firstM (.slice none 0 0) (.slice osg firstM.segs.length scap) rfl rfl HMz.out rfl ?_)
 intro w2 hw2
 have hba:=below_alloc w1 (.cells #[.int .i64 0,.int .i64 0,.int .i64 0,.int .i64 0,.int .i64 0,.slice none 0 0] 69)
 have HM2:=Qh (show Ah w2 w1.heap.size firstM (.slice osg firstM.segs.length scap) by rw [hw2.out];exact HMz.out.row)
 have HBW:=Qh (show Below w1.heap.size w1 w2 by rw [hw2.out];exact Az hba (ξ _) _)
 have HB2:=Qh (Below.next HB1.out HBW.out)
 have HR2:=Qh (HR1.out.below HBW.out)
 have HSG2:=Qh (HSG.out.below HBW.out)
 clear hw2 hba HMz HB1 HR1 HSG HBW
 generalize w1.heap.size=b4 at*
 have HHD:=Qh (header_any 1 1 w2 (HNB.out.below HB2.out))
 obtain⟨er,her⟩: ∃ y,y=E4 1 1:=⟨_,rfl⟩
 have HL:=Qh (show er.1.length=22 by rw [her];exact G1.1)
 rw [←her] at HHD
 clear her
 go_wp2_with fail
 refine HHD.out.mono ?_
 rintro e w3 ⟨v3,rfl,ho3,hb3⟩
 obtain⟨o3,cap3,rfl,_,_⟩:=Ac ho3
 rw [HL.out]
 have HM3:=Qh (HM2.out.below hb3)
 have HB3:=Qh (Below.next HB2.out hb3)
 have HR3:=Qh (HR2.out.below hb3)
 have HSG3:=Qh (HSG2.out.below hb3)
 have HNB3:=Qh (HNB.out.below HB3.out)
 clear ho3 hb3 HHD HM2 HB2 HR2 HSG2 HL
 go_upto_region 3 with fail
 go_cut [7] from 18 to 24 (fun p wx=> ∃ g rv,p= .pointer (some ⟨g,0,none⟩)∧Hid (A5 wx g (planS ss) (.slice osg firstM.segs.length scap) rv)∧Hid (wx.ownsRow w3.heap.size 9 1 rv ss.length (ss.map encStr))∧Hid (Below w3.heap.size w3 wx))
 case first=>
  refine ω (S:=fun w'=>Below w3.heap.size w3 w') (by kernel_rfl) (show Below w3.heap.size w3 w3.drew from below_drewN' w3 1) (fun hHeld=> ?_)
  refine tkl 0 b4 0 [.int .i64 1,.int .i64 2,.int .i64 0,.int .i64 0,.int .i64 0,.slice osg firstM.segs.length scap] rfl rfl (fun w' h j v hv=>by rw [Nat.zero_add,(HM3.out.below h).cell];simpa [mnCs,firstM] using hv) Tryz.underlying69 rfl (by rw [mnInfo];rfl) ?_
  simp only [pA,pB,pC,pD]
  refine tq 1 rfl ?_
  refine tq 2 rfl ?_
  refine tq 3 rfl ?_
  refine tkl 4 b4 0 [.int .i64 1,.int .i64 2,.int .i64 0,.int .i64 0,.int .i64 0,.slice osg firstM.segs.length scap] rfl rfl (fun w' h j v hv=>by rw [Nat.zero_add,(HM3.out.below h).cell];simpa [mnCs,firstM] using hv) Tryz.underlying69 rfl (by rw [mnInfo];rfl) ?_
  simp only [pA,pB,pC,pD]
  generalize World.drew _=Wd at*
  refine wpAnyH_ready (rs:=[5,7]) (by kernel_rfl) (by simp) ?_
  refine AllReadyH.cons rfl (fun K hK=> ?_) (AllReadyH.cons rfl (fun K hK=> ?_) AllReadyH.nil)
  ·go_simp
   go_at_call 90
   refine(HSTR.out Wd (Below.next HB3.out hHeld) _).mono ?_
   rintro e w4 ⟨v4,rfl,ho4,hb4⟩
   have HO4:=Qh (J6 ho4 hHeld.size)
   obtain⟨o4,cap4,rfl,_,_⟩:=Ac ho4
   have HB4:=Qh (Below.next hHeld hb4)
   clear ho4 hb4 hHeld
   go_wp2_with fail
   refine hK.out _ _ HB4.out (fun hHeld=> ?_)
   clear hK K
   refine tq 6 rfl ?_
   have HBA:=Qh (below_alloc w4 (.cells #[.bool false,.int .i64 0,.int .i64 0,.int .i64 0,.int .i64 0,.int .i64 0,.slice none 0 0,.slice none 0 0,.int .i64 0,.int .i64 0] 75))
   have HB5:=Qh (Below.next HB4.out HBA.out)
   have HGZ:=Qh (show A5 (w4.alloc (.cells #[.bool false,.int .i64 0,.int .i64 0,.int .i64 0,.int .i64 0,.int .i64 0,.slice none 0 0,.slice none 0 0,.int .i64 0,.int .i64 0] 75)) w4.heap.size planZ (.slice none 0 0) (.slice none 0 0) from E7 w4 planZ (.slice none 0 0) (.slice none 0 0))
   have hgx:w3.heap.size≤w4.heap.size:=HB4.out.size
   refine Rd 7 rfl fun K hK=> ?_
   go_simp
   refine hK.out _ _ HB5.out (fun hHeld=> ?_)
   clear hK K HB4 hHeld
   refine Rd 8 rfl fun K hK=> ?_
   rw [ζ (by kernel_rfl)]
   refine wp_store_row 75 (.tmp 7) (.tmp 24) rfl w4.heap.size (plCs (planS ss) (.slice osg firstM.segs.length scap) (.slice o4 ss.length cap4)) rfl rfl 75 (plCs planZ (.slice none 0 0) (.slice none 0 0)) HGZ.out plInfo rfl (plCs_all _ _ _ rfl rfl) ?_
   have HG6:=Qh (show A5 ((w4.alloc (.cells #[.bool false,.int .i64 0,.int .i64 0,.int .i64 0,.int .i64 0,.int .i64 0,.slice none 0 0,.slice none 0 0,.int .i64 0,.int .i64 0] 75)).setRow w4.heap.size (plCs (planS ss) (.slice osg firstM.segs.length scap) (.slice o4 ss.length cap4))) w4.heap.size (planS ss) (.slice osg firstM.segs.length scap) (.slice o4 ss.length cap4) from HGZ.out.row)
   have HBR:=Qh (show Below w4.heap.size w4 ((w4.alloc (.cells #[.bool false,.int .i64 0,.int .i64 0,.int .i64 0,.int .i64 0,.int .i64 0,.slice none 0 0,.slice none 0 0,.int .i64 0,.int .i64 0] 75)).setRow w4.heap.size (plCs (planS ss) (.slice osg firstM.segs.length scap) (.slice o4 ss.length cap4))) from Az HBA.out (ξ _) _)
   have HB6:=Qh (show Below w3.heap.size w3 ((w4.alloc (.cells #[.bool false,.int .i64 0,.int .i64 0,.int .i64 0,.int .i64 0,.int .i64 0,.slice none 0 0,.slice none 0 0,.int .i64 0,.int .i64 0] 75)).setRow w4.heap.size (plCs (planS ss) (.slice osg firstM.segs.length scap) (.slice o4 ss.length cap4))) from Az HB5.out hgx _)
   have HO6:=Qh (own_later HO4.out HBR.out)
   refine hK.out _ _ HB6.out (fun hHeld=> ?_)
   clear hK K hHeld HGZ HB5
   refine Λ (by kernel_rfl) ?_ _
   generalize (w4.alloc (.cells #[.bool false,.int .i64 0,.int .i64 0,.int .i64 0,.int .i64 0,.int .i64 0,.slice none 0 0,.slice none 0 0,.int .i64 0,.int .i64 0] 75)).setRow w4.heap.size (plCs (planS ss) (.slice osg firstM.segs.length scap) (.slice o4 ss.length cap4))=W6 at*
   go_wp2_with fail
   go_meet
   exact⟨_,_,rfl,HG6,HO6,HB6⟩
  ·have HBz:=Qh (Below.next hHeld (below_alloc Wd (.cells #[.bool false,.int .i64 0,.int .i64 0,.int .i64 0,.int .i64 0,.int .i64 0,.slice none 0 0,.slice none 0 0,.int .i64 0,.int .i64 0] 75)))
   have HGZ:=Qh (show A5 (Wd.alloc (.cells #[.bool false,.int .i64 0,.int .i64 0,.int .i64 0,.int .i64 0,.int .i64 0,.slice none 0 0,.slice none 0 0,.int .i64 0,.int .i64 0] 75)) Wd.heap.size planZ (.slice none 0 0) (.slice none 0 0) from E7 Wd planZ (.slice none 0 0) (.slice none 0 0))
   have hgx:w3.heap.size≤Wd.heap.size:=hHeld.size
   have hgz:Wd.heap.size<(Wd.alloc (.cells #[.bool false,.int .i64 0,.int .i64 0,.int .i64 0,.int .i64 0,.int .i64 0,.slice none 0 0,.slice none 0 0,.int .i64 0,.int .i64 0] 75)).heap.size:=HGZ.out.lt
   go_simp
   refine hK.out _ _ HBz.out (fun hHeld=> ?_)
   clear hK K
   generalize Wd.heap.size=gx at*
   generalize Wd.alloc (.cells #[.bool false,.int .i64 0,.int .i64 0,.int .i64 0,.int .i64 0,.int .i64 0,.slice none 0 0,.slice none 0 0,.int .i64 0,.int .i64 0] 75)=Wz at*
   refine Rd 5 rfl fun K hK=> ?_
   go_simp
   go_at_call 90
   refine(HSTR.out Wz (Below.next HB3.out hHeld) _).mono ?_
   rintro e W5 ⟨v4,rfl,ho4,hb5⟩
   have HO4:=Qh ho4
   obtain⟨o4,cap4,rfl,_,_⟩:=Ac ho4
   have HB5:=Qh (Below.next hHeld hb5)
   have HGZ:=Qh (HGZ.out.below hb5)
   have hsz:=hHeld.size
   clear ho4 hb5 hHeld HBz
   go_wp2_with fail
   refine hK.out _ _ HB5.out (fun hHeld=> ?_)
   clear hK K
   refine tq 6 rfl ?_
   refine Rd 8 rfl fun K hK=> ?_
   rw [ζ (by kernel_rfl)]
   refine wp_store_row 75 (.tmp 7) (.tmp 24) rfl gx (plCs (planS ss) (.slice osg firstM.segs.length scap) (.slice o4 ss.length cap4)) rfl rfl 75 (plCs planZ (.slice none 0 0) (.slice none 0 0)) HGZ.out plInfo rfl (plCs_all _ _ _ rfl rfl) ?_
   have HG6:=Qh (show A5 (W5.setRow gx (plCs (planS ss) (.slice osg firstM.segs.length scap) (.slice o4 ss.length cap4))) gx (planS ss) (.slice osg firstM.segs.length scap) (.slice o4 ss.length cap4) from HGZ.out.row)
   have HB6:=Qh (show Below w3.heap.size w3 (W5.setRow gx (plCs (planS ss) (.slice osg firstM.segs.length scap) (.slice o4 ss.length cap4))) from Az HB5.out hgx _)
   have HO6:=Qh (J6 (own_setRow HO4.out hgz (plCs (planS ss) (.slice osg firstM.segs.length scap) (.slice o4 ss.length cap4))) hsz)
   refine hK.out _ _ HB6.out (fun hHeld=> ?_)
   clear hK K hHeld HGZ HB5
   generalize W5.setRow gx (plCs (planS ss) (.slice osg firstM.segs.length scap) (.slice o4 ss.length cap4))=W6 at*
   refine Λ (by kernel_rfl) ?_ _
   go_wp2_with fail
   go_meet
   exact⟨_,_,rfl,HG6,HO6,HB6⟩
 case rest=>
  obtain⟨gx,rv,rfl,HG6,HO6,HB6⟩:=hcut
  obtain⟨orv,rcap,rfl,_,_⟩:=Ac HO6.out
  have HBW:=Qh (Below.next HB3.out HB6.out)
  have HFR:=Qh (free_any wc f m d L (HRF.out wc HBW.out))
  rw [←HUU.out] at HFR
  go_wp2_with fail
  refine HFR.out.mono ?_
  rintro e w7 ⟨rfl,hb7⟩
  have HB7:=Qh (Below.next HB6.out hb7)
  have HG7:=Qh (HG6.out.below hb7)
  have HO7:=Qh (own_later HO6.out hb7)
  have r7:=HG7.out.c7
  clear hb7 HFR HG6 HO6 HB6 HBW
  go_wp2
  go_loopw [8,30] (fun rmv iv wr=> ∃ k:Nat,k≤ss.length∧iv= .int .i64 (k:Int)∧rmv= .int .i64 (d.room - (U:Int)+(sizesN d (ss.take k):Int))∧Hid (Below w7.heap.size w7 wr)) (fun _ iv _=>ss.length - (intOf iv).toNat)
  case atStart=>exact⟨0,θ _,rfl,by simp [sizesN],Qh (τ _ _)⟩
  case round=>
   obtain⟨k,hk,rfl,rfl,HB⟩:=hrel
   by_cases hlt:k<ss.length
   ·obtain⟨x,hx,htk,hm⟩:=Kc ss k hlt
    have q1:(k:Int)<(ss.length:Int):=by omega
    obtain⟨g7,cap7,e7,_,_,_,_,hcl⟩:=B8 HO7.out (by omega)
    simp only [Value.slice.injEq,true_and] at e7
    obtain⟨rfl,rfl⟩:=e7
    have k1:wr.cell? ⟨g7,k,none⟩=some (.string ⟨x.toArray⟩):=cell_later HB.out (hcl k _ (by rw [List.getElem?_map,hx];rfl))
    have HSI:=Qh (J9 wr f m d L (HRF.out wr (Below.next HB3.out (Below.next HB7.out HB.out))) x)
    rw [(HSN.out x hm).2] at HSI
    generalize (Aq d (opSize x)).2.2.2=ex at*
    have HTK:=Qh (show sizesN d (ss.take (k+1))=sizesN d (ss.take k)+sizeN d x by rw [htk,sizesN_snoc])
    have hle:sizesN d (ss.take (k+1))≤U:=μ (sizesN_take d ss (k+1)) HSZ.out
    rw [HTK.out] at hle
    obtain⟨a,ha⟩: ∃ a,a=sizesN d (ss.take k):=⟨_,rfl⟩
    obtain⟨n,hn⟩: ∃ n,n=sizeN d x:=⟨_,rfl⟩
    rw [←ha,←hn] at hle HTK
    rw [←hn] at HSI
    rw [←ha]
    have hw1:IntKind.i64.wrap (d.room - (U:Int)+(a:Int)+(n:Int))=d.room - (U:Int)+((a+n:Nat):Int):=by rw [κ];omega
    have hk1:IntKind.i64.wrap ((k:Int)+1)=(k:Int)+1:=by have:=HSL.out;rw [κ];omega
    clear hx htk hm hcl ha hn hle
    go_wp2_with fail
    refine HSI.out.mono ?_
    rintro e w8 ⟨rfl,rfl⟩
    go_wp2
    go_roundw
    case rel=>exact⟨k+1,by omega,by go_num,by rw [HTK.out];congr 1,HB⟩
    case measure=>simp [intOf];omega
   ·obtain rfl:k=ss.length:=by omega
    rw [List.take_length]
    have HBC:=Qh (Below.next HB7.out HB.out)
    have HG8:=Qh (HG7.out.below HB.out)
    have HR8:=Qh (HR3.out.below HBC.out)
    have HM8:=Qh (HM3.out.below HBC.out)
    have HS8:=Qh (HSG3.out.below HBC.out)
    have HO8:=Qh (stIn_own (A:=fun k=>w3.heap.size≤k) (l:=ss) (own_later HO7.out HB.out) (fun _ h=>h))
    obtain⟨R,hR⟩: ∃ R,R=d.room - (U:Int)+(sizesN d ss:Int):=⟨_,rfl⟩
    rw [←hR] at HFD2
    rw [←hR]
    clear hR
    generalize ss.length=ns at*
    have hw51:IntKind.i64.wrap 51=51:=by decide
    go_wp2_with fail
    refine ω (S:=fun w'=>Below wr.heap.size wr w') (by kernel_rfl) (show Below wr.heap.size wr wr.drew from below_drewN' wr 1) (fun hHeld=> ?_)
    refine tq 0 rfl ?_
    refine tq 1 rfl ?_
    refine tq 2 rfl ?_
    refine tkl 3 b4 0 [.int .i64 1,.int .i64 2,.int .i64 0,.int .i64 0,.int .i64 0,.slice osg firstM.segs.length scap] rfl rfl (fun w' h j v hv=>by rw [Nat.zero_add,(HM8.out.below h).cell];simpa [mnCs,firstM] using hv) Tryz.underlying69 rfl (by rw [mnInfo];rfl) ?_
    simp only [pA,pB,pC,pD]
    generalize World.drew _=We at*
    refine Rd 4 rfl fun K hK=> ?_
    go_simp
    go_at_call 81
    refine(manSize_any firstM (.slice osg firstM.segs.length scap) We (HS8.out.row.below hHeld) ((HNB3.out.below HBC.out).below hHeld)).mono ?_
    rw [G1.2]
    rintro e w9 ⟨rfl,hb9⟩
    have HB9:=Qh (Below.next hHeld hb9)
    clear hb9 hHeld
    go_wp2_with fail
    refine hK.out _ _ HB9.out (fun hHeld=> ?_)
    clear hK K
    rcases hr:decide (R<51) with _ | _
    ·have HR1:=Qh (show 51≤R by simpa using hr)
     refine tq 5 rfl ?_
     refine tq 6 rfl ?_
     refine tq 7 rfl ?_
     have FX1:=Qh (fun(wF:World) (hSw:(fun w'=>Below wr.heap.size wr w') wF)=>((HG8.out.below hSw).c7))
     refine tf FX1 8 rfl ?_
     refine tf FX1 11 rfl ?_
     refine tf FX1 12 rfl ?_
     refine tf FX1 13 rfl ?_
     clear FX1
     refine Rd 9 rfl fun K hK=> ?_
     go_simp
     go_at_call 82
     refine(list_any w9 f m d L (HRF.out w9 (Below.next HB3.out (Below.next HBC.out HB9.out))) HDN.out).mono ?_
     rintro e w10 ⟨vl,rfl,hol,hb10⟩
     obtain⟨ol,lcap,rfl,_,_⟩:=Ac hol
     rw [HLL.out]
     have HB10:=Qh (Below.next HB9.out hb10)
     have hnl:=HSL.out
     obtain⟨nf,hnf⟩: ∃ nf,nf=d.files.length:=⟨_,rfl⟩
     rw [←hnf] at hcn HFD2 hnl
     rw [←hnf]
     have hw1:IntKind.i64.wrap ((nf:Int) - (ns:Int))=(nf:Int) - (ns:Int):=by rw [κ];omega
     have hw2:IntKind.i64.wrap ((nf:Int) - (ns:Int)+2)=(nf:Int) - (ns:Int)+2:=by rw [κ];omega
     clear hol hb10 hHeld hnf hnl
     go_wp2_with fail
     refine hK.out _ _ HB10.out (fun hHeld=> ?_)
     clear hK K
     have HG9:=Qh (HG8.out.below HB10.out)
     have HR9:=Qh (HR8.out.below HB10.out)
     have HBE:=Qh (Below.next HB3.out (Below.next HBC.out HB10.out))
     have HS9:=Qh (HS8.out.below HB10.out)
     have HO9:=Qh (HO8.out.below HB10.out)
     rcases h7:decide (700<(nf:Int) - (ns:Int)+2) with _ | _
     ·have HFE:=Qh (show Fs d=(planS ss,0) by rw [HFD2.out,γ];rintro(h | h);exact absurd HR1.out (by omega);have:=ε h7;exact this h)
      refine tq 10 rfl ?_
      refine tq 14 rfl ?_
      refine tq 15 rfl ?_
      refine tq 16 rfl ?_
      refine tq 17 rfl ?_
      refine Λ (by kernel_rfl) ?_ _
      clear hHeld
      go_wp2_with (first | (with_reducible refine wpList_load_pl rfl (.tmp 7) rfl gx (planS ss) (.slice osg firstM.segs.length scap) (.slice orv ns rcap) rfl HG9.out ?_) | (with_reducible refine wpList_store_pl rfl (.tmp 2) (.tmp 63) rfl w.heap.size planZ (planS ss) (.slice none 0 0) (.slice none 0 0) (.slice osg firstM.segs.length scap) (.slice orv ns rcap) rfl rfl HR9.out rfl rfl ?_))
      intro w11 hw11
      have HT:=Qh (show Turned (fun k=>k=w.heap.size) w10 w11 by rw [hw11.out];exact Ak _ _ _)
      have HP:=Qh (show A5 w11 w.heap.size (planS ss) (.slice osg firstM.segs.length scap) (.slice orv ns rcap) by rw [hw11.out];exact HR9.out.row)
      have HB11:=Qh (show Below w.heap.size w w11 by rw [hw11.out];exact Az HBE.out (ξ _) _)
      have hsz3:=HB3.out.size
      have hwl:w.heap.size<w3.heap.size:=HR3.out.lt
      clear hw11
      go_wp2
      refine π (v:= .tuple #[plV (planS ss) (.slice osg firstM.segs.length scap) (.slice orv ns rcap),.int .i64 0]) (Bh rfl _ _ w.heap.size (planS ss) _ _ _ rfl rfl HP.out) rfl ?_
      rw [HFE.out]
      exact⟨_,_,rfl,(HS9.out.turned HT.out (fun k hk=>by omega)).mono (fun k hk=>by omega),(HO9.out.turned HT.out (fun k hk=>by omega)).mono (fun k hk=>by omega),rfl,rfl,HB11.out⟩
     ·have HFE:=Qh (show Fs d=(planZ,54) by rw [HFD2.out,ζ];exact .inr (χ h7))
      refine tq 10 rfl ?_
      refine tq 14 rfl ?_
      refine tq 15 rfl ?_
      refine tq 16 rfl ?_
      refine tq 17 rfl ?_
      refine Λ (by kernel_rfl) ?_ _
      clear hHeld
      go_wp2_with (with_reducible refine wpList_store_pl rfl (.tmp 2) (.tmp 62) rfl w.heap.size planZ planZ (.slice none 0 0) (.slice none 0 0) (.slice none 0 0) (.slice none 0 0) rfl rfl HR9.out rfl rfl ?_)
      intro w11 hw11
      have HP:=Qh (show A5 w11 w.heap.size planZ (.slice none 0 0) (.slice none 0 0) by rw [hw11.out];exact HR9.out.row)
      have HB11:=Qh (show Below w.heap.size w w11 by rw [hw11.out];exact Az HBE.out (ξ _) _)
      clear hw11
      go_wp2
      refine π (v:= .tuple #[plV planZ (.slice none 0 0) (.slice none 0 0),.int .i64 54]) (Bh rfl _ _ w.heap.size planZ _ _ _ rfl rfl HP.out) rfl ?_
      rw [HFE.out]
      exact⟨_,_,rfl,B9 _ _,Gt _ _,rfl,rfl,HB11.out⟩
    ·have HFE:=Qh (show Fs d=(planZ,54) by rw [HFD2.out,ζ];exact .inl (χ hr))
     refine tq 5 rfl ?_
     refine tq 6 rfl ?_
     refine tq 7 rfl ?_
     refine tkn 8 rfl ?_
     simp only [pA,pB,pC,pD]
     refine tkn 9 rfl ?_
     simp only [pA,pB,pC,pD]
     refine tkn 10 rfl ?_
     simp only [pA,pB,pC,pD]
     refine tkn 11 rfl ?_
     simp only [pA,pB,pC,pD]
     refine tkn 12 rfl ?_
     simp only [pA,pB,pC,pD]
     refine tkn 13 rfl ?_
     simp only [pA,pB,pC,pD]
     refine tkn 14 rfl ?_
     simp only [pA,pB,pC,pD]
     refine tkn 15 rfl ?_
     simp only [pA,pB,pC,pD]
     refine tkn 16 rfl ?_
     simp only [pA,pB,pC,pD]
     refine tq 17 rfl ?_
     refine Λ (by kernel_rfl) ?_ _
     have HRE:=Qh (HR8.out.below HB9.out)
     have HBE:=Qh (Below.next HB3.out (Below.next HBC.out HB9.out))
     clear hHeld
     go_wp2_with (with_reducible refine wpList_store_pl rfl (.tmp 2) (.tmp 62) rfl w.heap.size planZ planZ (.slice none 0 0) (.slice none 0 0) (.slice none 0 0) (.slice none 0 0) rfl rfl HRE.out rfl rfl ?_)
     intro w11 hw11
     have HP:=Qh (show A5 w11 w.heap.size planZ (.slice none 0 0) (.slice none 0 0) by rw [hw11.out];exact HRE.out.row)
     have HB11:=Qh (show Below w.heap.size w w11 by rw [hw11.out];exact Az HBE.out (ξ _) _)
     clear hw11
     go_wp2
     refine π (v:= .tuple #[plV planZ (.slice none 0 0) (.slice none 0 0),.int .i64 54]) (Bh rfl _ _ w.heap.size planZ _ _ _ rfl rfl HP.out) rfl ?_
     rw [HFE.out]
     exact⟨_,_,rfl,B9 _ _,Gt _ _,rfl,rfl,HB11.out⟩
def datF (fs:List A7) (n:List UInt8):Option (List UInt8):=(atF fs n).map (·.data)
theorem Dg {fs:List A7} {n b:List UInt8} (h:datF fs n=some b): ∃ x,atF fs n=some x∧x.data=b:=by
 unfold datF at h
 rcases ha:atF fs n with _ | x
 ·rw [ha] at h;cases h
 ·rw [ha] at h;exact⟨x,rfl,by simpa using h⟩
theorem Gm {fs:List A7} {n:List UInt8} {x:A7} (h:atF fs n=some x):datF fs n=some x.data:=by unfold datF;rw [h];rfl
theorem datF_none {fs:List A7} {n:List UInt8} (h:atF fs n=none):datF fs n=none:=by unfold datF;rw [h];rfl
def stand (room:Int) (fs:List A7):Ab:=⟨fs,room,0,false,0,0⟩
theorem Kn {d:Ab} (hok:At d) (hd:d.down=false) (n:List UInt8):G0 d n=atF d.files n:=by
 unfold G0 Aj
 rw [hd]
 rcases ha:atF d.files n with _ | x
 ·simp
 ·have:=hok.names x (Bi ha).2
  rw [(Bi ha).1] at this
  simp [this]
def snapB (o:Option (List UInt8)) (m:B3):Bool:=
 if 0<m.snap then match o with
  | none=>false
  | some b=>match decBook b with
   | none=>false
   | some r=>decide ((r.1:Int)=m.snap)&&decide ((r.2.1:Int)=m.snapSeq)
 else true
theorem bookV_off {d:Ab} {n:Int} (h:G0 d (bookName n)=none):bookV d n=((Aj d (bookName n),0,[]),0):=by unfold bookV;rw [h]
theorem bookV_bad {d:Ab} {n:Int} {x:A7} (h:G0 d (bookName n)=some x) (h2:decBook x.data=none):bookV d n=((81,0,[]),x.data.length):=by unfold bookV;rw [h];dsimp only;rw [h2]
theorem bookV_in {d:Ab} {n:Int} {x:A7} {r:Nat×Nat×List St} (h:G0 d (bookName n)=some x) (h2:decBook x.data=some r):bookV d n=if (r.1:Int)≠n then ((81,0,[]),x.data.length) else ((0,r.2.1,r.2.2),x.data.length):=by unfold bookV;rw [h];dsimp only;rw [h2]
theorem snapV_on {d:Ab} (hok:At d) (hd:d.down=false) (m:B3):(F0 d m).1=snapB (datF d.files (bookName m.snap)) m:=by
 unfold F0 snapB
 split
 ·rcases ha:atF d.files (bookName m.snap) with _ | x
  ·rw [datF_none ha]
   have:Aj d (bookName m.snap)≠0:=fun e=>by
    obtain⟨_,_,y,hy⟩:=G4 e
    rw [ha] at hy;cases hy
   rw [bookV_off (by rw [Kn hok hd];exact ha)]
   simp [this]
  ·rw [Gm ha]
   have hf:G0 d (bookName m.snap)=some x:=by rw [Kn hok hd];exact ha
   dsimp only
   rcases hb:decBook x.data with _ | r
   ·rw [bookV_bad hf hb]
    simp
   ·rw [bookV_in hf hb]
    by_cases hr:(r.1:Int)=m.snap
    ·simp [hr]
    ·simp [hr]
 ·rfl
def sealB (o:Option (List UInt8)) (g:Sg):Bool:=
 match o with
 | none=>false
 | some b=>if (b.length:Int)≤g.foot then false
  else if (Ci (b.take (min b.length 64)) g).2=false then false
  else match Ba (b.drop g.foot.toNat) g with
   | none=>false
   | some r=>match r.1 with
    | []=>false
    | k::_=>k.p==((Ci (b.take (min b.length 64)) g).1:Int)
theorem sealedV_on {d:Ab} (hok:At d) (hd:d.down=false) (g:Sg):(sealedV d g).1=sealB (datF d.files (Aa g.num)) g:=by
 unfold sealedV
 rw [Kn hok hd]
 rcases ha:atF d.files (Aa g.num) with _ | x
 ·rw [datF_none ha];rfl
 ·rw [Gm ha]
  unfold sealB sealIn
  dsimp only
  split
  ·rfl
  ·split
   ·rfl
   ·rfl
def sealsB (fs:List A7) (l:List Sg):Bool:=l.all fun g=>sealB (datF fs (Aa g.num)) g
theorem sealsV_on {d:Ab} (hok:At d) (hd:d.down=false): ∀ l:List Sg,(Es d l).1=sealsB d.files l
 | []=>rfl
 | g::r=>by
  rw [Es]
  have ih:=sealsV_on hok hd r
  have h1:=sealedV_on hok hd g
  unfold sealsB at ih ⊢
  rw [List.all_cons,←ih,←h1]
  rcases (sealedV d g).1<;>simp
def actB (o:Option (List UInt8)) (g:Sg):Nat×Nat×Bool:=
 match o with
 | none=>(0,0,false)
 | some b=>if (Ci b g).2=false then (0,0,false) else ((scanRun b (Ci b g).1 (A6 b).2.1 512).2,(scanRun b (Ci b g).1 (A6 b).2.1 512).1.length,true)
theorem activeV_on {d:Ab} (hok:At d) (hd:d.down=false) (g:Sg):(Au d g).1=actB (datF d.files (Aa g.num)) g:=by
 unfold Au
 rw [Kn hok hd]
 rcases ha:atF d.files (Aa g.num) with _ | x
 ·rw [datF_none ha];rfl
 ·rw [Gm ha]
  unfold actB
  dsimp only
  split<;>rfl
def manB (fs:List A7) (m:B3):Pl×Int:=
 if snapB (datF fs (bookName m.snap)) m=false∨sealsB fs m.segs.dropLast=false then (planZ,4)
 else if (actB (datF fs (segN m)) (lastSg m)).2.2=false∨(lastSg m).first - 1+((actB (datF fs (segN m)) (lastSg m)).2.1:Int)<m.snapSeq then (planZ,4)
 else (⟨false,m,(fs.map (·.name)).filter (strayN true m),((actB (datF fs (segN m)) (lastSg m)).1:Int),(lastSg m).first - 1+((actB (datF fs (segN m)) (lastSg m)).2.1:Int)⟩,0)
theorem planM_on {d:Ab} (hok:At d) (hd:d.down=false) (m:B3):(Hw d m).1=manB d.files m:=by
 unfold Hw manB
 rw [snapV_on hok hd,sealsV_on hok hd,activeV_on hok hd]
 rw [show Aa (lastSg m).num=segN m from rfl]
 rcases snapB (datF d.files (bookName m.snap)) m
 ·simp
 ·rcases sealsB d.files m.segs.dropLast
  ·simp
  ·simp only [Bool.true_eq_false,or_self,if_false,Ap]
   split<;>rfl
def alien (l:List UInt8):Bool:= !(strayN false zeroM l)
theorem strayN_false (m m':B3) (l:List UInt8):strayN false m l=strayN false m' l:=by
 unfold strayN
 simp
def Ew (fs:List A7):List A7:=fs.filter fun f=>alien f.name
def newB (room:Int) (fs:List A7):Pl×Int:=
 if room - (usedF (Ew fs):Int)<51∨698<(Ew fs).length then (planZ,54) else (⟨true,firstM,(fs.map (·.name)).filter (strayN false firstM),22,0⟩,0)
theorem strays_alien (fs:List A7) (m:B3):((fs.map (·.name)).filter (strayN false m)).length+(Ew fs).length=fs.length:=by
 induction fs with
 | nil=>rfl
 | cons f r ih=>
  unfold Ew at ih ⊢
  rw [List.map_cons,List.filter_cons,List.filter_cons]
  unfold alien at ih ⊢
  simp only [strayN_false zeroM m] at ih ⊢
  rcases strayN false m f.name<;>simp at ih ⊢ <;>omega
theorem strays_used: ∀ (fs:List A7) (m:B3),Ff fs→(((fs.map (·.name)).filter (strayN false m)).map fun n=>match atF fs n with | none=>0 | some f=>f.data.length).sum+usedF (Ew fs)=usedF fs
 | [],_,_=>rfl
 | f::r,m,h=>by
  obtain⟨h1,h2⟩:=List.pairwise_cons.1 h
  have ih:=strays_used r m h2
  have e:(((r.map (·.name)).filter (strayN false m)).map fun n=>match atF (f::r) n with | none=>0 | some f=>f.data.length)=((r.map (·.name)).filter (strayN false m)).map fun n=>match atF r n with | none=>0 | some f=>f.data.length:=
   List.map_congr_left fun k hk=>by
    obtain⟨hk,_⟩:=List.mem_filter.1 hk
    obtain⟨y,hy,rfl⟩:=List.mem_map.1 hk
    have:=Hc (h1 y hy)
    unfold atF
    rw [List.find?_cons,show (f.name==y.name)=false by simpa using this]
  have e0:atF (f::r) f.name=some f:=by unfold atF;rw [List.find?_cons];simp
  rw [List.map_cons,List.filter_cons]
  unfold Ew at ih ⊢
  rw [List.filter_cons]
  unfold alien at ih ⊢
  simp only [strayN_false zeroM m] at ih ⊢
  rcases hs:strayN false m f.name
  ·simp only [Bool.not_false,if_true,Bool.false_eq_true,if_false] at ih ⊢
   rw [e]
   simp only [usedF,List.map_cons,List.sum_cons] at ih ⊢
   omega
  ·simp only [Bool.not_true,if_true,Bool.false_eq_true,if_false] at ih ⊢
   rw [List.map_cons,List.sum_cons,e,e0]
   simp only [usedF,List.map_cons,List.sum_cons] at ih ⊢
   omega
theorem freshD_on {d:Ab} (hok:At d):Fs d=newB d.room d.files:=by
 unfold Fs newB
 have h1:=strays_alien d.files firstM
 have h2:sizesN d (Ap d false firstM)+usedF (Ew d.files)=usedF d.files:=strays_used d.files firstM hok.rise
 have h3:(Ap d false firstM).length+(Ew d.files).length=d.files.length:=h1
 by_cases hc:d.room - (usedF (Ew d.files):Int)<51∨698<(Ew d.files).length
 ·rw [ζ hc,ζ (by omega)]
 ·rw [γ hc,γ (by omega)]
  rfl
def findB (room:Int) (fs:List A7):Pl×Int:=
 match datF fs Am with
 | none=>newB room fs
 | some b=>if (Bk b).2≠0 then (planZ,4) else manB fs (Bk b).1
theorem decMan_err (b:List UInt8):(Bk b).2=0∨(Bk b).2=80:=by
 unfold Bk
 repeat' split
 all_goals simp
theorem planD_on {d:Ab} (hok:At d) (hd:d.down=false):(Ay d).1=findB d.room d.files:=by
 unfold Ay findB loadM
 rw [Kn hok hd]
 have hr:rightName Am=true:=by decide
 rcases ha:atF d.files Am with _ | x
 ·rw [datF_none ha]
  have:Aj d Am=51:=by unfold Aj;rw [hd,hr,ha];rfl
  simp only [this,if_true]
  simp [freshD_on hok]
 ·rw [Gm ha]
  dsimp only
  rcases decMan_err x.data with h0 | h0
  ·simp only [h0,ne_eq,not_true_eq_false,if_false]
   simp [planM_on hok hd]
  ·simp [h0]
theorem I7 {b:List UInt8} {k i:Nat} (h:i<k):byteAt (b.take k) i=byteAt b i:=by
 unfold byteAt
 rw [List.getD_eq_getElem?_getD,List.getD_eq_getElem?_getD,List.getElem?_take_of_lt h]
theorem decF_take {b:List UInt8} {k:Nat} (h:(decF b).2.2=0) (hk:(decF b).2.1≤k):decF (b.take k)=decF b:=by
 have hf:=Ii h
 have hp:B4 (b.take k)=B4 b:=by
  unfold B4
  rw [I7 (by omega),I7 (by omega),I7 (by omega),I7 (by omega),List.take_take,Nat.min_eq_left (by omega),
   List.drop_take,List.take_take,Nat.min_eq_left (by omega),Θ]
  by_cases hb:b.length<16
  ·rw [ζ hb,ζ (by omega)]
  ·rw [γ hb,γ (by omega)]
 have hs:(decF b).2.1=(B4 b).2.2.1:=by
  unfold decF at h ⊢
  split at h
  ·rename_i h1;exact absurd h h1
  ·rename_i h1
   rw [γ h1]
   split at h
   ·exact absurd h (by decide)
   ·rename_i h2
    rw [γ h2]
    split at h
    ·exact absurd h (by decide)
    ·rename_i h3
     rw [γ h3]
 rw [hs] at hk hf
 unfold decF
 rw [hp,List.take_take,Nat.min_eq_left hk,Θ]
 by_cases hb:b.length<(B4 b).2.2.1
 ·omega
 ·rw [γ hb,γ (by omega: ¬ min k b.length<(B4 b).2.2.1)]
theorem hdrOf_take {b:List UInt8} {k:Nat} (h:(A6 b).2.2.2=0) (hk:(A6 b).2.2.1≤k):A6 (b.take k)=A6 b:=by
 have h0:(decF b).2.2=0:=by
  unfold A6 at h
  split at h
  ·exact absurd h (by decide)
  ·rename_i hc
   rcases Decidable.em ((decF b).2.2=0) with h | h
   ·exact h
   ·exact absurd (.inl h) hc
 have hs:(A6 b).2.2.1=(decF b).2.1:=by
  unfold A6 at h ⊢
  split at h
  ·exact absurd h (by decide)
  ·rename_i hc
   rw [γ hc]
   split at h
   ·exact absurd h (by decide)
   ·unfold hdrIn at h ⊢
    split at h
    ·split at h
     ·exact absurd h (by decide)
     ·rename_i h3
      rw [γ h3]
    ·exact absurd h (by decide)
 have e:=decF_take (k:=k) h0 (by omega)
 unfold A6
 rw [e]
theorem begV_take {b:List UInt8} {g:Sg} {k:Nat} (h:(Ci b g).2=true) (hk:(Ci b g).1≤k):Ci (b.take k) g=Ci b g:=by
 have h0:(A6 b).2.2.2=0:=by
  unfold Ci at h
  simp only [Bool.and_eq_true,decide_eq_true_eq] at h
  exact h.1.1
 have e:=hdrOf_take h0 hk
 unfold Ci
 rw [e]
def Cg (fs:List A7) (o:Io):List A7:=(Ga (stand 0 fs) o).files
theorem Ki (x:Ab) (o:Io):Ga x o={x with files:=Cg x.files o}:=by
 unfold Cg Ga stand
 split
 ·rfl
 ·dsimp only
  rcases atF x.files o.name with _ | f
  ·rfl
  ·dsimp only
   split
   ·rfl
   ·split<;>rfl
structure Went (P Q:List A7→Prop) (d:Ab) (r:Ab×Int):Prop where
 room:r.1.room=d.room
 ok:At r.1
 out:(r.2=0∧Q r.1.files∧r.1.down=false∧(d.fuse=0→r.1.fuse=0))∨(r.2=3∧d.fuse≠0∧r.1.down=true∧P r.1.files)
theorem went_nil {P Q:List A7→Prop} {d:Ab} (hok:At d) (hd:d.down=false) (hq:Q d.files):Went P Q d (Aw d []):=⟨rfl,hok,.inl ⟨rfl,hq,hd,fun h=>h⟩⟩
theorem Ea {P Q:List A7→Prop} {d:Ab} {o:Io} {ops:List Io} (hok:At d) (hk:0≤o.k∧o.k≤5) (hn:o.n≤9223372036854775807) (hb:Dw d o=0)
  (h1:P (if o.k=1 then Cg d.files o else d.files))
  (hr: ∀ d':Ab,d'.files=Cg d.files o→d'.room=d.room→d'.down=false→At d'→(d.fuse=0→d'.fuse=0)→Went P Q d' (Aw d' ops)):Went P Q d (Aw d (o::ops)):=by
 have hdn:=(bar_front hb).1
 have hdo:=doD_ok hok (o:=o) (by omega) hn
 by_cases hf:d.fuse=1
 ·have e:Aq d o=(if o.k=1 then Ga (Ae d) o else Ae d,[],0,3):=by rw [Fw hk hb,ζ hf,ζ hf]
  rw [e] at hdo
  rw [Be (by rw [e];simp),e]
  have hst:(Ae d).down=true:=by unfold Ae;rw [ζ hf]
  refine⟨?_,hdo,.inr ⟨rfl,by omega,?_,?_⟩⟩
  ·dsimp only
   split
   ·rw [Ki];exact I1 d
   ·exact I1 d
  ·dsimp only
   split
   ·rw [Ki];exact hst
   ·exact hst
  ·by_cases h:o.k=1
   ·rw [ζ h] at h1
    simp only [ζ h]
    rw [Ki,Av]
    exact h1
   ·rw [γ h] at h1
    simp only [γ h]
    rw [Av]
    exact h1
 ·have e:Aq d o=(Ga (Ae d) o,[],0,0):=by rw [Fw hk hb,γ hf,γ hf]
  rw [e] at hdo
  rw [Ce (by rw [e]),e]
  have hfu:d.fuse=0→(Ga (Ae d) o).fuse=0:=fun h=>by
   rw [Ki]
   show (Ae d).fuse=0
   unfold Ae
   rw [γ hf]
   show (if 1<d.fuse then d.fuse - 1 else d.fuse)=0
   rw [γ (by omega)]
   exact h
  have hrm:(Ga (Ae d) o).room=d.room:=by rw [Ki];exact I1 d
  have:=hr (Ga (Ae d) o) (by rw [Ki,Av]) hrm (by
   rw [Ki]
   show (Ae d).down=false
   unfold Ae
   rw [γ hf]
   exact hdn) hdo hfu
  refine⟨this.room.trans hrm,this.ok,?_⟩
  rcases this.out with⟨a,b,c,e⟩ | ⟨a,b,c,e⟩
  ·exact .inl ⟨a,b,c,fun h=>e (hfu h)⟩
  ·exact .inr ⟨a,fun h=>b (hfu h),c,e⟩
theorem Ek {d:Ab} (hok:At d) (hd:d.down=false) {n:List UInt8} {x:A7} (ha:atF d.files n=some x):Aj d n=0:=by
 have:=hok.names x (Bi ha).2
 rw [(Bi ha).1] at this
 unfold Aj
 rw [hd,this,ha]
 rfl
theorem openE_off {d:Ab} (hd:d.down=false) {n:List UInt8} (hr:rightName n=true) (ha:atF d.files n=none):Aj d n=51:=by
 unfold Aj
 rw [hd,hr,ha]
 rfl
theorem Co {f:A7}: ∀ {fs:List A7},(∀ x∈fs,x.name≠f.name)→atF (Bu f fs) f.name=some f
 | [],_=>by simp [Bu,atF]
 | y::r,h=>by
  have hy:=h y (by simp)
  have ih:=Co (f:=f) (fs:=r) fun x hx=>h x (by simp [hx])
  unfold atF at ih ⊢
  unfold Bu
  split
  ·rw [List.find?_cons];simp
  ·rw [List.find?_cons,show (y.name==f.name)=false by simpa using hy]
   exact ih
theorem Fg {f:A7} {n:List UInt8} (hn:f.name≠n): ∀ {fs:List A7},atF (Bu f fs) n=atF fs n
 | []=>by simp [Bu,atF,hn]
 | y::r=>by
  have ih:=Fg hn (fs:=r)
  unfold atF at ih ⊢
  unfold Bu
  split
  ·rw [List.find?_cons,show (f.name==n)=false by simpa using hn]
  ·rw [List.find?_cons,List.find?_cons,ih]
theorem take_put {f:A7} {fs:List A7} (h: ∀ x∈fs,x.name≠f.name):takeF f.name (Bu f fs)=fs:=by
 induction fs with
 | nil=>simp [Bu,takeF]
 | cons y r ih=>
  have hy:=h y (by simp)
  have ih:=ih fun x hx=>h x (by simp [hx])
  have hr:takeF f.name (y::r)=y::r:=by
   unfold takeF
   rw [List.filter_eq_self]
   intro x hx
   simpa using h x hx
  unfold Bu
  split
  ·unfold takeF at hr ⊢
   rw [List.filter_cons]
   simp only [beq_self_eq_true,Bool.not_true,Bool.false_eq_true,if_false]
   exact hr
  ·unfold takeF at ih ⊢
   rw [List.filter_cons,show (y.name==f.name)=false by simpa using hy]
   simp [ih]
theorem none_of {fs:List A7} {n:List UInt8} (h: ∀ x∈fs,x.name≠n):atF fs n=none:=by
 unfold atF
 rw [List.find?_eq_none]
 intro x hx
 simpa using h x hx
theorem ne_of_none {fs:List A7} {n:List UInt8} (h:atF fs n=none): ∀ x∈fs,x.name≠n:=fun x hx=>by
 have:=List.find?_eq_none.1 h x hx
 simpa using this
theorem aliens_put {f:A7} (hf:alien f.name=false): ∀ fs:List A7,Ew (Bu f fs)=Ew fs
 | []=>by simp [Bu,Ew,hf]
 | y::r=>by
  have ih:=aliens_put hf r
  unfold Ew at ih ⊢
  unfold Bu
  split
  ·rw [List.filter_cons,hf];simp
  ·rw [List.filter_cons,List.filter_cons,ih]
theorem chg_create {fs:List A7} {n:List UInt8}:Cg fs (opCreate n)=Bu ⟨n,[],0⟩ fs:=by
 unfold Cg Ga
 rw [ζ (by simp [opCreate])]
 rfl
theorem chg_put {fs:List A7} {f:A7} {o:Io} (h: ∀ x∈fs,x.name≠f.name) (hn:o.name=f.name) (hk:o.k=1∨o.k=2∨o.k=5):Cg (Bu f fs) o=Bu (H8 o f) fs:=by
 unfold Cg Ga
 rw [γ (by omega)]
 show (match atF (Bu f fs) o.name with | none=>stand 0 (Bu f fs) | some f=>_).files=_
 rw [hn,Co h]
 dsimp only
 rw [γ (by omega),γ (by omega)]
 show Bu (H8 o f) (takeF f.name (Bu f fs))=_
 rw [take_put h]
theorem chg_rename {fs:List A7} {f:A7} {t:List UInt8} (h: ∀ x∈fs,x.name≠f.name) (ht: ∀ x∈fs,x.name≠t):Cg (Bu f fs) (opRename f.name t)=Bu {f with name:=t} fs:=by
 unfold Cg Ga
 rw [γ (by simp [opRename])]
 show (match atF (Bu f fs) f.name with | none=>stand 0 (Bu f fs) | some f=>_).files=_
 rw [Co h]
 dsimp only
 rw [γ (by simp [opRename]),ζ (by simp [opRename])]
 show Bu (H8 (opRename f.name t) f) (takeF t (takeF f.name (Bu f fs)))=_
 rw [take_put h,Kb (none_of ht)]
 rfl
theorem ns_man (t:Bool) (m:B3):strayN t m Am=false:=by
 unfold strayN
 rw [show Ao Am=(1,0) by decide]
 rfl
theorem ns_seg {m:B3} (hf:ManFine m) {g:Sg} (hg:g∈m.segs):strayN true m (Aa g.num)=false:=by
 have h1:=hf.seg g hg
 have h2:=hf.next
 unfold strayN
 rw [parse_seg g.num (by omega)]
 simp only [if_true]
 have:Gc m g.num=true:=by unfold Gc;rw [List.any_eq_true];exact⟨g,hg,by simp⟩
 rw [this]
 rfl
theorem find_man {room:Int} {fs:List A7} {b:List UInt8} (h:datF fs Am=some b) (h0:(Bk b).2=0):findB room fs=manB fs (Bk b).1:=by
 unfold findB
 rw [h]
 dsimp only
 rw [γ (fun k=>k h0)]
def NewP (A:List A7) (fs:List A7):Prop:=datF fs Am=none∧Ew fs=A
theorem J4 {A fs:List A7} {f:A7} (h:NewP A fs) (ha:alien f.name=false) (hn:f.name≠Am):NewP A (Bu f fs):=by
 refine⟨?_,by rw [aliens_put ha];exact h.2⟩
 have:=h.1
 unfold datF at this ⊢
 rw [Fg hn]
 exact this
def Ep:List UInt8:=(E4 1 1).1
def Fr:List UInt8:=(Bs firstM).1
def Gp (A:List A7):List A7:=Bu ⟨Am,Fr,29⟩ (Bu ⟨Aa 1,Ep,22⟩ A)
theorem seg1:Aa 1=[115,101,103,45,48,48,48,48,48,49]:=by decide
theorem begin_went {d:Ab} (hok:At d) (hd:d.down=false) (hm:datF d.files Am=none) (ha:Ew d.files=d.files) (hr:51≤d.room - (usedF d.files:Int)) (hl:d.files.length≤698):
  Went (NewP d.files) (fun fs=>fs=Gp d.files) d (Aw d (Cx (segN firstM) (lastSg firstM) firstM)):=by
 obtain⟨A,hA⟩: ∃ A,A=d.files:=⟨_,rfl⟩
 rw [←hA] at hm ha hr hl ⊢
 have hH:Ep.length=22:=G1.1
 have hB:Fr.length=29:=G1.2
 have ha1:alien (Aa 1)=false:=by rw [seg1];decide
 have ha2:alien As=false:=by decide
 have hn1:Aa 1≠Am:=by rw [seg1];decide
 have hn2:As≠Am:=by decide
 have hn3:Aa 1≠As:=by rw [seg1];decide
 have hr1:rightName (Aa 1)=true:=by rw [seg1];decide
 have hr2:rightName As=true:=by decide
 have hr3:rightName Fk=true:=by decide
 have hal: ∀ x∈A,alien x.name=true:=fun x hx=>by rw [←ha] at hx;exact(List.mem_filter.1 hx).2
 have hx1: ∀ x∈A,x.name≠Aa 1:=fun x hx e=>by have:=hal x hx;rw [e,ha1] at this;cases this
 have hx2: ∀ x∈A,x.name≠As:=fun x hx e=>by have:=hal x hx;rw [e,ha2] at this;cases this
 have hx3: ∀ x∈A,x.name≠Am:=by
  rcases h:atF A Am with _ | y
  ·exact ne_of_none h
  ·rw [Gm h] at hm;cases hm
 have P0:NewP A A:=⟨hm,ha⟩
 rw [show Cx (segN firstM) (lastSg firstM) firstM=[opCreate (Aa 1),opAppend (Aa 1) Ep,opSync (Aa 1),opCreate As,opAppend As Fr,opSync As,opRename As Fk] from rfl]
 refine Ea hok (by simp [opCreate]) (by simp [opCreate]) ?_ (by rw [γ (by simp [opCreate]),←hA];exact P0) fun d1 e1 r1 n1 o1 f1=> ?_
 ·rw [F9,openE_off hd hr1 (none_of (by rw [←hA];exact hx1))]
  rw [γ (by decide),γ (by decide),←hA,show decide (700≤A.length)=false by simp;omega]
  rfl
 rw [chg_create,←hA] at e1
 have P1:=J4 (f:=⟨Aa 1,[],0⟩) P0 ha1 hn1
 have P2:=J4 (f:=⟨Aa 1,Ep,0⟩) P0 ha1 hn1
 have P3:=J4 (f:=⟨Aa 1,Ep,22⟩) P0 ha1 hn1
 have c2:Cg d1.files (opAppend (Aa 1) Ep)=Bu ⟨Aa 1,Ep,0⟩ A:=by
  rw [e1,chg_put (f:=⟨Aa 1,[],0⟩) hx1 rfl (.inl rfl)]
  simp [H8,opAppend]
 refine Ea o1 (by simp [opAppend]) (by simp [opAppend]) ?_ (by rw [ζ (by simp [opAppend]),c2];exact P2) fun d2 e2 r2 n2 o2 f2=> ?_
 ·rw [F8,Ek o1 n1 (x:=⟨Aa 1,[],0⟩) (by rw [e1];exact Co hx1),γ (by decide),e1,Dh,r1,hH]
  rw [show decide (d.room - (((([]:List UInt8)).length+usedF A:Nat):Int)<((22:Nat):Int))=false by simp;omega]
  rfl
 rw [c2] at e2
 have c3:Cg d2.files (opSync (Aa 1))=Bu ⟨Aa 1,Ep,22⟩ A:=by
  rw [e2,chg_put (f:=⟨Aa 1,Ep,0⟩) hx1 rfl (.inr (.inl rfl))]
  simp [H8,opSync,hH]
 refine Ea o2 (by simp [opSync]) (by simp [opSync]) ?_ (by rw [γ (by simp [opSync]),e2];exact P2) fun d3 e3 r3 n3 o3 f3=> ?_
 ·rw [J0]
  exact Ek o2 n2 (x:=⟨Aa 1,Ep,0⟩) (by rw [e2];exact Co hx1)
 rw [c3] at e3
 obtain⟨S,hS⟩: ∃ S,S=Bu ⟨Aa 1,Ep,22⟩ A:=⟨_,rfl⟩
 rw [←hS] at e3 P3
 have hu:usedF S=22+usedF A:=by rw [hS,Dh];simp only [hH]
 have hln:S.length=A.length+1:=by rw [hS,E9]
 have hs2: ∀ x∈S,x.name≠As:=fun x hx=>by
  rw [hS] at hx
  rcases mem_putF.1 hx with rfl | hx
  ·exact hn3
  ·exact hx2 x hx
 have hs3: ∀ x∈S,x.name≠Fk:=fun x hx=>by
  rw [hS] at hx
  rcases mem_putF.1 hx with rfl | hx
  ·exact hn1
  ·exact hx3 x hx
 refine Ea o3 (by simp [opCreate]) (by simp [opCreate]) ?_ (by rw [γ (by simp [opCreate]),e3];exact P3) fun d4 e4 r4 n4 o4 f4=> ?_
 ·rw [F9,openE_off n3 hr2 (by rw [e3];exact none_of hs2)]
  rw [γ (by decide),γ (by decide),e3,hln,show decide (700≤A.length+1)=false by simp;omega]
  rfl
 rw [chg_create,e3] at e4
 have P4:=J4 (f:=⟨As,[],0⟩) P3 ha2 hn2
 have P5:=J4 (f:=⟨As,Fr,0⟩) P3 ha2 hn2
 have P6:=J4 (f:=⟨As,Fr,29⟩) P3 ha2 hn2
 have c5:Cg d4.files (opAppend As Fr)=Bu ⟨As,Fr,0⟩ S:=by
  rw [e4,chg_put (f:=⟨As,[],0⟩) hs2 rfl (.inl rfl)]
  simp [H8,opAppend]
 refine Ea o4 (by simp [opAppend]) (by simp [opAppend]) ?_ (by rw [ζ (by simp [opAppend]),c5];exact P5) fun d5 e5 r5 n5 o5 f5=> ?_
 ·rw [F8,Ek o4 n4 (x:=⟨As,[],0⟩) (by rw [e4];exact Co hs2),γ (by decide),e4,Dh,r4,r3,r2,r1,hu,hB]
  rw [show decide (d.room - (((([]:List UInt8)).length+(22+usedF A):Nat):Int)<((29:Nat):Int))=false by simp;omega]
  rfl
 rw [c5] at e5
 have c6:Cg d5.files (opSync As)=Bu ⟨As,Fr,29⟩ S:=by
  rw [e5,chg_put (f:=⟨As,Fr,0⟩) hs2 rfl (.inr (.inl rfl))]
  simp [H8,opSync,hB]
 refine Ea o5 (by simp [opSync]) (by simp [opSync]) ?_ (by rw [γ (by simp [opSync]),e5];exact P5) fun d6 e6 r6 n6 o6 f6=> ?_
 ·rw [J0]
  exact Ek o5 n5 (x:=⟨As,Fr,0⟩) (by rw [e5];exact Co hs2)
 rw [c6] at e6
 have c7:Cg d6.files (opRename As Fk)=Gp A:=by
  rw [e6,chg_rename (f:=⟨As,Fr,29⟩) hs2 hs3,hS]
  rfl
 refine Ea o6 (by simp [opRename]) (by simp [opRename]) ?_ (by rw [γ (by simp [opRename]),e6];exact P6) fun d7 e7 r7 n7 o7 f7=> ?_
 ·rw [Gx,Ek o6 n6 (x:=⟨As,Fr,29⟩) (by rw [e6];exact Co hs2),hr3]
  simp
 rw [c7] at e7
 exact went_nil o7 n7 e7
theorem chgL_set {fs:List A7} {o:Io} {x:A7} (hr:Ff fs) (ha:atF fs o.name=some x) (h0:o.k≠0) (h3:o.k≠3) (h4:o.k≠4):Cg fs o=setF o.name (fun _=>H8 o x) fs:=by
 unfold Cg
 rw [chg_set (d:=stand 0 fs) (x:=x) hr ha h0 h3 h4]
 rfl
theorem at_set_same {n:List UInt8} {x y:A7} {fs:List A7} (ha:atF fs n=some x) (hy:y.name=n):atF (setF n (fun _=>y) fs) n=some y:=by
 induction fs with
 | nil=>cases ha
 | cons z r ih=>
  unfold atF setF at*
  rw [List.find?_cons] at ha
  rw [List.map_cons,List.find?_cons]
  by_cases hz:z.name=n
  ·rw [ζ (by simpa using hz),show (y.name==n)=true by simpa using hy]
  ·rw [γ (by simpa using hz),show (z.name==n)=false by simpa using hz]
   rw [show (z.name==n)=false by simpa using hz] at ha
   exact ih ha
theorem Hz {n k:List UInt8} {y:A7} (hy:y.name=n) (hk:k≠n): ∀ {fs:List A7},atF (setF n (fun _=>y) fs) k=atF fs k
 | []=>rfl
 | z::r=>by
  have ih:=Hz hy hk (fs:=r)
  unfold atF setF at*
  rw [List.map_cons,List.find?_cons,List.find?_cons,ih]
  by_cases hz:z.name=n
  ·rw [ζ (by simpa using hz),show (y.name==k)=false by rw [hy];simpa using hk.symm,show (z.name==k)=false by rw [hz];simpa using hk.symm]
  ·rw [γ (by simpa using hz)]
structure Cb where
 count:Nat
 size:Nat
 marks:List Mk
 stride:Nat
 segEv:Nat
 man:B3
 closed:Bool
 decoded:Nat
def lastE (s:Cb):Int:=(lastSg s.man).first+(s.count:Int) - 1
def bldM (stride:Nat):Nat→List Plc→List Mk
 | _,[]=>[]
 | i,p::r=>if i % stride=0 then ⟨(p.f.s:Int),(p.pos:Int)⟩::bldM stride (i+1) r else bldM stride (i+1) r
def A9:Int→Int→List Mk→List Nat
 | _,_,[]=>[]
 | s,p,m::r=>(m.s - s).toNat::(m.p - p).toNat::A9 m.s m.p r
def footBody (first count stride:Nat) (ms:List Mk):List UInt8:=encV first++encV count++encV stride++encAll (A9 0 0 ms)
def Ei (s:Cb):List UInt8:=frameOf 3 (lastSg s.man).num.toNat (footBody (lastSg s.man).first.toNat s.count s.stride s.marks)
def turnM (s:Cb):B3:={s.man with gen:=s.man.gen+1,next:=s.man.next+1,segs:=s.man.segs.dropLast++[⟨(lastSg s.man).num,(lastSg s.man).first,s.count,s.size⟩,⟨s.man.next,lastE s+1,0,0⟩]}
def Hi (s:Cb):List UInt8:=(E4 s.man.next (lastE s+1)).1
def Cv (d:Ab) (s:Cb) (more:Nat):Int:=
 if s.count=0 then 93 else if 256≤s.man.segs.length then 90 else if 999999<s.man.next∨1099511627776≤s.man.gen then 91
 else if d.room - (usedF d.files:Int)<((Ei s).length:Int)+((Hi s).length:Int)+((Bs (turnM s)).1.length:Int)+(more:Int)∨700<d.files.length+2 then 54 else 0
def Dy (s:Cb):List Io:=[opAppend (segN s.man) (Ei s),opSync (segN s.man),opCreate (Aa s.man.next),opAppend (Aa s.man.next) (Hi s),opSync (Aa s.man.next)]++Cf (turnM s)
def turned (s:Cb):Cb:={s with count:=0,size:=(Hi s).length,marks:=[],man:=turnM s}
def shutS (s:Cb) (e:Int):Cb:=if e=3 then {s with closed:=true} else s
def Bn (d:Ab) (s:Cb) (more:Nat):Int×Cb×Ab:=
 if Cv d s more=0 then
  (if (Aw (rdD d s.size) (Dy s)).2=0 then (0,turned s,(Aw (rdD d s.size) (Dy s)).1)
  else ((Aw (rdD d s.size) (Dy s)).2,shutS s (Aw (rdD d s.size) (Dy s)).2,(Aw (rdD d s.size) (Dy s)).1))
 else (Cv d s more,s,if Cv d s more=54 then rdD d s.size else d)
def Hg (s:Cb) (raw:List UInt8):List UInt8:=frameOf 1 (lastE s+1).toNat raw
def addS (s:Cb) (b:List UInt8):Cb:={s with marks:=if s.count % s.stride=0 then s.marks++[⟨lastE s+1,s.size⟩] else s.marks,count:=s.count+1,size:=s.size+b.length}
def appS (d:Ab) (s:Cb) (b:List UInt8):(Int×Int)×Cb×Ab:=
 if (Aq d (opAppend (segN s.man) b)).2.2.2=0 then ((lastE s+1,0),addS s b,(Aq d (opAppend (segN s.man) b)).1)
 else ((0,(Aq d (opAppend (segN s.man) b)).2.2.2),shutS s (Aq d (opAppend (segN s.man) b)).2.2.2,(Aq d (opAppend (segN s.man) b)).1)
def Cy (d:Ab) (s:Cb) (raw:List UInt8):(Int×Int)×Cb×Ab:=
 if 1099511627776≤lastE s then ((0,92),s,d)
 else if s.segEv≤s.count then
  (if (Bn d s (Hg s raw).length).1=0 then appS (Bn d s (Hg s raw).length).2.2 (Bn d s (Hg s raw).length).2.1 (Hg s raw)
  else ((0,(Bn d s (Hg s raw).length).1),(Bn d s (Hg s raw).length).2))
 else if d.room - (usedF d.files:Int)<((Hg s raw).length:Int) then ((0,54),s,d) else appS d s (Hg s raw)
def seekM (ms:List Mk) (from_:Int):Option Mk:=(ms.takeWhile fun m=>decide (m.s≤from_)).getLast?
def evFr:Nat→List (List UInt8)→List Frm
 | _,[]=>[]
 | n,b::r=>⟨1,n,b⟩::evFr (n+1) r
theorem Dm: ∀ (bs:List (List UInt8)) (n:Nat),(evFr n bs).length=bs.length
 | [],_=>rfl
 | b::r,n=>by rw [evFr,φ,Dm r,φ]
theorem evFr_append: ∀ (a b:List (List UInt8)) (n:Nat),evFr n (a++b)=evFr n a++evFr (n+a.length) b
 | [],b,n=>by simp [evFr]
 | x::a,b,n=>by rw [List.cons_append,evFr,evFr_append a b,evFr,φ,List.cons_append,Nat.add_assoc,Nat.add_comm 1]
theorem evFr_get: ∀ (bs:List (List UInt8)) (n i:Nat) (f:Frm),(evFr n bs)[i]? =some f→ ∃ b,bs[i]? =some b∧f=⟨1,n+i,b⟩
 | [],_,_,_,h=>by simp [evFr] at h
 | b::r,n,0,f,h=>by
  simp only [evFr,List.getElem?_cons_zero,Option.some.injEq] at h
  exact⟨b,rfl,h.symm⟩
 | b::r,n,i+1,f,h=>by
  rw [evFr,List.getElem?_cons_succ] at h
  obtain⟨x,h1,h2⟩:=evFr_get r (n+1) i f h
  exact⟨x,by simpa using h1,by rw [h2,Nat.add_assoc,Nat.add_comm 1]⟩
def BodyOk (b:List UInt8):Prop:=(Ca b).2.2=0∧b.length≤1040
theorem evFr_ok {bs:List (List UInt8)} {n:Nat} (h: ∀ b∈bs,BodyOk b) (hn:n+bs.length≤1099511627777): ∀ f∈evFr n bs,FrmOk f:=fun f hf=>by
 obtain⟨i,hi⟩:=List.mem_iff_getElem?.1 hf
 obtain⟨b,h1,rfl⟩:=evFr_get bs n i f hi
 have h2:=(List.getElem?_eq_some_iff.1 h1).1
 have h3:=(h b (List.mem_of_getElem? h1)).2
 exact⟨⟨ξ _,by show 1≤7;omega⟩,by show n+i≤_;omega,by show b.length≤_;omega⟩
def hdB (g:Sg):List UInt8:=(E4 g.num g.first).1
def segB (g:Sg) (bs:List (List UInt8)):List UInt8:=hdB g++lay (evFr g.first.toNat bs)
def mksG (stride:Nat):Nat→Nat→Nat→List (List UInt8)→List Mk
 | _,_,_,[]=>[]
 | i,s,p,b::r=>if i % stride=0 then ⟨(s:Int),(p:Int)⟩::mksG stride (i+1) (s+1) (p+b.length+20) r else mksG stride (i+1) (s+1) (p+b.length+20) r
theorem bldM_lay (stride p0:Nat): ∀ (bs:List (List UInt8)) (i s q:Nat),bldM stride i (plcs p0 (posL q (evFr s bs)))=mksG stride i s (p0+q) bs
 | [],i,s,q=>rfl
 | b::r,i,s,q=>by
  have ih:=bldM_lay stride p0 r (i+1) (s+1) (q+b.length+20)
  have e:p0+(q+b.length+20)=p0+q+b.length+20:=by omega
  rw [e] at ih
  rw [evFr,posL]
  show bldM stride i (⟨p0+q,b.length+20,⟨1,s,b⟩⟩::plcs p0 (posL (q+b.length+20) (evFr (s+1) r)))=_
  rw [bldM,mksG,ih]
theorem Hj (n:Nat) (b:List UInt8) (r:List (List UInt8)):(lay (evFr n (b::r))).length=b.length+20+(lay (evFr (n+1) r)).length:=by
 rw [evFr,lay_cons,η,An]
theorem mksG_snoc (stride:Nat) (b:List UInt8): ∀ (bs:List (List UInt8)) (i s p:Nat),mksG stride i s p (bs++[b])=mksG stride i s p bs++if (i+bs.length) % stride=0 then [⟨((s+bs.length:Nat):Int),((p+(lay (evFr s bs)).length:Nat):Int)⟩] else []
 | [],i,s,p=>by
  rw [List.nil_append,mksG,mksG,mksG,Φ,Nat.add_zero,Nat.add_zero,show lay (evFr s [])=[] from rfl]
  simp
 | x::bs,i,s,p=>by
  have ih:=mksG_snoc stride b bs (i+1) (s+1) (p+x.length+20)
  rw [show i+1+bs.length=i+(bs.length+1) by omega,show s+1+bs.length=s+(bs.length+1) by omega,
   show p+x.length+20+(lay (evFr (s+1) bs)).length=p+(lay (evFr s (x::bs))).length by rw [Hj];omega] at ih
  rw [List.cons_append,mksG,mksG,ih,φ]
  split<;>simp
theorem mksG_ok (stride:Nat): ∀ (bs:List (List UInt8)) (i s p:Nat) (s0 p0:Int),s0<(s:Int)→p0<(p:Int)→s+bs.length≤1099511627777→p+(lay (evFr s bs)).length≤1099511627776→Cs s0 p0 (mksG stride i s p bs)=true
 | [],_,_,_,_,_,_,_,_,_=>rfl
 | b::r,i,s,p,s0,p0,h1,h2,h3,h4=>by
  rw [Hj] at h4
  rw [φ] at h3
  rw [mksG]
  split
  ·rw [Cs,γ (by simp only;omega)]
   exact mksG_ok stride r (i+1) (s+1) _ _ _ (by simp only;omega) (by simp only;omega) (by omega) (by omega)
  ·exact mksG_ok stride r (i+1) (s+1) _ _ _ (by omega) (by omega) (by omega) (by omega)
theorem mksG_len (stride:Nat): ∀ (bs:List (List UInt8)) (i s p:Nat),(mksG stride i s p bs).length≤bs.length
 | [],_,_,_=>ξ _
 | b::r,i,s,p=>by
  have:=mksG_len stride r (i+1) (s+1) (p+b.length+20)
  rw [mksG]
  split<;>simp only [φ]<;>omega
theorem idxGo_nums: ∀ (ms:List Mk) (s p:Int) (acc:List Mk),Cs s p ms=true→0≤s→ -1≤p→(p= -1→s=0)→Jc (A9 s (if p= -1 then 0 else p) ms) s (if p= -1 then 0 else p) acc=some (acc++ms)
 | [],s,p,acc,_,_,_,_=>by simp [A9,Jc]
 | m::r,s,p,acc,h,hs,hp,hz=>by
  rw [Cs] at h
  split at h
  ·cases h
  ·rename_i hn
   have ih:=idxGo_nums r m.s m.p (acc++[m]) h (by omega) (by omega) (by omega)
   rw [γ (by omega)] at ih
   have e1:s+((m.s - s).toNat:Int)=m.s:=by omega
   have e2:(if p= -1 then 0 else p)+((m.p - (if p= -1 then 0 else p)).toNat:Int)=m.p:=by split<;>omega
   rw [A9,Jc,γ (by split<;>omega),e1,e2,ih]
   simp
theorem Kt: ∀ (ms:List Mk) (s p:Int),Cs s p ms=true→0≤s→ -1≤p→ ∀ u∈A9 s (if p= -1 then 0 else p) ms,u≤1099511627776
 | [],_,_,_,_,_,u,hu=>by simp [A9] at hu
 | m::r,s,p,h,hs,hp,u,hu=>by
  rw [Cs] at h
  split at h
  ·cases h
  ·rename_i hn
   have ih:=Kt r m.s m.p h (by omega) (by omega) u
   rw [γ (by omega)] at ih
   rw [A9] at hu
   rcases Γ.1 hu with rfl | hu
   ·omega
   ·rcases Γ.1 hu with rfl | hu
    ·split<;>omega
    ·exact ih hu
theorem E5: ∀ (ms:List Mk) (s p:Int),(A9 s p ms).length=2*ms.length
 | [],_,_=>rfl
 | m::r,s,p=>by rw [A9,φ,φ,E5 r,φ];omega
theorem idxDec_enc {ms:List Mk} (h:By ms=true):Eq (encAll (A9 0 0 ms))=(ms,0):=by
 have hm:=h
 unfold By at h
 simp only [Bool.and_eq_true,decide_eq_true_eq] at h
 have h1:=Kt ms 0 (-1) h.2 (by omega) (by omega)
 have h2:=idxGo_nums ms 0 (-1) [] h.2 (by omega) (by omega) (fun _=>rfl)
 rw [ζ rfl] at h1 h2
 have h3:=E5 ms 0 0
 have hd:=decAll_enc (us:=A9 0 0 ms) (most:=1024) (fun u hu=>by have:=h1 u hu;omega) (by omega) (by omega) []
 rw [List.append_nil] at hd
 unfold Eq
 rw [hd,γ (by simp),γ (by simp only;omega),h2]
 simp only [List.nil_append]
 rw [ζ hm]
theorem flat_len: ∀ (us:List Nat),(∀ u∈us,u≤1099511627776)→(us.flatMap encV).length≤6*us.length
 | [],_=>by simp
 | u::r,h=>by
  have h1:=encV_len 5 u (Nat.lt_of_le_of_lt (h u (by simp)) (by decide))
  have h2:=flat_len r fun x hx=>h x (by simp [hx])
  rw [List.flatMap_cons,η,φ]
  omega
theorem footBody_len {first count stride:Nat} {ms:List Mk} (h1:first≤1099511627777) (h2:count≤512) (h3:stride≤64) (h:By ms=true):(footBody first count stride ms).length≤6200:=by
 have hm:=h
 unfold By at h
 simp only [Bool.and_eq_true,decide_eq_true_eq] at h
 have a:=flat_len _ (by have:=Kt ms 0 (-1) h.2 (by omega) (by omega);rw [ζ rfl] at this;exact this)
 have b:=E5 ms 0 0
 have c:=Bl (show first<18446744073709551616 by omega)
 have d:=Bl (show count<18446744073709551616 by omega)
 have e:=Bl (show stride<18446744073709551616 by omega)
 have f:=Bl (show (A9 0 0 ms).length<18446744073709551616 by omega)
 unfold footBody encAll
 simp only [η]
 omega
theorem unclose_foot {first count stride:Nat} {ms:List Mk} (h1:first≤1099511627777) (h2:1≤count∧count≤512) (h3:1≤stride∧stride≤64) (h:By ms=true):Cz (footBody first count stride ms)=some ⟨first,count,stride,ms⟩:=by
 have e1:=Eh (show first<18446744073709551616 by omega) (encV count++(encV stride++encAll (A9 0 0 ms)))
 have e2:=Eh (show count<18446744073709551616 by omega) (encV stride++encAll (A9 0 0 ms))
 have e3:=Eh (show stride<18446744073709551616 by omega) (encAll (A9 0 0 ms))
 have hu:unnumsV 3 (footBody first count stride ms) []=some ([first,count,stride],encAll (A9 0 0 ms)):=by
  unfold footBody
  rw [List.append_assoc,List.append_assoc,Gj (by rw [e1];simp only;omega),e1]
  simp only [List.drop_left]
  rw [Gj (by rw [e2];simp only;omega),e2]
  simp only [List.drop_left]
  rw [Gj (by rw [e3];simp only;omega),e3]
  simp [unnumsV]
 unfold Cz
 rw [hu]
 simp only
 unfold clsIn
 simp only
 rw [γ (by omega),idxDec_enc h]
 rfl
def Ceil (stride i q:Nat):Prop:=i≤q*stride∧q*stride<i+stride
theorem ceil_one {stride i q k:Nat} (h:Ceil stride i q) (h2:Ceil stride i k):q=k:=by
 have a:q*stride<(k+1)*stride:=by rw [Nat.add_mul];have:=h.2;have:=h2.1;omega
 have b:k*stride<(q+1)*stride:=by rw [Nat.add_mul];have:=h.1;have:=h2.2;omega
 have:=Nat.lt_of_mul_lt_mul_right a
 have:=Nat.lt_of_mul_lt_mul_right b
 omega
theorem ceil_zero {stride i q:Nat} (h:Ceil stride i q) (h0:i % stride=0) (hp:0<stride):q*stride=i:=by
 have e:i / stride*stride=i:=Nat.div_mul_cancel (Nat.dvd_of_mod_eq_zero h0)
 have:Ceil stride i (i / stride):=⟨by omega,by omega⟩
 rw [ceil_one h this,e]
theorem ceil_next {stride i q:Nat} (h:Ceil stride i q) (hp:0<stride):Ceil stride (i+1) (if i % stride=0 then q+1 else q):=by
 split
 ·rename_i h0
  have e:=ceil_zero h h0 hp
  unfold Ceil
  rw [Nat.add_mul]
  omega
 ·rename_i h0
  have h1:=h.1
  have:q*stride≠i:=fun e=>h0 (by rw [←e];exact Nat.mul_mod_left q stride)
  have h2:=h.2
  exact⟨by omega,by omega⟩
theorem ceil_div {stride n:Nat} (hp:0<stride):Ceil stride n ((n+stride - 1) / stride):=by
 have h1:=Nat.div_mul_le_self (n+stride - 1) stride
 have h2:=Nat.lt_div_mul_add hp (a:=n+stride - 1)
 exact⟨by omega,by omega⟩
theorem mksG_close (stride first:Nat) (foot:Int) (hp:0<stride): ∀ (bs:List (List UInt8)) (i q p:Nat),Ceil stride i q→((p+(lay (evFr (first+i) bs)).length:Nat):Int)≤foot→Fh first stride foot q (mksG stride i (first+i) p bs)=true
 | [],_,_,_,_,_=>rfl
 | b::r,i,q,p,h,hf=>by
  rw [Hj,Nat.add_assoc first i 1] at hf
  have hn:=ceil_next h hp
  rw [mksG,Nat.add_assoc first i 1]
  split
  ·rename_i h0
   rw [ζ h0] at hn
   rw [Fh,γ (by simp only;rw [ceil_zero h h0 hp];omega)]
   exact mksG_close stride first foot hp r (i+1) (q+1) _ hn (by omega)
  ·rename_i h0
   rw [γ h0] at hn
   exact mksG_close stride first foot hp r (i+1) q _ hn (by omega)
theorem mksG_count (stride:Nat) (hp:0<stride): ∀ (bs:List (List UInt8)) (i s p q Q:Nat),Ceil stride i q→Ceil stride (i+bs.length) Q→(mksG stride i s p bs).length+q=Q
 | [],i,s,p,q,Q,h,h2=>by
  rw [mksG,Φ,Nat.zero_add]
  exact ceil_one h h2
 | b::r,i,s,p,q,Q,h,h2=>by
  have hn:=ceil_next h hp
  have ih:=fun q' (hq:Ceil stride (i+1) q')=>mksG_count stride hp r (i+1) (s+1) (p+b.length+20) q' Q hq (by rw [φ] at h2;rw [show i+1+r.length=i+(r.length+1) by omega];exact h2)
  rw [mksG]
  split
  ·rename_i h0
   rw [ζ h0] at hn
   have:=ih _ hn
   rw [φ]
   omega
  ·rename_i h0
   rw [γ h0] at hn
   exact ih _ hn
theorem seek_go (stride:Nat): ∀ (bs:List (List UInt8)) (i s p k:Nat),k<bs.length→
  (∃ j,j≤k∧(∀ t,j<t→t≤k→(i+t) % stride≠0)∧seekM (mksG stride i s p bs) ((s+k:Nat):Int)=some ⟨((s+j:Nat):Int),((p+(lay (evFr s (bs.take j))).length:Nat):Int)⟩)∨
  ((∀ t,t≤k→(i+t) % stride≠0)∧seekM (mksG stride i s p bs) ((s+k:Nat):Int)=none)
 | [],_,_,_,_,h=>by simp at h
 | b::r,i,s,p,0,h=>by
  have hz:seekM (mksG stride (i+1) (s+1) (p+b.length+20) r) ((s+0:Nat):Int)=none:=by
   have: ∀ (r:List (List UInt8)) (i q p:Nat),s<q→seekM (mksG stride i q p r) ((s+0:Nat):Int)=none:=fun r=>by
    induction r with
    | nil=>intros;rfl
    | cons x r ih=>
     intro i q p hq
     rw [mksG]
     split
     ·unfold seekM
      rw [List.takeWhile_cons,γ (by simp;omega)]
      rfl
     ·exact ih _ _ _ (by omega)
   exact this r _ _ _ (by omega)
  rw [mksG]
  by_cases h0:i % stride=0
  ·left
   refine⟨0,ξ _,fun t h1 h2=>by omega,?_⟩
   rw [ζ h0]
   unfold seekM at hz ⊢
   rw [List.takeWhile_cons,ζ (by simp),List.getLast?_cons,hz]
   rfl
  ·right
   rw [γ h0]
   exact⟨fun t ht=>by obtain rfl:t=0:=Nat.le_zero.1 ht;exact h0,hz⟩
 | b::r,i,s,p,k+1,h=>by
  have e:((s+(k+1):Nat):Int)=((s+1+k:Nat):Int):=by omega
  rcases seek_go stride r (i+1) (s+1) (p+b.length+20) k (by simpa using h) with⟨j,h1,h2,h3⟩ | ⟨h2,h3⟩
  ·left
   refine⟨j+1,by omega,fun t a c=> ?_,?_⟩
   ·have:=h2 (t - 1) (by omega) (by omega)
    rwa [show i+1+(t - 1)=i+t by omega] at this
   ·have e2:(⟨((s+1+j:Nat):Int),((p+b.length+20+(lay (evFr (s+1) (r.take j))).length:Nat):Int)⟩:Mk)=⟨((s+(j+1):Nat):Int),((p+(lay (evFr s ((b::r).take (j+1)))).length:Nat):Int)⟩:=by
     rw [List.take_succ_cons,Hj]
     simp only [Mk.mk.injEq]
     omega
    rw [e2] at h3
    rw [e,mksG]
    split
    ·unfold seekM at h3 ⊢
     rw [List.takeWhile_cons,ζ (by simp;omega),List.getLast?_cons,h3]
     rfl
    ·exact h3
  ·have hall: ∀ t,1≤t→t≤k+1→(i+t) % stride≠0:=fun t a c=>by
    have:=h2 (t - 1) (by omega)
    rwa [show i+1+(t - 1)=i+t by omega] at this
   rw [e,mksG]
   by_cases h0:i % stride=0
   ·left
    refine⟨0,θ _,fun t a c=>hall t (by omega) c,?_⟩
    rw [ζ h0]
    unfold seekM at h3 ⊢
    rw [List.takeWhile_cons,ζ (by simp;omega),List.getLast?_cons,h3]
    rfl
   ·right
    rw [γ h0]
    exact⟨fun t ht=>by
     rcases Nat.eq_zero_or_pos t with rfl | ht0
     ·exact h0
     ·exact hall t ht0 ht,h3⟩
theorem seek_ok {stride s p k:Nat} {bs:List (List UInt8)} (hp:0<stride) (hk:k<bs.length): ∃ j,j≤k∧k<j+stride∧
  seekM (mksG stride 0 s p bs) ((s+k:Nat):Int)=some ⟨((s+j:Nat):Int),((p+(lay (evFr s (bs.take j))).length:Nat):Int)⟩:=by
 rcases seek_go stride bs 0 s p k hk with⟨j,h1,h2,h3⟩ | ⟨h2,_⟩
 ·refine⟨j,h1,?_,h3⟩
  have hc:Ceil stride (j+1) ((j+1+stride - 1) / stride):=ceil_div hp
  rcases Nat.lt_or_ge k (j+stride) with h | h
  ·exact h
  ·have h4:=hc.1
   have h5:=hc.2
   exact absurd (by rw [Nat.zero_add];exact Nat.mul_mod_left _ _) (h2 ((j+1+stride - 1) / stride*stride) (by omega) (by omega))
 ·exact absurd (by simp) (h2 0 (θ _))
theorem Ks {g:Sg} (h1:1≤g.num∧g.num≤999999) (h2:1≤g.first∧g.first≤1099511627777):20≤(hdB g).length∧(hdB g).length≤40:=by
 unfold hdB
 rw [hdrEnc_ok h1.1 h1.2 h2.1 h2.2,An,η]
 have:=Bl (show g.num.toNat<18446744073709551616 by omega)
 have:=Bl (show g.first.toNat<18446744073709551616 by omega)
 omega
theorem hdrOf_seg {g:Sg} (h1:1≤g.num∧g.num≤999999) (h2:1≤g.first∧g.first≤1099511627777) (r:List UInt8):A6 (hdB g++r)=(g.num.toNat,g.first.toNat,(hdB g).length,0):=by
 have:=hdrOf_enc (num:=g.num.toNat) (first:=g.first.toNat) (by omega) (by omega) r
 rw [show ((g.num.toNat:Nat):Int)=g.num by omega,show ((g.first.toNat:Nat):Int)=g.first by omega] at this
 exact this
theorem begV_seg {g:Sg} (h1:1≤g.num∧g.num≤999999) (h2:1≤g.first∧g.first≤1099511627777) (r:List UInt8):Ci (hdB g++r) g=((hdB g).length,true):=by
 unfold Ci
 rw [hdrOf_seg h1 h2]
 simp
 omega
theorem scan_lay {n most:Nat} {bs:List (List UInt8)} (hb: ∀ b∈bs,BodyOk b) (hn:n+bs.length≤1099511627777) (hm:bs.length≤most) (h:List UInt8):
  scanRun (h++lay (evFr n bs)) h.length n most=(plcs h.length (posL 0 (evFr n bs)),(h++lay (evFr n bs)).length):=by
 have hf:=frs_lay (fl:=evFr n bs) (rest:=[]) (evFr_ok hb hn) (.inl rfl)
 rw [List.append_nil] at hf
 have ht:=takeRun_all (first:=n) (most:=most) (evFr n bs) 0 0 (fun i f hi=>by
  obtain⟨b,_,rfl⟩:=evFr_get bs n i f hi
  exact⟨rfl,rfl⟩) (by rw [Dm];omega)
 unfold scanRun
 rw [List.drop_left,hf,ht,lastEnd_lay,Nat.zero_add,η]
theorem E8 (p:Nat) (xs:List (Nat×Frm)):(plcs p xs).length=xs.length:=by simp [plcs]
theorem closing_foot {g:Sg} {bs:List (List UInt8)} {stride p:Nat} (h1:1≤g.num∧g.num≤999999) (h2:1≤g.first∧g.first+(bs.length:Int)≤1099511627777) (h3:1≤bs.length∧bs.length≤512) (h4:1≤stride∧stride≤64)
  (hc:g.count=(bs.length:Int)) (hf:g.foot=((p+(lay (evFr g.first.toNat bs)).length:Nat):Int)) (hf2:g.foot≤1099511627776) (hp:0<p):
  Ba (frameOf 3 g.num.toNat (footBody g.first.toNat bs.length stride (mksG stride 0 g.first.toNat p bs))) g=some (mksG stride 0 g.first.toNat p bs,stride):=by
 have hm:By (mksG stride 0 g.first.toNat p bs)=true:=by
  unfold By
  rw [mksG_ok stride bs 0 _ p 0 (-1) (by omega) (by omega) (by omega) (by omega),ν (μ (mksG_len stride bs 0 _ p) h3.2)]
  rfl
 have hw:=wholeF_enc (k:=3) (s:=g.num.toNat) (by decide) (by omega) (μ (footBody_len (first:=g.first.toNat) (count:=bs.length) (stride:=stride) (by omega) h3.2 h4.2 hm) (by decide))
 unfold Ba
 rw [hw]
 simp only
 rw [γ (by omega),unclose_foot (by omega) h3 h4 hm]
 simp only
 unfold closeIn
 simp only
 have hn:=mksG_count stride h4.1 bs 0 g.first.toNat p 0 ((bs.length+stride - 1) / stride) ⟨by omega,by omega⟩ (by rw [Nat.zero_add];exact ceil_div h4.1)
 have hcl:=mksG_close stride g.first.toNat g.foot h4.1 bs 0 0 p ⟨by omega,by omega⟩ (by rw [Nat.add_zero];omega)
 rw [Nat.add_zero] at hcl
 rw [γ (by rw [←hn];omega),hcl]
 rfl
theorem bldM_snoc (stride:Nat) (p:Plc): ∀ (ps:List Plc) (i:Nat),bldM stride i (ps++[p])=bldM stride i ps++if (i+ps.length) % stride=0 then [⟨(p.f.s:Int),(p.pos:Int)⟩] else []
 | [],i=>by
  rw [List.nil_append,bldM,bldM,bldM,Φ,Nat.add_zero]
  split<;>rfl
 | x::r,i=>by
  have ih:=bldM_snoc stride p r (i+1)
  rw [show i+1+r.length=i+(r.length+1) by omega] at ih
  rw [List.cons_append,bldM,bldM,ih,φ]
  split
  ·rfl
  ·rfl
theorem bldM_len (stride:Nat): ∀ (ps:List Plc) (i:Nat),(bldM stride i ps).length≤ps.length
 | [],_=>ξ _
 | p::r,i=>by
  have:=bldM_len stride r (i+1)
  rw [bldM]
  split<;>simp only [φ]<;>omega
theorem Eu.row {w:World} {g:Nat} {p p':Plc} {v v':Value} (h:Eu w g p v):Eu (w.setRow g (pcCs p' v')) g p' v':=setRow_heap w g _ _ _ _ h
theorem wpList_store_plc {ops:Array Oper} {rest:List Oper} {o:Oper} {a:Act} {w:World} {Q:Exit→Act→World→Prop} (hgd:o.guard=none) (x y:Operand) (ho:o.op= .store 103 x y)
  (g:Nat) (p p':Plc) (v v':Value) (hx:a.eval x= .pointer (some ⟨g,0,none⟩)) (hy:a.eval y=pcV p' v') (hE:Eu w g p v) (h1:v'.oneCell'=true)
  (h: ∀ W,Eu W g p' v'→Turned (fun k=>k=g) w W→wpList Tryz.prog ops Q rest (a.put o.dst undef) W):wpList Tryz.prog ops Q (o::rest) a w:=
 wpList_store_row hgd 103 x y ho g (pcCs p' v') hx hy 103 (pcCs p v) hE pcInfo rfl (pcCs_all p' v' h1) (h _ hE.row (setRow_trn _ _ _))
theorem wpList_load_pcA {ops:Array Oper} {rest:List Oper} {o:Oper} {a:Act} {w:World} {Q:Exit→Act→World→Prop} (hgd:o.guard=none) (x:Operand) (ho:o.op= .load 103 x)
  (b off:Nat) (p:Plc) (dv:Value) (hx:a.eval x= .pointer (some ⟨b,off,none⟩)) (hE:w.rangeAt b off (pcCs p dv).toList)
  (h:wpList Tryz.prog ops Q rest (a.put o.dst (pcV p dv)) w):wpList Tryz.prog ops Q (o::rest) a w:=
 wpList_load_mid hgd 103 x ho b off hx (pcCs p dv).toList _ hE Tryz.underlying103 rfl pcInfo h
theorem own_turnedB' {S:Nat→Prop} {w w':World} {B size n:Nat} {e:TypeId} {v:Value} {xs:List Value} (h:w.ownsRow B e size v n xs) (ht:Turned S w w') (hS: ∀ k,v.ownBlock=some k→ ¬ S k):w'.ownsRow B e size v n xs:=by
 refine⟨h.1,?_⟩
 rcases h.2 with hn | ⟨g,cap,cur,rfl,hb1,hg,rest⟩
 ·exact .inl hn
 ·exact .inr ⟨g,cap,cur,rfl,hb1,by rw [ht.block _ (δ.1 hg).1 (hS g rfl)];exact hg,rest⟩
def zPc:Plc:=⟨0,0,Jv⟩
theorem build_any (ps:List Plc) (v:Value) (stride:Nat) (A:Nat→Prop) (w:World) (hv:Jn A w v ps) (hs:1≤stride∧stride≤64) (hl:ps.length≤512):
  Calls Tryz.prog 37 #[v,.int .i64 (stride:Int)] w fun e w'=> ∃ v',e= .returned v'∧Cm w' w.heap.size v' (bldM stride 0 ps)∧Below w.heap.size w w':=by
 obtain⟨oa,cap,rfl,_,_,hat⟩:=hv.shape
 have HAT:=Qh hat
 have t1:decide ((stride:Int)<1)=false:=by simp;omega
 have hst:=hs.1
 have hst0:((stride:Int)==0)=false:=by simp;omega
 clear hat hv
 go_enter Tryz.func37,Tryz.ntmps37
 go_wp2
 go_loopw [5,12] (fun mv iv wr=> ∃ k:Nat,k≤ps.length∧iv= .int .i64 (k:Int)∧Hid (Cm wr w.heap.size mv (bldM stride 0 (ps.take k)))∧Hid (Below w.heap.size w wr)) (fun _ iv _=>ps.length - (intOf iv).toNat)
 case atStart=>exact⟨0,θ _,rfl,Qh (mkOwn_nil _ _),Qh (τ _ _)⟩
 case round=>
  obtain⟨k,hk,rfl,HO,HB⟩:=hrel
  by_cases hlt:k<ps.length
  ·obtain⟨p,hp,htk,_⟩:=Kc ps k hlt
   obtain⟨b,off,rfl,_,dv,hcell,hbr⟩:=HAT.out k p hp
   have hone:=hbr.one
   have q1:(k:Int)<(ps.length:Int):=by omega
   have HSN:=Qh (show bldM stride 0 (ps.take (k+1))=bldM stride 0 (ps.take k)++if k % stride=0 then [⟨(p.f.s:Int),(p.pos:Int)⟩] else [] by
    rw [htk,bldM_snoc,Nat.zero_add,Θ,Nat.min_eq_left hk])
   have HLN:=Qh (show (bldM stride 0 (ps.take k)).length≤100000 by
    have:=bldM_len stride (ps.take k) 0
    rw [Θ] at this
    omega)
   have HCE:=Qh (Ax hcell HB.out)
   have HN:=Qh (show Eu (wr.alloc (.cells #[.int .i64 0,.int .i64 0,.int .i64 0,.int .i64 0,.slice none 0 0] 103)) wr.heap.size zPc (.slice none 0 0) from σ wr _)
   have HBN:=Qh (below_alloc wr (.cells #[.int .i64 0,.int .i64 0,.int .i64 0,.int .i64 0,.slice none 0 0] 103))
   have hk1:IntKind.i64.wrap ((k:Int)+1)=(k:Int)+1:=by rw [κ];omega
   have hlw:=HB.out.size
   have H1:=Qh hone
   clear hp htk hcell hone hbr
   generalize bldM stride 0 (ps.take k)=pre at*
   go_wp2_with (first | (with_reducible refine wpList_load_pcA rfl (.tmp 15) rfl b (off+k*5) p dv rfl HCE.out ?_) | (with_reducible refine wpList_store_plc rfl (.tmp 7) (.tmp 16) rfl wr.heap.size zPc p (.slice none 0 0) dv rfl rfl HN.out H1.out ?_))
   intro w2 hm2 ht2
   have HM2:=Qh hm2
   have HO2:=Qh (show Cm w2 w.heap.size _ pre from own_turnedB' (HO.out.later HBN.out) ht2 fun j hj=>by have:=(World.ownsRow.lt HO.out j hj).2;omega)
   have HB2:=Qh (turned_blw (HB.out.trans (HBN.out.mono hlw)) ht2 (fun i hi=>by omega) (by have:=HBN.out.size;omega))
   have hs2:w.heap.size≤w2.heap.size:=HB2.out.size
   have c0:w2.cell? ⟨wr.heap.size,0,none⟩=some (.int .i64 (p.pos:Int)):=hm2.cell 0
   have c3:w2.cell? ⟨wr.heap.size,3,none⟩=some (.int .i64 (p.f.s:Int)):=hm2.cell 3
   clear hm2 ht2 HN HBN HCE HO HB
   generalize wr.heap.size=gx at*
   rcases hm:decide (k % stride=0) with _ | _
   ·have hm': ¬ k % stride=0:=ε hm
    have hmi:(((k:Int) % (stride:Int))==0)=false:=by simp;omega
    have HSN':=Qh (show bldM stride 0 (ps.take (k+1))=pre by rw [HSN.out,γ hm',List.append_nil])
    clear hm hm' HSN
    go_wp2
    go_roundw
    case rel=>exact⟨k+1,by omega,by go_num,Qh (by rw [HSN'.out];exact HO2.out),HB2⟩
    case measure=>simp [intOf];omega
   ·have hm':k % stride=0:=χ hm
    have hmi:(((k:Int) % (stride:Int))==0)=true:=by simp;omega
    have HSN':=Qh (show bldM stride 0 (ps.take (k+1))=pre++[⟨(p.f.s:Int),(p.pos:Int)⟩] by rw [HSN.out,ζ hm'])
    clear hm hm' HSN
    go_wp2_with (refine wpList_appMk (m:=⟨(p.f.s:Int),(p.pos:Int)⟩) rfl (.tmp 21) (.tmp 28) rfl rfl rfl rfl HO2.out hs2 HLN.out ?_)
    intro v5 w5 ho5 hb5 hs5
    have HO5:=Qh ho5
    have HB5:=Qh (HB2.out.trans hb5)
    clear ho5 hb5 hs5 c0 c3
    go_wp2
    go_roundw
    case rel=>exact⟨k+1,by omega,by go_num,Qh (by rw [HSN'.out];exact HO5.out),HB5⟩
    case measure=>simp [intOf];omega
  ·obtain rfl:k=ps.length:=by omega
   rw [List.take_length] at HO
   go_wp2
   go_ret
   exact⟨_,rfl,HO.out,HB.out⟩
theorem idxNums_snoc: ∀ (ms:List Mk) (m:Mk) (s p:Int),A9 s p (ms++[m])=A9 s p ms++[(m.s - (match ms.getLast? with | none=>s | some x=>x.s)).toNat,(m.p - (match ms.getLast? with | none=>p | some x=>x.p)).toNat]
 | [],m,s,p=>rfl
 | [x],m,s,p=>rfl
 | x::y::r,m,s,p=>by
  have ih:=idxNums_snoc (y::r) m x.s x.p
  have e:(x::y::r).getLast? =(y::r).getLast? :=List.getLast?_cons_cons
  rw [List.cons_append,A9,ih,e]
  rcases h:(y::r).getLast? with _ | z
  ·simp at h
  ·rfl
def lastM (ms:List Mk):Mk:=ms.getLast?.getD ⟨0,0⟩
theorem lastM_snoc (ms:List Mk) (m:Mk):lastM (ms++[m])=m:=by unfold lastM;simp
theorem idxNums_last (ms:List Mk) (m:Mk):A9 0 0 (ms++[m])=A9 0 0 ms++[(m.s - (lastM ms).s).toNat,(m.p - (lastM ms).p).toNat]:=by
 rw [idxNums_snoc]
 unfold lastM
 rcases ms.getLast? with _ | x<;>rfl
theorem wpList_app2 {ops:Array Oper} {rest:List Oper} {o:Oper} {a:Act} {Q:Exit→Act→World→Prop} {w:World} (hgd:o.guard=none) (s y:Operand) (ho:o.op= .call {callee:= .builtin .append,args:= #[s,y],argTypes:= #[262,262]}) {B:Nat} {v:Value} {us:List Nat} {p q N:Nat} {pv qv:Int}
  (hs:a.eval s=v) (hN:N=w.heap.size) (hy:a.eval y= .slice (some ⟨N,0,none⟩) 2 2) (hown:Hy w B v us) (hB:B≤w.heap.size) (h1:pv=(p:Int)) (h2:qv=(q:Int)) (hl:us.length≤100000)
  (h: ∀ v' w',Hy w' B v' (us++[p,q])→Below B w w'→Turned (fun k=>v.ownBlock=some k) w w'→wpList Tryz.prog ops Q rest (a.put o.dst v') w'):wpList Tryz.prog ops Q (o::rest) a (w.alloc (.cells #[.int .u64 pv,.int .u64 qv] 137)):=by
 subst h1 h2 hN
 obtain⟨i0,hi,hz0,hz1,hz2⟩:=info_parts infoU64
 have hb:=below_alloc w (.cells #[.int .u64 (p:Int),.int .u64 (q:Int)] 137)
 refine wpList_append_own _ hgd s y 262 ho B 137 i0 (.int .u64 0) 1 8 Tryz.underlying262 hi hz0 hz1 hz2 rfl (by decide) v us.length (uCells us) hs (own_later hown hb) ⟨w.heap.size,0,none⟩ 2 2 [.int .u64 (p:Int),.int .u64 (q:Int)] hy rfl (fun j u hj=> ?_) (fun u hu=> ?_) (by unfold maxLen;omega) (by omega) (μ hB hb.size) ?_
 ·rw [Bc,Nat.zero_add,World.cell?_alloc_new]
  simpa using hj
 ·simp at hu;rcases hu with rfl | rfl<;>rfl
 ·intro v' w' hown' hg _
  refine h v' w' ?_ ((hb.mono hB).trans (Bf (own_later hown hb) (μ hB hb.size) hg)) ((Turned.below hb).trans (Turned.grown (S:=fun k=>v.ownBlock=some k) hg fun _ hk=>hk) fun _ h=> .inl h)
  unfold Hy
  rw [η,show uCells (us++[p,q])=uCells us++[.int .u64 (p:Int),.int .u64 (q:Int)] by simp [uCells]]
  exact hown'
theorem marks_step: ∀ (ms:List Mk) (s p:Int) (k:Nat) (m:Mk),Cs s p ms=true→ms[k]? =some m→(match (ms.take k).getLast? with | none=>s | some x=>x.s)<m.s∧(match (ms.take k).getLast? with | none=>p | some x=>x.p)<m.p∧m.s≤1099511627776∧m.p≤1099511627776
 | [],_,_,_,_,_,h=>by simp at h
 | x::r,s,p,0,m,h,hm=>by
  simp at hm
  subst hm
  rw [Cs] at h
  split at h
  ·cases h
  ·simp;omega
 | x::r,s,p,k+1,m,h,hm=>by
  rw [Cs] at h
  split at h
  ·cases h
  ·have ih:=marks_step r x.s x.p k m h (by simpa using hm)
   rw [List.take_succ_cons]
   rcases hr:(r.take k).getLast? with _ | y
   ·rw [hr] at ih
    rw [List.getLast?_cons,hr]
    exact ih
   ·rw [hr] at ih
    rw [List.getLast?_cons,hr]
    exact ih
theorem idxEnc_any (ms:List Mk) (v:Value) (w:World) (hv:MkRow w v ms) (hm:By ms=true):
  Calls Tryz.prog 156 #[v] w fun e w'=> ∃ v',e= .returned (.tuple #[v',.int .i64 0])∧OwnB w' w.heap.size v' (encAll (A9 0 0 ms))∧Below w.heap.size w w':=by
 have HVA:=Qh (by have:=marksValid_any ms v w hv;rw [hm] at this;exact this)
 have hm2:=hm
 unfold By at hm2
 simp only [Bool.and_eq_true,decide_eq_true_eq] at hm2
 have HLT:=Qh (by have:=Kt ms 0 (-1) hm2.2 (by omega) (by omega);rw [ζ rfl] at this;exact this)
 have HLN:=Qh (show ms.length≤512 from hm2.1)
 have HST:=Qh (fun k m=>marks_step ms 0 (-1) k m hm2.2)
 have HV:=Qh hv
 obtain⟨oa,cap,rfl,_,_,_⟩:=id hv
 clear hv hm hm2
 go_enter Tryz.func156,Tryz.ntmps156
 go_wp2_with fail
 refine HVA.out.mono ?_
 rintro e w1 ⟨rfl,hb1⟩
 have HB1:=Qh (Below.next hb1 (below_alloc w1 (.cells (mkCs ⟨0,0⟩) 135)))
 have HA:=Qh (E6 w1 ⟨0,0⟩)
 have hsz:=hb1.size
 have hs1:w1.heap.size+1≤(w1.alloc (.cells (mkCs ⟨0,0⟩) 135)).heap.size:=by simp
 simp only [mkCs] at HB1 HA hs1
 clear hb1 HVA
 go_wp2
 generalize hw2:w1.alloc (.cells #[.int .i64 0,.int .i64 0] 135)=w2 at*
 have HSZ:=Qh hs1
 clear hw2 hs1
 generalize w1.heap.size=g at*
 go_loopw [4,13] (fun uv iv wr=> ∃ k:Nat,k≤ms.length∧iv= .int .i64 (k:Int)∧Hid (Hy wr (g+1) uv (A9 0 0 (ms.take k)))∧Hid (Cl wr g (lastM (ms.take k)))∧Hid (g+1≤wr.heap.size)∧Hid (Below w.heap.size w wr)) (fun _ iv _=>ms.length - (intOf iv).toNat)
 case atStart=>exact⟨0,θ _,rfl,Qh ⟨rfl,.inl ⟨rfl,rfl⟩⟩,Qh (by rw [show lastM (ms.take 0)=⟨0,0⟩ from rfl];exact HA.out),HSZ,HB1⟩
 case round=>
  obtain⟨k,hk,rfl,HO,HX,HT,HB⟩:=hrel
  by_cases hlt:k<ms.length
  ·obtain⟨m,hmk,htk,_⟩:=Kc ms k hlt
   obtain⟨_,_,e2,_,_,hat⟩:=HV.out
   simp only [Value.slice.injEq,true_and] at e2
   obtain⟨rfl,rfl⟩:=e2
   obtain⟨b,off,rfl,hcell⟩:=hat k m hmk
   have HCE:=Qh (Ax hcell HB.out)
   have q1:(k:Int)<(ms.length:Int):=by omega
   have HLA:=Qh (show lastM (ms.take (k+1))=m∧A9 0 0 (ms.take (k+1))=A9 0 0 (ms.take k)++[(m.s - (lastM (ms.take k)).s).toNat,(m.p - (lastM (ms.take k)).p).toNat] by rw [htk];exact⟨lastM_snoc _ _,idxNums_last _ _⟩)
   have hb4:0≤m.s - (lastM (ms.take k)).s∧0≤m.p - (lastM (ms.take k)).p∧m.s - (lastM (ms.take k)).s<9223372036854775808∧m.p - (lastM (ms.take k)).p<9223372036854775808:=by
    have h1:=HST.out k m hmk
    have h2:0≤(lastM (ms.take k)).s∧0≤(lastM (ms.take k)).p:=by
     unfold lastM
     rcases hg:(ms.take k).getLast? with _ | x
     ·exact⟨Int.le_refl _,Int.le_refl _⟩
     ·have hk0:0<k:=by
       rcases Nat.eq_zero_or_pos k with rfl | h
       ·simp at hg
       ·exact h
      have hx:ms[k - 1]? =some x:=by
       rw [List.getLast?_eq_getElem?,Θ,Nat.min_eq_left hk,List.getElem?_take_of_lt (by omega)] at hg
       exact hg
      have:=HST.out (k - 1) x hx
      simp only [Option.getD_some]
      rcases hg2:(ms.take (k - 1)).getLast? with _ | y
      ·rw [hg2] at this;simp only at this;omega
      ·have hp: ∀ (j:Nat) (z:Mk),ms[j]? =some z→0≤z.s∧0≤z.p:=fun j=>by
        induction j with
        | zero=>intro z hz;have:=HST.out 0 z hz;simp at this;omega
        | succ j ih=>
         intro z hz
         have h3:=HST.out (j+1) z hz
         have hj:=(List.getElem?_eq_some_iff.1 hz).1
         have h4:=ih ms[j] (Δ (by omega))
         rw [List.getLast?_eq_getElem?,Θ,Nat.min_eq_left (by omega),List.getElem?_take_of_lt (by omega),Nat.add_sub_cancel,Δ (by omega)] at h3
         simp only at h3
         omega
       exact hp _ _ hx
    unfold lastM at h2 ⊢
    rcases hg:(ms.take k).getLast? with _ | x
    ·rw [hg] at h1 h2;simp at h1 h2 ⊢;omega
    ·rw [hg] at h1 h2;simp at h1 h2 ⊢;omega
   have HB4:=Qh hb4
   have hl5:(A9 0 0 (ms.take k)).length≤100000:=by have h5:=E5 (ms.take k) 0 0;have:=HLN.out;rw [Θ] at h5;omega
   have hlw:=HB.out.size
   have hgw:=HX.out.lt
   generalize lastM (ms.take k)=x at*
   generalize A9 0 0 (ms.take k)=us at*
   have HN:=Qh (E6 wr ⟨0,0⟩)
   have HBN:=Qh (below_alloc wr (.cells (mkCs ⟨0,0⟩) 135))
   have hw1:IntKind.i64.wrap (m.s - x.s)=m.s - x.s:=by rw [κ];omega
   have hw2':IntKind.i64.wrap (m.p - x.p)=m.p - x.p:=by rw [κ];omega
   have hw3:IntKind.u64.wrap (m.s - x.s)=m.s - x.s:=by rw [IntKind.wrap_u64];omega
   have hw4:IntKind.u64.wrap (m.p - x.p)=m.p - x.p:=by rw [IntKind.wrap_u64];omega
   have hk1:IntKind.i64.wrap ((k:Int)+1)=(k:Int)+1:=by rw [κ];omega
   simp only [mkCs] at HN HBN
   clear hmk htk hcell hat hb4
   go_wp2_with (first | (with_reducible refine wpList_load_mkAt rfl (.tmp 15) rfl b (off+k*2) m rfl HCE.out ?_) | (with_reducible refine wpList_store_mk rfl (.tmp 7) (.tmp 16) rfl wr.heap.size ⟨0,0⟩ m rfl rfl HN.out ?_))
   intro w3 hm3 ht3
   have HM3:=Qh hm3
   have HX3:=Qh (show Cl w3 g x by
    unfold Cl
    rw [ht3.block _ (Nat.lt_of_lt_of_le hgw HBN.out.size) (by omega)]
    exact HX.out.below HBN.out)
   have HNE:=Qh (fun j hj=>(World.ownsRow.lt HO.out j hj).2)
   have HO3:=Qh (show Hy w3 (g+1) _ us from own_turnedB' (HO.out.later HBN.out) ht3 fun j hj=>by have:=(World.ownsRow.lt HO.out j hj).2;omega)
   have HB3:=Qh (turned_blw (HB.out.trans (HBN.out.mono hlw)) ht3 (fun i hi=>by omega) (by have:=HBN.out.size;omega))
   have hs3:g+1≤w3.heap.size:=by have:=HT.out;have:=HBN.out.size;have:=ht3.size;omega
   have c0:=hm3.c0
   have c1:=hm3.c1
   have d0:=HX3.out.c0
   have d1:=HX3.out.c1
   have hgx:wr.heap.size<w3.heap.size:=hm3.lt
   have hwg:w.heap.size≤g:=by have:=hsz;omega
   clear hm3 ht3 HN HBN HCE HO HX HT HB
   generalize wr.heap.size=gx at*
   have e1:m.s - x.s=(((m.s - x.s).toNat:Nat):Int):=by have:=HB4.out;omega
   have e2:m.p - x.p=(((m.p - x.p).toNat:Nat):Int):=by have:=HB4.out;omega
   have E1:=Qh e1
   have E2:=Qh e2
   clear e1 e2
   go_wp2_with (with_reducible refine wpList_app2 (p:=(m.s - x.s).toNat) (q:=(m.p - x.p).toNat) rfl (.tmp 17) (.tmp 30) rfl rfl rfl rfl HO3.out hs3 E1.out E2.out hl5 ?_)
   intro v4 w4 ho4 hb4 hs4
   have HM4:=Qh (show Cl w4 gx m from(hs4.block gx hgx fun e=>by have:=HNE.out gx e;omega).trans HM3.out)
   have HX4:=Qh (HX3.out.keep hb4 (Nat.lt_succ_self g))
   have HO4:=Qh ho4
   have HB4':=Qh (HB3.out.trans (hb4.mono (by omega)))
   have HT4:=Qh (show g+1≤w4.heap.size from μ hs3 hs4.size)
   clear ho4 hb4 hs4 c0 c1 d0 d1 HO3 HX3 HM3 HB3
   go_wp2_with (first | (with_reducible refine wpList_load_mk rfl (.tmp 7) rfl gx m rfl HM4.out ?_) | (with_reducible refine wpList_store_mk rfl (.tmp 5) (.tmp 32) rfl g x m rfl rfl HX4.out ?_))
   intro w5 hm5 ht5
   have HX5:=Qh hm5
   have HO5:=Qh (show Hy w5 (g+1) _ (us++[(m.s - x.s).toNat,(m.p - x.p).toNat]) from own_turnedB' HO4.out ht5 fun j hj=>by have:=(World.ownsRow.lt HO4.out j hj).1;omega)
   have HB5:=Qh (turned_blw HB4'.out ht5 (fun i hi=>by omega) HB4'.out.size)
   have HT5:=Qh (show g+1≤w5.heap.size from μ HT4.out ht5.size)
   clear hm5 ht5
   go_wp2
   go_roundw
   case rel=>exact⟨k+1,by omega,by go_num,Qh (by rw [HLA.out.2];exact HO5.out),Qh (by rw [HLA.out.1];exact HX5.out),HT5,HB5⟩
   case measure=>simp [intOf];omega
  ·obtain rfl:k=ms.length:=by omega
   rw [List.take_length] at HO
   have HEA:=Qh (by
    refine encodeAll_any (A9 0 0 ms) _ wr HO.out.row (fun u hu=> ?_) ?_
    ·have:=HLT.out u hu;omega
    ·have:=E5 ms 0 0;have:=HLN.out;omega)
   obtain⟨ob,cb,rfl,_,_⟩:=Ac HO.out
   go_wp2_with fail
   refine HEA.out.mono ?_
   rintro e w5 ⟨v5,rfl,h5,hb5⟩
   have HO5:=Qh (h5.mono HB.out.size)
   have HB5:=Qh (Below.next HB.out hb5)
   clear h5 hb5
   go_wp2
   go_ret2
   exact⟨_,rfl,HO5.out,HB5.out⟩
theorem nums_any (us:List Nat) (g:Nat) (w:World) (hu: ∀ u∈us,u<9223372036854775808) (hl:us.length≤100) (hc: ∀ (i:Nat) u,us[i]? =some u→w.cell? ⟨g,i,none⟩=some (.int .i64 (u:Int))):
  Calls Tryz.prog 124 #[.slice (some ⟨g,0,none⟩) us.length us.length] w fun e w'=> ∃ v,e= .returned v∧OwnB w' w.heap.size v (us.flatMap encV)∧Below w.heap.size w w':=by
 have HC:=Qh hc
 have HU:=Qh hu
 have HLE:=Qh (fun k=>show ((us.take k).flatMap encV).length≤10*us.length from by
  have h: ∀ l:List Nat,(∀ u∈l,u<9223372036854775808)→(l.flatMap encV).length≤10*l.length:=fun l=>by
   induction l with
   | nil=>intro _;simp
   | cons x r ih=>
    intro h
    have h1:=Bl (show x<18446744073709551616 by have:=h x (by simp);omega)
    have h2:=ih fun u hu=>h u (by simp [hu])
    rw [List.flatMap_cons,η,φ]
    omega
  have h1:=h (us.take k) fun u hx=>hu u (List.mem_of_mem_take hx)
  rw [Θ] at h1
  omega)
 clear hc hu
 go_enter Tryz.func124,Tryz.ntmps124
 go_wp2
 go_loopw [3,8] (fun bv iv wr=> ∃ k:Nat,k≤us.length∧iv= .int .i64 (k:Int)∧Hid (OwnB wr w.heap.size bv ((us.take k).flatMap encV))∧Hid (Below w.heap.size w wr)) (fun _ iv _=>us.length - (intOf iv).toNat)
 case atStart=>exact⟨0,θ _,rfl,Qh (OwnB.nil w _),Qh (τ _ _)⟩
 case round=>
  obtain⟨k,hk,rfl,HO,HB⟩:=hrel
  by_cases hlt:k<us.length
  ·obtain⟨u,hx,htk,hm⟩:=Kc us k hlt
   have q1:(k:Int)<(us.length:Int):=by omega
   have hub:=HU.out u hm
   have c1:=cell_later HB.out (HC.out k u hx)
   have HS:=Qh (Ds u wr (by omega))
   have HX:=Qh (show (us.take (k+1)).flatMap encV=(us.take k).flatMap encV++encV u by rw [htk];simp)
   have HL:=Qh (show ((us.take k).flatMap encV).length+(encV u).length≤140737488355328 by have:=HLE.out k;have:=Bl (show u<18446744073709551616 by omega);omega)
   have hw1:IntKind.u64.wrap (u:Int)=(u:Int):=by rw [IntKind.wrap_u64];omega
   have hk1:IntKind.i64.wrap ((k:Int)+1)=(k:Int)+1:=by rw [κ];omega
   generalize (us.take k).flatMap encV=p at*
   generalize encV u=q at*
   clear hx htk hm hub
   go_wp2_with fail
   refine HS.out.mono ?_
   rintro e w1 ⟨v1,rfl,h1,h2⟩
   have H1:=Qh h1
   have HB1:=Qh (Below.next HB.out h2)
   have HO1:=Qh (HO.out.later h2)
   clear h1 h2 HS HO c1
   go_wp2_with (at_builtin;refine wpList_appB rfl _ _ rfl rfl rfl HO1.out ?c1 H1.out.brow HL.out ?_)
   case c1=>exact HB1.out.size
   intro v' w' h1 h2
   have HF:=Qh h1
   have HG:=Qh (HB1.out.trans h2)
   clear h1 h2
   go_wp2
   go_roundw
   case rel=>exact⟨k+1,by omega,by go_num,Qh (by rw [HX.out];exact HF.out),HG⟩
   case measure=>simp [intOf];omega
  ·obtain rfl:k=us.length:=by omega
   rw [List.take_length] at HO
   go_wp2
   go_ret
   exact⟨_,rfl,HO.out,HB.out⟩
theorem body_any (first count stride:Nat) (ms:List Mk) (mv:Value) (w:World) (hr:MkRow w mv ms) (hm:By ms=true) (h1:first≤1099511627777) (h2:count≤512) (h3:stride≤64):
  Calls Tryz.prog 123 #[clV (first:Int) (count:Int) (stride:Int) mv] w fun e w'=> ∃ v,e= .returned v∧OwnB w' w.heap.size v (footBody first count stride ms)∧Below w.heap.size w w':=by
 have hb0:=below_alloc w (.cells (clCs (first:Int) (count:Int) (stride:Int) mv) 186)
 have HB0:=Qh hb0
 have HC0:=Qh (show Fm (w.alloc (.cells (clCs (first:Int) (count:Int) (stride:Int) mv) 186)) w.heap.size (first:Int) (count:Int) (stride:Int) mv from σ w _)
 have HE:=Qh (idxEnc_any ms mv _ (hr.below hb0) hm)
 have HL:=Qh (footBody_len h1 h2 h3 hm)
 have HNB:=Qh (show ∀ u∈ [first,count,stride],u<9223372036854775808 by simp;omega)
 have HFB:=Qh (show footBody first count stride ms=[first,count,stride].flatMap encV++encAll (A9 0 0 ms) by unfold footBody;simp)
 rw [HFB.out,η] at HL
 rw [HFB.out]
 have HNU:=Qh (fun g w hc=>nums_any [first,count,stride] g w HNB.out (by simp) hc)
 generalize encAll (A9 0 0 ms)=q at*
 generalize [first,count,stride].flatMap encV=p at*
 simp only [clCs] at HB0 HC0 HE
 clear hb0 hr hm h1 h2 h3 HFB
 go_enter Tryz.func123,Tryz.ntmps123
 go_wp2_with fail
 refine HE.out.mono ?_
 rintro e w1 ⟨v1,rfl,ho1,hb1⟩
 have HO1:=Qh ho1
 have HB1:=Qh (Below.next HB0.out hb1)
 have HC1:=Qh (show Fm w1 w.heap.size (first:Int) (count:Int) (stride:Int) mv from(hb1.block _ (by simp)).trans HC0.out)
 have c0:w1.cell? ⟨w.heap.size,0,none⟩=some (.int .i64 (first:Int)):=cell_of_row w1 _ 0 _ _ _ HC1.out
 have c1:w1.cell? ⟨w.heap.size,1,none⟩=some (.int .i64 (count:Int)):=cell_of_row w1 _ 1 _ _ _ HC1.out
 have c2:w1.cell? ⟨w.heap.size,2,none⟩=some (.int .i64 (stride:Int)):=cell_of_row w1 _ 2 _ _ _ HC1.out
 have HN:=Qh (HNU.out w1.heap.size (w1.alloc (.cells #[.int .i64 (first:Int),.int .i64 (count:Int),.int .i64 (stride:Int)] 3)) (fun i u hu=>by
  rw [World.cell?_alloc_new]
  match i,hu with
  | 0,hu=>simp at hu;subst hu;rfl
  | 1,hu=>simp at hu;subst hu;rfl
  | 2,hu=>simp at hu;subst hu;rfl))
 have hb2:=below_alloc w1 (.cells #[.int .i64 (first:Int),.int .i64 (count:Int),.int .i64 (stride:Int)] 3)
 have HB2:=Qh (Below.next HB1.out hb2)
 have HO2:=Qh (ho1.later hb2)
 clear ho1 hb1 hb2 HE HNU HO1
 go_wp2_with fail
 refine HN.out.mono ?_
 rintro e w3 ⟨v3,rfl,ho3,hb3⟩
 have HO3:=Qh (ho3.mono HB2.out.size)
 have HB3:=Qh (Below.next HB2.out hb3)
 have HQ3:=Qh (HO2.out.later hb3)
 have hlen:p.length+q.length≤140737488355328:=by have:=HL.out;omega
 clear ho3 hb3 HN c0 c1 c2
 go_wp2_with (at_builtin;refine wpList_appB rfl _ _ rfl rfl rfl HO3.out ?c1 HQ3.out.brow hlen ?_)
 case c1=>exact HB3.out.size
 intro v' w' h1 h2
 have HF:=Qh h1
 have HG:=Qh (HB3.out.trans h2)
 clear h1 h2
 go_wp2
 go_ret
 exact⟨_,rfl,HF.out,HG.out⟩
def Hp (num first count good:Nat):Array Value:= #[.int .i64 (num:Int),.int .i64 (first:Int),.int .i64 (count:Int),.bool false,.int .i64 0,.slice none 0 0,.int .i64 (good:Int)]
@[reducible] def sgmV (num first count good : Nat) : Value := .agg #[.int .i64 (num : Int), .int .i64 (first : Int), .int .i64 (count : Int), .bool false, .int .i64 0, .slice none 0 0, .int .i64 (good : Int)]
theorem sgmInfo:(Tryz.prog.info? 202).map (·.size)=some 7:=by kernel_rfl
def F7 (w:World) (b num first count good:Nat):Prop:=w.heap[b]? =some (.cells (Hp num first count good) 202 (0,0))
theorem F7.lt {w:World} {b n f c g:Nat} (h:F7 w b n f c g):b<w.heap.size:=(δ.1 h).1
theorem F7.below {w w':World} {b n f c g:Nat} (h:F7 w b n f c g) (hb:Below w.heap.size w w'):F7 w' b n f c g:=(hb.block _ h.lt).trans h
theorem F7.cell {w:World} {b n f c g:Nat} (h:F7 w b n f c g) (j:Nat):w.cell? ⟨b,j,none⟩=(Hp n f c g)[j]? :=cell_of_row w b j _ _ _ h
theorem sgm_alloc (w:World):F7 (w.alloc (.cells (Hp 0 0 0 0) 202)) w.heap.size 0 0 0 0:=σ w _
theorem wpList_store_sgm {ops:Array Oper} {rest:List Oper} {o:Oper} {a:Act} {w:World} {Q:Exit→Act→World→Prop} (hgd:o.guard=none) (x y:Operand) (ho:o.op= .store 202 x y)
  (b n f c g n' f' c' g':Nat) (hx:a.eval x= .pointer (some ⟨b,0,none⟩)) (hy:a.eval y=sgmV n' f' c' g') (hE:F7 w b n f c g)
  (h: ∀ W,F7 W b n' f' c' g'→Turned (fun k=>k=b) w W→wpList Tryz.prog ops Q rest (a.put o.dst undef) W):wpList Tryz.prog ops Q (o::rest) a w:=
 wpList_store_row hgd 202 x y ho b (Hp n' f' c' g') hx hy 202 (Hp n f c g) hE sgmInfo rfl (Array.all_eq_true_iff_forall_mem.2 (by
  intro u hu
  simp only [Hp,List.mem_toArray,Γ,List.not_mem_nil,or_false] at hu
  rcases hu with rfl | rfl | rfl | rfl | rfl | rfl | rfl<;>rfl)) (h _ (setRow_heap w b _ _ _ _ hE) (setRow_trn _ _ _))
theorem wpList_load_sgm {ops:Array Oper} {rest:List Oper} {o:Oper} {a:Act} {w:World} {Q:Exit→Act→World→Prop} (hgd:o.guard=none) (x:Operand) (ho:o.op= .load 202 x)
  (b n f c g:Nat) (hx:a.eval x= .pointer (some ⟨b,0,none⟩)) (hE:F7 w b n f c g)
  (h:wpList Tryz.prog ops Q rest (a.put o.dst (sgmV n f c g)) w):wpList Tryz.prog ops Q (o::rest) a w:=
 wpList_load_row hgd 202 x ho b hx 202 (Hp n f c g) (0,0) _ hE Tryz.underlying202 rfl sgmInfo h
theorem run_load_sgm {w:World} {b n f c g:Nat} (hE:F7 w b n f c g):(loadVar 202 ⟨b,0,none⟩).run Tryz.prog w= .ok (sgmV n f c g) w:=
 run_loadVar_row (P:=Tryz.prog) w b 202 202 (Hp n f c g) (0,0) _ hE Tryz.underlying202 rfl sgmInfo
theorem results_sgm3 {fn:Func} {p q r:Tmp} (h:fn.results= #[.cell p 202,.tmp q,.tmp r]) (tmps:Array Value) (w:World) (b n f c g:Nat) (x y:Value)
  (hp:tmps.getD p undef= .pointer (some ⟨b,0,none⟩)) (hq:tmps.getD q undef=x) (hr:tmps.getD r undef=y) (hE:F7 w b n f c g):(results fn tmps).run Tryz.prog w= .ok (.tuple #[sgmV n f c g,x,y]) w:=by
 have hl:=run_load_sgm hE
 have hp':tmps[p]?.getD undef= .pointer (some ⟨b,0,none⟩):=by simpa using hp
 have hq':tmps[q]?.getD undef=x:=by simpa using hq
 have hr':tmps[r]?.getD undef=y:=by simpa using hr
 simp [results,h,hp',hq',hr',asAddr,hl]
theorem Jn.turned {A S:Nat→Prop} {w w':World} {v:Value} {ps:List Plc} (h:Jn A w v ps) (ht:Turned S w w') (hS: ∀ k,A k→ ¬ S k):Jn A w' v ps:=by
 obtain⟨oa,cap,h1,h2,h3,h4⟩:=h
 refine⟨oa,cap,h1,h2,h3,fun hn=> ?_⟩
 obtain⟨b,off,e,ha,hc⟩:=h4 hn
 refine⟨b,off,e,ha,fun i p hp=> ?_⟩
 obtain⟨dv,h5,h6⟩:=hc i p hp
 exact⟨dv,fun j u hj=>ht.cell (h5 j u hj) (hS b ha),h6.turned ht hS⟩
def ScanW (w:World) (num first good:Nat) (ps:List Plc) (e:Ending) (w':World):Prop:= ∃ pv,e= .returned (.tuple #[sgmV num first ps.length good,pv,.int .i64 0])∧Jn (fun k=>w.heap.size≤k) w' pv ps∧Below w.heap.size w w'
theorem scan_whole (b:List UInt8) (v:Value) (num first at_:Nat) (ps:List Plc) (w:World) (hv:A2 w v b) (hl:b.length≤67108864) (hn:NibTab w) (hh:A6 b=(num,first,at_,0)) (ha:at_≤b.length) (hs:scanRun b at_ first 512=(ps,b.length)):
  Calls Tryz.prog 122 #[v] w (ScanW w num first b.length ps):=by
 have HB0:=Qh (below_alloc w (.cells (Hp 0 0 0 0) 202))
 have HR0:=Qh (sgm_alloc w)
 have HV0:=Qh (hv.below HB0.out)
 have HN0:=Qh (hn.below HB0.out)
 have HH:=Qh (by have:=hdrOf_any b v _ HV0.out (by omega) HN0.out;rw [hh] at this;exact this)
 have HS:=Qh (fun W hV hN=>by have:=Jk b v at_ first 512 W hV hl hN ha (by decide) (by decide);rw [hs] at this;exact this)
 have HL:=Qh hl
 have HPL:=Qh (show ps.length≤512 from by
  have:=congrArg (fun x=>x.1.length) hs
  simp only [scanRun,plcs,List.length_map] at this
  have h2:=Jl (first:=first) (most:=512) (frs (b.drop at_)) 0 (by decide)
  omega)
 obtain⟨oa,cap,rfl,_,_⟩:=id hv
 simp only [Hp] at HB0 HR0 HV0 HN0 HH
 unfold HdrPost at HH
 unfold RunP at HS
 clear hv hl hn hh ha hs
 go_enter Tryz.func122,Tryz.ntmps122
 go_wp2_with fail
 refine HH.out.mono ?_
 rintro e w1 ⟨rfl,hb1⟩
 have HB1:=Qh (Below.next HB0.out hb1)
 have HV1:=Qh (HV0.out.below hb1)
 have HN1:=Qh (HN0.out.below hb1)
 have HR1:=Qh (HR0.out.below hb1)
 have HS1:=Qh (HS.out w1 HV1.out HN1.out)
 clear hb1 HB0 HV0 HN0 HR0 HH HS
 go_wp2_with fail
 refine HS1.out.mono ?_
 rintro e w2 ⟨pv,rfl,hp2,hb2⟩
 have HB2:=Qh (Below.next HB1.out hb2)
 have HV2:=Qh (HV1.out.below hb2)
 have HN2:=Qh (HN1.out.below hb2)
 have HR2:=Qh (HR1.out.below hb2)
 have HP2:=Qh (hp2.mono (A':=fun k=>w.heap.size<k) fun k hk=>Nat.lt_of_lt_of_le HR1.out.lt hk)
 obtain⟨op,pc,rfl,_,_,_⟩:=hp2.shape
 have HA3:=Qh (show F7 (w2.alloc (.cells (Hp num first ps.length b.length) 202)) w2.heap.size num first ps.length b.length from σ w2 _)
 have hb3:=below_alloc w2 (.cells (Hp num first ps.length b.length) 202)
 have HB3:=Qh (Below.next HB2.out hb3)
 have HV3:=Qh (HV2.out.below hb3)
 have HR3:=Qh (HR2.out.below hb3)
 have HP3:=Qh (HP2.out.below hb3)
 have HNE:=Qh (show ¬ w2.heap.size=w.heap.size from by have:=HR2.out.lt;omega)
 have HD:=Qh (fun v' (hV:A2 (w2.alloc (.cells (Hp num first ps.length b.length) 202)) v' [])=>by
  have:=Ia [] v' _ hV (by simp) (HN2.out.below hb3)
  rw [show decF []=(Jv,0,60) from rfl] at this
  exact this)
 unfold DecPost at HD
 simp only [Hp] at HA3 HB3 HV3 HR3 HP3 HD
 clear hb2 hp2 hb3 HB1 HV1 HN1 HR1 HS1 HB2 HV2 HN2 HR2 HP2
 go_wp2_with (with_reducible refine wpList_cut_l rfl (.tmp 41) (.tmp 42) rfl oa cap b.length b rfl rfl HV3.out (ξ _) ?_)
 intro oa' cap' hv'
 have HD':=Qh (HD.out _ hv')
 clear HD hv' HV3
 generalize w2.alloc (.cells #[.int .i64 (num:Int),.int .i64 (first:Int),.int .i64 (ps.length:Int),.bool false,.int .i64 0,.slice none 0 0,.int .i64 (b.length:Int)] 202)=w3 at*
 go_wp2_with fail
 refine HD'.out.mono ?_
 rintro e w4 ⟨bv,rfl,hbv,hb4⟩
 obtain⟨ob,cb,rfl,_,_⟩:=hbv
 have hb5:=below_alloc w4 (.cells #[.int .i64 Jv.k,.int .i64 Jv.s,.slice ob Jv.body.length cb] 101)
 have HB5:=Qh (Below.next (Below.next HB3.out hb4) hb5)
 have HR5:=Qh ((HR3.out.below hb4).below hb5)
 have HA5:=Qh ((HA3.out.below hb4).below hb5)
 have HP5:=Qh ((HP3.out.below hb4).below hb5)
 clear hb4 hb5
 go_wp2_with (first | with_reducible refine wpList_load_sgm rfl (.tmp 11) rfl w2.heap.size num first ps.length b.length rfl HA5.out ?_ | with_reducible refine wpList_store_sgm rfl (.tmp 2) (.tmp 61) rfl w.heap.size 0 0 0 0 num first ps.length b.length rfl rfl HR5.out ?_)
 intro w6 hs6 ht6
 have HS6:=Qh hs6
 have HB6:=Qh (show Below w.heap.size w w6 from turned_blw HB5.out ht6 (fun k hk=>by omega) HB5.out.size)
 have HP6:=Qh ((HP5.out.turned ht6 fun k hk e=>Nat.lt_irrefl _ (e▸hk)).mono (A':=fun k=>w.heap.size≤k) fun k hk=>Nat.le_of_lt hk)
 clear hs6 ht6
 go_wp2
 exact π (results_sgm3 rfl _ _ _ _ _ _ _ _ _ rfl rfl rfl HS6.out) rfl ⟨_,rfl,HP6.out,HB6.out⟩
def Gw (f:Nat) (s:Cb) (mv sv:Value):Array Value:= #[.int .i64 (s.count:Int),.int .i64 (s.size:Int),mv,.pointer (some ⟨f,0,none⟩),.int .i64 (s.stride:Int),.int .i64 (s.segEv:Int),
 .int .i64 s.man.gen,.int .i64 s.man.next,.int .i64 s.man.floor,.int .i64 s.man.snap,.int .i64 s.man.snapSeq,sv,.bool s.closed,.int .i64 (s.decoded:Int)]
def B0 (w:World) (b f:Nat) (s:Cb) (mv sv:Value):Prop:=w.heap[b]? =some (.cells (Gw f s mv sv) 82 (0,0))
section
variable {w w' : World} {b f : Nat} {s s' : Cb} {mv sv mv' sv' : Value}
theorem B0.lt (h:B0 w b f s mv sv):b<w.heap.size:=(δ.1 h).1
theorem B0.cell (h:B0 w b f s mv sv) (j:Nat):w.cell? ⟨b,j,none⟩=(Gw f s mv sv)[j]? :=by unfold B0 at h;simp [World.cell?,h]
theorem B0.free (h:B0 w b f s mv sv) (j:Nat):w.frozen? ⟨b,j,none⟩=false:=by unfold B0 at h;simp [World.frozen?,h]
theorem B0.keep (h:B0 w b f s mv sv) (hk:w'.heap[b]? =w.heap[b]?):B0 w' b f s mv sv:=by unfold B0 at *;rw [hk];exact h
theorem B0.set (h:B0 w b f s mv sv) (j:Nat) (v:Value) (e:(Gw f s mv sv).setIfInBounds j v=Gw f s' mv' sv'):B0 (w.setCell ⟨b,j,none⟩ v) b f s' mv' sv':=by
 unfold B0 at h ⊢
 rw [←e]
 simp only [World.setCell]
 rw [Array.getElem?_modify]
 simp [h]
end
def A0 (b:Nat) (mv:Value) (f m:Nat) (L:List Ad) (k:Nat):Prop:=k=b∨mv.ownBlock=some k∨foot f m L k
structure SJ (w:World) (b f m:Nat) (L:List Ad) (d:Ab) (s:Cb) (mv sv:Value):Prop where
 blk:B0 w b f s mv sv
 fs:FsAt w f m d L
 mks:Cm w 0 mv s.marks
 sg:Dl (fun k=> ¬ A0 b mv f m L k) w sv s.man.segs
 nib:NibTab w
 gl:4≤w.heap.size∧ ∀ k,k<4→ ¬ A0 b mv f m L k
 sep: ¬ foot f m L b∧mv.ownBlock≠some b∧ ∀ k,mv.ownBlock=some k→ ¬ foot f m L k
section
variable {w w' : World} {b f m : Nat} {L : List Ad} {d d' : Ab} {s s' : Cb} {mv sv : Value}
theorem mk_lt (h:Cm w 0 mv s.marks): ∀ k,mv.ownBlock=some k→k<w.heap.size:=fun k hk=>(World.ownsRow.lt h k hk).2
theorem SJ.lt (h:SJ w b f m L d s mv sv): ∀ k,A0 b mv f m L k→k<w.heap.size:=by
 rintro k (rfl | hk | hk)
 ·exact h.blk.lt
 ·exact mk_lt h.mks k hk
 ·exact h.fs.lt k hk
theorem Cm.kept' {B:Nat} {v:Value} {ms:List Mk} (h:Cm w B v ms) (hk: ∀ k,v.ownBlock=some k→w'.heap[k]? =w.heap[k]?):Cm w' B v ms:=by
 refine⟨h.1,?_⟩
 rcases h.2 with hn | ⟨g,cap,cur,rfl,hb1,hg,rest⟩
 ·exact .inl hn
 ·exact .inr ⟨g,cap,cur,rfl,hb1,by rw [hk g rfl];exact hg,rest⟩
theorem SJ.turned {S:Nat→Prop} (h:SJ w b f m L d s mv sv) (ht:Turned S w w') (hS: ∀ k,S k→k<w.heap.size→False):SJ w' b f m L d s mv sv:=by
 have hb:Below w.heap.size w w':=⟨ht.os,ht.tape,ht.output,ht.size,fun k hk=>ht.block k hk fun hs=>hS k hs hk⟩
 exact⟨h.blk.keep (hb.block b h.blk.lt),h.fs.below hb,h.mks.kept' fun k hk=>hb.block k (mk_lt h.mks k hk),h.sg.below hb,h.nib.below hb,⟨μ h.gl.1 hb.size,h.gl.2⟩,h.sep⟩
theorem SJ.below (h:SJ w b f m L d s mv sv) (hb:Below w.heap.size w w'):SJ w' b f m L d s mv sv:=h.turned (Turned.below (S:=fun _=>False) hb) fun _ hs _=>hs
theorem SJ.diskL {L':List Ad} (h:SJ w b f m L d s mv sv) (h1:FsAt w' f m d' L') (h2:Turned (foot f m L) w w') (h3: ∀ k,foot f m L' k→foot f m L k∨w.heap.size≤k):
  SJ w' b f m L' d' s mv sv∧Turned (A0 b mv f m L) w w'∧ ∀ k,A0 b mv f m L' k→A0 b mv f m L k∨w.heap.size≤k:=by
 have hsub: ∀ k,A0 b mv f m L' k→A0 b mv f m L k∨w.heap.size≤k:=by
  rintro k (hk | hk | hk)
  ·exact .inl (.inl hk)
  ·exact .inl (.inr (.inl hk))
  ·exact(h3 k hk).imp (fun x=> .inr (.inr x)) id
 have hbl: ∀ k,k<w.heap.size→ ¬ foot f m L k→w'.heap[k]? =w.heap[k]? :=fun k a b=>h2.block k a b
 refine⟨⟨h.blk.keep (hbl b h.blk.lt h.sep.1),h1,h.mks.kept' fun k hk=>hbl k (mk_lt h.mks k hk) (h.sep.2.2 k hk),?_,?_,⟨μ h.gl.1 h2.size,fun k hk hc=> ?_⟩,?_⟩,h2.mono fun k hk=> .inr (.inr hk),hsub⟩
 ·refine(h.sg.low.turned h2 fun k hk hc=>hk.1 (.inr (.inr hc))).mono fun k hk hc=> ?_
  rcases hsub k hc with hc | hc
  ·exact hk.1 hc
  ·omega
 ·exact h.nib.turned h2 (fun hc=>h.gl.2 _ (by decide) (.inr (.inr hc))) h.nib.lt
 ·rcases hsub k hc with hc | hc
  ·exact h.gl.2 k hk hc
  ·have:=h.gl.1;omega
 ·refine⟨fun hc=> ?_,h.sep.2.1,fun k hk hc=> ?_⟩
  ·rcases h3 _ hc with hc | hc
   ·exact h.sep.1 hc
   ·have:=h.blk.lt;omega
  ·rcases h3 _ hc with hc | hc
   ·exact h.sep.2.2 k hk hc
   ·have:=mk_lt h.mks k hk;omega
theorem SJ.disk (h:SJ w b f m L d s mv sv) (hp:FsPost w f m L d' w'): ∃ L',SJ w' b f m L' d' s mv sv∧Turned (A0 b mv f m L) w w'∧ ∀ k,A0 b mv f m L' k→A0 b mv f m L k∨w.heap.size≤k:=by
 obtain⟨L',h1,h2,h3⟩:=hp
 exact⟨L',h.diskL h1 h2 h3⟩
theorem SJ.read (h:SJ w b f m L d s mv sv) (h1:FsAt w' f m d' L) (h2:Turned (fun i=>i=f) w w'):SJ w' b f m L d' s mv sv:=
 (h.diskL h1 (h2.mono fun _ hk=> .inl hk) fun _ hk=> .inl hk).1
theorem SJ.set {j:Nat} {v:Value} (h:SJ w b f m L d s mv sv) (e:(Gw f s mv sv).setIfInBounds j v=Gw f s' mv sv) (e1:s'.marks=s.marks) (e2:s'.man.segs=s.man.segs):SJ (w.setCell ⟨b,j,none⟩ v) b f m L d s' mv sv∧Turned (A0 b mv f m L) w (w.setCell ⟨b,j,none⟩ v):=by
 have ht:Turned (fun k=>k=b) w (w.setCell ⟨b,j,none⟩ v):=Turned.setCell _ _ _ rfl
 refine⟨⟨h.blk.set j v e,h.fs.turned ht (fun k hk he=>h.sep.1 (he▸hk)),?_,?_,h.nib.turned ht (fun hc=>h.gl.2 _ (by decide) (.inl hc)) h.nib.lt,⟨μ h.gl.1 ht.size,h.gl.2⟩,h.sep⟩,ht.mono fun k hk=> .inl hk⟩
 ·rw [e1]
  exact h.mks.kept' fun k hk=>ht.block k (mk_lt h.mks k hk) fun hc=>h.sep.2.1 (hc▸hk)
 ·rw [e2]
  exact h.sg.turned ht fun k hk hc=>hk (.inl hc)
end
def Dc (w:World) (b f m:Nat) (L:List Ad) (mv:Value) (d':Ab) (s':Cb) (w':World):Prop:=
 ∃ L' mv' sv',SJ w' b f m L' d' s' mv' sv'∧Turned (A0 b mv f m L) w w'∧ ∀ k,A0 b mv' f m L' k→A0 b mv f m L k∨w.heap.size≤k
theorem Dc.same {w:World} {b f m:Nat} {L:List Ad} {d:Ab} {s:Cb} {mv sv:Value} (h:SJ w b f m L d s mv sv):Dc w b f m L mv d s w:=⟨L,mv,sv,h,Turned.refl _ _,fun _ h=> .inl h⟩
theorem Dc.below {w w':World} {b f m:Nat} {L:List Ad} {d:Ab} {s:Cb} {mv sv:Value} (h:SJ w b f m L d s mv sv) (hb:Below w.heap.size w w'):Dc w b f m L mv d s w':=⟨L,mv,sv,h.below hb,Turned.below hb,fun _ h=> .inl h⟩
theorem Dc.then {w w1 w2:World} {b f m:Nat} {L L1:List Ad} {d':Ab} {s':Cb} {mv mv1:Value} (h:Dc w1 b f m L1 mv1 d' s' w2) (ht:Turned (A0 b mv f m L) w w1) (hL: ∀ k,A0 b mv1 f m L1 k→A0 b mv f m L k∨w.heap.size≤k):Dc w b f m L mv d' s' w2:=by
 obtain⟨L',mv',sv',h1,h2,h3⟩:=h
 refine⟨L',mv',sv',h1,ht.trans h2 hL,fun k hk=> ?_⟩
 rcases h3 k hk with h4 | h4
 ·exact hL k h4
 ·exact .inr (μ ht.size h4)
theorem scanRun_len {b:List UInt8} {at_ first:Nat} {ps:List Plc} {n:Nat} (hs:scanRun b at_ first 512=(ps,n)):ps.length≤512:=by
 have:=congrArg (fun x=>x.1.length) hs
 simp only [scanRun,plcs,List.length_map] at this
 have h2:=Jl (first:=first) (most:=512) (frs (b.drop at_)) 0 (by decide)
 omega
theorem Cm.lit {w:World} {B:Nat} {v:Value} {ms:List Mk} (h:Cm w B v ms): ∃ oa cap,v= .slice oa ms.length cap:=by
 obtain⟨oa,cap,e,_⟩:=Ac h
 exact⟨oa,cap,e⟩
theorem footer_any (b:List UInt8) (v:Value) (num first at_ stride:Nat) (ps:List Plc) (w:World) (hv:A2 w v b) (hl:b.length≤67108864) (hn:NibTab w) (hh:A6 b=(num,first,at_,0)) (ha:at_≤b.length) (hs:scanRun b at_ first 512=(ps,b.length))
  (h0:ps≠ []) (hst:1≤stride∧stride≤64) (hm:By (bldM stride 0 ps)=true) (hf:first≤1099511627777):
  Calls Tryz.prog 79 #[v,.int .i64 (stride:Int)] w (Bd w (Bg 3 (num:Int) (footBody first ps.length stride (bldM stride 0 ps)))):=by
 have HS:=Qh (scan_whole b v num first at_ ps w hv hl hn hh ha hs)
 have HPL:=Qh (scanRun_len hs)
 have HST:=Qh hst
 have HMV:=Qh hm
 have HF:=Qh hf
 have HN:=Qh hn
 obtain⟨oa,cap,rfl,_,_⟩:=id hv
 have q0:((ps.length:Int)==0)=false:=by
  have:=Ψ.2 h0
  simp;exact h0
 have q1:decide ((stride:Int)<1)=false:=ρ (by omega)
 have q2:decide (64<(stride:Int))=false:=ρ (by omega)
 have q3:((b.length:Int)==(b.length:Int))=true:=by simp
 clear hv hl hn hh ha hs hst hm hf h0
 obtain⟨bl,hbl⟩: ∃ bl,bl=footBody first ps.length stride (bldM stride 0 ps):=⟨_,rfl⟩
 rw [←hbl]
 have HBL:=Qh hbl
 clear hbl
 obtain⟨ms,hms⟩: ∃ ms,ms=bldM stride 0 ps:=⟨_,rfl⟩
 rw [←hms] at HMV HBL
 have HMS:=Qh hms
 clear hms
 unfold ScanW at HS
 obtain⟨rl,re,hre⟩: ∃ rl re,Bg 3 (num:Int) bl=(rl,re):=⟨_,_,rfl⟩
 rw [hre]
 have HRE:=Qh hre
 clear hre
 go_enter Tryz.func79,Tryz.ntmps79
 go_wp2_with fail
 refine HS.out.mono ?_
 rintro e w1 ⟨pv,rfl,hp1,hb1⟩
 obtain⟨op,pc,rfl,_,_,_⟩:=hp1.shape
 have HA:=Qh (show F7 (w1.alloc (.cells (Hp num first ps.length b.length) 202)) w1.heap.size num first ps.length b.length from σ w1 _)
 have hb2:=below_alloc w1 (.cells (Hp num first ps.length b.length) 202)
 have HB2:=Qh (Below.next hb1 hb2)
 have HP2:=Qh (hp1.below hb2)
 have HN2:=Qh ((HN.out.below hb1).below hb2)
 simp only [Hp] at HA HB2 HP2 HN2
 clear hp1 hb1 hb2 HS
 go_wp2_with fail
 generalize w1.alloc (.cells #[.int .i64 (num:Int),.int .i64 (first:Int),.int .i64 (ps.length:Int),.bool false,.int .i64 0,.slice none 0 0,.int .i64 (b.length:Int)] 202)=w2 at*
 have HBI:=Qh (fun W (hB:Below w2.heap.size w2 W)=>by have:=build_any ps _ stride _ W (HP2.out.below hB) HST.out HPL.out;rw [←HMS.out] at this;exact this)
 have C1:=Qh (show w2.cell? ⟨w1.heap.size,1,none⟩=some (.int .i64 (first:Int)) from HA.out.cell 1)
 have C2:=Qh (show w2.cell? ⟨w1.heap.size,2,none⟩=some (.int .i64 (ps.length:Int)) from HA.out.cell 2)
 refine ω (S:=fun w'=>Below w2.heap.size w2 w') (by kernel_rfl) (below_drewN' w2 1) (fun hHeld=> ?_)
 have FX1:=Qh (fun(wF:World) (hSw:(fun w'=>Below w2.heap.size w2 w') wF)=>And.intro ((cell_later hSw C1.out)) ((cell_later hSw C2.out)))
 refine tf FX1 0 rfl ?_
 refine tf FX1 1 rfl ?_
 refine tf FX1 2 rfl ?_
 refine tf FX1 3 rfl ?_
 refine tf FX1 4 rfl ?_
 refine tf FX1 5 rfl ?_
 refine tf FX1 6 rfl ?_
 clear FX1
 generalize World.drew _=Wd at*
 refine wpAnyH_ready (rs:=[7,9]) (by kernel_rfl) (by simp) ?_
 refine AllReadyH.cons rfl (fun K hK=> ?_) (AllReadyH.cons rfl (fun K hK=> ?_) AllReadyH.nil)
 go_simp
 refine(HBI.out Wd hHeld).mono ?_
 rintro e w3 ⟨mv,rfl,hmo,hb3⟩
 obtain⟨om,cm,rfl⟩:=hmo.lit
 go_wp2_with fail
 refine hK.out _ _ (Below.next hHeld hb3) (fun hHeld=> ?_)
 clear hK K hb3
 refine tq 8 rfl ?_
 have hba:=below_alloc w3 (.cells #[.int .i64 0,.int .i64 0,.int .i64 0,.slice none 0 0] 186)
 have HC:=Qh (show Fm (w3.alloc (.cells #[.int .i64 0,.int .i64 0,.int .i64 0,.slice none 0 0] 186)) w3.heap.size 0 0 0 (.slice none 0 0) from σ w3 _)
 have HM:=Qh ((hmo.mono (θ _)).later hba)
 have HNE:=Qh (show ∀ k,(Value.slice om ms.length cm).ownBlock=some k→k≠w3.heap.size from fun k hk=>by have:=(World.ownsRow.lt hmo k hk).2;omega)
 have hg0:=hHeld.size
 refine Rd 9 rfl fun K hK=> ?_
 go_simp
 refine hK.out _ _ (Below.next hHeld hba) (fun hHeld=> ?_)
 clear hK K hba hmo
 generalize w3.heap.size=ga at*
 generalize w3.alloc (.cells #[.int .i64 0,.int .i64 0,.int .i64 0,.slice none 0 0] 186)=w4 at*
 rotate_left
 have hba:=below_alloc Wd (.cells #[.int .i64 0,.int .i64 0,.int .i64 0,.slice none 0 0] 186)
 have HC:=Qh (show Fm (Wd.alloc (.cells #[.int .i64 0,.int .i64 0,.int .i64 0,.slice none 0 0] 186)) Wd.heap.size 0 0 0 (.slice none 0 0) from σ Wd _)
 have hg0:=hHeld.size
 have HLT:=Qh HC.out.lt
 go_simp
 refine hK.out _ _ (Below.next hHeld hba) (fun hHeld=> ?_)
 clear hK K hba
 generalize Wd.heap.size=ga at*
 generalize Wd.alloc (.cells #[.int .i64 0,.int .i64 0,.int .i64 0,.slice none 0 0] 186)=w3 at*
 refine Rd 7 rfl fun K hK=> ?_
 go_simp
 refine(HBI.out w3 hHeld).mono ?_
 rintro e w4 ⟨mv,rfl,hmo,hb3⟩
 obtain⟨om,cm,rfl⟩:=hmo.lit
 replace HC:=Qh (HC.out.below hb3)
 have HM:=Qh (hmo.mono (θ _))
 have HNE:=Qh (show ∀ k,(Value.slice om ms.length cm).ownBlock=some k→k≠ga from fun k hk=>by have:=(World.ownsRow.lt hmo k hk).1;have:=HLT.out;omega)
 go_wp2_with fail
 refine hK.out _ _ (Below.next hHeld hb3) (fun hHeld=> ?_)
 clear hK K hb3 hmo
 refine tq 8 rfl ?_
 all_goals
  refine Rd 10 rfl fun K hK=> ?_
  rw [ζ (by kernel_rfl)]
  refine wp_store_row 186 (.tmp 9) (.tmp 47) rfl ga (clCs (first:Int) (ps.length:Int) (stride:Int) (.slice om ms.length cm)) rfl rfl 186 (clCs 0 0 0 (.slice none 0 0)) HC.out clInfo rfl (clCs_all _ _ _ _ rfl) ?_
  have HCL:=Qh (show Fm (w4.setRow ga (clCs (first:Int) (ps.length:Int) (stride:Int) (.slice om ms.length cm))) ga (first:Int) (ps.length:Int) (stride:Int) (.slice om ms.length cm) from setRow_heap w4 ga _ _ _ _ HC.out)
  have HMR:=Qh (show MkRow (w4.setRow ga (clCs (first:Int) (ps.length:Int) (stride:Int) (.slice om ms.length cm))) (.slice om ms.length cm) ms from(Cm.kept' HM.out fun k hk=>setRow_other _ _ _ _ (HNE.out k hk)).row)
  have hbr:Below w2.heap.size w2 (w4.setRow ga (clCs (first:Int) (ps.length:Int) (stride:Int) (.slice om ms.length cm))):=Az hHeld hg0 _
  generalize w4.setRow ga (clCs (first:Int) (ps.length:Int) (stride:Int) (.slice om ms.length cm))=w5 at*
  refine hK.out _ _ hbr (fun hHeld=> ?_)
  clear hK K HC HM HNE hbr
  refine Λ (by kernel_rfl) ?_ _
  go_wp2_with fail
  have HB5:=Qh (Below.next HB2.out hHeld)
  have C0:=Qh (show w5.cell? ⟨w1.heap.size,0,none⟩=some (.int .i64 (num:Int)) from(HA.out.below hHeld).cell 0)
  have HN5:=Qh (HN2.out.below hHeld)
  have HBO:=Qh (fun W (hB:Below w5.heap.size w5 W)=>by have:=body_any first ps.length stride ms _ W (HMR.out.below hB) HMV.out HF.out HPL.out HST.out.2;rw [←HBL.out] at this;exact this)
  clear hHeld
  refine ω (S:=fun w'=>Below w5.heap.size w5 w') (by kernel_rfl) (below_drewN' w5 1) (fun hHeld=> ?_)
  have FX2:=Qh (fun(wF:World) (hSw:(fun w'=>Below w5.heap.size w5 w') wF)=>(cell_later hSw C0.out))
  refine tf FX2 0 rfl ?_
  refine tf FX2 1 rfl ?_
  clear FX2
  refine tkl 2 ga 0 [.int .i64 (first:Int),.int .i64 (ps.length:Int),.int .i64 (stride:Int),.slice om ms.length cm] rfl rfl (fun w' h=>Ax (fun j u hj=>by rw [Nat.zero_add,HCL.out.cell];simpa [clCs] using hj) h) Tryz.underlying186 rfl (by rw [clInfo];rfl) ?_
  simp only [pA]
  generalize World.drew _=We at*
  refine Rd 3 rfl fun K hK=> ?_
  go_simp
  refine(HBO.out We hHeld).mono ?_
  rintro e w6 ⟨v6,rfl,ho6,hb6⟩
  obtain⟨o6,c6,rfl,_,_⟩:=Ac ho6
  have HO6:=Qh ho6
  have HB6:=Qh (Below.next hHeld hb6)
  clear ho6 hb6 hHeld
  go_wp2_with fail
  refine hK.out _ _ HB6.out (fun hHeld=> ?_)
  clear hK K
  refine tq 4 rfl ?_
  have HFr:=Qh (by have:=frame_any 3 (num:Int) bl _ w6 HO6.out.brow (HN5.out.below HB6.out);rw [HRE.out] at this;exact this)
  refine Rd 5 rfl fun K hK=> ?_
  go_simp
  refine HFr.out.mono ?_
  rintro e w7 ⟨v7,rfl,h7,hb7⟩
  have HO7:=Qh (h7.mono (μ HB5.out.size HB6.out.size))
  have HB7:=Qh (Below.next (Below.next HB5.out HB6.out) hb7)
  go_wp2_with fail
  refine hK.out _ _ (Below.next HB6.out hb7) (fun hHeld=> ?_)
  clear hK K h7 hb7
  refine tq 6 rfl ?_
  refine tq 7 rfl ?_
  refine tq 8 rfl ?_
  refine tq 9 rfl ?_
  refine Λ (by kernel_rfl) ?_ _
  go_wp2
  go_ret2
  exact⟨_,rfl,HO7.out,HB7.out⟩
end Go.Proofs.YtgkdenejkcngnaaGreatDoor
