import Derived.StillTailTactics
import Derived.Test.YtlobohpbgghleaaGreatDoorPt3
namespace Go.Proofs.YtlobohpbgghleaaGreatDoor
open Go.RowKit
def PlcBlk (w:World) (g:Nat) (p:Plc) (v:Value):Prop:=w.heap[g]? =some (.cells (pcCs p v) 160 (0,0))
theorem PlcBlk.lt {w:World} {g:Nat} {p:Plc} {v:Value} (h:PlcBlk w g p v):g<w.heap.size:=(Array.getElem?_eq_some_iff.1 h).1
theorem PlcBlk.cell {w:World} {g:Nat} {p:Plc} {v:Value} (h:PlcBlk w g p v) (j:Nat):w.cell? ⟨g,j,none⟩=(pcCs p v)[j]? :=cell_of_row w g j _ _ _ h
theorem pcCs_all (p:Plc) (v:Value) (h:v.oneCell'=true):(pcCs p v).all (·.oneCell')=true:=
 Array.all_eq_true_iff_forall_mem.2 (by
  intro u hu
  simp only [pcCs,List.mem_toArray,List.mem_cons,List.not_mem_nil,or_false] at hu
  rcases hu with rfl | rfl | rfl | rfl | rfl<;>first | rfl | assumption)
theorem run_load_plc {w:World} {g:Nat} {p:Plc} {v:Value} (hE:PlcBlk w g p v):(loadVar 160 ⟨g,0,none⟩).run Tryz.prog w= .ok (pcV p v) w:=
 run_loadVar_row (P:=Tryz.prog) w g 160 160 (pcCs p v) (0,0) _ hE Tryz.underlying160 rfl pcInfo
theorem wpList_load_plc {ops:Array Oper} {rest:List Oper} {o:Oper} {a:Act} {w:World} {Q:Exit→Act→World→Prop} (hgd:o.guard=none) (x:Operand) (ho:o.op= .load 160 x)
  (g:Nat) (p:Plc) (v:Value) (hx:a.eval x= .pointer (some ⟨g,0,none⟩)) (hE:PlcBlk w g p v)
  (h:wpList Tryz.prog ops Q rest (a.put o.dst (pcV p v)) w):wpList Tryz.prog ops Q (o::rest) a w:=
 wpList_load_row hgd 160 x ho g hx 160 (pcCs p v) (0,0) _ hE Tryz.underlying160 rfl pcInfo h
theorem results_plc1 {fn:Func} {r:Tmp} (h:fn.results= #[.cell r 160]) (tmps:Array Value) (w:World) (g:Nat) (p:Plc) (v:Value)
  (hr:tmps.getD r undef= .pointer (some ⟨g,0,none⟩)) (hE:PlcBlk w g p v):(results fn tmps).run Tryz.prog w= .ok (pcV p v) w:=by
 have hl:=run_load_plc hE
 have hr':tmps[r]?.getD undef= .pointer (some ⟨g,0,none⟩):=by simpa using hr
 simp [results,h,hr',asAddr,hl]
set_option maxRecDepth 100000 in
set_option maxHeartbeats 2000000 in
theorem placed_any (pos z k s:Nat) (body:List UInt8) (oa:Option Addr) (cap:Nat) (w:World) (hl:body.length≤16384) (hz:Hid (z=body.length+20)):
  Calls Tryz.prog 120 #[.int .i64 (pos:Int),frV (k:Int) (s:Int) (.slice oa body.length cap)] w fun e w'=>e= .returned (pcV ⟨pos,z,⟨k,s,body⟩⟩ (.slice oa body.length cap))∧Below w.heap.size w w':=by
 have HB:=Lib.hid (Below.next (below_alloc w (.cells (frCs (k:Int) (s:Int) (.slice oa body.length cap)) 148)) (below_alloc _ (.cells #[.int .i64 0,.int .i64 0,.int .i64 0,.int .i64 0,.slice none 0 0] 160)))
 have HF:=Lib.hid ((frBlk_alloc w (k:Int) (s:Int) (.slice oa body.length cap)).below (below_alloc _ (.cells #[.int .i64 0,.int .i64 0,.int .i64 0,.int .i64 0,.slice none 0 0] 160)))
 have HZ:=Lib.hid (heap_alloc_new (w.alloc (.cells (frCs (k:Int) (s:Int) (.slice oa body.length cap)) 148)) (.cells #[.int .i64 0,.int .i64 0,.int .i64 0,.int .i64 0,.slice none 0 0] 160))
 rw [show (w.alloc (.cells (frCs (k:Int) (s:Int) (.slice oa body.length cap)) 148)).heap.size=w.heap.size+1 by simp] at HZ
 have HS:=Lib.hid (fun W=>frameSize_any body.length W hl)
 rw [←hz.out] at HS
 simp only [frCs] at HB HF HZ
 go_enter Tryz.func120,Tryz.ntmps120
 go_wp2_with fail
 generalize (w.alloc (.cells #[.int .i64 (k:Int),.int .i64 (s:Int),.slice oa body.length cap] 148)).alloc (.cells #[.int .i64 0,.int .i64 0,.int .i64 0,.int .i64 0,.slice none 0 0] 160)=W1 at*
 have HS1:=Lib.hid (show w.heap.size+2≤W1.heap.size by have:=(Array.getElem?_eq_some_iff.1 HZ.out).1;omega)
 have HFB:=Lib.hid (fun W (h:Below (w.heap.size+1) W1 W)=>(show FrBlk W w.heap.size (k:Int) (s:Int) (.slice oa body.length cap) by unfold FrBlk;rw [h.block _ (by omega)];exact HF.out))
 refine wp_region_held_drew (S:=fun w'=>Below (w.heap.size+1) W1 w') (by kernel_rfl) ((below_drewN' W1 1).mono (by have:=HS1.out;omega)) (fun hHeld=> ?_)
 have FX1:=Lib.hid (fun(wF:World) (hSw:(fun w'=>Below (w.heap.size+1) W1 w') wF)=>((HFB.out _ hSw).c2))
 refine tf FX1 0 rfl ?_
 refine tf FX1 1 rfl ?_
 refine tf FX1 2 rfl ?_
 refine tf FX1 3 rfl ?_
 clear FX1
 refine tkl 5 w.heap.size 0 [.int .i64 (k:Int),.int .i64 (s:Int),.slice oa body.length cap] rfl rfl (fun w' h j u hu=>by rw [Nat.zero_add,cell_of_row w' _ j _ _ _ (HFB.out _ h)];simpa [frCs] using hu) Tryz.underlying148 rfl frInfo ?_
 simp only [pA,pB,pC,pD]
 refine wpAnyH_ready (rs:=[4]) (by kernel_rfl) (by simp) ?_
 refine AllReadyH.cons rfl (fun K hK=> ?_) AllReadyH.nil
 go_simp
 go_at_call 164
 refine(HS.out _).mono ?_
 rintro e w1 ⟨rfl,rfl⟩
 go_wp2_with fail
 refine hK.out _ _ hHeld (fun hHeld=> ?_)
 clear hK K
 refine tq 6 rfl ?_
 refine wpAnyH_ready (rs:=[7]) (by kernel_rfl) (by simp) ?_
 refine AllReadyH.cons rfl (fun K hK=> ?_) AllReadyH.nil
 rw [if_pos (by kernel_rfl)]
 have HZ2:=Lib.hid (show (W1.drew).heap[w.heap.size+1]? =some (.cells #[.int .i64 0,.int .i64 0,.int .i64 0,.int .i64 0,.slice none 0 0] 160 (0,0)) from HZ.out)
 refine wp_store_row 160 (.tmp 4) (.tmp 11) rfl (w.heap.size+1) (pcCs ⟨pos,z,⟨k,s,body⟩⟩ (.slice oa body.length cap)) rfl rfl 160 #[.int .i64 0,.int .i64 0,.int .i64 0,.int .i64 0,.slice none 0 0] HZ2.out pcInfo rfl (pcCs_all _ _ rfl) ?_
 refine hK.out _ _ (below_row ((below_drewN' W1 1).mono (by have:=HS1.out;omega)) (Nat.le_refl _) _) (fun _=> ?_)
 clear hK K
 refine wpAnyH_done (by kernel_rfl) ?_ _
 go_wp2
 refine bodyPost_ret (v:=pcV ⟨pos,z,⟨k,s,body⟩⟩ (.slice oa body.length cap)) (results_plc1 rfl _ _ (w.heap.size+1) ⟨pos,z,⟨k,s,body⟩⟩ _ rfl ?_) rfl ⟨rfl,?_⟩
 ·exact setRow_heap _ _ _ _ _ _ HZ2.out
 ·exact below_row (HB.out.trans ((below_drewN' W1 1).mono (by have:=HS1.out;omega))) (by omega) _
end Go.Proofs.YtlobohpbgghleaaGreatDoor

namespace Go.Proofs.YtlobohpbgghleaaGreatDoor
open Go.RowKit
attribute [local go_sem] Oper.semAt_some
theorem frsGo_len: ∀ (n:Nat) (b:List UInt8) (p:Nat),(frsGo n b p).length≤n
 | 0,_,_=>Nat.le_refl _
 | n+1,b,p=>by
  rw [frsGo]
  split
  ·have:=frsGo_len n b (p+(decF (b.drop p)).2.1)
   simp only [List.length_cons];omega
  ·exact Nat.zero_le _
theorem frs_len (b:List UInt8):(frs b).length≤b.length:=frsGo_len _ _ _
theorem frsGo_mem: ∀ (n:Nat) (b:List UInt8) (p:Nat) (x:Nat×Frm),x∈frsGo n b p→x.1+x.2.body.length+20≤b.length∧x.2.body.length≤16384
 | 0,_,_,x=>by intro h;cases h
 | n+1,b,p,x=>by
  intro h
  rw [frsGo] at h
  split at h
  ·rename_i hc
   rcases List.mem_cons.1 h with rfl | h
   ·have:=decF_fine hc.2
    rw [List.length_drop] at this
    simp only
    omega
   ·exact frsGo_mem n b _ x h
  ·cases h
theorem frs_mem {b:List UInt8} {x:Nat×Frm} (h:x∈frs b):x.1+x.2.body.length+20≤b.length∧x.2.body.length≤16384:=frsGo_mem _ _ _ _ h
def lastEnd (d:Nat):List (Nat×Frm)→Nat
 | []=>d
 | x::r=>lastEnd (x.1+x.2.body.length+20) r
theorem lastEnd_snoc: ∀ (xs:List (Nat×Frm)) (d:Nat) (x:Nat×Frm),lastEnd d (xs++[x])=x.1+x.2.body.length+20
 | [],_,_=>rfl
 | _::r,_,x=>lastEnd_snoc r _ x
theorem lastEnd_le {b:List UInt8}: ∀ (xs:List (Nat×Frm)) (d:Nat),d≤b.length→(∀ x∈xs,x.1+x.2.body.length+20≤b.length)→lastEnd d xs≤b.length
 | [],_,h,_=>h
 | x::r,_,_,h2=>lastEnd_le r _ (h2 x List.mem_cons_self) fun y hy=>h2 y (List.mem_cons_of_mem _ hy)
def plcs (b0:Nat) (xs:List (Nat×Frm)):List Plc:=xs.map fun x=>⟨b0+x.1,x.2.body.length+20,x.2⟩
def plX (b0:Nat) (pre:List FrX):List (Plc×Value):=pre.map fun x=>(⟨b0+x.1,x.2.1.body.length+20,x.2.1⟩,x.2.2)
theorem plX_snoc (b0:Nat) (pre:List FrX) (x:FrX):plX b0 (pre++[x])=plX b0 pre++[(⟨b0+x.1,x.2.1.body.length+20,x.2.1⟩,x.2.2)]:=by simp [plX]
theorem plX_fst (b0:Nat) (pre:List FrX):(plX b0 pre).map (·.1)=plcs b0 (frOf pre):=by simp [plX,plcs,frOf]
def scanAll (b:List UInt8):List Plc×Nat×Int:=
 (plcs 0 (frs b),lastEnd 0 (frs b),if lastEnd 0 (frs b)=b.length then 0 else (decF (b.drop (lastEnd 0 (frs b)))).2.2)
def AllP (w:World) (r:List Plc×Nat×Int) (e:Ending) (w':World):Prop:= ∃ v,e= .returned (.tuple #[v,.int .i64 (r.2.1:Int),.int .i64 r.2.2])∧PcIn (fun k=>w.heap.size≤k) w' v r.1∧Below w.heap.size w w'
theorem keepsFrom_turned {S:Nat→Prop} {B:Nat} {W W':World} (ht:Turned S W W') (hS: ∀ k o,B≤k→S k→W.heap[k]? =some o→o.isCells=true):KeepsFrom B W W':=
 ⟨ht.size,fun k o hB hk ho=>(ht.block k (Array.getElem?_eq_some_iff.1 hk).1 (fun hs=>by have:=hS k o hB hs hk;rw [ho] at this;cases this)).trans hk⟩
theorem Turned.kept {S:Nat→Prop} {B:Nat} {X W W':World} (ht:Turned S X W) (hk:Kept B W W') (hB:X.heap.size≤B):Turned S X W':=
 ⟨hk.os.trans ht.os,hk.tape.trans ht.tape,hk.output.trans ht.output,Nat.le_trans ht.size hk.size,fun k hlt hs=>by
  have h1:=ht.block k hlt hs
  rcases hx:X.heap[k]? with _ | o
  ·rw [Array.getElem?_eq_getElem hlt] at hx;cases hx
  ·rw [hx] at h1;exact hk.block k o h1 (.inl (by omega))⟩
def ScI (B g5 g6 b0:Nat) (b:List UInt8) (X:World) (pre:List FrX) (W:World):Prop:=
 ∃ v,W.heap[g5]? =some (.cells #[v] 118 (0,0))∧W.heap[g6]? =some (.cells #[.int .i64 ((b0+lastEnd 0 (frOf pre):Nat):Int)] 3 (0,0))∧PcOwn W B v (plX b0 pre)∧frOf pre <+: frs b∧Turned (fun k=>k=g5∨k=g6) X W
theorem ScI.kept {B g5 g6 b0:Nat} {b:List UInt8} {X:World} (hB:X.heap.size≤B):AbidesK B (ScI B g5 g6 b0 b X):=fun _ _ _ ⟨v,h1,h2,h3,h4,h5⟩ hk=>⟨v,hk.blk h1,hk.blk h2,h3.kept hk,h4,h5.kept hk hB⟩
def ScK (B g5 g6:Nat) (W W':World):Prop:=Turned (fun k=>k=g5∨k=g6∨B≤k) W W'
theorem ScK.trans {B g5 g6:Nat} {A C D:World} (h:ScK B g5 g6 A C) (k:ScK B g5 g6 C D):ScK B g5 g6 A D:=Turned.trans h k fun _ h=> .inl h
theorem ScK.put {B g5 g6:Nat} (W:World) (l:Nat) (o o':Obj) (hl:B≤l) (_:W.heap[l]? =some o) (_:o.isCells=false):ScK B g5 g6 W (W.putObj l o'):=
 ⟨rfl,rfl,rfl,by simp,fun k _ hk=>World.putObj_heap_other (by intro e;subst e;exact hk (.inr (.inr hl)))⟩
set_option maxRecDepth 100000 in
set_option maxHeartbeats 4000000 in
theorem scanAll_any (b:List UInt8) (v:Value) (w:World) (hv:BRow w v b) (hl:b.length≤67108864) (hn:NibTab w):
  Calls Tryz.prog 113 #[v] w (AllP w (scanAll b)):=by
 have HV:=Lib.hid hv
 have HN:=Lib.hid hn
 obtain⟨oa,cap,rfl,hlc,hcc⟩:=hv
 clear hn hcc
 obtain⟨W0,hW0⟩: ∃ W0,W0=(((w.alloc (Obj.cells #[Value.slice none 0 0] 118)).alloc (Obj.cells #[Value.int IntKind.i64 0] 3)).alloc (Obj.cells #[Value.slice oa b.length cap] 47)):=⟨_,rfl⟩
 have HSZ:=Lib.hid (show W0.heap.size=w.heap.size+3 by rw [hW0];simp)
 have HB0:=Lib.hid (show Below w.heap.size w W0 by rw [hW0];exact(((Below.refl _ w).alloc (Nat.le_refl _) _).alloc (by simp) _).alloc (by simp;omega) _)
 have H5:=Lib.hid (show W0.heap[w.heap.size]? =some (.cells #[.slice none 0 0] 118 (0,0)) by
  rw [hW0,Below.heap_alloc _ _ _ (by simp;omega),Below.heap_alloc _ _ _ (by simp)];exact heap_alloc_new w _)
 have H6:=Lib.hid (show W0.heap[w.heap.size+1]? =some (.cells #[.int .i64 0] 3 (0,0)) by
  rw [hW0,Below.heap_alloc _ _ _ (by simp)]
  have:=heap_alloc_new (w.alloc (Obj.cells #[Value.slice none 0 0] 118)) (Obj.cells #[Value.int IntKind.i64 0] 3)
  rwa [World.size_alloc] at this)
 have HC:=Lib.hid (show W0.cell? ⟨w.heap.size+1+1,0,none⟩=some (.slice oa b.length cap) by
  rw [hW0]
  have:=World.cell?_alloc_new ((w.alloc (Obj.cells #[Value.slice none 0 0] 118)).alloc (Obj.cells #[Value.int IntKind.i64 0] 3)) #[Value.slice oa b.length cap] 47 0
  rw [World.size_alloc,World.size_alloc] at this
  rw [this];rfl)
 have HW0:=Lib.hid hW0
 clear hW0
 refine(callsIn_wide (n:=3)).1 (callsIn_of_wp_marks Tryz.func113 rfl trivial (wpIn_wide.2 ?_) rfl)
 simp only [Tryz.ntmps113,List.size_toArray,List.length_cons,List.length_nil,Nat.reduceAdd,Nat.reduceSub,Array.replicate_succ,Array.replicate_zero,List.push_toArray,List.append_toArray,List.nil_append,List.cons_append]
 go_wp2_with fail
 refine(each_any oa b.length cap _).mono ?_
 rintro e w1 ⟨rfl,rfl⟩
 go_wp2_with fail
 rw [←HW0.out]
 refine wp_rangeFuncR (gf:=163) (lb:= #[.pointer (some ⟨w.heap.size+1+1,0,none⟩)]) (encs:=frEnc) (R:=FrR b) (Kp:=ScK W0.heap.size w.heap.size (w.heap.size+1)) (S:=fun xs=>frOf xs=frs b) (Sp:=fun pre=>pre≠ []∧frOf pre <+: frs b) rfl (enters_of Tryz.func163 (by kernel_rfl) rfl)
  (each1_seq b oa cap (w.heap.size+1+1) W0 _ (by omega) (fun W=>Below w.heap.size w W∧W.cell? ⟨w.heap.size+1+1,0,none⟩=some (.slice oa b.length cap)) ⟨HB0.out,HC.out⟩ (fun W h=>⟨h.2,HV.out.below h.1,HN.out.below h.1⟩) (fun W W' h hb=>⟨Below.next h.1 hb,cell_later hb h.2⟩) ?hK)
  ScK.trans ScK.put (fun _=>rfl) (ScI W0.heap.size w.heap.size (w.heap.size+1) 0 b W0) (fun _ _ _=>False) (ScI.kept (Nat.le_refl _)) (fun _ _ _ _ h _=>h) ?h0 ?hround ?hdone ?hstop
 case hK=>
  intro W W' hs ⟨h1,h2⟩ hk
  refine⟨⟨turned_below h1 hk (fun k hk'=>by have:=HSZ.out;omega) h1.size,?_⟩,hk.size⟩
  exact Turned.cell hk h2 (by have:=HSZ.out;rintro(h | h | h)<;>simp only at h<;>omega)
 case h0=>exact⟨.slice none 0 0,H5.out,H6.out,pcOwn_nil _ _,List.nil_prefix,Turned.refl _ _⟩
 case hround=>
  rintro l pre ⟨p,⟨k,s,body⟩,bv⟩ Wo W hl0 hszo hI hko hR
  obtain⟨hpx,hbv,hbl,hp1,hk7,hs1⟩:=hR
  dsimp only at hbv hbl hp1 hk7 hs1
  have HI:=Lib.hid hI
  have HKO:=Lib.hid hko
  have hsz:W0.heap.size≤W.heap.size:=Nat.le_trans hszo hko.size
  clear hko
  have HPX:=Lib.hid hpx
  have HBV:=Lib.hid hbv
  obtain⟨ob,bcap,rfl,_,_⟩:=hbv
  clear hI hpx
  simp only [frEnc]
  gi_wp2
  refine⟨keepsFrom_turned (S:=fun _=>False) (Turned.below (below_alloc W _)) (fun _ _ _ h=>h.elim),Turned.below (below_alloc W _),fun W2 hk2=> ?_⟩
  have HKW:=Lib.hid ((Kept.ofBelow (B:=W0.heap.size) (below_alloc W (.cells #[.int .i64 (k:Int),.int .i64 (s:Int),.slice ob body.length bcap] 148))).trans hk2)
  have HKK:=Lib.hid (HKO.out.trans HKW.out)
  obtain⟨v,h5o,h6o,howno,_,htno⟩:=HI.out
  have h5:=HKK.out.blk h5o
  have h6:=HKK.out.blk h6o
  have hown:=howno.kept HKK.out
  have htn:=htno.kept HKK.out (Nat.le_refl _)
  have HF:=Lib.hid (show FrBlk W2 W.heap.size (k:Int) (s:Int) (.slice ob body.length bcap) from hk2.blk (frBlk_alloc W (k:Int) (s:Int) (.slice ob body.length bcap)))
  have HBV2:=Lib.hid (show BRowIn (fun j=>W0.heap.size≤j∧j<W2.heap.size∧v.ownBlock≠some j) W2 (.slice ob body.length bcap) body from
   (HBV.out.kept HKW.out).mono fun j hj=>⟨Nat.le_trans hszo hj.1,by have:=hj.2;have:=(below_alloc W (.cells (frCs (k:Int) (s:Int) (.slice ob body.length bcap)) 148)).size;have:=hk2.size;simp only [frCs] at *;omega,fun e=>by have:=(howno.1.lt j e).2;have:=hj.1;omega⟩)
  clear h5o h6o howno htno
  have HO2:=Lib.hid hown
  have HT2:=Lib.hid htn
  have H52:=Lib.hid h5
  have H62:=Lib.hid h6
  obtain⟨z,hz⟩: ∃ z,z=body.length+20:=⟨_,rfl⟩
  have HZ:=Lib.hid hz
  have hsz2:W0.heap.size≤W2.heap.size:=Nat.le_trans hsz HKW.out.size
  have hg8:W0.heap.size≤W.heap.size:=hsz
  clear h5 h6 hown htn hk2 HKK HI HBV hz
  generalize W.heap.size=g8 at*
  refine wpIn_block (wpIn_seq (wpIn_region_plain (by rfl) (letsOut_then (letsOut_block letsOut_G)) ?_))
  go_wp2_with (with_reducible refine wpList_load_fr rfl (.tmp 8) rfl g8 (k:Int) (s:Int) (.slice ob body.length bcap) rfl HF.out ?_)
  refine(placed_any p z k s body ob bcap W2 hbl HZ).mono ?_
  rintro e W3 ⟨rfl,hb3⟩
  have HF9:=Lib.hid (heap_alloc_new W3 (.cells (pcCs ⟨p,z,⟨k,s,body⟩⟩ (.slice ob body.length bcap)) 160))
  have HB4:=Lib.hid (Below.next hb3 (below_alloc W3 (.cells (pcCs ⟨p,z,⟨k,s,body⟩⟩ (.slice ob body.length bcap)) 160)))
  have HLEN:=Lib.hid (show (plX 0 pre).length+1≤1000000000 by
   have h1:=HPX.out.length_le
   have h2:=frs_len b
   rw [frOf_snoc] at h1
   simp only [List.length_append,List.length_cons,List.length_nil,frOf,List.length_map] at h1
   simp only [plX,List.length_map]
   omega)
  have hg9:W2.heap.size≤W3.heap.size:=hb3.size
  simp only [pcCs] at HF9 HB4
  clear hb3
  go_wp2_with fail
  generalize W3.alloc (.cells #[.int .i64 (p:Int),.int .i64 (z:Int),.int .i64 (k:Int),.int .i64 (s:Int),.slice ob body.length bcap] 160)=W4 at*
  generalize W3.heap.size=g9 at*
  have HPB:=Lib.hid (show PlcBlk W4 g9 ⟨p,z,⟨k,s,body⟩⟩ (.slice ob body.length bcap) from HF9.out)
  have HO4:=Lib.hid (HO2.out.below HB4.out)
  have HBV4:=Lib.hid ((HBV2.out.below HB4.out).mono fun j hj=>(⟨hj.1,Nat.lt_of_lt_of_le hj.2.1 HB4.out.size,hj.2.2⟩:W0.heap.size≤j∧j<W4.heap.size∧v.ownBlock≠some j))
  have H54:=Lib.hid ((HB4.out.block _ (Array.getElem?_eq_some_iff.1 H52.out).1).trans H52.out)
  have H64:=Lib.hid ((HB4.out.block _ (Array.getElem?_eq_some_iff.1 H62.out).1).trans H62.out)
  have hsz4:W0.heap.size≤W4.heap.size:=Nat.le_trans hsz2 HB4.out.size
  have c5:W4.cell? ⟨w.heap.size,0,none⟩=some v:=cell_of_row W4 _ 0 _ _ _ H54.out
  clear HF9
  refine wpIn_seq (wpIn_region_plain (by rfl) (letsOut_then (letsOut_block letsOut_G)) ?_)
  go_wp2_with (first | (with_reducible refine wpList_load_plc rfl (.tmp 9) rfl g9 ⟨p,z,⟨k,s,body⟩⟩ (.slice ob body.length bcap) rfl HPB.out ?_) | (refine wpList_appPl (p:=⟨p,z,⟨k,s,body⟩⟩) (dv:= .slice ob body.length bcap) rfl (.tmp 20) (.tmp 22) rfl rfl rfl HO4.out hsz4 HBV4.out HLEN.out ?_))
  intro v5 W5 ho5 hb5 ht5 h15
  have HLT:=Lib.hid (fun j (e:v.ownBlock=some j)=>(HO2.out.1.lt j e).2)
  have HO5:=Lib.hid ho5
  have HT5:=Lib.hid ht5
  have H55:=Lib.hid ((hb5.block w.heap.size (by have:=HSZ.out;omega)).trans H54.out)
  have H65:=Lib.hid ((hb5.block (w.heap.size+1) (by have:=HSZ.out;omega)).trans H64.out)
  have HPB5:=Lib.hid (show PlcBlk W5 g9 ⟨p,z,⟨k,s,body⟩⟩ (.slice ob body.length bcap) from(ht5.block g9 HPB.out.lt (fun e=>by have:=HLT.out _ e;omega)).trans HPB.out)
  have c55:W5.cell? ⟨w.heap.size,0,none⟩=some v:=cell_of_row W5 _ 0 _ _ _ H55.out
  have f55:W5.frozen? ⟨w.heap.size,0,none⟩=false:=by have:=H55.out;simp [World.frozen?,this]
  clear ho5 hb5 ht5 HO4 HBV4 HPB H54 H64 c5
  go_wp2_with (with_reducible refine wpList_store_cellV rfl 118 (.tmp 5) (.tmp 23) rfl w.heap.size 0 v5 v (by kernel_rfl) h15 rfl rfl c55 f55 ?_)
  intro W6 hw6
  have HT6:=Lib.hid (show Turned (fun j=>j=w.heap.size) W5 W6 by rw [hw6.out];exact Turned.setCell (S:=fun j=>j=w.heap.size) _ ⟨w.heap.size,0,none⟩ _ rfl)
  have H56:=Lib.hid (show W6.heap[w.heap.size]? =some (.cells #[v5] 118 (0,0)) by rw [hw6.out];exact row_setCell H55.out 0 v5)
  have H66:=Lib.hid ((HT6.out.block _ (Array.getElem?_eq_some_iff.1 H65.out).1 (by simp)).trans H65.out)
  have HPB6:=Lib.hid (show PlcBlk W6 g9 ⟨p,z,⟨k,s,body⟩⟩ (.slice ob body.length bcap) from(HT6.out.block g9 HPB5.out.lt (by have:=HSZ.out;omega)).trans HPB5.out)
  have HO6:=Lib.hid (HO5.out.turned HT6.out (fun j hj=>by have:=HSZ.out;omega))
  clear hw6 c55 f55 HO5
  have c6:W6.cell? ⟨w.heap.size+1,0,none⟩=some (.int .i64 ((0+lastEnd 0 (frOf pre):Nat):Int)):=cell_of_row W6 _ 0 _ _ _ H66.out
  have f6:W6.frozen? ⟨w.heap.size+1,0,none⟩=false:=by have:=H66.out;simp [World.frozen?,this]
  have c9:W6.cell? ⟨g9,1,none⟩=some (.int .i64 (z:Int)):=HPB6.out.cell 1
  have hpz:p+z≤67108864:=by
   have h1:=frs_mem (b:=b) (x:=(p,⟨k,s,body⟩)) (HPX.out.mem (by rw [frOf_snoc];simp))
   have:=HZ.out
   simp only at h1
   omega
  have hwz:IntKind.i64.wrap ((p:Int)+(z:Int))=((p+z:Nat):Int):=by rw [IntKind.wrap_i64];omega
  refine wpIn_region_plain (by rfl) (letsOut_block letsOut_G) ?_
  go_wp2_with fail
  have HT7:=Lib.hid (Turned.setCell (S:=fun j=>j=w.heap.size+1) W6 ⟨w.heap.size+1,0,none⟩ (.int .i64 ((p:Int)+(z:Int))) rfl)
  have H57:=Lib.hid ((HT7.out.block _ (Array.getElem?_eq_some_iff.1 H56.out).1 (by omega)).trans H56.out)
  have H67:=Lib.hid (row_setCell H66.out 0 (.int .i64 ((p:Int)+(z:Int))))
  have HO7:=Lib.hid (HO6.out.turned HT7.out (fun j hj=>by have:=HSZ.out;omega))
  generalize W6.setCell ⟨w.heap.size+1,0,none⟩ (.int .i64 ((p:Int)+(z:Int)))=W7 at*
  have HTT:=Lib.hid (show Turned (fun j=>j=w.heap.size∨j=w.heap.size+1∨v.ownBlock=some j) W2 W7 from
   (((Turned.below HB4.out).trans HT5.out (fun i hi=> .inl (.inr (.inr hi)))).trans HT6.out (fun i hi=> .inl (.inl hi))).trans HT7.out (fun i hi=> .inl (.inr (.inl hi))))
  refine⟨keepsFrom_turned HTT.out fun j o hj hs ho=> ?_,HTT.out.mono fun j hj=> ?_,v5,H57.out,?_,?_,HPX.out,HT2.out.trans HTT.out fun j hj=> ?_⟩
  ·rcases hs with h | h | h
   ·have:=HSZ.out;omega
   ·have:=HSZ.out;omega
   ·rcases HO2.out.1.2 with⟨rfl,_⟩ | ⟨g,gcap,cur,rfl,_,hg,_⟩
    ·cases h
    ·have e:g=j:=Option.some.inj h
     subst e
     rw [hg] at ho
     cases ho
     rfl
  ·rcases hj with h | h | h
   ·exact .inl h
   ·exact .inr (.inl h)
   ·exact .inr (.inr (HO2.out.1.lt j h).1)
  ·have e:(p:Int)+(z:Int)=((0+(p+body.length+20):Nat):Int):=by have:=HZ.out;omega
   rw [H67.out,frOf_snoc,lastEnd_snoc,e]
   rfl
  ·rw [plX_snoc,Nat.zero_add,←HZ.out]
   exact HO7.out
  ·rcases hj with h | h | h
   ·exact .inl (.inl h)
   ·exact .inl (.inr h)
   ·exact .inr (HO2.out.1.lt j h).1
 case hdone=>
  rintro D xs W hD hxs ⟨v,h5,h6,hown,_,htn⟩ hdf
  rw [hxs,Nat.zero_add] at h6
  have HFST:=Lib.hid (plX_fst 0 xs)
  rw [hxs] at HFST
  have HSA:=Lib.hid (show scanAll b=(plcs 0 (frs b),lastEnd 0 (frs b),if lastEnd 0 (frs b)=b.length then 0 else (decF (b.drop (lastEnd 0 (frs b)))).2.2) from rfl)
  have hnb:lastEnd 0 (frs b)≤b.length:=lastEnd_le _ _ (Nat.zero_le _) fun x hx=>(frs_mem hx).1
  obtain⟨n,hn⟩: ∃ n,n=lastEnd 0 (frs b):=⟨_,rfl⟩
  rw [←hn] at h6 HSA hnb
  have HBW:=Lib.hid (turned_below HB0.out htn (fun j hj=>by omega) HB0.out.size)
  have HO:=Lib.hid hown
  have HDF:=Lib.hid hdf
  have c5:=cell_of_row W _ 0 _ _ _ h5
  have c6:=cell_of_row W _ 0 _ _ _ h6
  have HBR:=Lib.hid (HV.out.below HBW.out)
  have hDlt:w.heap.size≤D:=by have:=HSZ.out;omega
  have HSZW:=Lib.hid (show w.heap.size≤W0.heap.size by have:=HSZ.out;omega)
  simp only [List.getElem?_toArray,List.getElem?_cons_zero] at c5 c6
  clear hn h5 h6 hown htn hdf hxs HSZ HB0 H5 H6 HC HW0
  rcases hz:((n:Int)==(b.length:Int)) with _ | _
  ·have HSE:=Lib.hid (show scanAll b=(plcs 0 (frs b),n,(decF (b.drop n)).2.2) by rw [HSA.out,if_neg (by intro e;subst e;simp at hz)])
   have HDV:=Lib.hid (fun oa' cap' (hv:BRow W (.slice oa' (b.length - n) cap') (b.drop n))=>frameDec_any (b.drop n) _ W hv (by rw [List.length_drop];omega) (HN.out.below HBW.out))
   obtain⟨r,hr⟩: ∃ r,r=decF (b.drop n):=⟨_,rfl⟩
   rw [←hr] at HDV HSE
   clear hr HSA
   obtain⟨⟨k,s,body⟩,sz,e0⟩:=r
   unfold DecPost at HDV
   go_wp2_with (with_reducible refine wpList_cut_l rfl (.tmp 35) (.tmp 36) rfl oa cap n b rfl rfl HBR.out hnb ?_)
   intro oa' cap' hbr
   go_wp2_with fail
   refine(HDV.out oa' cap' hbr).mono ?_
   rintro e w2 ⟨bv,rfl,hbv,hb2⟩
   obtain⟨ob,bcap,rfl,_,_⟩:=hbv
   have HB2:=Lib.hid (hb2.trans ((below_alloc w2 (.cells (frCs (k:Int) (s:Int) (.slice ob body.length bcap)) 148)).mono hb2.size))
   simp only [frCs] at HB2
   have d5:=cell_later HB2.out c5
   have d6:=cell_later HB2.out c6
   clear hb2 hbr HDV c5 c6
   go_wp2_with fail
   generalize w2.alloc (.cells #[.int .i64 (k:Int),.int .i64 (s:Int),.slice ob body.length bcap] 148)=w3 at*
   go_quiet (fail)
   go_wp2
   have HBF:=Lib.hid (Below.next HB2.out (below_drewN' w3 nq))
   have hdf:=(HBF.out.block D (Array.getElem?_eq_some_iff.1 HDF.out).1).trans HDF.out
   have HKF:=Lib.hid (Kept.putObj (B:=W0.heap.size) (.deferred none) hD hdf rfl)
   refine⟨by simp,.inl ⟨_,_,rfl,run_takeDeferred hdf,?_⟩⟩
   refine⟨.tuple #[v,.int .i64 (n:Int),.int .i64 e0],by simp [results,Tryz.results113,go_sem],v,by rw [HSE.out],?_,HKF.out.after (HBW.out.trans (HBF.out.mono HBW.out.size)) HSZW.out⟩
   rw [HSE.out]
   have h:=((HO.out.below HBF.out).kept HKF.out).pcIn (A:=fun k=>w.heap.size≤k) (fun k hk=>Nat.le_trans HSZW.out hk)
   rw [HFST.out] at h
   exact h
  ·have HSE:=Lib.hid (show scanAll b=(plcs 0 (frs b),n,0) by rw [HSA.out,if_pos (by simp at hz;omega)])
   clear HSA
   go_wp2_with fail
   go_quiet (fail)
   go_wp2
   have HBF:=Lib.hid (below_drewN' W nq)
   have hdf:=(HBF.out.block D (Array.getElem?_eq_some_iff.1 HDF.out).1).trans HDF.out
   have HKF:=Lib.hid (Kept.putObj (B:=W0.heap.size) (.deferred none) hD hdf rfl)
   refine⟨by simp,.inl ⟨_,_,rfl,run_takeDeferred hdf,?_⟩⟩
   refine⟨.tuple #[v,.int .i64 (n:Int),.int .i64 0],by simp [results,Tryz.results113,go_sem],v,by rw [HSE.out],?_,HKF.out.after (HBW.out.trans (HBF.out.mono HBW.out.size)) HSZW.out⟩
   rw [HSE.out]
   have h:=((HO.out.below HBF.out).kept HKF.out).pcIn (A:=fun k=>w.heap.size≤k) (fun k hk=>Nat.le_trans HSZW.out hk)
   rw [HFST.out] at h
   exact h
 case hstop=>
  intro D c pre W _ _ h _
  exact h.elim
end Go.Proofs.YtlobohpbgghleaaGreatDoor

namespace Go.Proofs.YtlobohpbgghleaaGreatDoor
open Go.RowKit
def iCells (vs:List Nat):List Value:=vs.map fun(u:Nat)=>Value.int .i64 (u:Int)
def OwnI (w:World) (B:Nat) (v:Value) (vs:List Nat):Prop:=w.ownsRow B 3 1 v vs.length (iCells vs)
theorem OwnI.later {w w':World} {B:Nat} {v:Value} {vs:List Nat} (h:OwnI w B v vs) (hb:Below w.heap.size w w'):OwnI w' B v vs:=own_later h hb
theorem ownI_nil (w:World) (B:Nat):OwnI w B (.slice none 0 0) []:=⟨rfl,.inl ⟨rfl,rfl⟩⟩
theorem OwnI.at {w:World} {B:Nat} {v:Value} {vs:List Nat} (h:OwnI w B v vs) (hn:0<vs.length): ∃ g cap,v= .slice (some ⟨g,0,none⟩) vs.length cap∧vs.length≤cap∧B≤g∧ ∀ (i:Nat) u,vs[i]? =some u→w.cell? ⟨g,i,none⟩=some (.int .i64 (u:Int)):=by
 obtain⟨g,cap,e,hB,_,h1,_,h3⟩:=own_get h hn
 exact⟨g,cap,e,h1,hB,fun i u hu=>h3 i _ (by rw [iCells,List.getElem?_map,hu];rfl)⟩
theorem infoI64:(Tryz.prog.info? 3).map (fun i=>(i.zero,i.size,i.bytes))=some (some (.int .i64 0),1,8):=by kernel_rfl
theorem wpList_appI1 {ops:Array Oper} {rest:List Oper} {o:Oper} {a:Act} {Q:Exit→Act→World→Prop} {w:World} (hgd:o.guard=none) (s y:Operand) (ho:o.op= .call {callee:= .builtin .append,args:= #[s,y],argTypes:= #[57,57]}) {B:Nat} {v:Value} {us:List Nat} {p N:Nat} {pv:Int}
  (hs:a.eval s=v) (hN:N=w.heap.size) (hy:a.eval y= .slice (some ⟨N,0,none⟩) 1 1) (hown:OwnI w B v us) (hB:B≤w.heap.size) (h1:pv=(p:Int)) (hl:us.length≤100000)
  (h: ∀ v' w',OwnI w' B v' (us++[p])→Below B w w'→w.heap.size≤w'.heap.size→wpList Tryz.prog ops Q rest (a.put o.dst v') w'):wpList Tryz.prog ops Q (o::rest) a (w.alloc (.cells #[.int .i64 pv] 3)):=by
 subst h1 hN
 obtain⟨i0,hi,hz0,hz1,hz2⟩:=info_parts infoI64
 have hb:=below_alloc w (.cells #[.int .i64 (p:Int)] 3)
 refine wpList_append_own _ hgd s y 57 ho B 3 i0 (.int .i64 0) 1 8 Tryz.underlying57 hi hz0 hz1 hz2 rfl (by decide) v us.length (iCells us) hs (own_later hown hb) ⟨w.heap.size,0,none⟩ 1 1 [.int .i64 (p:Int)] hy rfl (fun j u hj=> ?_) (fun u hu=> ?_) (by unfold maxLen;omega) (by omega) (Nat.le_trans hB hb.size) ?_
 ·rw [addr_add,Nat.zero_add,World.cell?_alloc_new]
  simpa using hj
 ·simp at hu;rcases hu with rfl;rfl
 ·intro v' w' hown' hg _
  refine h v' w' ?_ ((hb.mono hB).trans (below_of_grown (own_later hown hb) (Nat.le_trans hB hb.size) hg)) (Nat.le_trans hb.size hg.size)
  unfold OwnI
  rw [List.length_append,show iCells (us++[p])=iCells us++[.int .i64 (p:Int)] by simp [iCells]]
  exact hown'
theorem wpList_cut_lU {ops:Array Oper} {rest:List Oper} {o:Oper} {a:Act} {w U:World} {Q:Exit→Act→World→Prop} (hgd:o.guard=none) (x y:Operand) (ho:o.op= .slice 47 x (some y) none none) (oa:Option Addr) (cap n:Nat) (l:List UInt8) (hx:a.eval x= .slice oa l.length cap) (hy:a.eval y= .int .i64 (n:Int))
  (hv:BRow U (.slice oa l.length cap) l) (hn:n≤l.length) (h: ∀ oa' cap',BRow U (.slice oa' (l.length - n) cap') (l.drop n)→wpList Tryz.prog ops Q rest (a.put o.dst (.slice oa' (l.length - n) cap')) w):wpList Tryz.prog ops Q (o::rest) a w:=by
 have hv':=hv
 obtain⟨_,c',e,hl',_⟩:=hv'
 simp only [Value.slice.injEq,true_and] at e
 obtain⟨rfl,rfl⟩:=e
 have hb:=brow_cut (lo:=n) (hi:=l.length) (mx:=cap) hv hn (Nat.le_refl _) hl'
 rw [List.take_length] at hb
 refine wpList_plain hgd fun K hK=> ?_
 unfold Oper.wp execOp
 simp only [ho,hx,hy,Option.map_some,Option.map_none,sliceAt_b,run_cut_l oa l.length cap n hn,Sem.run_bind,Sem.run_pure,Result.andThen_ok]
 exact hK _ _ (h _ _ hb)
def unnumsV:Nat→List UInt8→List Nat→Option (List Nat×List UInt8)
 | 0,b,vs=>some (vs,b)
 | n+1,b,vs=>if (decV b).2.2≠0∨2199023255552<(decV b).1 then none else unnumsV n (b.drop (decV b).2.1) (vs++[(decV b).1])
theorem unnums_stop {n:Nat} {b:List UInt8} {vs:List Nat} (h:(decV b).2.2≠0∨2199023255552<(decV b).1):unnumsV (n+1) b vs=none:=by rw [unnumsV,if_pos h]
theorem unnums_go {n:Nat} {b:List UInt8} {vs:List Nat} (h: ¬ ((decV b).2.2≠0∨2199023255552<(decV b).1)):unnumsV (n+1) b vs=unnumsV n (b.drop (decV b).2.1) (vs++[(decV b).1]):=by rw [unnumsV,if_neg h]
theorem unnums_len: ∀ {n:Nat} {b:List UInt8} {vs:List Nat} {r:List Nat×List UInt8},unnumsV n b vs=some r→r.1.length=vs.length+n∧r.2.length≤b.length
 | 0,b,vs,r=>by
  intro h
  simp only [unnumsV,Option.some.injEq] at h
  subst h
  exact⟨rfl,Nat.le_refl _⟩
 | n+1,b,vs,r=>by
  intro h
  by_cases hc:(decV b).2.2≠0∨2199023255552<(decV b).1
  ·rw [unnums_stop hc] at h;cases h
  ·rw [unnums_go hc] at h
   have:=unnums_len h
   simp only [List.length_append,List.length_cons,List.length_nil,List.length_drop] at this
   omega
theorem unnums_le: ∀ {n:Nat} {b:List UInt8} {vs:List Nat} {r:List Nat×List UInt8},unnumsV n b vs=some r→(∀ u∈vs,u≤2199023255552)→ ∀ u∈r.1,u≤2199023255552
 | 0,b,vs,r=>by
  intro h hv
  simp only [unnumsV,Option.some.injEq] at h
  subst h
  exact hv
 | n+1,b,vs,r=>by
  intro h hv
  by_cases hc:(decV b).2.2≠0∨2199023255552<(decV b).1
  ·rw [unnums_stop hc] at h;cases h
  ·rw [unnums_go hc] at h
   refine unnums_le h fun u hu=> ?_
   rcases List.mem_append.1 hu with hu | hu
   ·exact hv u hu
   ·simp at hu;omega
def UnPost (w:World) (r:Option (List Nat×List UInt8)) (e:Ending) (w':World):Prop:=Below w.heap.size w w'∧
 match r with
 | none=>e= .returned (.tuple #[.slice none 0 0,.slice none 0 0,.bool false])
 | some r=> ∃ vv rv,e= .returned (.tuple #[vv,rv,.bool true])∧OwnI w' w.heap.size vv r.1∧BRow w' rv r.2
set_option maxRecDepth 100000 in
set_option maxHeartbeats 4000000 in
theorem unnums_any (b:List UInt8) (v:Value) (n:Nat) (w:World) (hv:BRow w v b) (hl:b.length≤140737488355328) (hn:n≤1000):
  Calls Tryz.prog 161 #[v,.int .i64 (n:Int)] w (UnPost w (unnumsV n b [])):=by
 have HV:=Lib.hid hv
 clear hv
 go_enter Tryz.func161,Tryz.ntmps161
 go_wp2
 go_loopw [0,7,12] (fun sv vv iv wr=> ∃ (k:Nat) (c:List UInt8) (vs:List Nat),k≤n∧iv= .int .i64 (k:Int)∧Hid (vs.length=k)∧Hid (c.length≤b.length)∧Hid (OwnI wr w.heap.size vv vs)∧Hid (BRow w sv c)∧Hid (unnumsV n b []=unnumsV (n - k) c vs)∧Hid (Below w.heap.size w wr)) (fun _ _ iv _=>n - (intOf iv).toNat)
 case atStart=>exact⟨0,b,[],Nat.zero_le _,rfl,Lib.hid rfl,Lib.hid (Nat.le_refl _),Lib.hid (ownI_nil _ _),HV,Lib.hid rfl,Lib.hid (Below.refl _ _)⟩
 case round=>
  obtain⟨k,c,vs,hk,rfl,HVL,HCL,HO,HC,HU,HB⟩:=hrel
  clear HV
  obtain⟨oa,cap,hsh,hcc,_⟩:=HC.out
  subst hsh
  by_cases hlt:k<n
  ·have q1:(k:Int)<(n:Int):=by omega
   have HNK:=Lib.hid (show n - k=(n - (k+1))+1 by omega)
   rw [HNK.out] at HU
   have HD:=Lib.hid (varDecode_any c _ wr (HC.out.below HB.out) (by have:=HCL.out;omega))
   have HLT:=Lib.hid (decV_lt c)
   have HLN:=Lib.hid (@decV_len c)
   have HST:=Lib.hid (@unnums_stop (n - (k+1)) c vs)
   have HGO:=Lib.hid (@unnums_go (n - (k+1)) c vs)
   obtain⟨r,hr⟩: ∃ r,r=decV c:=⟨_,rfl⟩
   rw [←hr] at HD HLT HLN HST HGO
   clear hr HNK hcc
   obtain⟨u,n1,e1⟩:=r
   unfold VarPost at HD
   go_wp2_with fail
   refine HD.out.mono ?_
   rintro e w2 ⟨rfl,hb2⟩
   have HB2:=Lib.hid (Below.next HB.out hb2)
   have HO2:=Lib.hid (HO.out.later hb2)
   clear hb2 HD HO HB
   rcases he1:(e1 != 0) with _ | _
   ·have HE1:=Lib.hid (show e1=0 by simpa using he1)
    rcases hu1:decide (2199023255552<u) with _ | _
    ·have hu2: ¬ 2199023255552<u:=of_decide_eq_false hu1
     have t1:decide ((2199023255552:Int)<(u:Int))=false:=by simp;omega
     have hw1:IntKind.i64.wrap (u:Int)=(u:Int):=by rw [IntKind.wrap_i64];omega
     have hn1:n1≤c.length:=(HLN.out HE1.out).2
     have HG:=Lib.hid (HGO.out (by rintro(h | h);exact h HE1.out;exact hu2 h))
     have hsz:=HB2.out.size
     have hvl:vs.length≤100000:=by have:=HVL.out;omega
     have hk1:IntKind.i64.wrap ((k:Int)+1)=(k:Int)+1:=by rw [IntKind.wrap_i64];omega
     clear HLN HLT HST HGO he1 hu1 hu2
     go_wp2_with (with_reducible refine wpList_appI1 (p:=u) rfl (.tmp 26) (.tmp 29) rfl rfl rfl rfl HO2.out hsz rfl hvl ?_)
     intro v' w3 ho3 hb3 hs3
     have HO3:=Lib.hid ho3
     have HB3:=Lib.hid (HB2.out.trans hb3)
     clear ho3 hb3 HO2 HB2 hsz
     go_wp2_with (with_reducible refine wpList_cut_lU rfl (.tmp 31) (.tmp 32) rfl oa cap n1 c rfl rfl HC.out hn1 ?_)
     intro oa' cap' hbr
     have HBR:=Lib.hid hbr
     clear hbr
     go_wp2
     go_roundw
     case rel=>exact⟨k+1,c.drop n1,vs++[u],by omega,by go_num,Lib.hid (by have:=HVL.out;simp;omega),Lib.hid (by have:=HCL.out;rw [List.length_drop];omega),HO3,HBR,Lib.hid (by rw [HU.out];exact HG.out),HB3⟩
     case measure=>simp [intOf];omega
    ·have hu2:2199023255552<u:=of_decide_eq_true hu1
     have t1:decide ((2199023255552:Int)<(u:Int))=true:=by simp;omega
     have HE:=Lib.hid (show unnumsV n b []=none by rw [HU.out];exact HST.out (.inr hu2))
     clear hu2 HLT HST HGO HLN hu1
     go_wp2
     refine bodyPost_ret (v:= .tuple #[.slice none 0 0,.slice none 0 0,.bool false]) (by simp [results,Tryz.results161,go_sem]) rfl ⟨HB2.out,by rw [HE.out]⟩
   ·have HE:=Lib.hid (show unnumsV n b []=none by rw [HU.out];exact HST.out (.inl (by simpa using he1)))
    clear HLT HST HGO HLN
    go_wp2
    refine bodyPost_ret (v:= .tuple #[.slice none 0 0,.slice none 0 0,.bool false]) (by simp [results,Tryz.results161,go_sem]) rfl ⟨HB2.out,by rw [HE.out]⟩
  ·obtain rfl:k=n:=by omega
   have HE:=Lib.hid (show unnumsV k b []=some (vs,c) by rw [HU.out,Nat.sub_self];rfl)
   clear hcc
   go_wp2
   refine bodyPost_ret (v:= .tuple #[_,.slice oa c.length cap,.bool true]) (by simp [results,Tryz.results161,go_sem];first | rfl | skip) rfl ⟨HB.out,by rw [HE.out];exact⟨_,_,rfl,HO.out,HC.out.below HB.out⟩⟩
end Go.Proofs.YtlobohpbgghleaaGreatDoor

namespace Go.Proofs.YtlobohpbgghleaaGreatDoor
open Go.RowKit
def rightB (num first:Int):Bool:=decide (1≤num)&&decide (num≤999999)&&decide (1≤first)&&decide (first≤1099511627777)
def hdrIn (vs:List Nat) (rest:List UInt8) (s n:Nat):Nat×Nat×Nat×Int:=
 match vs with
 | [a,c]=>if rest≠ []∨a≠s∨rightB a c=false then (0,0,0,71) else (a,c,n,0)
 | _=>(0,0,0,71)
def hdrOf (b:List UInt8):Nat×Nat×Nat×Int:=
 if (decF b).2.2≠0∨(decF b).1.k≠2 then (0,0,0,71)
 else match unnumsV 2 (decF b).1.body [] with
  | none=>(0,0,0,71)
  | some r=>hdrIn r.1 r.2 (decF b).1.s (decF b).2.1
theorem list2 {vs:List Nat} (h:vs.length=2): ∃ a c,vs=[a,c]:=by
 match vs,h with
 | [a,c],_=>exact⟨a,c,rfl⟩
theorem OwnI.two {w:World} {B:Nat} {v:Value} {a c:Nat} (h:OwnI w B v [a,c]): ∃ g cap,v= .slice (some ⟨g,0,none⟩) 2 cap∧2≤cap∧w.cell? ⟨g,0,none⟩=some (.int .i64 (a:Int))∧w.cell? ⟨g,1,none⟩=some (.int .i64 (c:Int)):=by
 obtain⟨g,cap,e,h1,_,h3⟩:=h.at (by simp)
 exact⟨g,cap,e,h1,h3 0 a rfl,h3 1 c rfl⟩
def HdrPost (w:World) (r:Nat×Nat×Nat×Int) (e:Ending) (w':World):Prop:=e= .returned (.tuple #[.int .i64 (r.1:Int),.int .i64 (r.2.1:Int),.int .i64 (r.2.2.1:Int),.int .i64 r.2.2.2])∧Below w.heap.size w w'
set_option maxRecDepth 100000 in
set_option maxHeartbeats 8000000 in
theorem hdrOf_any (l:List UInt8) (v:Value) (w:World) (hv:BRow w v l) (hl:l.length≤140737488355328) (hn:NibTab w):
  Calls Tryz.prog 117 #[v] w (HdrPost w (hdrOf l)):=by
 have HD:=Lib.hid (frameDec_any l v w hv (by omega) hn)
 have HFN:=Lib.hid (@decF_fine l)
 have HH:=Lib.hid (show hdrOf l=if (decF l).2.2≠0∨(decF l).1.k≠2 then (0,0,0,71) else match unnumsV 2 (decF l).1.body [] with
  | none=>(0,0,0,71)
  | some r=>hdrIn r.1 r.2 (decF l).1.s (decF l).2.1 from rfl)
 obtain⟨oa,cap,rfl,hlc,hc⟩:=hv
 obtain⟨r,hr⟩: ∃ r,r=decF l:=⟨_,rfl⟩
 rw [←hr] at HD HH HFN
 clear hc hr hn hlc
 obtain⟨⟨k,s,body⟩,sz,e0⟩:=r
 unfold DecPost at HD
 go_enter Tryz.func117,Tryz.ntmps117
 go_wp2_with fail
 refine HD.out.mono ?_
 rintro e w1 ⟨bv,rfl,hbv,hb1⟩
 have HB1:=Lib.hid hb1
 have HBV:=Lib.hid hbv.low1
 have HFz:=Lib.hid (frBlk_alloc w1 0 0 (.slice none 0 0))
 have HBz:=Lib.hid (below_alloc w1 (.cells (frCs 0 0 (.slice none 0 0)) 148))
 have hone:=hbv.one
 simp only [frCs] at HFz HBz
 clear hbv hb1 HD
 go_wp2_with (with_reducible refine wpList_store_fr rfl (.tmp 6) (.tmp 15) rfl w1.heap.size 0 0 (k:Int) (s:Int) (.slice none 0 0) bv rfl rfl HFz.out hone ?_)
 intro w2 hf2 ht2
 have HF2:=Lib.hid hf2
 have HB2:=Lib.hid (turned_below (HB1.out.trans (HBz.out.mono HB1.out.size)) ht2 (fun x hx=>by have:=HB1.out.size;omega) (by have:=HB1.out.size;have:=HBz.out.size;omega))
 have HV2:=Lib.hid (((HBV.out.below HBz.out).turned ht2 (fun x hx he=>by have:=hx.2;omega)).brow)
 have c0:w2.cell? ⟨w1.heap.size,0,none⟩=some (.int .i64 (k:Int)):=HF2.out.c0
 clear hf2 ht2 HB1 HFz HBz HBV
 generalize w1.heap.size=g at*
 rcases he0:(e0 != 0) with _ | _
 ·have he00:e0=0:=by simpa using he0
  subst he00
  rcases hk:((k:Int) != 2) with _ | _
  ·have HK:=Lib.hid (show k=2 by simp at hk;omega)
   have hbl:body.length≤16384:=(HFN.out rfl).2.1
   have HU:=Lib.hid (fun W (hb:BRow W bv body)=>unnums_any body bv 2 W hb (by omega) (by omega))
   have HUL:=Lib.hid (fun r (h:unnumsV 2 body []=some r)=>unnums_len h)
   have HUM:=Lib.hid (fun r (h:unnumsV 2 body []=some r)=>unnums_le h (fun _ h=>by cases h))
   have HH2:=Lib.hid (show hdrOf l=match unnumsV 2 body [] with
    | none=>(0,0,0,71)
    | some r=>hdrIn r.1 r.2 s sz by rw [HH.out];simp [HK.out])
   obtain⟨r,hr⟩: ∃ r,r=unnumsV 2 body []:=⟨_,rfl⟩
   rw [←hr] at HU HUL HUM HH2
   clear hr HH HFN
   have c2:=HF2.out.c2
   go_wp2_with fail
   refine(HU.out w2 HV2.out).mono ?_
   rintro e w3 ⟨hb3,hpost⟩
   have HB3:=Lib.hid (Below.next HB2.out hb3)
   have HF3:=Lib.hid (HF2.out.below hb3)
   clear hb3 HU HB2 HF2 HV2 c0 c2
   rcases r with _ | ⟨vs,rest⟩
   ·simp only at hpost
    subst hpost
    go_wp2
    go_quiet (fail)
    go_wp2
    refine bodyPost_ret (v:= .tuple #[.int .i64 0,.int .i64 0,.int .i64 0,.int .i64 71]) (by simp [results,Tryz.results117,go_sem]) rfl ⟨by rw [HH2.out];rfl,Below.next HB3.out (below_drewN' _ _)⟩
   ·obtain⟨vv,rv,rfl,hov,hrv⟩:=hpost
    obtain⟨a,c,hvs⟩:=list2 (by have:=(HUL.out _ rfl).1;simpa using this)
    subst hvs
    have ha:a≤2199023255552:=HUM.out _ rfl a (by simp)
    have hc:c≤2199023255552:=HUM.out _ rfl c (by simp)
    obtain⟨gv,vcap,rfl,hvc,d0,d1⟩:=hov.two
    obtain⟨ra,rcap,rfl,_,_⟩:=hrv
    have c1:=HF3.out.c1
    have HR:=Lib.hid (fun W=>right_any (a:Int) (c:Int) W)
    have HH3:=Lib.hid (show hdrOf l=if rest≠ []∨a≠s∨rightB a c=false then (0,0,0,71) else (a,c,sz,0) by rw [HH2.out];rfl)
    clear HUL HUM hov HH2
    rcases hrl:decide (0<rest.length) with _ | _
    ·have HRN:=Lib.hid (show rest=[] by simpa using hrl)
     rcases has:((a:Int) != (s:Int)) with _ | _
     ·have HAS:=Lib.hid (show a=s by simp at has;omega)
      rcases hri:rightB (a:Int) (c:Int) with _ | _
      ·have HG:=Lib.hid (show hdrOf l=(0,0,0,71) by rw [HH3.out,if_pos (.inr (.inr hri))])
       have HR2:=Lib.hid (fun W=>HR.out W)
       rw [show (decide (1≤(a:Int))&&decide ((a:Int)≤999999)&&decide (1≤(c:Int))&&decide ((c:Int)≤1099511627777))=false from hri] at HR2
       go_wp2
       go_quiet ((go_at_call 109;exact Calls.quiet_of_same ((HR2.out _).mono fun e w1 h=>⟨h.1,h.2.symm⟩)))
       go_wp2
       refine bodyPost_ret (v:= .tuple #[.int .i64 0,.int .i64 0,.int .i64 0,.int .i64 71]) (by simp [results,Tryz.results117,go_sem]) rfl ⟨by rw [HG.out];rfl,Below.next HB3.out (below_drewN' _ _)⟩
      ·have HG:=Lib.hid (show hdrOf l=(a,c,sz,0) by rw [HH3.out,if_neg (by rintro(h | h | h);exact h HRN.out;exact h HAS.out;rw [hri] at h;cases h)])
       have HR2:=Lib.hid (fun W=>HR.out W)
       rw [show (decide (1≤(a:Int))&&decide ((a:Int)≤999999)&&decide (1≤(c:Int))&&decide ((c:Int)≤1099511627777))=true from hri] at HR2
       go_wp2
       go_quiet ((go_at_call 109;exact Calls.quiet_of_same ((HR2.out _).mono fun e w1 h=>⟨h.1,h.2.symm⟩)))
       go_wp2
       go_quiet (fail)
       go_wp2
       refine bodyPost_ret (v:= .tuple #[.int .i64 (a:Int),.int .i64 (c:Int),.int .i64 (sz:Int),.int .i64 0]) (by simp [results,Tryz.results117,go_sem]) rfl ⟨by rw [HG.out],?_⟩
       exact Below.next (Below.next HB3.out (below_drewN' _ _)) (below_drewN' _ _)
     ·have HG:=Lib.hid (show hdrOf l=(0,0,0,71) by rw [HH3.out,if_pos (.inr (.inl (by rintro rfl;simp at has)))])
      go_wp2
      go_quiet (fail)
      go_wp2
      refine bodyPost_ret (v:= .tuple #[.int .i64 0,.int .i64 0,.int .i64 0,.int .i64 71]) (by simp [results,Tryz.results117,go_sem]) rfl ⟨by rw [HG.out];rfl,Below.next HB3.out (below_drewN' _ _)⟩
    ·have HG:=Lib.hid (show hdrOf l=(0,0,0,71) by rw [HH3.out,if_pos (.inl (by rintro rfl;simp at hrl))])
     go_wp2
     go_quiet (fail)
     go_wp2
     refine bodyPost_ret (v:= .tuple #[.int .i64 0,.int .i64 0,.int .i64 0,.int .i64 71]) (by simp [results,Tryz.results117,go_sem]) rfl ⟨by rw [HG.out];rfl,Below.next HB3.out (below_drewN' _ _)⟩
  ·have HE:=Lib.hid (show hdrOf l=(0,0,0,71) by rw [HH.out,if_pos (.inr (by simp at hk;omega))])
   go_wp2
   refine bodyPost_ret (v:= .tuple #[.int .i64 0,.int .i64 0,.int .i64 0,.int .i64 71]) (by simp [results,Tryz.results117,go_sem]) rfl ⟨by rw [HE.out];rfl,HB2.out⟩
 ·have HE:=Lib.hid (show hdrOf l=(0,0,0,71) by rw [HH.out,if_pos (.inl (by simpa using he0))])
  go_wp2
  refine bodyPost_ret (v:= .tuple #[.int .i64 0,.int .i64 0,.int .i64 0,.int .i64 71]) (by simp [results,Tryz.results117,go_sem]) rfl ⟨by rw [HE.out];rfl,HB2.out⟩
end Go.Proofs.YtlobohpbgghleaaGreatDoor

namespace Go.Proofs.YtlobohpbgghleaaGreatDoor
open Go.RowKit
theorem turned_blw {S:Nat→Prop} {B:Nat} {w0 w w':World} (hb:Below B w0 w) (ht:Turned S w w') (hS: ∀ k,S k→B≤k) (hB:B≤w.heap.size):Below B w0 w':=
 ⟨ht.os.trans hb.os,ht.tape.trans hb.tape,ht.output.trans hb.output,Nat.le_trans hb.size ht.size,fun k hk=>(ht.block k (by omega) (fun h=>by have:=hS k h;omega)).trans (hb.block k hk)⟩
theorem setRow_trn (w:World) (g:Nat) (cs:Array Value):Turned (fun k=>k=g) w (w.setRow g cs):=⟨rfl,rfl,rfl,by simp,fun k _ hn=>setRow_other _ _ _ _ hn⟩
structure Mk where
 s:Int
 p:Int
def mkCs (m:Mk):Array Value:= #[.int .i64 m.s,.int .i64 m.p]
@[reducible] def mkV (m : Mk) : Value := .agg #[.int .i64 m.s, .int .i64 m.p]
theorem mkInfo:(Tryz.prog.info? 133).map (·.size)=some 2:=by kernel_rfl
def MkBlk (w:World) (g:Nat) (m:Mk):Prop:=w.heap[g]? =some (.cells (mkCs m) 133 (0,0))
theorem MkBlk.lt {w:World} {g:Nat} {m:Mk} (h:MkBlk w g m):g<w.heap.size:=(Array.getElem?_eq_some_iff.1 h).1
theorem MkBlk.keep {w w':World} {g B:Nat} {m:Mk} (h:MkBlk w g m) (hb:Below B w w') (hB:g<B):MkBlk w' g m:=by
 unfold MkBlk at *;rw [hb.block g hB];exact h
theorem MkBlk.below {w w':World} {g:Nat} {m:Mk} (h:MkBlk w g m) (hb:Below w.heap.size w w'):MkBlk w' g m:=h.keep hb h.lt
theorem MkBlk.cell {w:World} {g:Nat} {m:Mk} (h:MkBlk w g m) (j:Nat):w.cell? ⟨g,j,none⟩=(mkCs m)[j]? :=by
 unfold MkBlk at h;simp [World.cell?,h]
theorem MkBlk.c0 {w:World} {g:Nat} {m:Mk} (h:MkBlk w g m):w.cell? ⟨g,0,none⟩=some (.int .i64 m.s):=h.cell 0
theorem MkBlk.c1 {w:World} {g:Nat} {m:Mk} (h:MkBlk w g m):w.cell? ⟨g,1,none⟩=some (.int .i64 m.p):=h.cell 1
theorem mkBlk_alloc (w:World) (m:Mk):MkBlk (w.alloc (.cells (mkCs m) 133)) w.heap.size m:=heap_alloc_new w _
theorem MkBlk.row {w:World} {g:Nat} {m m':Mk} (h:MkBlk w g m):MkBlk (w.setRow g (mkCs m')) g m':=setRow_heap w g _ _ _ _ h
theorem mkCs_all (m:Mk):(mkCs m).all (·.oneCell')=true:=
 Array.all_eq_true_iff_forall_mem.2 (by
  intro u hu
  simp only [mkCs,List.mem_toArray,List.mem_cons,List.not_mem_nil,or_false] at hu
  rcases hu with rfl | rfl<;>rfl)
theorem wpList_store_mk {ops:Array Oper} {rest:List Oper} {o:Oper} {a:Act} {w:World} {Q:Exit→Act→World→Prop} (hgd:o.guard=none) (x y:Operand) (ho:o.op= .store 133 x y)
  (g:Nat) (m m':Mk) (hx:a.eval x= .pointer (some ⟨g,0,none⟩)) (hy:a.eval y=mkV m') (hE:MkBlk w g m)
  (h: ∀ W,MkBlk W g m'→Turned (fun k=>k=g) w W→wpList Tryz.prog ops Q rest (a.put o.dst undef) W):wpList Tryz.prog ops Q (o::rest) a w:=
 wpList_store_row hgd 133 x y ho g (mkCs m') hx hy 133 (mkCs m) hE mkInfo rfl (mkCs_all m') (h _ hE.row (setRow_trn _ _ _))
theorem wpList_load_mk {ops:Array Oper} {rest:List Oper} {o:Oper} {a:Act} {w:World} {Q:Exit→Act→World→Prop} (hgd:o.guard=none) (x:Operand) (ho:o.op= .load 133 x)
  (g:Nat) (m:Mk) (hx:a.eval x= .pointer (some ⟨g,0,none⟩)) (hE:MkBlk w g m)
  (h:wpList Tryz.prog ops Q rest (a.put o.dst (mkV m)) w):wpList Tryz.prog ops Q (o::rest) a w:=
 wpList_load_row hgd 133 x ho g hx 133 (mkCs m) (0,0) _ hE Tryz.underlying133 rfl mkInfo h
theorem wpList_load_mkAt {ops:Array Oper} {rest:List Oper} {o:Oper} {a:Act} {w:World} {Q:Exit→Act→World→Prop} (hgd:o.guard=none) (x:Operand) (ho:o.op= .load 133 x)
  (b off:Nat) (m:Mk) (hx:a.eval x= .pointer (some ⟨b,off,none⟩)) (hE:w.rangeAt b off (mkCs m).toList)
  (h:wpList Tryz.prog ops Q rest (a.put o.dst (mkV m)) w):wpList Tryz.prog ops Q (o::rest) a w:=
 wpList_load_mid hgd 133 x ho b off hx (mkCs m).toList _ hE Tryz.underlying133 rfl mkInfo h
def MkRow (w:World) (v:Value) (ms:List Mk):Prop:=
 ∃ oa cap,v= .slice oa ms.length cap∧ms.length≤cap∧cap≤9223372036854775807∧ ∀ (i:Nat) m,ms[i]? =some m→ ∃ b off,oa=some ⟨b,off,none⟩∧w.rangeAt b (off+i*2) (mkCs m).toList
def marksOk:Int→Int→List Mk→Bool
 | _,_,[]=>true
 | s,p,m::r=>if m.s≤s∨m.p≤p∨1099511627776<m.s∨1099511627776<m.p then false else marksOk m.s m.p r
def marksV (ms:List Mk):Bool:=decide (ms.length≤512)&&marksOk 0 (-1) ms
theorem marks_bad {s p:Int} {m:Mk} {r:List Mk} (h:m.s≤s∨m.p≤p∨1099511627776<m.s∨1099511627776<m.p):marksOk s p (m::r)=false:=by rw [marksOk,if_pos h]
theorem marks_go {s p:Int} {m:Mk} {r:List Mk} (h: ¬ (m.s≤s∨m.p≤p∨1099511627776<m.s∨1099511627776<m.p)):marksOk s p (m::r)=marksOk m.s m.p r:=by rw [marksOk,if_neg h]
set_option maxRecDepth 100000 in
set_option maxHeartbeats 4000000 in
theorem marksValid_any (ms:List Mk) (v:Value) (w:World) (hv:MkRow w v ms):
  Calls Tryz.prog 197 #[v] w fun e w'=>e= .returned (.bool (marksV ms))∧Below w.heap.size w w':=by
 obtain⟨oa,cap,rfl,hl1,hl2,hc⟩:=hv
 have HC:=Lib.hid hc
 clear hc
 rcases ht:decide ((512:Int)<(ms.length:Int)) with _ | _
 ·have hle:ms.length≤512:=by simp at ht;omega
  have HV:=Lib.hid (show marksV ms=marksOk 0 (-1) ms by unfold marksV;rw [decide_eq_true hle];rfl)
  have HA:=Lib.hid (mkBlk_alloc w ⟨0,0⟩)
  have HB0:=Lib.hid (below_alloc w (.cells (mkCs ⟨0,0⟩) 133))
  simp only [mkCs] at HA HB0
  go_enter Tryz.func197,Tryz.ntmps197
  go_wp2_with (with_reducible refine wpList_store_mk rfl (.tmp 3) (.tmp 9) rfl w.heap.size ⟨0,0⟩ ⟨0,-1⟩ rfl rfl HA.out ?_)
  intro w1 hm1 ht1
  have HM1:=Lib.hid hm1
  have HB1:=Lib.hid (turned_blw HB0.out ht1 (fun k hk=>by omega) HB0.out.size)
  clear hm1 ht1 HA HB0
  go_wp2
  go_loopw [12] (fun iv wr=> ∃ (k:Nat) (x:Mk),k≤ms.length∧iv= .int .i64 (k:Int)∧Hid (MkBlk wr w.heap.size x)∧Hid (marksV ms=marksOk x.s x.p (ms.drop k))∧Hid (Below w.heap.size w wr)) (fun iv _=>ms.length - (intOf iv).toNat)
  case atStart=>exact⟨0,⟨0,-1⟩,Nat.zero_le _,rfl,HM1,Lib.hid HV.out,HB1⟩
  case round=>
   clear HM1 HB1
   obtain⟨k,x,hk,rfl,HX,HE,HB⟩:=hrel
   by_cases hlt:k<ms.length
   ·obtain⟨m,hm,_,_⟩:=nth ms k hlt
    obtain⟨b,off,rfl,hcell⟩:=HC.out k m hm
    have q1:(k:Int)<(ms.length:Int):=by omega
    have HCE:=Lib.hid (range_later (range_later hcell HB.out) (below_alloc wr (.cells (mkCs ⟨0,0⟩) 133)))
    have HCE0:=Lib.hid (range_later hcell HB.out)
    have HD:=Lib.hid (drop_cons hm)
    have HN:=Lib.hid (mkBlk_alloc wr ⟨0,0⟩)
    have HBN:=Lib.hid (below_alloc wr (.cells (mkCs ⟨0,0⟩) 133))
    have HXN:=Lib.hid (HX.out.below HBN.out)
    have hgl:=HX.out.lt
    have HBD:=Lib.hid (@marks_bad x.s x.p m (ms.drop (k+1)))
    have HGO:=Lib.hid (@marks_go x.s x.p m (ms.drop (k+1)))
    rw [HD.out] at HE
    have hk1:IntKind.i64.wrap ((k:Int)+1)=(k:Int)+1:=by rw [IntKind.wrap_i64];omega
    clear hcell hm HD
    simp only [mkCs] at HN HBN HXN
    go_wp2_with (first | (with_reducible refine wpList_load_mkAt rfl (.tmp 14) rfl b (off+k*2) m rfl HCE0.out ?_) | (with_reducible refine wpList_store_mk rfl (.tmp 5) (.tmp 15) rfl wr.heap.size ⟨0,0⟩ m rfl rfl HN.out ?_))
    intro w2 hm2 ht2
    have HM2:=Lib.hid hm2
    have HX2:=Lib.hid (show MkBlk w2 w.heap.size x by
     unfold MkBlk
     rw [ht2.block _ (Nat.lt_of_lt_of_le hgl HBN.out.size) (by omega)]
     exact HXN.out)
    have HB2:=Lib.hid (turned_blw (HB.out.trans (HBN.out.mono HB.out.size)) ht2 (fun i hi=>by have:=HB.out.size;omega) (by have:=HB.out.size;have:=HBN.out.size;omega))
    have hne: ¬ w.heap.size=wr.heap.size:=by omega
    clear hm2 ht2 HN HBN HXN HX HB HCE HCE0
    generalize wr.heap.size=g at*
    have c0:=HM2.out.c0
    have c1:=HM2.out.c1
    have d0:=HX2.out.c0
    have d1:=HX2.out.c1
    rcases t1:decide (m.s≤x.s) with _ | _
    ·rcases t2:decide (m.p≤x.p) with _ | _
     ·rcases t3:decide ((1099511627776:Int)<m.s) with _ | _
      ·rcases t4:decide ((1099511627776:Int)<m.p) with _ | _
       ·have HG:=Lib.hid (HGO.out (by simp at t1 t2 t3 t4;omega))
        go_wp2_with (first | (with_reducible refine wpList_load_mk rfl (.tmp 5) rfl g m rfl HM2.out ?_) | (with_reducible refine wpList_store_mk rfl (.tmp 3) (.tmp 38) rfl w.heap.size x m rfl rfl HX2.out ?_))
        intro w3 hm3 ht3
        have HM3:=Lib.hid hm3
        have HB3:=Lib.hid (turned_blw HB2.out ht3 (fun i hi=>by omega) HB2.out.size)
        clear hm3 ht3
        go_wp2
        go_roundw
        case rel=>exact⟨k+1,m,by omega,by go_num,HM3,Lib.hid (HE.out.trans HG.out),HB3⟩
        case measure=>simp [intOf];omega
       ·have HG:=Lib.hid (HBD.out (by simp at t4;omega))
        go_wp2
        go_ret
        exact⟨by rw [HE.out,HG.out];rfl,HB2.out⟩
      ·have HG:=Lib.hid (HBD.out (by simp at t3;omega))
       go_wp2
       go_ret
       exact⟨by rw [HE.out,HG.out];rfl,HB2.out⟩
     ·have HG:=Lib.hid (HBD.out (by simp at t2;omega))
      go_wp2
      go_ret
      exact⟨by rw [HE.out,HG.out];rfl,HB2.out⟩
    ·have HG:=Lib.hid (HBD.out (by simp at t1;omega))
     go_wp2
     go_ret
     exact⟨by rw [HE.out,HG.out];rfl,HB2.out⟩
   ·obtain rfl:k=ms.length:=by omega
    have HE2:=Lib.hid (show marksV ms=true by rw [HE.out,List.drop_length];rfl)
    go_wp2
    go_ret
    exact⟨by rw [HE2.out];rfl,HB.out⟩
 ·have HV:=Lib.hid (show marksV ms=false by unfold marksV;rw [decide_eq_false (by simp at ht;omega)];rfl)
  go_enter Tryz.func197,Tryz.ntmps197
  go_wp2
  go_ret
  exact⟨by rw [HV.out];rfl,Below.refl _ _⟩
end Go.Proofs.YtlobohpbgghleaaGreatDoor

namespace Go.Proofs.YtlobohpbgghleaaGreatDoor
open Go.RowKit
def mkCells (ms:List Mk):List Value:=ms.flatMap fun m=>(mkCs m).toList
theorem mkCells_snoc (ms:List Mk) (m:Mk):mkCells (ms++[m])=mkCells ms++(mkCs m).toList:=by simp [mkCells]
theorem mkCells_at: ∀ (ms:List Mk) (i:Nat) (m:Mk),ms[i]? =some m→ ∀ (j:Nat) u,(mkCs m)[j]? =some u→(mkCells ms)[i*2+j]? =some u
 | [],i,x,h=>by simp at h
 | y::ys,0,x,h=>by
  intro j u hj
  simp at h;subst h
  have hl:j<2:=by have:=(Array.getElem?_eq_some_iff.1 hj).1;simpa [mkCs] using this
  unfold mkCells
  rw [List.flatMap_cons,Nat.zero_mul,Nat.zero_add,List.getElem?_append_left (by simpa [mkCs] using hl)]
  simpa using hj
 | y::ys,i+1,x,h=>by
  intro j u hj
  have:=mkCells_at ys i x (by simpa using h) j u hj
  unfold mkCells at this ⊢
  rw [List.flatMap_cons,List.getElem?_append_right (by simp [mkCs];omega)]
  rw [←this]
  congr 1
  simp [mkCs];omega
def MkOwn (w:World) (B:Nat) (v:Value) (ms:List Mk):Prop:=w.ownsRow B 133 2 v ms.length (mkCells ms)
theorem MkOwn.later {w w':World} {B:Nat} {v:Value} {ms:List Mk} (h:MkOwn w B v ms) (hb:Below w.heap.size w w'):MkOwn w' B v ms:=own_later h hb
theorem mkOwn_nil (w:World) (B:Nat):MkOwn w B (.slice none 0 0) []:=⟨rfl,.inl ⟨rfl,rfl⟩⟩
theorem MkOwn.row {w:World} {B:Nat} {v:Value} {ms:List Mk} (h:MkOwn w B v ms):MkRow w v ms:=by
 by_cases hn:ms=[]
 ·subst hn
  obtain⟨oa,cap,rfl,h1,h2⟩:=own_shape h
  exact⟨oa,cap,rfl,h1,by unfold maxLen at h2;omega,fun i u hu=>by simp at hu⟩
 ·obtain⟨g,cap,rfl,_,_,h1,h2,h3⟩:=own_get h (List.length_pos_iff.2 hn)
  exact⟨_,cap,rfl,h1,by unfold maxLen at h2;omega,fun i m hm=>⟨g,0,rfl,fun j u hj=>by rw [Nat.zero_add];exact h3 _ _ (mkCells_at ms i m hm j u (by simpa using hj))⟩⟩
theorem MkOwn.mono {w:World} {B B':Nat} {v:Value} {ms:List Mk} (h:MkOwn w B v ms) (hB:B'≤B):MkOwn w B' v ms:=by
 refine⟨h.1,?_⟩
 rcases h.2 with hn | ⟨g,cap,cur,e,hb1,rest⟩
 ·exact .inl hn
 ·exact .inr ⟨g,cap,cur,e,Nat.le_trans hB hb1,rest⟩
theorem MkOwn.turned {w w':World} {B g:Nat} {v:Value} {ms:List Mk} (h:MkOwn w B v ms) (ht:Turned (fun k=>k=g) w w') (hg:g<B):MkOwn w' B v ms:=by
 refine⟨h.1,?_⟩
 rcases h.2 with hn | ⟨g',cap,cur,rfl,hb1,hg',rest⟩
 ·exact .inl hn
 ·exact .inr ⟨g',cap,cur,rfl,hb1,by rw [ht.block _ (Array.getElem?_eq_some_iff.1 hg').1 (by omega)];exact hg',rest⟩
theorem infoMk:(Tryz.prog.info? 133).map (fun i=>(i.zero,i.size,i.bytes))=some (some (mkV ⟨0,0⟩),2,16):=by kernel_rfl
theorem wpList_appMk {ops:Array Oper} {rest:List Oper} {o:Oper} {a:Act} {Q:Exit→Act→World→Prop} {w:World} (hgd:o.guard=none) (s y:Operand) (ho:o.op= .call {callee:= .builtin .append,args:= #[s,y],argTypes:= #[129,129]}) {B:Nat} {v:Value} {ms:List Mk} {m:Mk} {N:Nat}
  (hs:a.eval s=v) (hN:N=w.heap.size) (hy:a.eval y= .slice (some ⟨N,0,none⟩) 1 1) (hown:MkOwn w B v ms) (hB:B≤w.heap.size) (hl:ms.length≤100000)
  (h: ∀ v' w',MkOwn w' B v' (ms++[m])→Below B w w'→w.heap.size≤w'.heap.size→wpList Tryz.prog ops Q rest (a.put o.dst v') w'):wpList Tryz.prog ops Q (o::rest) a (w.alloc (.cells #[.int .i64 m.s,.int .i64 m.p] 133)):=by
 subst hN
 obtain⟨i0,hi,hz0,hz1,hz2⟩:=info_parts infoMk
 have hb:=below_alloc w (.cells #[.int .i64 m.s,.int .i64 m.p] 133)
 refine wpList_append_own _ hgd s y 129 ho B 133 i0 (mkV ⟨0,0⟩) 2 16 Tryz.underlying129 hi hz0 hz1 hz2 rfl (by decide) v ms.length (mkCells ms) hs (own_later hown hb) ⟨w.heap.size,0,none⟩ 1 1 (mkCs m).toList hy rfl (fun j u hj=> ?_) (fun u hu=> ?_) (by unfold maxLen;omega) (by omega) (Nat.le_trans hB hb.size) ?_
 ·rw [addr_add,Nat.zero_add,World.cell?_alloc_new]
  simpa [mkCs] using hj
 ·simp [mkCs] at hu;rcases hu with rfl | rfl<;>rfl
 ·intro v' w' hown' hg _
  refine h v' w' ?_ ((hb.mono hB).trans (below_of_grown (own_later hown hb) (Nat.le_trans hB hb.size) hg)) (Nat.le_trans hb.size hg.size)
  unfold MkOwn
  rw [List.length_append,mkCells_snoc]
  exact hown'
def idxGo:List Nat→Int→Int→List Mk→Option (List Mk)
 | a::c::r,s,p,acc=>if 1099511627776<a∨1099511627776<c then none else idxGo r (s+a) (p+c) (acc++[⟨s+a,p+c⟩])
 | _,_,_,acc=>some acc
def idxDec (b:List UInt8):List Mk×Int:=
 if (decAll b 1024).2.2≠0 then ([],(decAll b 1024).2.2) else if (decAll b 1024).2.1≠b.length∨(decAll b 1024).1.length % 2≠0 then ([],70)
 else match idxGo (decAll b 1024).1 0 0 [] with
  | none=>([],70)
  | some ms=>if marksV ms then (ms,0) else ([],70)
theorem drop_two {us:List Nat} {i a c:Nat} (h1:us[i]? =some a) (h2:us[i+1]? =some c):us.drop i=a::c::us.drop (i+2):=by rw [drop_cons8 h1,drop_cons8 h2]
theorem idx_bad {a c:Nat} {r:List Nat} {s p:Int} {acc:List Mk} (h:1099511627776<a∨1099511627776<c):idxGo (a::c::r) s p acc=none:=by rw [idxGo,if_pos h]
theorem idx_go {a c:Nat} {r:List Nat} {s p:Int} {acc:List Mk} (h: ¬ (1099511627776<a∨1099511627776<c)):idxGo (a::c::r) s p acc=idxGo r (s+a) (p+c) (acc++[⟨s+a,p+c⟩]):=by rw [idxGo,if_neg h]
theorem decNs_len: ∀ (n:Nat) (b:List UInt8) (a:Nat) (us:List Nat),(decNs n b a us).1.length≤us.length+n
 | 0,_,_,us=>by simp [decNs]
 | n+1,b,a,us=>by
  rw [decNs]
  split
  ·simp
  ·have:=decNs_len n b (a+(decV (b.drop a)).2.1) (us++[(decV (b.drop a)).1])
   simp only [List.length_append,List.length_cons,List.length_nil] at this
   omega
theorem decAll_len (b:List UInt8) (most:Nat):(decAll b most).1.length≤most:=by
 unfold decAll
 split
 ·simp
 ·split
  ·simp
  ·have:=decNs_len (decV b).1 b (decV b).2.1 []
   simp only [List.length_nil] at this
   omega
def IdxPost (w:World) (r:List Mk×Int) (e:Ending) (w':World):Prop:= ∃ v,e= .returned (.tuple #[v,.int .i64 r.2])∧MkOwn w' w.heap.size v r.1∧Below w.heap.size w w'
set_option maxRecDepth 100000 in
set_option maxHeartbeats 8000000 in
theorem idxDec_any (l:List UInt8) (v:Value) (w:World) (hv:BRow w v l) (hl:l.length≤140737488355328):
  Calls Tryz.prog 162 #[v] w (IdxPost w (idxDec l)):=by
 have HD0:=Lib.hid (decodeAll_any l v 1024 w hv hl (by decide) (by decide))
 obtain⟨oa,cap,rfl,hlc,hc⟩:=hv
 have HI:=Lib.hid (show idxDec l=if (decAll l 1024).2.2≠0 then ([],(decAll l 1024).2.2) else if (decAll l 1024).2.1≠l.length∨(decAll l 1024).1.length % 2≠0 then ([],70)
  else match idxGo (decAll l 1024).1 0 0 [] with
  | none=>([],70)
  | some ms=>if marksV ms then (ms,0) else ([],70) from rfl)
 have HLEN:=Lib.hid (decAll_len l 1024)
 obtain⟨r,hr⟩: ∃ r,r=decAll l 1024:=⟨_,rfl⟩
 rw [←hr] at HD0 HI HLEN
 clear hc hr
 obtain⟨us,at0,e0⟩:=r
 unfold AllPost at HD0
 go_enter Tryz.func162,Tryz.ntmps162
 go_wp2_with fail
 refine HD0.out.mono ?_
 rintro e w1 ⟨v1,rfl,ho1,hb1⟩
 have HUR:=Lib.hid (OwnU.row ho1)
 obtain⟨ob,bcap,hsh,hbl,_⟩:=own_shape ho1
 have HB1:=Lib.hid hb1
 subst hsh
 clear hb1 HD0 ho1 hbl hlc
 rcases he0:(e0 != 0) with _ | _
 ·have HE0:=Lib.hid (show e0=0 by simpa using he0)
  rcases hz:((at0:Int) != (l.length:Int)) with _ | _
  ·rcases hp2:((us.length:Int) % 2 != 0) with _ | _
   ·have HEV:=Lib.hid (show us.length % 2=0 by simp at hp2;omega)
    have HI2:=Lib.hid (show idxDec l=match idxGo us 0 0 [] with
     | none=>([],70)
     | some ms=>if marksV ms then (ms,0) else ([],70) by
     rw [HI.out,if_neg (fun h=>h HE0.out),if_neg (by rintro(h | h);exact h (by simp at hz;omega);exact h HEV.out)])
    have HA:=Lib.hid (mkBlk_alloc w1 ⟨0,0⟩)
    have HB2:=Lib.hid (Below.next HB1.out (below_alloc w1 (.cells (mkCs ⟨0,0⟩) 133)))
    have HUB:=Lib.hid (fun W (h:Below w1.heap.size w1 W)=>HUR.out.below h)
    have HU2:=Lib.hid (below_alloc w1 (.cells (mkCs ⟨0,0⟩) 133))
    have HW1:=Lib.hid (show (w1.alloc (.cells (mkCs ⟨0,0⟩) 133)).heap.size=w1.heap.size+1 by simp)
    have HSW:=Lib.hid HB1.out.size
    simp only [mkCs] at HA HB2 HU2 HW1
    clear HI HUR HB1
    go_wp2
    clear hz hp2 he0
    generalize w1.alloc (.cells #[.int .i64 0,.int .i64 0] 133)=w2 at*
    generalize w1.heap.size=g at*
    go_loopw [7,9] (fun mv iv wr=> ∃ (k:Nat) (x:Mk) (acc:List Mk),2*k≤us.length∧iv= .int .i64 ((2*k:Nat):Int)∧Hid (acc.length=k)∧Hid (MkBlk wr g x)∧Hid (0≤x.s∧x.s≤1099511627776*(k:Int)∧0≤x.p∧x.p≤1099511627776*(k:Int))∧Hid (MkOwn wr (g+1) mv acc)∧Hid (idxGo us 0 0 []=idxGo (us.drop (2*k)) x.s x.p acc)∧Hid (Below g w1 wr)∧Hid (Below w.heap.size w wr)∧Hid (g+1≤wr.heap.size)) (fun _ iv _=>us.length - (intOf iv).toNat)
    case atStart=>exact⟨0,⟨0,0⟩,[],Nat.zero_le _,rfl,Lib.hid rfl,HA,Lib.hid ⟨by decide,by decide,by decide,by decide⟩,Lib.hid (mkOwn_nil _ _),Lib.hid rfl,HU2,HB2,Lib.hid (by rw [HW1.out];exact Nat.le_refl _)⟩
    case round=>
     clear HA HU2 HB2 HW1
     obtain⟨k,x,acc,hk,rfl,HAL,HX,HXB,HO,HG,HU1,HB,HSZ⟩:=hrel
     have HU:=Lib.hid (HUB.out wr HU1.out)
     obtain⟨i,hi⟩: ∃ i,i=2*k:=⟨_,rfl⟩
     have HIK:=Lib.hid hi
     rw [←hi] at hk HG ⊢
     clear hi
     by_cases hlt:i<us.length
     ·have hlt1:i+1<us.length:=by have:=HEV.out;have:=HIK.out;omega
      obtain⟨va,hva,_,_⟩:=nth us i hlt
      obtain⟨vb,hvb,_,_⟩:=nth us (i+1) hlt1
      have HDR:=Lib.hid (drop_two hva hvb)
      obtain⟨ob',bc',eqs,_,huc⟩:=HU.out
      simp only [Value.slice.injEq,true_and] at eqs
      obtain⟨rfl,rfl⟩:=eqs
      obtain⟨b,off,rfl,ca⟩:=huc i va hva
      obtain⟨b',off',e2,cb⟩:=huc (i+1) vb hvb
      simp only [Option.some.injEq,Addr.mk.injEq,and_true] at e2
      obtain⟨rfl,rfl⟩:=e2
      have HLEN2:=Lib.hid (show i+1<1024 by have:=HLEN.out;omega)
      have q1:(i:Int)<(us.length:Int):=by omega
      obtain⟨j,hj⟩: ∃ j,j=i+1:=⟨_,rfl⟩
      have hwi:IntKind.i64.wrap ((i:Int)+1)=(j:Int):=by have:=HLEN2.out;rw [IntKind.wrap_i64];omega
      have q2:(j:Int)<(us.length:Int):=by omega
      rw [←hj] at cb
      clear hj
      have hwi2:IntKind.i64.wrap ((i:Int)+2)=(i:Int)+2:=by have:=HLEN2.out;rw [IntKind.wrap_i64];omega
      rw [HDR.out] at HG
      have HBD:=Lib.hid (@idx_bad va vb (us.drop (i+2)) x.s x.p acc)
      have HGO:=Lib.hid (@idx_go va vb (us.drop (i+2)) x.s x.p acc)
      have c0:=HX.out.c0
      have c1:=HX.out.c1
      clear hva hvb huc HDR
      rcases t1:decide ((1099511627776:Int)<(va:Int)) with _ | _
      ·rcases t2:decide ((1099511627776:Int)<(vb:Int)) with _ | _
       ·have ha:va≤1099511627776:=by simp at t1;omega
        have hb:vb≤1099511627776:=by simp at t2;omega
        have hwa:IntKind.i64.wrap (va:Int)=(va:Int):=by rw [IntKind.wrap_i64];omega
        have hwb:IntKind.i64.wrap (vb:Int)=(vb:Int):=by rw [IntKind.wrap_i64];omega
        have hwsa:IntKind.i64.wrap (x.s+(va:Int))=x.s+(va:Int):=by have:=HXB.out;have:=HLEN2.out;have:=HIK.out;rw [IntKind.wrap_i64];omega
        have hwsb:IntKind.i64.wrap (x.p+(vb:Int))=x.p+(vb:Int):=by have:=HXB.out;have:=HLEN2.out;have:=HIK.out;rw [IntKind.wrap_i64];omega
        have HG2:=Lib.hid (HGO.out (by omega))
        go_wp2
        go_still_tail 18,(by kernel_rfl)
        refine wpList_store_mk rfl (.tmp 8) (.tmp 67) rfl g x ⟨x.s+(va:Int),x.p+(vb:Int)⟩ rfl rfl (HX.out.below (below_drewN' wr 1)) ?_
        intro w4 hm4 ht4
        have HM4:=Lib.hid hm4
        have HO4:=Lib.hid ((HO.out.later (below_drewN' wr 1)).turned ht4 (Nat.lt_succ_self g))
        have HB4:=Lib.hid (turned_below (Below.next HB.out (below_drewN' wr 1)) ht4 (fun y hy=>by have:=HSW.out;omega) HB.out.size)
        have HU4:=Lib.hid (turned_below (HU1.out.trans ((below_drewN' wr 1).mono (by have:=HSZ.out;omega))) ht4 (fun y hy=>by omega) (show g≤wr.heap.size by have:=HSZ.out;omega))
        have hs4:g+1≤w4.heap.size:=Nat.le_trans HSZ.out ht4.size
        have HAL2:=Lib.hid (show acc.length≤100000 by have:=HAL.out;have:=HIK.out;have:=HLEN2.out;omega)
        clear hm4 ht4 HX HO HB HU c0 c1 ca cb
        go_wp2_with (first | (with_reducible refine wpList_load_mk rfl (.tmp 8) rfl g ⟨x.s+(va:Int),x.p+(vb:Int)⟩ rfl HM4.out ?_) | (refine wpList_appMk (m:=⟨x.s+(va:Int),x.p+(vb:Int)⟩) rfl (.tmp 68) (.tmp 70) rfl rfl rfl rfl HO4.out hs4 HAL2.out ?_))
        intro v5 w5 ho5 hb5 hs5
        have HO5:=Lib.hid ho5
        have HM5:=Lib.hid (HM4.out.keep hb5 (Nat.lt_succ_self g))
        have HB5:=Lib.hid (HB4.out.trans (hb5.mono (by have:=HSW.out;omega)))
        have HU5:=Lib.hid (HU4.out.trans (hb5.mono (Nat.le_succ g)))
        have HS5:=Lib.hid (Nat.le_trans hs4 hs5)
        clear ho5 hb5 hs5 hs4 HM4 HO4 HB4 HU4
        go_wp2
        go_roundw
        case rel=>exact⟨k+1,⟨x.s+(va:Int),x.p+(vb:Int)⟩,acc++[⟨x.s+(va:Int),x.p+(vb:Int)⟩],by have:=HIK.out;omega,by have:=HIK.out;first | (congr 1;omega) | (simp;omega),Lib.hid (by have:=HAL.out;simp;omega),HM5,Lib.hid (by have:=HXB.out;simp only;omega),HO5,Lib.hid (by rw [HG.out,HG2.out];have:=HIK.out;subst this;rfl),HU5,HB5,HS5⟩
        case measure=>simp [intOf];omega
       ·have HE:=Lib.hid (show idxDec l=([],70) by rw [HI2.out,HG.out,HBD.out (.inr (by simp at t2;omega))])
        go_wp2
        refine bodyPost_ret (v:= .tuple #[.slice none 0 0,.int .i64 70]) (by simp [results,Tryz.results162,go_sem]) rfl ⟨_,by rw [HE.out],by rw [HE.out];exact mkOwn_nil _ _,HB.out⟩
      ·have HE:=Lib.hid (show idxDec l=([],70) by rw [HI2.out,HG.out,HBD.out (.inl (by simp at t1;omega))])
       go_wp2
       refine bodyPost_ret (v:= .tuple #[.slice none 0 0,.int .i64 70]) (by simp [results,Tryz.results162,go_sem]) rfl ⟨_,by rw [HE.out],by rw [HE.out];exact mkOwn_nil _ _,HB.out⟩
     ·obtain rfl:i=us.length:=by omega
      have HG3:=Lib.hid (show idxDec l=if marksV acc then (acc,0) else ([],70) by rw [HI2.out,HG.out,List.drop_length];rfl)
      have HMV:=Lib.hid (marksValid_any acc _ wr HO.out.row)
      have HO2:=Lib.hid (HO.out.mono (B':=w.heap.size) (by have:=HSW.out;omega))
      obtain⟨m,hm⟩: ∃ m,m=marksV acc:=⟨_,rfl⟩
      rw [←hm] at HMV HG3
      clear hm HX
      go_wp2_with fail
      refine HMV.out.mono ?_
      rintro e w4 ⟨rfl,hb4⟩
      have HO4:=Lib.hid (HO2.out.later hb4)
      have HB4:=Lib.hid (Below.next HB.out hb4)
      clear hb4 HMV
      rcases m with _ | _
      ·go_wp2
       refine bodyPost_ret (v:= .tuple #[.slice none 0 0,.int .i64 70]) (by simp [results,Tryz.results162,go_sem]) rfl ⟨_,by rw [HG3.out];rfl,by rw [HG3.out];exact mkOwn_nil _ _,HB4.out⟩
      ·go_wp2
       refine bodyPost_ret (v:= .tuple #[_,.int .i64 0]) (by simp [results,Tryz.results162,go_sem];first | rfl | skip) rfl ⟨_,by rw [HG3.out];rfl,by rw [HG3.out];exact HO4.out,HB4.out⟩
   ·have HE:=Lib.hid (show idxDec l=([],70) by rw [HI.out,if_neg (fun h=>h HE0.out),if_pos (.inr (by simp at hp2;omega))])
    go_wp2
    refine bodyPost_ret (v:= .tuple #[.slice none 0 0,.int .i64 70]) (by simp [results,Tryz.results162,go_sem]) rfl ⟨_,by rw [HE.out],by rw [HE.out];exact mkOwn_nil _ _,HB1.out⟩
  ·have HE:=Lib.hid (show idxDec l=([],70) by rw [HI.out,if_neg (fun h=>h HE0.out),if_pos (.inl (by intro e;simp [e] at hz))])
   go_wp2
   refine bodyPost_ret (v:= .tuple #[.slice none 0 0,.int .i64 70]) (by simp [results,Tryz.results162,go_sem]) rfl ⟨_,by rw [HE.out],by rw [HE.out];exact mkOwn_nil _ _,HB1.out⟩
 ·have HE:=Lib.hid (show idxDec l=([],e0) by rw [HI.out,if_pos (show e0≠0 by simpa using he0)])
  go_wp2
  refine bodyPost_ret (v:= .tuple #[.slice none 0 0,.int .i64 e0]) (by simp [results,Tryz.results162,go_sem]) rfl ⟨_,by rw [HE.out],by rw [HE.out];exact mkOwn_nil _ _,HB1.out⟩
end Go.Proofs.YtlobohpbgghleaaGreatDoor

namespace Go.Proofs.YtlobohpbgghleaaGreatDoor
open Go.RowKit
def clCs (a c d:Int) (mv:Value):Array Value:= #[.int .i64 a,.int .i64 c,.int .i64 d,mv]
@[reducible] def clV (a c d : Int) (mv : Value) : Value := .agg #[.int .i64 a, .int .i64 c, .int .i64 d, mv]
theorem clInfo:(Tryz.prog.info? 194).map (·.size)=some 4:=by kernel_rfl
def ClBlk (w:World) (g:Nat) (a c d:Int) (mv:Value):Prop:=w.heap[g]? =some (.cells (clCs a c d mv) 194 (0,0))
theorem ClBlk.lt {w:World} {g:Nat} {a c d:Int} {mv:Value} (h:ClBlk w g a c d mv):g<w.heap.size:=(Array.getElem?_eq_some_iff.1 h).1
theorem ClBlk.below {w w':World} {g:Nat} {a c d:Int} {mv:Value} (h:ClBlk w g a c d mv) (hb:Below w.heap.size w w'):ClBlk w' g a c d mv:=by
 unfold ClBlk at *;rw [hb.block g (Array.getElem?_eq_some_iff.1 h).1];exact h
theorem ClBlk.cell {w:World} {g:Nat} {a c d:Int} {mv:Value} (h:ClBlk w g a c d mv) (j:Nat):w.cell? ⟨g,j,none⟩=(clCs a c d mv)[j]? :=by
 unfold ClBlk at h;simp [World.cell?,h]
theorem clBlk_alloc (w:World) (a c d:Int) (mv:Value):ClBlk (w.alloc (.cells (clCs a c d mv) 194)) w.heap.size a c d mv:=heap_alloc_new w _
theorem clCs_all (a c d:Int) (v:Value) (h:v.oneCell'=true):(clCs a c d v).all (·.oneCell')=true:=
 Array.all_eq_true_iff_forall_mem.2 (by
  intro u hu
  simp only [clCs,List.mem_toArray,List.mem_cons,List.not_mem_nil,or_false] at hu
  rcases hu with rfl | rfl | rfl | rfl<;>first | rfl | assumption)
theorem wpList_store_cl {ops:Array Oper} {rest:List Oper} {o:Oper} {a:Act} {w:World} {Q:Exit→Act→World→Prop} (hgd:o.guard=none) (x y:Operand) (ho:o.op= .store 194 x y)
  (g:Nat) (p q r p' q' r':Int) (mv mv':Value) (hx:a.eval x= .pointer (some ⟨g,0,none⟩)) (hy:a.eval y=clV p' q' r' mv') (hE:ClBlk w g p q r mv) (h1:mv'.oneCell'=true)
  (h: ∀ W,ClBlk W g p' q' r' mv'→Turned (fun k=>k=g) w W→wpList Tryz.prog ops Q rest (a.put o.dst undef) W):wpList Tryz.prog ops Q (o::rest) a w:=
 wpList_store_row hgd 194 x y ho g (clCs p' q' r' mv') hx hy 194 (clCs p q r mv) hE clInfo rfl (clCs_all p' q' r' mv' h1) (h _ (setRow_heap w g _ _ _ _ hE) (run_setRow_turned _ _ _))
theorem results_cl2 {fn:Func} {p q:Tmp} (h:fn.results= #[.cell p 194,.tmp q]) (tmps:Array Value) (w:World) (g:Nat) (a c d:Int) (mv x:Value)
  (hp:tmps.getD p undef= .pointer (some ⟨g,0,none⟩)) (hq:tmps.getD q undef=x) (hE:ClBlk w g a c d mv):(results fn tmps).run Tryz.prog w= .ok (.tuple #[clV a c d mv,x]) w:=by
 have hl:(loadVar 194 ⟨g,0,none⟩).run Tryz.prog w= .ok (clV a c d mv) w:=run_loadVar_row (P:=Tryz.prog) w g 194 194 (clCs a c d mv) (0,0) _ hE Tryz.underlying194 rfl clInfo
 have hp':tmps[p]?.getD undef= .pointer (some ⟨g,0,none⟩):=by simpa using hp
 have hq':tmps[q]?.getD undef=x:=by simpa using hq
 simp [results,h,hp',hq',asAddr,hl]
structure Cls where
 first:Nat
 count:Nat
 stride:Nat
 marks:List Mk
def clsIn (vs:List Nat) (rest:List UInt8):Option Cls:=
 match vs with
 | [a,c,d]=>if d<1∨64<d∨c<1 then none else if (idxDec rest).2=0 then some ⟨a,c,d,(idxDec rest).1⟩ else none
 | _=>none
def uncloseV (b:List UInt8):Option Cls:=match unnumsV 3 b [] with
 | none=>none
 | some r=>clsIn r.1 r.2
theorem list3 {vs:List Nat} (h:vs.length=3): ∃ a c d,vs=[a,c,d]:=by
 match vs,h with
 | [a,c,d],_=>exact⟨a,c,d,rfl⟩
theorem OwnI.three {w:World} {B:Nat} {v:Value} {a c d:Nat} (h:OwnI w B v [a,c,d]): ∃ g cap,v= .slice (some ⟨g,0,none⟩) 3 cap∧3≤cap∧B≤g∧w.cell? ⟨g,0,none⟩=some (.int .i64 (a:Int))∧w.cell? ⟨g,1,none⟩=some (.int .i64 (c:Int))∧w.cell? ⟨g,2,none⟩=some (.int .i64 (d:Int)):=by
 obtain⟨g,cap,e,h1,hB,h3⟩:=h.at (by simp)
 exact⟨g,cap,e,h1,hB,h3 0 a rfl,h3 1 c rfl,h3 2 d rfl⟩
def ClPost (w:World) (r:Option Cls) (e:Ending) (w':World):Prop:=Below w.heap.size w w'∧
 match r with
 | none=> ∃ (a c d:Int) (oa:Option Addr) (n cap:Nat),e= .returned (.tuple #[clV a c d (.slice oa n cap),.bool false])
 | some r=> ∃ mv,e= .returned (.tuple #[clV (r.first:Int) (r.count:Int) (r.stride:Int) mv,.bool true])∧MkOwn w' w.heap.size mv r.marks∧1≤r.count∧r.count≤2199023255552∧1≤r.stride∧r.stride≤64∧r.first≤2199023255552
set_option maxRecDepth 100000 in
set_option maxHeartbeats 8000000 in
theorem unclose_any (l:List UInt8) (v:Value) (w:World) (hv:BRow w v l) (hl:l.length≤140737488355328):
  Calls Tryz.prog 118 #[v] w (ClPost w (uncloseV l)):=by
 have HB0:=Lib.hid (below_alloc w (.cells (clCs 0 0 0 (.slice none 0 0)) 194))
 have HF0:=Lib.hid (clBlk_alloc w 0 0 0 (.slice none 0 0))
 have HU:=Lib.hid (unnums_any l v 3 _ (hv.below HB0.out) hl (by decide))
 have HSZ0:=Lib.hid (show (w.alloc (.cells (clCs 0 0 0 (.slice none 0 0)) 194)).heap.size=w.heap.size+1 by simp)
 have HUL:=Lib.hid (fun r (h:unnumsV 3 l []=some r)=>unnums_len h)
 have HUM:=Lib.hid (fun r (h:unnumsV 3 l []=some r)=>unnums_le h (fun _ h=>by cases h))
 have HH:=Lib.hid (show uncloseV l=match unnumsV 3 l [] with
  | none=>none
  | some r=>clsIn r.1 r.2 from rfl)
 obtain⟨oa,cap,rfl,_,_⟩:=hv
 obtain⟨r,hr⟩: ∃ r,r=unnumsV 3 l []:=⟨_,rfl⟩
 rw [←hr] at HU HUL HUM HH
 clear hr
 simp only [clCs] at HB0 HF0 HU HSZ0
 go_enter Tryz.func118,Tryz.ntmps118
 go_wp2_with fail
 refine HU.out.mono ?_
 rintro e w1 ⟨hb1,hpost⟩
 have HB1:=Lib.hid (Below.next HB0.out hb1)
 have HF1:=Lib.hid (ClBlk.below HF0.out hb1)
 clear hb1 HU HF0 HB0
 rcases r with _ | ⟨vs,rest⟩
 ·simp only at hpost
  subst hpost
  go_wp2_with (with_reducible refine wpList_store_cl rfl (.tmp 2) (.tmp 35) rfl w.heap.size 0 0 0 0 0 0 (.slice none 0 0) (.slice none 0 0) rfl rfl HF1.out rfl ?_)
  intro w3 hf3 ht3
  have HF3:=Lib.hid hf3
  have HB3:=Lib.hid (turned_below HB1.out ht3 (fun k hk=>by omega) HB1.out.size)
  clear hf3 ht3
  go_wp2
  refine bodyPost_ret (v:= .tuple #[clV 0 0 0 (.slice none 0 0),.bool false]) (results_cl2 rfl _ _ w.heap.size 0 0 0 (.slice none 0 0) _ rfl rfl HF3.out) rfl ⟨HB3.out,by rw [HH.out];exact⟨0,0,0,none,0,0,rfl⟩⟩
 ·obtain⟨vv,rv,rfl,hov,hrv⟩:=hpost
  obtain⟨a,c,d,hvs⟩:=list3 (by have:=(HUL.out _ rfl).1;simpa using this)
  subst hvs
  have ha:a≤2199023255552:=HUM.out _ rfl a (by simp)
  have hc:c≤2199023255552:=HUM.out _ rfl c (by simp)
  have hrl:rest.length≤l.length:=(HUL.out _ rfl).2
  have HOV:=Lib.hid hov
  obtain⟨gv,vcap,rfl,hvc,hgv,d0,d1,d2⟩:=hov.three
  rw [HSZ0.out] at hgv
  have HID:=Lib.hid (idxDec_any rest rv w1 hrv (by omega))
  have HH3:=Lib.hid (show uncloseV l=if d<1∨64<d∨c<1 then none else if (idxDec rest).2=0 then some ⟨a,c,d,(idxDec rest).1⟩ else none by rw [HH.out];rfl)
  obtain⟨ra,rcap,rfl,_,_⟩:=hrv
  clear HUL HUM hov HH HOV hrl HSZ0
  rcases t1:decide ((d:Int)<1) with _ | _
  ·rcases t2:decide ((64:Int)<(d:Int)) with _ | _
   ·rcases t3:decide ((c:Int)<1) with _ | _
    ·have HH4:=Lib.hid (show uncloseV l=if (idxDec rest).2=0 then some ⟨a,c,d,(idxDec rest).1⟩ else none by rw [HH3.out,if_neg (by simp at t1 t2 t3;omega)])
     have HBDS:=Lib.hid (show 1≤c∧1≤d∧d≤64 by simp at t1 t2 t3;omega)
     obtain⟨r,hr⟩: ∃ r,r=idxDec rest:=⟨_,rfl⟩
     rw [←hr] at HID HH4
     clear hr HH3
     obtain⟨ms,e0⟩:=r
     unfold IdxPost at HID
     go_wp2_with fail
     refine HID.out.mono ?_
     rintro e w2 ⟨mv,rfl,hmo,hb2⟩
     obtain⟨om,mcap,hsh,_,_⟩:=own_shape hmo
     subst hsh
     have HMO:=Lib.hid hmo
     have HB2:=Lib.hid (Below.next HB1.out hb2)
     have HF2:=Lib.hid (ClBlk.below HF1.out hb2)
     have hlt:=HF1.out.lt
     have D0:=Lib.hid (cell_later hb2 d0)
     have D1:=Lib.hid (cell_later hb2 d1)
     have D2:=Lib.hid (cell_later hb2 d2)
     have hneq: ¬ gv=w.heap.size:=by omega
     clear hb2 hmo d0 d1 d2 HID HB1 HF1
     go_wp2_with fail
     refine wp_region_held_drew (S:=fun w'=>Turned (fun k=>k=w.heap.size) w2 w') (by kernel_rfl) (Turned.below (below_drewN' _ 1)) (fun hHeld=> ?_)
     have FX1:=Lib.hid (fun(wF:World) (hSw:(fun w'=>Turned (fun k=>k=w.heap.size) w2 w') wF)=>And.intro ((hSw.cell D0.out hneq)) (And.intro ((hSw.cell D1.out hneq)) ((hSw.cell D2.out hneq))))
     refine tf FX1 0 rfl ?_
     refine tf FX1 1 rfl ?_
     refine tf FX1 2 rfl ?_
     refine tf FX1 3 rfl ?_
     refine tf FX1 4 rfl ?_
     refine tf FX1 5 rfl ?_
     refine tf FX1 6 rfl ?_
     refine tf FX1 7 rfl ?_
     refine tf FX1 8 rfl ?_
     refine tf FX1 9 rfl ?_
     refine tf FX1 10 rfl ?_
     refine tf FX1 11 rfl ?_
     refine tf FX1 12 rfl ?_
     clear FX1
     have HF3:=Lib.hid (ClBlk.below HF2.out (below_drewN' w2 1))
     refine wpAnyH_ready (rs:=[13]) (by kernel_rfl) (by simp) ?_
     refine AllReadyH.cons rfl (fun K hK=> ?_) AllReadyH.nil
     rw [if_pos (by kernel_rfl)]
     refine wp_store_row 194 (.tmp 2) (.tmp 51) rfl w.heap.size (clCs (a:Int) (c:Int) (d:Int) (.slice om ms.length mcap)) rfl rfl 194 (clCs 0 0 0 (.slice none 0 0)) HF3.out clInfo rfl (clCs_all _ _ _ _ rfl) ?_
     have HT4:=Lib.hid (hHeld.trans (run_setRow_turned (w2.drewN 1) w.heap.size (clCs (a:Int) (c:Int) (d:Int) (.slice om ms.length mcap))) (fun i hi=> .inl hi))
     have HF4:=Lib.hid (show ClBlk ((w2.drewN 1).setRow w.heap.size (clCs (a:Int) (c:Int) (d:Int) (.slice om ms.length mcap))) w.heap.size (a:Int) (c:Int) (d:Int) (.slice om ms.length mcap) from setRow_heap _ _ _ _ _ _ HF3.out)
     refine hK.out _ _ HT4.out (fun hHeld=> ?_)
     clear hK K
     have HB4:=Lib.hid (turned_below HB2.out HT4.out (fun k hk=>by omega) HB2.out.size)
     have HM4:=Lib.hid ((HMO.out.turned HT4.out hlt).mono (Nat.le_of_lt hlt))
     refine tk 14 rfl ?v_2 ?hy_2 ?r_2
     case hy_2=>intro w hSw;go_simp;try with_reducible rfl
     simp only [pA]
     refine wpAnyH_done (by kernel_rfl) ?_ _
     rcases he:(e0==0) with _ | _
     ·have HG:=Lib.hid (show uncloseV l=none by rw [HH4.out,if_neg (by simpa using he)])
      go_wp2
      refine bodyPost_ret (v:= .tuple #[clV (a:Int) (c:Int) (d:Int) (.slice om ms.length mcap),.bool false]) (results_cl2 rfl _ _ w.heap.size _ _ _ _ _ rfl rfl HF4.out) rfl ⟨HB4.out,by rw [HG.out];exact⟨_,_,_,_,_,_,rfl⟩⟩
     ·have HG:=Lib.hid (show uncloseV l=some ⟨a,c,d,ms⟩ by rw [HH4.out,if_pos (by simpa using he)])
      go_wp2
      refine bodyPost_ret (v:= .tuple #[clV (a:Int) (c:Int) (d:Int) (.slice om ms.length mcap),.bool true]) (results_cl2 rfl _ _ w.heap.size _ _ _ _ _ rfl rfl HF4.out) rfl ⟨HB4.out,by rw [HG.out];exact⟨_,rfl,HM4.out,HBDS.out.1,hc,HBDS.out.2.1,HBDS.out.2.2,ha⟩⟩
    ·have HG:=Lib.hid (show uncloseV l=none by rw [HH3.out,if_pos (.inr (.inr (by simp at t3;omega)))])
     go_wp2_with (with_reducible refine wpList_store_cl rfl (.tmp 2) (.tmp 35) rfl w.heap.size 0 0 0 0 0 0 (.slice none 0 0) (.slice none 0 0) rfl rfl HF1.out rfl ?_)
     intro w3 hf3 ht3
     have HF3:=Lib.hid hf3
     have HB3:=Lib.hid (turned_below HB1.out ht3 (fun k hk=>by omega) HB1.out.size)
     clear hf3 ht3
     go_wp2
     refine bodyPost_ret (v:= .tuple #[clV 0 0 0 (.slice none 0 0),.bool false]) (results_cl2 rfl _ _ w.heap.size 0 0 0 (.slice none 0 0) _ rfl rfl HF3.out) rfl ⟨HB3.out,by rw [HG.out];exact⟨0,0,0,none,0,0,rfl⟩⟩
   ·have HG:=Lib.hid (show uncloseV l=none by rw [HH3.out,if_pos (.inr (.inl (by simp at t2;omega)))])
    go_wp2_with (with_reducible refine wpList_store_cl rfl (.tmp 2) (.tmp 35) rfl w.heap.size 0 0 0 0 0 0 (.slice none 0 0) (.slice none 0 0) rfl rfl HF1.out rfl ?_)
    intro w3 hf3 ht3
    have HF3:=Lib.hid hf3
    have HB3:=Lib.hid (turned_below HB1.out ht3 (fun k hk=>by omega) HB1.out.size)
    clear hf3 ht3
    go_wp2
    refine bodyPost_ret (v:= .tuple #[clV 0 0 0 (.slice none 0 0),.bool false]) (results_cl2 rfl _ _ w.heap.size 0 0 0 (.slice none 0 0) _ rfl rfl HF3.out) rfl ⟨HB3.out,by rw [HG.out];exact⟨0,0,0,none,0,0,rfl⟩⟩
  ·have HG:=Lib.hid (show uncloseV l=none by rw [HH3.out,if_pos (.inl (by simp at t1;omega))])
   go_wp2_with (with_reducible refine wpList_store_cl rfl (.tmp 2) (.tmp 35) rfl w.heap.size 0 0 0 0 0 0 (.slice none 0 0) (.slice none 0 0) rfl rfl HF1.out rfl ?_)
   intro w3 hf3 ht3
   have HF3:=Lib.hid hf3
   have HB3:=Lib.hid (turned_below HB1.out ht3 (fun k hk=>by omega) HB1.out.size)
   clear hf3 ht3
   go_wp2
   refine bodyPost_ret (v:= .tuple #[clV 0 0 0 (.slice none 0 0),.bool false]) (results_cl2 rfl _ _ w.heap.size 0 0 0 (.slice none 0 0) _ rfl rfl HF3.out) rfl ⟨HB3.out,by rw [HG.out];exact⟨0,0,0,none,0,0,rfl⟩⟩
end Go.Proofs.YtlobohpbgghleaaGreatDoor

namespace Go.Proofs.YtlobohpbgghleaaGreatDoor
open Go.RowKit
def closeOk (first stride:Nat) (foot:Int):Nat→List Mk→Bool
 | _,[]=>true
 | i,m::r=>if m.s≠((first+i*stride:Nat):Int)∨foot≤m.p then false else closeOk first stride foot (i+1) r
def closeIn (c:Cls) (g:Sg):Option (List Mk×Nat):=
 if (c.first:Int)≠g.first∨(c.count:Int)≠g.count∨c.marks.length≠(c.count+c.stride - 1) / c.stride then none
 else if closeOk c.first c.stride g.foot 0 c.marks then some (c.marks,c.stride) else none
def closingV (b:List UInt8) (g:Sg):Option (List Mk×Nat):=
 if (wholeF b 3).2≠0∨((wholeF b 3).1.s:Int)≠g.num then none
 else match uncloseV (wholeF b 3).1.body with
  | none=>none
  | some c=>closeIn c g
theorem wholeF_len (b:List UInt8) (k:Nat):(wholeF b k).1.body.length≤16384:=by
 unfold wholeF
 split
 ·simp [zFrm]
 ·rename_i h
  split
  ·simp [zFrm]
  ·exact(decF_fine (by simpa using h)).2.1
def ClosP (w:World) (r:Option (List Mk×Nat)) (e:Ending) (w':World):Prop:=Below w.heap.size w w'∧
 match r with
 | none=>e= .returned (.tuple #[.slice none 0 0,.int .i64 0,.int .i64 70])
 | some r=> ∃ mv,e= .returned (.tuple #[mv,.int .i64 (r.2:Int),.int .i64 0])∧MkOwn w' w.heap.size mv r.1
theorem close_bad {first stride i:Nat} {foot:Int} {m:Mk} {r:List Mk} (h:m.s≠((first+i*stride:Nat):Int)∨foot≤m.p):closeOk first stride foot i (m::r)=false:=by rw [closeOk,if_pos h]
theorem close_go {first stride i:Nat} {foot:Int} {m:Mk} {r:List Mk} (h: ¬ (m.s≠((first+i*stride:Nat):Int)∨foot≤m.p)):closeOk first stride foot i (m::r)=closeOk first stride foot (i+1) r:=by rw [closeOk,if_neg h]
set_option maxRecDepth 100000 in
set_option maxHeartbeats 8000000 in
theorem closing_any (l:List UInt8) (v:Value) (g:Sg) (w:World) (hv:BRow w v l) (hl:l.length≤140737488355328) (hn:NibTab w):
  Calls Tryz.prog 82 #[v,sgV g] w (ClosP w (closingV l g)):=by
 have HB0:=Lib.hid (below_alloc w (.cells (sgCs g) 46))
 have HG0:=Lib.hid (show (w.alloc (.cells (sgCs g) 46)).heap[w.heap.size]? =some (.cells (sgCs g) 46 (0,0)) from heap_alloc_new w _)
 have HWH:=Lib.hid (whole_any l v 3 _ (hv.below HB0.out) (by omega) (hn.below HB0.out))
 have HH:=Lib.hid (show closingV l g=if (wholeF l 3).2≠0∨((wholeF l 3).1.s:Int)≠g.num then none
  else match uncloseV (wholeF l 3).1.body with
  | none=>none
  | some c=>closeIn c g from rfl)
 have HBL:=Lib.hid (wholeF_len l 3)
 have HSZ0:=Lib.hid (show (w.alloc (.cells (sgCs g) 46)).heap.size=w.heap.size+1 by simp)
 obtain⟨oa,cap,rfl,_,_⟩:=hv
 obtain⟨r,hr⟩: ∃ r,r=wholeF l 3:=⟨_,rfl⟩
 rw [←hr] at HWH HH HBL
 clear hr hn
 obtain⟨⟨k,s,body⟩,e0⟩:=r
 unfold WholePost at HWH
 simp only [sgCs] at HB0 HG0 HWH HSZ0
 go_enter Tryz.func82,Tryz.ntmps82
 go_wp2_with fail
 refine HWH.out.mono ?_
 rintro e w1 ⟨bv,rfl,hbv,hb1⟩
 have HB1:=Lib.hid (Below.next HB0.out hb1)
 have HG1:=Lib.hid ((hb1.block _ (Array.getElem?_eq_some_iff.1 HG0.out).1).trans HG0.out)
 have HBV:=Lib.hid hbv.brow
 obtain⟨ob,bcap,rfl,_,_⟩:=hbv
 have HB2:=Lib.hid (Below.next HB1.out (below_alloc w1 (.cells (frCs (k:Int) (s:Int) (.slice ob body.length bcap)) 148)))
 have HF2:=Lib.hid (frBlk_alloc w1 (k:Int) (s:Int) (.slice ob body.length bcap))
 have HV2:=Lib.hid (HBV.out.below (below_alloc w1 (.cells (frCs (k:Int) (s:Int) (.slice ob body.length bcap)) 148)))
 have HG2:=Lib.hid (((below_alloc w1 (.cells (frCs (k:Int) (s:Int) (.slice ob body.length bcap)) 148)).block _ (Array.getElem?_eq_some_iff.1 HG1.out).1).trans HG1.out)
 simp only [frCs] at HB2 HF2 HV2 HG2
 have c1:=HF2.out.c1
 have g0:=cell_of_row _ _ 0 _ _ _ HG2.out
 simp only [List.getElem?_toArray,List.getElem?_cons_zero] at g0
 clear hb1 HB0 HG0 HWH HB1 HG1 HBV HSZ0
 rcases he0:(e0 != 0) with _ | _
 ·rcases hs:((s:Int) != g.num) with _ | _
  ·have HH2:=Lib.hid (show closingV l g=match uncloseV body with
    | none=>none
    | some c=>closeIn c g by
    rw [HH.out,if_neg (by rintro(h | h);exact h (by simpa using he0);exact h (by simpa using hs))])
   have HUC:=Lib.hid (fun W (hb:BRow W (.slice ob body.length bcap) body)=>unclose_any body _ W hb (by have:=HBL.out;omega))
   obtain⟨r,hr⟩: ∃ r,r=uncloseV body:=⟨_,rfl⟩
   rw [←hr] at HUC HH2
   clear hr HH
   go_wp2_with fail
   generalize w1.alloc (.cells #[.int .i64 (k:Int),.int .i64 (s:Int),.slice ob body.length bcap] 148)=w2 at*
   generalize w1.heap.size=gf at*
   refine(HUC.out w2 HV2.out).mono ?_
   rintro e w3 ⟨hb3,hpost⟩
   have HB3:=Lib.hid (Below.next HB2.out hb3)
   have HG3:=Lib.hid ((hb3.block _ (Array.getElem?_eq_some_iff.1 HG2.out).1).trans HG2.out)
   clear HUC HV2 HF2 c1 g0
   rcases r with _ | c
   ·obtain⟨a',c',d',oa',n',cap',rfl⟩:=hpost
    have HB4:=Lib.hid (Below.next HB3.out (below_alloc w3 (.cells (clCs a' c' d' (.slice oa' n' cap')) 194)))
    simp only [clCs] at HB4
    clear hb3
    go_wp2_with fail
    go_quiet (fail)
    go_wp2
    refine bodyPost_ret (v:= .tuple #[.slice none 0 0,.int .i64 0,.int .i64 70]) (by simp [results,Tryz.results82,go_sem]) rfl ⟨Below.next HB4.out (below_drewN' _ _),by rw [HH2.out]⟩
   ·obtain⟨cf,cc,cs,ms⟩:=c
    obtain⟨mv,rfl,hmo,hc1,hc2,hs1,hs2,hf1⟩:=hpost
    dsimp only at hmo hc1 hc2 hs1 hs2 hf1
    obtain⟨om,mcap,hsh,hml,_⟩:=own_shape hmo
    subst hsh
    have HMO:=Lib.hid hmo
    have HB4:=Lib.hid (Below.next HB3.out (below_alloc w3 (.cells (clCs (cf:Int) (cc:Int) (cs:Int) (.slice om ms.length mcap)) 194)))
    have HC4:=Lib.hid (clBlk_alloc w3 (cf:Int) (cc:Int) (cs:Int) (.slice om ms.length mcap))
    have HMO4:=Lib.hid ((HMO.out.later (below_alloc w3 (.cells (clCs (cf:Int) (cc:Int) (cs:Int) (.slice om ms.length mcap)) 194))).mono (B':=w.heap.size) HB2.out.size)
    have HG4:=Lib.hid (((below_alloc w3 (.cells (clCs (cf:Int) (cc:Int) (cs:Int) (.slice om ms.length mcap)) 194)).block _ (Array.getElem?_eq_some_iff.1 HG3.out).1).trans HG3.out)
    simp only [clCs] at HB4 HC4 HMO4 HG4
    have HH3:=Lib.hid (show closingV l g=if (cf:Int)≠g.first∨(cc:Int)≠g.count∨ms.length≠(cc+cs - 1) / cs then none
     else if closeOk cf cs g.foot 0 ms then some (ms,cs) else none by rw [HH2.out];rfl)
    clear hmo HH2 HB3 HG3 HMO hb3
    go_wp2_with fail
    generalize w3.alloc (.cells #[.int .i64 (cf:Int),.int .i64 (cc:Int),.int .i64 (cs:Int),.slice om ms.length mcap] 194)=w4 at*
    generalize w3.heap.size=gc at*
    have k0:=HC4.out.cell 0
    have k1:=HC4.out.cell 1
    have k2:=HC4.out.cell 2
    have k3:=HC4.out.cell 3
    have j1:=cell_of_row w4 _ 1 _ _ _ HG4.out
    have j2:=cell_of_row w4 _ 2 _ _ _ HG4.out
    have j3:=cell_of_row w4 _ 3 _ _ _ HG4.out
    simp only [clCs,List.getElem?_toArray,List.getElem?_cons_zero,List.getElem?_cons_succ] at k0 k1 k2 k3 j1 j2 j3
    obtain⟨N,hN⟩: ∃ N,N=cc+cs - 1:=⟨_,rfl⟩
    have HN:=Lib.hid hN
    have hw1:IntKind.i64.wrap ((cc:Int)+(cs:Int))=(cc:Int)+(cs:Int):=by rw [IntKind.wrap_i64];omega
    have hw2:IntKind.i64.wrap ((cc:Int)+(cs:Int) - 1)=(N:Int):=by rw [IntKind.wrap_i64];omega
    have hcs0: ¬ cs=0:=by omega
    clear hN
    rcases hcf:((cf:Int) != g.first) with _ | _
    ·rcases hcc:((cc:Int) != g.count) with _ | _
     ·obtain⟨Q,hQ⟩: ∃ Q,Q=N / cs:=⟨_,rfl⟩
      have HQQ:=Lib.hid hQ
      have hQN:Q≤N:=by rw [hQ];exact Nat.div_le_self _ _
      have hN3:N≤2199023255616:=by have:=HN.out;omega
      have hwq:wrap64 ((N:Int) / (cs:Int))=(Q:Int):=by
       have e:(N:Int) / (cs:Int)=(Q:Int):=by rw [hQ];exact(Int.natCast_ediv N cs).symm
       rw [e]
       have h1:(0:Int)≤(Q:Int):=Int.natCast_nonneg Q
       have h2:(Q:Int)≤2199023255616:=by omega
       unfold wrap64
       omega
      clear hQ
      rcases hqm:((ms.length:Int) != (Q:Int)) with _ | _
      ·have HQ:=Lib.hid (show ms.length=N / cs by rw [←HQQ.out];exact Int.ofNat.inj (by simpa using hqm))
       have HH4:=Lib.hid (show closingV l g=if closeOk cf cs g.foot 0 ms then some (ms,cs) else none by
        rw [HH3.out,if_neg (by rintro(h | h | h);exact h (by simpa using hcf);exact h (by simpa using hcc);exact h (by rw [HQ.out,HN.out]))])
       go_quiet (fail)
       have HB5:=Lib.hid (Below.next HB4.out (below_drewN' w4 nq))
       have HC5:=Lib.hid (HC4.out.below (below_drewN' w4 nq))
       have HMO5:=Lib.hid (HMO4.out.later (below_drewN' w4 nq))
       have HG5:=Lib.hid (((below_drewN' w4 nq).block _ (Array.getElem?_eq_some_iff.1 HG4.out).1).trans HG4.out)
       generalize w4.drewN nq=w5 at*
       have k3:=HC5.out.cell 3
       simp only [clCs,List.getElem?_toArray,List.getElem?_cons_zero,List.getElem?_cons_succ] at k3
       clear HB4 HC4 HMO4 HG4 HH3 hw1 hw2 hwq
       go_wp2
       clear hqm hcf hcc
       go_loopw [67] (fun iv wr=> ∃ k:Nat,k≤ms.length∧iv= .int .i64 (k:Int)∧Hid (Below w5.heap.size w5 wr)∧Hid (closeOk cf cs g.foot 0 ms=closeOk cf cs g.foot k (ms.drop k))) (fun iv _=>ms.length - (intOf iv).toNat)
       case atStart=>exact⟨0,Nat.zero_le _,rfl,Lib.hid (Below.refl _ _),Lib.hid rfl⟩
       case round=>
        obtain⟨i,hk,rfl,HBR,HCO⟩:=hrel
        by_cases hlt:i<ms.length
        ·obtain⟨m,hm,_,_⟩:=nth ms i hlt
         obtain⟨_,_,eqs,_,_,hrow⟩:=HMO5.out.row
         simp only [Value.slice.injEq,true_and] at eqs
         obtain⟨rfl,rfl⟩:=eqs
         obtain⟨b,off,rfl,hcell⟩:=hrow i m hm
         have q1:(i:Int)<(ms.length:Int):=by omega
         have HCE:=Lib.hid (range_later hcell HBR.out)
         have HAL:=Lib.hid (Below.next HBR.out (below_alloc wr (.cells (mkCs m) 133)))
         have HMB:=Lib.hid (mkBlk_alloc wr m)
         have HDR:=Lib.hid (drop_cons8 hm)
         have hiq:i*cs≤N:=by
          have h1:=HQ.out
          have h2:i*cs≤N / cs*cs:=Nat.mul_le_mul_right _ (by omega)
          exact Nat.le_trans h2 (Nat.div_mul_le_self _ _)
         have hN2:N≤2199023255616:=by have:=HN.out;omega
         obtain⟨q,hq⟩: ∃ q,q=i*cs:=⟨_,rfl⟩
         obtain⟨u,hu⟩: ∃ u,u=cf+i*cs:=⟨_,rfl⟩
         have hcast:(i:Int)*(cs:Int)=(q:Int):=by rw [hq];exact(Int.natCast_mul i cs).symm
         rw [←hq] at hiq
         have hwm:IntKind.i64.wrap ((i:Int)*(cs:Int))=(q:Int):=by rw [hcast,IntKind.wrap_i64];omega
         have hwa:IntKind.i64.wrap ((cf:Int)+(q:Int))=(u:Int):=by rw [hu,←hq,IntKind.wrap_i64];omega
         have hwi:IntKind.i64.wrap ((i:Int)+1)=(i:Int)+1:=by have:=HQ.out;have:N / cs≤N:=Nat.div_le_self _ _;rw [IntKind.wrap_i64];omega
         have HBD:=Lib.hid (@close_bad cf cs i g.foot m (ms.drop (i+1)))
         have HGO:=Lib.hid (@close_go cf cs i g.foot m (ms.drop (i+1)))
         rw [←hu] at HBD HGO
         rw [HDR.out] at HCO
         simp only [mkCs] at HAL HMB
         clear hm hrow hcell HDR hcast hiq hq hu
         have k0:=cell_later HAL.out (HC5.out.cell 0)
         have k2:=cell_later HAL.out (HC5.out.cell 2)
         have j3:=cell_later HAL.out (cell_of_row w5 _ 3 _ _ _ HG5.out)
         have d0:=HMB.out.c0
         have d1:=HMB.out.c1
         simp only [clCs] at k0 k2
         have HB6:=Lib.hid (Below.next HB5.out HAL.out)
         rcases t1:(m.s != (u:Int)) with _ | _
         ·rcases t2:decide (g.foot≤m.p) with _ | _
          ·have HG:=Lib.hid (HGO.out (by simp at t1 t2;omega))
           go_wp2_with (with_reducible refine wpList_load_mkAt rfl (.tmp 70) rfl b (off+i*2) m rfl HCE.out ?_)
           go_roundw
           case rel=>exact⟨i+1,by omega,by go_num,HAL,Lib.hid (by rw [HCO.out,HG.out])⟩
           case measure=>simp [intOf];omega
          ·have HE:=Lib.hid (show closingV l g=none by rw [HH4.out,HCO.out,HBD.out (.inr (by simpa using t2))];rfl)
           go_wp2_with (with_reducible refine wpList_load_mkAt rfl (.tmp 70) rfl b (off+i*2) m rfl HCE.out ?_)
           refine bodyPost_ret (v:= .tuple #[.slice none 0 0,.int .i64 0,.int .i64 70]) (by simp [results,Tryz.results82,go_sem]) rfl ⟨HB6.out,by rw [HE.out]⟩
         ·have HE:=Lib.hid (show closingV l g=none by rw [HH4.out,HCO.out,HBD.out (.inl (by simpa using t1))];rfl)
          go_wp2_with (with_reducible refine wpList_load_mkAt rfl (.tmp 70) rfl b (off+i*2) m rfl HCE.out ?_)
          refine bodyPost_ret (v:= .tuple #[.slice none 0 0,.int .i64 0,.int .i64 70]) (by simp [results,Tryz.results82,go_sem]) rfl ⟨HB6.out,by rw [HE.out]⟩
        ·obtain rfl:i=ms.length:=by omega
         have HE:=Lib.hid (show closingV l g=some (ms,cs) by rw [HH4.out,HCO.out,List.drop_length];rfl)
         have k2:=cell_later HBR.out (HC5.out.cell 2)
         have k3':=cell_later HBR.out (HC5.out.cell 3)
         simp only [clCs] at k2 k3'
         go_wp2
         go_quiet (fail)
         go_wp2
         refine bodyPost_ret (v:= .tuple #[.slice om ms.length mcap,.int .i64 (cs:Int),.int .i64 0]) (by simp [results,Tryz.results82,go_sem]) rfl ⟨Below.next (Below.next HB5.out HBR.out) (below_drewN' _ _),by rw [HE.out];exact⟨_,rfl,(HMO5.out.later HBR.out).later (below_drewN' _ _)⟩⟩
      ·have HE:=Lib.hid (show closingV l g=none by rw [HH3.out,if_pos (.inr (.inr (by rw [←HN.out,←HQQ.out];intro e;simp [e] at hqm)))])
       go_quiet (fail)
       go_wp2
       refine bodyPost_ret (v:= .tuple #[.slice none 0 0,.int .i64 0,.int .i64 70]) (by simp [results,Tryz.results82,go_sem]) rfl ⟨Below.next HB4.out (below_drewN' _ _),by rw [HE.out]⟩
     ·have HE:=Lib.hid (show closingV l g=none by rw [HH3.out,if_pos (.inr (.inl (by simpa using hcc)))])
      go_quiet (fail)
      go_wp2
      refine bodyPost_ret (v:= .tuple #[.slice none 0 0,.int .i64 0,.int .i64 70]) (by simp [results,Tryz.results82,go_sem]) rfl ⟨Below.next HB4.out (below_drewN' _ _),by rw [HE.out]⟩
    ·have HE:=Lib.hid (show closingV l g=none by rw [HH3.out,if_pos (.inl (by simpa using hcf))])
     go_quiet (fail)
     go_wp2
     refine bodyPost_ret (v:= .tuple #[.slice none 0 0,.int .i64 0,.int .i64 70]) (by simp [results,Tryz.results82,go_sem]) rfl ⟨Below.next HB4.out (below_drewN' _ _),by rw [HE.out]⟩
  ·have HE:=Lib.hid (show closingV l g=none by rw [HH.out,if_pos (.inr (by simpa using hs))])
   go_wp2
   refine bodyPost_ret (v:= .tuple #[.slice none 0 0,.int .i64 0,.int .i64 70]) (by simp [results,Tryz.results82,go_sem]) rfl ⟨HB2.out,by rw [HE.out]⟩
 ·have HE:=Lib.hid (show closingV l g=none by rw [HH.out,if_pos (.inl (by simpa using he0))])
  go_wp2
  refine bodyPost_ret (v:= .tuple #[.slice none 0 0,.int .i64 0,.int .i64 70]) (by simp [results,Tryz.results82,go_sem]) rfl ⟨HB2.out,by rw [HE.out]⟩
end Go.Proofs.YtlobohpbgghleaaGreatDoor

namespace Go.Proofs.YtlobohpbgghleaaGreatDoor
open Go.RowKit
attribute [local go_sem] Oper.semAt_some
def segOf (x:List Nat):Sg:=match x with
 | [a,b,c,d]=>⟨(a:Int),(b:Int),(c:Int),(d:Int)⟩
 | _=>⟨0,0,0,0⟩
def manOf (s:Nat) (us:List Nat):Man:=⟨(s:Int),(us.getD 0 0:Nat),(us.getD 1 0:Nat),(us.getD 2 0:Nat),(us.getD 3 0:Nat),(fours (us.drop 4)).map segOf⟩
def decManBad (b:List UInt8) (r:List Nat×Nat×Int):Prop:=r.2.2≠0∨r.2.1≠b.length∨r.1.length<8∨r.1.length % 4≠0∨2199023255552<maxU r.1
instance (b:List UInt8) (r:List Nat×Nat×Int):Decidable (decManBad b r):=by unfold decManBad;infer_instance
def decMan (b:List UInt8):Man×Int:=
 if (wholeF b 4).2≠0 then (zeroM,80)
 else if decManBad (wholeF b 4).1.body (decAll (wholeF b 4).1.body 1028) then (zeroM,80)
 else if manOk (manOf (wholeF b 4).1.s (decAll (wholeF b 4).1.body 1028).1) then (manOf (wholeF b 4).1.s (decAll (wholeF b 4).1.body 1028).1,0) else (zeroM,80)
theorem results_mn2 {fn:Func} {p q:Tmp} (h:fn.results= #[.cell p 31,.tmp q]) (tmps:Array Value) (w:World) (g:Nat) (m:Man) (sv x:Value)
  (hp:tmps.getD p undef= .pointer (some ⟨g,0,none⟩)) (hq:tmps.getD q undef=x) (hE:MnBlk w g m sv):(results fn tmps).run Tryz.prog w= .ok (.tuple #[mnV m sv,x]) w:=by
 have hl:=run_load_mn hE
 have hp':tmps[p]?.getD undef= .pointer (some ⟨g,0,none⟩):=by simpa using hp
 have hq':tmps[q]?.getD undef=x:=by simpa using hq
 simp [results,h,hp',hq',asAddr,hl]
theorem MnBlk.segsAny {w:World} {g:Nat} {m m':Man} {sv:Value} (h:MnBlk w g m sv) (e:mnCs m sv=mnCs m' sv):MnBlk w g m' sv:=by unfold MnBlk at *;rw [←e];exact h
theorem list4 {vs:List Nat} (h:vs.length=4): ∃ a b c d,vs=[a,b,c,d]:=by
 match vs,h with
 | [a,b,c,d],_=>exact⟨a,b,c,d,rfl⟩
def TuS (g:Nat) (ov0:Value) (W2 W:World):Prop:=Turned (fun j=>j=g∨ov0.ownBlock=some j) W2 W
theorem TuS.sck {B g:Nat} {ov0:Value} {W2 W:World} (h:TuS g ov0 W2 W) (ho: ∀ j,ov0.ownBlock=some j→B≤j):ScK B g g W2 W:=Turned.mono h fun j hj=>by
 rcases hj with h | h
 ·exact .inl h
 ·exact .inr (.inr (ho j h))
def MaS (B g:Nat) (m0:Man) (n:Nat) (cs:List Value) (W2:World) (ov0 ov:Value) (W:World):Prop:=MnBlk W g m0 ov∧W.ownsRow B 46 4 ov n cs∧TuS g ov0 W2 W∧B≤W.heap.size
theorem MaS.next {B g n:Nat} {m0:Man} {cs:List Value} {W2 W W':World} {ov0 ov:Value} (h:MaS B g m0 n cs W2 ov0 ov W) (hb:Below W.heap.size W W'):MaS B g m0 n cs W2 ov0 ov W':=
 ⟨h.1.below hb,own_later h.2.1 hb,Turned.trans h.2.2.1 (Turned.below hb) fun _ h=> .inl h,Nat.le_trans h.2.2.2 hb.size⟩
theorem MaS.step {B g n n':Nat} {m0:Man} {cs cs':List Value} {W2 W W':World} {ov v':Value} (h:MaS B g m0 n cs W2 ov ov W) (hg:W.grownBy W' ov.ownBlock) (ho:W'.ownsRow B 46 4 v' n' cs') (hgB:g<B):
  MnBlk W' g m0 ov∧W'.ownsRow B 46 4 v' n' cs'∧TuS g ov W2 W':=
 ⟨h.1.keep (below_of_grown h.2.1 h.2.2.2 hg) hgB,ho,Turned.trans h.2.2.1 (⟨hg.os,hg.tape,hg.output,hg.size,fun k hk hs=>hg.block k hk fun e=>hs (.inr e.symm)⟩:Turned (fun j=>j=g∨ov.ownBlock=some j) W W') fun _ h=> .inl h⟩
theorem MaS.store {B g n:Nat} {m0:Man} {cs:List Value} {W2 W:World} {ov v':Value} (h:MnBlk W g m0 ov∧W.ownsRow B 46 4 v' n cs∧TuS g ov W2 W) (hgB:g<B):
  MnBlk (W.setCell ⟨g,5,none⟩ v') g m0 v'∧(W.setCell ⟨g,5,none⟩ v').ownsRow B 46 4 v' n cs∧TuS g ov W2 (W.setCell ⟨g,5,none⟩ v'):=
 ⟨h.1.set rfl,own_set h.2.1 hgB,Turned.trans h.2.2 (Turned.setCell (S:=fun j=>j=g) _ ⟨g,5,none⟩ _ rfl) fun _ hi=> .inl (.inl hi)⟩
def MaI (B g:Nat) (m0:Man) (us:List Nat) (X:World) (pre:List ChX) (W:World):Prop:=
 ∃ ov,MnBlk W g m0 ov∧W.ownsRow B 46 4 ov pre.length (sgCells (pre.map fun x=>segOf x.1))∧pre.map (·.1) <+: fours us∧Turned (fun k=>k=g∨k=g) X W
theorem own_kept {w w':World} {B B' size n:Nat} {e:TypeId} {v:Value} {xs:List Value} (h:w.ownsRow B e size v n xs) (hk:Kept B' w w'):w'.ownsRow B e size v n xs:=by
 refine⟨h.1,?_⟩
 rcases h.2 with hn | ⟨g,cap,cur,rfl,hb1,hg,rest⟩
 ·exact .inl hn
 ·exact .inr ⟨g,cap,cur,rfl,hb1,hk.blk hg,rest⟩
theorem own_turnedB {S:Nat→Prop} {w w':World} {B size n:Nat} {e:TypeId} {v:Value} {xs:List Value} (h:w.ownsRow B e size v n xs) (ht:Turned S w w') (hS: ∀ k,S k→k<B):w'.ownsRow B e size v n xs:=by
 refine⟨h.1,?_⟩
 rcases h.2 with hn | ⟨g,cap,cur,rfl,hb1,hg,rest⟩
 ·exact .inl hn
 ·exact .inr ⟨g,cap,cur,rfl,hb1,by rw [ht.block _ (Array.getElem?_eq_some_iff.1 hg).1 (fun hs=>by have:=hS _ hs;omega)];exact hg,rest⟩
theorem MaI.kept {B g:Nat} {m0:Man} {us:List Nat} {X:World} (hB:X.heap.size≤B):AbidesK B (MaI B g m0 us X):=fun _ _ _ ⟨ov,h1,h2,h3,h4⟩ hk=>⟨ov,hk.blk h1,own_kept h2 hk,h3,h4.kept hk hB⟩
theorem wp_noexit {P:Program} {c:Code} {K:Act→World→Prop} {Q:Exit→Act→World→Prop} {a:Act} {w:World} (h:c.wp P (Exit.then K (fun _ _ _=>False)) a w):c.wp P (Exit.then K Q) a w:=
 wp_mono h fun e a w he=>by cases e<;>first | exact he | exact he.elim
theorem maxU_bound {vs:List Nat} {M:Nat} (h: ∀ x∈vs,x≤M):maxU vs≤M:=by
 suffices hs: ∀ (vs:List Nat) (a:Nat),a≤M→(∀ x∈vs,x≤M)→vs.foldl Nat.max a≤M from hs vs 0 (Nat.zero_le _) h
 intro vs
 induction vs with
 | nil=>intro a ha _;exact ha
 | cons y ys ih=>intro a ha hy;exact ih _ (Nat.max_le.2 ⟨ha,hy y List.mem_cons_self⟩) fun x hx=>hy x (List.mem_cons_of_mem _ hx)
def DecMP (w:World) (r:Man×Int) (e:Ending) (w':World):Prop:= ∃ sv,e= .returned (.tuple #[mnV r.1 sv,.int .i64 r.2])∧SgIn (fun k=>w.heap.size≤k) w' sv r.1.segs∧sv.oneCell'=true∧Below w.heap.size w w'
theorem sgIn_nil (A:Nat→Prop) (w:World):SgIn A w (.slice none 0 0) []:=⟨none,0,rfl,Nat.le_refl _,by decide,fun i g hg=>by simp at hg⟩
set_option maxRecDepth 100000 in
set_option maxHeartbeats 8000000 in
theorem manDecode_any (l:List UInt8) (v:Value) (w:World) (hv:BRow w v l) (hl:l.length≤67108864) (hn:NibTab w):
  Calls Tryz.prog 74 #[v] w (DecMP w (decMan l)):=by
 have HB0:=Lib.hid (below_alloc w (.cells (mnCs zeroM (.slice none 0 0)) 31))
 have HM0:=Lib.hid (mnBlk_alloc w zeroM (.slice none 0 0))
 have HWH:=Lib.hid (whole_any l v 4 _ (hv.below HB0.out) (by omega) (hn.below HB0.out))
 have HE:=Lib.hid (show decMan l=if (wholeF l 4).2≠0 then (zeroM,80)
  else if decManBad (wholeF l 4).1.body (decAll (wholeF l 4).1.body 1028) then (zeroM,80)
  else if manOk (manOf (wholeF l 4).1.s (decAll (wholeF l 4).1.body 1028).1) then (manOf (wholeF l 4).1.s (decAll (wholeF l 4).1.body 1028).1,0) else (zeroM,80) from rfl)
 have HBL:=Lib.hid (wholeF_len l 4)
 obtain⟨oa,cap,rfl,_,_⟩:=hv
 obtain⟨r,hr⟩: ∃ r,r=wholeF l 4:=⟨_,rfl⟩
 rw [←hr] at HWH HE HBL
 clear hr hn
 obtain⟨⟨k,s,body⟩,e0⟩:=r
 unfold WholePost at HWH
 dsimp only at HE HBL
 simp only [mnCs,zeroM] at HB0 HM0 HWH
 refine(callsIn_wide (n:=3)).1 (callsIn_of_wp_marks Tryz.func74 rfl trivial (wpIn_wide.2 ?_) rfl)
 simp only [Tryz.ntmps74,List.size_toArray,List.length_cons,List.length_nil,Nat.reduceAdd,Nat.reduceSub,Array.replicate_succ,Array.replicate_zero,List.push_toArray,List.append_toArray,List.nil_append,List.cons_append]
 go_wp2_with fail
 refine HWH.out.mono ?_
 rintro e w1 ⟨bv,rfl,hbv,hb1⟩
 have HB1:=Lib.hid (Below.next HB0.out hb1)
 have HM1:=Lib.hid (HM0.out.below hb1)
 have HBV:=Lib.hid hbv.brow
 obtain⟨ob,bcap,rfl,_,_⟩:=hbv
 have HBA:=Lib.hid (below_alloc w1 (.cells (frCs (k:Int) (s:Int) (.slice ob body.length bcap)) 148))
 have HB2:=Lib.hid (Below.next HB1.out HBA.out)
 have HM2:=Lib.hid (HM1.out.below HBA.out)
 have HV2:=Lib.hid (HBV.out.below HBA.out)
 have HF2:=Lib.hid (frBlk_alloc w1 (k:Int) (s:Int) (.slice ob body.length bcap))
 simp only [frCs] at HBA HB2 HM2 HV2 HF2
 clear hb1 HWH HM0 HB0 HB1 HM1 HBV
 rcases he0:(e0 != 0) with _ | _
 ·have he00:e0=0:=by simpa using he0
  have HE2:=Lib.hid (show decMan l=if decManBad body (decAll body 1028) then (zeroM,80)
   else if manOk (manOf s (decAll body 1028).1) then (manOf s (decAll body 1028).1,0) else (zeroM,80) by rw [HE.out,if_neg (fun h=>h he00)])
  have HDA:=Lib.hid (fun W (hb:BRow W (.slice ob body.length bcap) body)=>decodeAll_any body _ 1028 W hb (by have:=HBL.out;omega) (by decide) (by decide))
  have HLE:=Lib.hid (decAll_len body 1028)
  obtain⟨r,hr⟩: ∃ r,r=decAll body 1028:=⟨_,rfl⟩
  rw [←hr] at HDA HE2 HLE
  clear hr HE he00
  obtain⟨us,at0,e1⟩:=r
  unfold AllPost at HDA
  dsimp only at HE2 HLE
  have c2:=HF2.out.c2
  go_wp2_with fail
  generalize w1.alloc (.cells #[.int .i64 (k:Int),.int .i64 (s:Int),.slice ob body.length bcap] 148)=w2 at*
  generalize w1.heap.size=gf at*
  refine(HDA.out w2 HV2.out).mono ?_
  rintro e w3 ⟨uv,rfl,hou,hb3⟩
  have HB3:=Lib.hid (Below.next HB2.out hb3)
  have HM3:=Lib.hid (HM2.out.below hb3)
  have HF3:=Lib.hid (HF2.out.below hb3)
  have HO3:=Lib.hid hou
  have HUR:=Lib.hid hou.row
  obtain⟨ou,ucap,hsh,hul,_⟩:=own_shape hou
  subst hsh
  have c1:=HF3.out.c1
  have c2:=HF3.out.c2
  clear hou hb3 HDA HV2 HB2 HM2 HF2 HBA
  rcases h1:(e1 != 0) with _ | _
  ·rcases h2:((at0:Int) != (body.length:Int)) with _ | _
   ·rcases h3:decide ((us.length:Int)<8) with _ | _
    ·rcases h4:((us.length:Int) % 4 != 0) with _ | _
     ·have hl8:8≤us.length:=by simp at h3;omega
      have HMX:=Lib.hid (max_any us _ w3 HUR.out (by omega) (by have:=HLE.out;omega))
      obtain⟨mx,hmx⟩: ∃ mx,mx=maxU us:=⟨_,rfl⟩
      rw [←hmx] at HMX
      have HXX:=Lib.hid hmx
      clear hmx
      rcases h5:decide ((2199023255552:Int)<(mx:Int)) with _ | _
      ·have HE3:=Lib.hid (show decMan l=if manOk (manOf s us) then (manOf s us,0) else (zeroM,80) by
        rw [HE2.out,if_neg]
        intro hbad
        have hbad':e1≠0∨at0≠body.length∨us.length<8∨us.length % 4≠0∨2199023255552<maxU us:=hbad
        rcases hbad' with h | h | h | h | h
        ·exact h (by simpa using h1)
        ·exact h (by simp at h2;omega)
        ·omega
        ·exact h (by simp at h4;omega)
        ·rw [←HXX.out] at h;simp at h5;omega)
       have HMB:=Lib.hid (show maxU us≤2199023255552 by rw [←HXX.out];simp at h5;omega)
       have HM4:=Lib.hid (show us.length % 4=0 by simp at h4;omega)
       go_wp2_with (first | (go_at_call 107;refine HMX.out.mono ?_;rintro e wx ⟨rfl,rfl⟩) | fail)
       obtain⟨bu,ucap',hse,hbu1,hbu2,_,_,hcu⟩:=own_get HO3.out (show 0<us.length by omega)
       simp only [Value.slice.injEq,true_and] at hse
       obtain⟨rfl,rfl⟩:=hse
       obtain⟨u0,hu0,_,hm0⟩:=nth us 0 (by omega)
       obtain⟨u1,hu1,_,hm1⟩:=nth us 1 (by omega)
       obtain⟨u2,hu2,_,hm2⟩:=nth us 2 (by omega)
       obtain⟨u3,hu3,_,hm3⟩:=nth us 3 (by omega)
       have HMO:=Lib.hid (show manOf s us=⟨(s:Int),(u0:Int),(u1:Int),(u2:Int),(u3:Int),(fours (us.drop 4)).map segOf⟩ by
        unfold manOf
        simp only [List.getD_eq_getElem?_getD,hu0,hu1,hu2,hu3,Option.getD_some])
       have HCU:=Lib.hid (fun(i u:Nat) (h:us[i]? =some u)=>hcu i (.int .u64 (u:Int)) (by rw [uCells,List.getElem?_map,h];rfl))
       have D0:=Lib.hid (HCU.out 0 u0 hu0)
       have D1:=Lib.hid (HCU.out 1 u1 hu1)
       have D2:=Lib.hid (HCU.out 2 u2 hu2)
       have D3:=Lib.hid (HCU.out 3 u3 hu3)
       have F1:=Lib.hid c1
       have hw0:IntKind.i64.wrap (u0:Int)=(u0:Int):=by have:=maxU_le hm0;have:=HMB.out;rw [IntKind.wrap_i64];omega
       have hw1:IntKind.i64.wrap (u1:Int)=(u1:Int):=by have:=maxU_le hm1;have:=HMB.out;rw [IntKind.wrap_i64];omega
       have hw2:IntKind.i64.wrap (u2:Int)=(u2:Int):=by have:=maxU_le hm2;have:=HMB.out;rw [IntKind.wrap_i64];omega
       have hw3:IntKind.i64.wrap (u3:Int)=(u3:Int):=by have:=maxU_le hm3;have:=HMB.out;rw [IntKind.wrap_i64];omega
       clear hcu hu0 hu1 hu2 hu3 hm0 hm1 hm2 hm3 c1 c2 HMX h1 h2 h3 h4 h5 he0
       have q0:0<us.length:=by omega
       have q1:(1:Int)<(us.length:Int):=by omega
       have q2:(2:Int)<(us.length:Int):=by omega
       have q3:(3:Int)<(us.length:Int):=by omega
       refine wp_noexit ?_
       refine wp_region_held_drew (S:=fun w'=>Below w3.heap.size w3 w') (by kernel_rfl) (below_drewN' _ 1) (fun hHeld=> ?_)
       have FX1:=Lib.hid (fun(wF:World) (hSw:(fun w'=>Below w3.heap.size w3 w') wF)=>And.intro ((cell_later hSw D0.out)) (And.intro ((cell_later hSw D1.out)) (And.intro ((cell_later hSw D2.out)) (And.intro ((cell_later hSw D3.out)) ((cell_later hSw F1.out))))))
       refine tf FX1 0 rfl ?_
       refine tf FX1 1 rfl ?_
       refine tf FX1 2 rfl ?_
       refine tf FX1 3 rfl ?_
       refine tf FX1 4 rfl ?_
       refine tf FX1 5 rfl ?_
       refine tf FX1 6 rfl ?_
       refine tf FX1 7 rfl ?_
       refine tf FX1 8 rfl ?_
       refine tf FX1 9 rfl ?_
       refine tf FX1 10 rfl ?_
       refine tf FX1 11 rfl ?_
       refine tf FX1 12 rfl ?_
       refine tf FX1 13 rfl ?_
       refine tf FX1 14 rfl ?_
       refine tf FX1 15 rfl ?_
       refine tf FX1 16 rfl ?_
       refine tf FX1 17 rfl ?_
       refine tf FX1 18 rfl ?_
       clear FX1
       have HBZ:=Lib.hid (Below.next hHeld (below_alloc (World.drew w3) (.cells (mnCs zeroM (.slice none 0 0)) 31)))
       have HZ:=Lib.hid (show MnBlk ((World.drew w3).alloc (.cells (mnCs zeroM (.slice none 0 0)) 31)) w3.heap.size zeroM (.slice none 0 0) from mnBlk_alloc (World.drew w3) zeroM (.slice none 0 0))
       have HSZ4:=Lib.hid (show ((World.drew w3).alloc (.cells (mnCs zeroM (.slice none 0 0)) 31)).heap.size=w3.heap.size+1 by simp)
       simp only [mnCs,zeroM] at HBZ HZ HSZ4
       refine wpAnyH_ready (rs:=[19]) (by kernel_rfl) (by simp) ?_
       refine AllReadyH.cons rfl (fun K hK=> ?_) AllReadyH.nil
       go_simp
       refine hK.out _ _ HBZ.out (fun hHeld=> ?_)
       clear hK K
       refine wpAnyH_ready (rs:=[20]) (by kernel_rfl) (by simp) ?_
       refine AllReadyH.cons rfl (fun K hK=> ?_) AllReadyH.nil
       rw [if_pos (by kernel_rfl)]
       refine wp_store_row 31 (.tmp 8) (.tmp 69) rfl w3.heap.size (mnCs ⟨(s:Int),(u0:Int),(u1:Int),(u2:Int),(u3:Int),[]⟩ (.slice none 0 0)) rfl rfl 31 (mnCs ⟨0,0,0,0,0,[]⟩ (.slice none 0 0)) HZ.out mnInfo rfl (mnCs_all _ _ rfl) ?_
       have HB5:=Lib.hid (show Below w3.heap.size w3 ((World.drew (w3.alloc (.cells #[.int .i64 0,.int .i64 0,.int .i64 0,.int .i64 0,.int .i64 0,.slice none 0 0] 31))).setRow w3.heap.size (mnCs ⟨(s:Int),(u0:Int),(u1:Int),(u2:Int),(u3:Int),[]⟩ (.slice none 0 0))) from below_row HBZ.out (Nat.le_refl _) _)
       have HM5:=Lib.hid (show MnBlk ((World.drew (w3.alloc (.cells #[.int .i64 0,.int .i64 0,.int .i64 0,.int .i64 0,.int .i64 0,.slice none 0 0] 31))).setRow w3.heap.size (mnCs ⟨(s:Int),(u0:Int),(u1:Int),(u2:Int),(u3:Int),[]⟩ (.slice none 0 0))) w3.heap.size ⟨(s:Int),(u0:Int),(u1:Int),(u2:Int),(u3:Int),[]⟩ (.slice none 0 0) from HZ.out.row)
       refine hK.out _ _ HB5.out (fun _=> ?_)
       clear hK K
       have HSZ5:=Lib.hid (show ((World.drew (w3.alloc (.cells #[.int .i64 0,.int .i64 0,.int .i64 0,.int .i64 0,.int .i64 0,.slice none 0 0] 31))).setRow w3.heap.size (mnCs ⟨(s:Int),(u0:Int),(u1:Int),(u2:Int),(u3:Int),[]⟩ (.slice none 0 0))).heap.size=w3.heap.size+1 by simp)
       refine wpAnyH_done (by kernel_rfl) ?_ _
       generalize (World.drew (w3.alloc (.cells #[.int .i64 0,.int .i64 0,.int .i64 0,.int .i64 0,.int .i64 0,.slice none 0 0] 31))).setRow w3.heap.size (mnCs ⟨(s:Int),(u0:Int),(u1:Int),(u2:Int),(u3:Int),[]⟩ (.slice none 0 0))=W5 at*
       obtain⟨vs,hvs⟩: ∃ vs,vs=us.drop 4:=⟨_,rfl⟩
       rw [←hvs] at HMO
       have HVL:=Lib.hid (show us.length - 4=vs.length by rw [hvs,List.length_drop])
       have HCV:=Lib.hid (fun W (hW:Below w3.heap.size w3 W) (i u:Nat) (h:vs[i]? =some u)=>(show W.cell? ⟨bu,4+i,none⟩=some (.int .u64 (u:Int)) from cell_later hW (HCU.out (4+i) u (by rw [hvs,List.getElem?_drop] at h;exact h))))
       have HMV:=Lib.hid (show maxU vs≤2199023255552 by
        refine Nat.le_trans ?_ HMB.out
        have hx: ∀ x∈vs,x≤maxU us:=fun x hx=>maxU_le (List.mem_of_mem_drop (by rw [←hvs];exact hx))
        exact maxU_bound hx)
       have htail: ∀ W,(Instr.sliceAt 151 (.slice (some ⟨bu,0,none⟩) us.length ucap) (some (.int .i64 4)) none none).run Tryz.prog W= .ok (.slice (some ⟨bu,4,none⟩) vs.length (ucap - 4)) W:=fun W=>by
        have h:=run_ch_tail bu 0 us.length ucap 4 (by omega) hul W
        rw [HVL.out] at h
        simpa using h
       have HV4:=Lib.hid (show vs.length=4*(vs.length / 4) by have:=HM4.out;have:=HVL.out;omega)
       have HVC:=Lib.hid (show vs.length≤1028∧vs.length≤ucap - 4 by have:=HLE.out;have:=HVL.out;omega)
       have hgb:w.heap.size≤w3.heap.size:=HB3.out.size
       have hg0:=HM3.out.lt
       clear hvs HCU D0 D1 D2 D3 F1 HBZ HZ HSZ4 hw0 hw1 hw2 hw3 HO3 HUR
       go_wp2_with fail
       refine(chunk_any bu 4 vs.length (ucap - 4) W5).mono ?_
       rintro e w6 ⟨rfl,rfl⟩
       obtain⟨X0,hX⟩: ∃ X0,X0=(W5.alloc (.cells #[.slice (some ⟨bu,4,none⟩) vs.length (ucap - 4)] 151)).alloc (.cells #[.int .i64 4] 3):=⟨_,rfl⟩
       have HBX5:=Lib.hid (show Below W5.heap.size W5 X0 by rw [hX];exact Below.next (below_alloc _ _) (below_alloc _ _))
       have HBX:=Lib.hid (show Below w3.heap.size w3 X0 from Below.next HB5.out HBX5.out)
       have HSX:=Lib.hid (show X0.heap.size=w3.heap.size+3 by rw [hX];simp;rw [HSZ5.out])
       have HMX:=Lib.hid (show MnBlk X0 w3.heap.size ⟨(s:Int),(u0:Int),(u1:Int),(u2:Int),(u3:Int),[]⟩ (.slice none 0 0) from HM5.out.below HBX5.out)
       have HCA:=Lib.hid (show X0.cell? ⟨w3.heap.size+1,0,none⟩=some (.slice (some ⟨bu,4,none⟩) vs.length (ucap - 4)) by
        rw [hX,←HSZ5.out]
        exact cell_later (below_alloc _ _) (by rw [World.cell?_alloc_new];rfl))
       have HCB:=Lib.hid (show X0.cell? ⟨w3.heap.size+1+1,0,none⟩=some (.int .i64 4) by
        rw [hX,←HSZ5.out]
        have h:=World.cell?_alloc_new (W5.alloc (.cells #[.slice (some ⟨bu,4,none⟩) vs.length (ucap - 4)] 151)) #[.int .i64 4] 3 0
        rw [World.size_alloc] at h
        rw [h];rfl)
       have HXX0:=Lib.hid hX
       have HKE:=Lib.hid (show ChKeep (w3.heap.size+1) (w3.heap.size+1+1) bu 4 (ucap - 4) vs X0 from⟨HCA.out,HCB.out,fun i u hu=>HCV.out X0 HBX.out i u hu⟩)
       clear hX htail HCA HCB HBX5
       go_wp2_with fail
       rw [HSZ5.out,←HXX0.out]
       refine wp_rangeFuncR (gf:=148) (lb:= #[.pointer (some ⟨w3.heap.size+1,0,none⟩),.pointer (some ⟨w3.heap.size+1+1,0,none⟩)]) (encs:=chEnc) (R:=ChR vs bu) (Kp:=ScK X0.heap.size w3.heap.size w3.heap.size) (S:=fun xs=>xs.map (·.1)=fours vs) (Sp:=fun _=>True) rfl (enters_of Tryz.func148 (by kernel_rfl) rfl)
        (chunk1_seq vs (vs.length / 4) (w3.heap.size+1) (w3.heap.size+1+1) bu 4 (ucap - 4) HV4.out (by have:=HVC.out;omega) HVC.out.2 X0 _ HKE.out ?hK)
        ScK.trans ScK.put (fun _=>rfl) (MaI X0.heap.size w3.heap.size ⟨(s:Int),(u0:Int),(u1:Int),(u2:Int),(u3:Int),[]⟩ vs X0) (fun _ _ _=>False) (MaI.kept (Nat.le_refl _)) (fun _ _ _ _ h _=>h) ?h0 ?hround ?hdone ?hstop
       case hK=>
        intro W W' _ ⟨h1,h2,h3⟩ hk
        have hsx:=HSX.out
        refine⟨⟨Turned.cell hk h1 (by rintro(h | h | h)<;>simp only at h<;>omega),Turned.cell hk h2 (by rintro(h | h | h)<;>simp only at h<;>omega),fun i u hu=>Turned.cell hk (h3 i u hu) (by rintro(h | h | h)<;>simp only at h<;>omega)⟩,hk.size⟩
       case h0=>exact⟨.slice none 0 0,HMX.out,World.ownsRow_nil _ _ _ _,List.nil_prefix,Turned.refl _ _⟩
       case hstop=>
        intro D c pre W _ _ h _
        exact h.elim
       case hround=>
        rintro l' pre ⟨xs,xv⟩ Wo W hl0 hszo hI hko hR
        obtain⟨hpf,hxm,hx4,ox,hxv,hxc⟩:=hR
        dsimp only at hxm hx4 hxv hxc
        subst hxv
        simp only [chEnc]
        gi_wp2
        refine⟨KeepsFrom.refl _ _,Turned.refl _ _,fun W2 hk2=> ?_⟩
        obtain⟨a,b,c,d,rfl⟩:=list4 hx4
        obtain⟨ov,hmo,howno,_,htno⟩:=hI
        have hKK:=hko.trans hk2
        have hm:MnBlk W2 w3.heap.size ⟨(s:Int),(u0:Int),(u1:Int),(u2:Int),(u3:Int),[]⟩ ov:=hKK.blk hmo
        have hown:=own_kept howno hKK
        have htn:=htno.kept hKK (Nat.le_refl _)
        have hsz2:X0.heap.size≤W2.heap.size:=Nat.le_trans hszo hKK.size
        have hsx:=HSX.out
        have hg8lt:w3.heap.size<X0.heap.size:=by omega
        have E0:=Lib.hid (show W2.cell? ⟨bu,ox,none⟩=some (.int .u64 (a:Int)) by have:=hxc 0 a rfl;rw [Nat.add_zero] at this;exact hk2.cell this)
        have E1:=Lib.hid (hk2.cell (hxc 1 b rfl))
        have E2:=Lib.hid (hk2.cell (hxc 2 c rfl))
        have E3:=Lib.hid (hk2.cell (hxc 3 d rfl))
        have hNB: ¬ (bu=w3.heap.size∨bu=w3.heap.size∨X0.heap.size≤bu):=by omega
        have hw0:IntKind.i64.wrap (a:Int)=(a:Int):=by have:=hxm a (by simp);have:=HMV.out;rw [IntKind.wrap_i64];omega
        have hw1:IntKind.i64.wrap (b:Int)=(b:Int):=by have:=hxm b (by simp);have:=HMV.out;rw [IntKind.wrap_i64];omega
        have hw2:IntKind.i64.wrap (c:Int)=(c:Int):=by have:=hxm c (by simp);have:=HMV.out;rw [IntKind.wrap_i64];omega
        have hw3:IntKind.i64.wrap (d:Int)=(d:Int):=by have:=hxm d (by simp);have:=HMV.out;rw [IntKind.wrap_i64];omega
        have HPL:=Lib.hid (show pre.length≤100000 by
         have h1:=hpf.length_le
         have h2:=fours_len vs
         have h3:=HVC.out
         simp only [List.length_map,List.length_append,List.length_cons,List.length_nil] at h1
         omega)
        have HOB:=Lib.hid (fun j (e:ov.ownBlock=some j)=>(hown.lt j e).1)
        obtain⟨i0,hi,hz0,hz1,hz2⟩:=info_parts infoSg
        have HW2:=Lib.hid (show MaS X0.heap.size w3.heap.size ⟨(s:Int),(u0:Int),(u1:Int),(u2:Int),(u3:Int),[]⟩ pre.length (sgCells (pre.map fun x=>segOf x.1)) W2 ov ov W2.drew from⟨hm,hown,Turned.below (below_drewN' W2 1),Nat.le_trans hsz2 (below_drewN' W2 1).size⟩)
        clear hxc hxm hmo howno htno hko hk2 hKK hm
        refine wpIn_block (wpIn_region_held (S:=fun w'=>ScK X0.heap.size w3.heap.size w3.heap.size W2 w') (by kernel_rfl) (by rfl) (letsOut_block letsOut_G) (Turned.below (below_drewN' W2 1)) (fun hHeld=> ?_))
        have FX2:=Lib.hid (fun(wF:World) (hSw:(fun w'=>ScK X0.heap.size w3.heap.size w3.heap.size W2 w') wF)=>And.intro ((hSw.cell E0.out hNB)) (And.intro ((hSw.cell E1.out hNB)) (And.intro ((hSw.cell E2.out hNB)) ((hSw.cell E3.out hNB)))))
        refine tf FX2 0 rfl ?_
        refine tf FX2 2 rfl ?_
        refine tf FX2 3 rfl ?_
        refine tf FX2 4 rfl ?_
        refine tf FX2 5 rfl ?_
        refine tf FX2 6 rfl ?_
        refine tf FX2 7 rfl ?_
        refine tf FX2 8 rfl ?_
        refine tf FX2 9 rfl ?_
        refine tf FX2 10 rfl ?_
        refine tf FX2 11 rfl ?_
        refine tf FX2 12 rfl ?_
        refine tf FX2 13 rfl ?_
        refine tf FX2 14 rfl ?_
        refine tf FX2 15 rfl ?_
        refine tf FX2 16 rfl ?_
        refine tf FX2 17 rfl ?_
        refine tf FX2 18 rfl ?_
        clear FX2
        generalize World.drew W2=Wd at*
        have c5:Wd.cell? ⟨w3.heap.size,5,none⟩=some ov:=HW2.out.1.c5
        have HWA:=Lib.hid (HW2.out.next (below_alloc Wd (.cells (sgCs ⟨(a:Int),(b:Int),(c:Int),(d:Int)⟩) 46)))
        simp only [sgCs] at HWA
        refine wpAnyH_ready (rs:=[1,19]) (by kernel_rfl) (by simp) ?_
        refine AllReadyH.cons rfl (fun K hK=> ?_) (AllReadyH.cons rfl (fun K hK=> ?_) AllReadyH.nil)
        ·go_simp
         refine hK.out _ _ hHeld (fun hHeld=> ?_)
         clear hK K
         refine wpAnyH_ready (rs:=[19]) (by kernel_rfl) (by simp) ?_
         refine AllReadyH.cons rfl (fun K hK=> ?_) AllReadyH.nil
         go_simp
         refine hK.out _ _ (TuS.sck HWA.out.2.2.1 HOB.out) (fun hHeld=> ?_)
         clear hK K c5
         refine wpAnyH_ready (rs:=[20]) (by kernel_rfl) (by simp) ?_
         refine AllReadyH.cons rfl (fun K hK=> ?_) AllReadyH.nil
         rw [if_pos (by kernel_rfl)]
         refine wp_append_own _ (.tmp 75) (.tmp 93) 29 rfl X0.heap.size 46 i0 zeroSg 4 32 Tryz.underlying29 hi hz0 hz1 hz2 rfl (by decide) ov pre.length _ rfl HWA.out.2.1 ⟨Wd.heap.size,0,none⟩ 1 1 (sgCs ⟨(a:Int),(b:Int),(c:Int),(d:Int)⟩).toList rfl rfl (fun j u hj=> ?c1_1) (fun u hu=> ?c2_1) (by have:=HPL.out;unfold maxLen;omega) (by have:=HPL.out;omega) HWA.out.2.2.2 ?_
         case c1_1=>
          rw [addr_add,Nat.zero_add,World.cell?_alloc_new]
          simpa [sgCs] using hj
         case c2_1=>simp [sgCs] at hu;rcases hu with rfl | rfl | rfl | rfl<;>rfl
         intro v' W3 hown3 hgrow _
         have HST:=Lib.hid (MaS.step HWA.out hgrow hown3 hg8lt)
         have h1v:v'.oneCell'=true:=by obtain⟨o1,c1,e,_,_⟩:=own_shape hown3;rw [e];rfl
         clear hown3 hgrow
         refine hK.out _ _ (TuS.sck HST.out.2.2 HOB.out) (fun hHeld=> ?_)
         clear hK K
         have d5:=HST.out.1.c5
         have f5:=HST.out.1.free 5
         refine tk 21 rfl ?v_3 ?hy_3 ?r_3
         case hy_3=>intro w hSw;go_simp;try with_reducible rfl
         simp only [pA]
         refine wpAnyH_ready (rs:=[22]) (by kernel_rfl) (by simp) ?_
         refine AllReadyH.cons rfl (fun K hK=> ?_) AllReadyH.nil
         rw [if_pos (by kernel_rfl)]
         refine wp_store_cell 29 (.tmp 95) (.tmp 94) rfl w3.heap.size 5 v' ov (by kernel_rfl) h1v rfl rfl d5 f5 ?_
         have HFI:=Lib.hid (MaS.store HST.out hg8lt)
         clear d5 f5 h1v HST
         refine hK.out _ _ (TuS.sck HFI.out.2.2 HOB.out) (fun _=> ?_)
         clear hK K
         generalize World.setCell _ _ _=W4 at*
         refine wpAnyH_done (by kernel_rfl) ?_ _
         refine⟨keepsFrom_turned HFI.out.2.2 fun j o hj hs ho=> ?_,TuS.sck HFI.out.2.2 HOB.out,v',HFI.out.1,?_,hpf,htn.trans HFI.out.2.2 fun j hj=> ?_⟩
         ·rcases hs with h | h
          ·omega
          ·rcases hown.2 with⟨rfl,_⟩ | ⟨g,gcap,cur,rfl,_,hg,_⟩
           ·cases h
           ·have e:g=j:=Option.some.inj h
            subst e
            rw [hg] at ho
            cases ho
            rfl
         ·rw [List.length_append,List.map_append]
          have h:=HFI.out.2.1
          unfold sgCells at h ⊢
          rw [List.flatMap_append]
          exact h
         ·rcases hj with h | h
          ·exact .inl (.inl h)
          ·exact .inr (hown.lt j h).1
        ·go_simp
         refine hK.out _ _ (TuS.sck HWA.out.2.2.1 HOB.out) (fun hHeld=> ?_)
         clear hK K c5
         have c5:=HWA.out.1.c5
         refine wpAnyH_ready (rs:=[1]) (by kernel_rfl) (by simp) ?_
         refine AllReadyH.cons rfl (fun K hK=> ?_) AllReadyH.nil
         go_simp
         refine hK.out _ _ (TuS.sck HWA.out.2.2.1 HOB.out) (fun hHeld=> ?_)
         clear hK K c5
         refine wpAnyH_ready (rs:=[20]) (by kernel_rfl) (by simp) ?_
         refine AllReadyH.cons rfl (fun K hK=> ?_) AllReadyH.nil
         rw [if_pos (by kernel_rfl)]
         refine wp_append_own _ (.tmp 75) (.tmp 93) 29 rfl X0.heap.size 46 i0 zeroSg 4 32 Tryz.underlying29 hi hz0 hz1 hz2 rfl (by decide) ov pre.length _ rfl HWA.out.2.1 ⟨Wd.heap.size,0,none⟩ 1 1 (sgCs ⟨(a:Int),(b:Int),(c:Int),(d:Int)⟩).toList rfl rfl (fun j u hj=> ?c1_2) (fun u hu=> ?c2_2) (by have:=HPL.out;unfold maxLen;omega) (by have:=HPL.out;omega) HWA.out.2.2.2 ?_
         case c1_2=>
          rw [addr_add,Nat.zero_add,World.cell?_alloc_new]
          simpa [sgCs] using hj
         case c2_2=>simp [sgCs] at hu;rcases hu with rfl | rfl | rfl | rfl<;>rfl
         intro v' W3 hown3 hgrow _
         have HST:=Lib.hid (MaS.step HWA.out hgrow hown3 hg8lt)
         have h1v:v'.oneCell'=true:=by obtain⟨o1,c1,e,_,_⟩:=own_shape hown3;rw [e];rfl
         clear hown3 hgrow
         refine hK.out _ _ (TuS.sck HST.out.2.2 HOB.out) (fun hHeld=> ?_)
         clear hK K
         have d5:=HST.out.1.c5
         have f5:=HST.out.1.free 5
         refine tk 21 rfl ?v_4 ?hy_4 ?r_4
         case hy_4=>intro w hSw;go_simp;try with_reducible rfl
         simp only [pA]
         refine wpAnyH_ready (rs:=[22]) (by kernel_rfl) (by simp) ?_
         refine AllReadyH.cons rfl (fun K hK=> ?_) AllReadyH.nil
         rw [if_pos (by kernel_rfl)]
         refine wp_store_cell 29 (.tmp 95) (.tmp 94) rfl w3.heap.size 5 v' ov (by kernel_rfl) h1v rfl rfl d5 f5 ?_
         have HFI:=Lib.hid (MaS.store HST.out hg8lt)
         clear d5 f5 h1v HST
         refine hK.out _ _ (TuS.sck HFI.out.2.2 HOB.out) (fun _=> ?_)
         clear hK K
         generalize World.setCell _ _ _=W4 at*
         refine wpAnyH_done (by kernel_rfl) ?_ _
         refine⟨keepsFrom_turned HFI.out.2.2 fun j o hj hs ho=> ?_,TuS.sck HFI.out.2.2 HOB.out,v',HFI.out.1,?_,hpf,htn.trans HFI.out.2.2 fun j hj=> ?_⟩
         ·rcases hs with h | h
          ·omega
          ·rcases hown.2 with⟨rfl,_⟩ | ⟨g,gcap,cur,rfl,_,hg,_⟩
           ·cases h
           ·have e:g=j:=Option.some.inj h
            subst e
            rw [hg] at ho
            cases ho
            rfl
         ·rw [List.length_append,List.map_append]
          have h:=HFI.out.2.1
          unfold sgCells at h ⊢
          rw [List.flatMap_append]
          exact h
         ·rcases hj with h | h
          ·exact .inl (.inl h)
          ·exact .inr (hown.lt j h).1
       case hdone=>
        rintro D xs W hD hxs ⟨ov,hm,hown,_,htn⟩ hdf
        have HSG:=Lib.hid (show xs.map (fun x=>segOf x.1)=(fours vs).map segOf by rw [←hxs,List.map_map];rfl)
        obtain⟨mn,hmn⟩: ∃ mn:Man,mn=⟨(s:Int),(u0:Int),(u1:Int),(u2:Int),(u3:Int),(fours vs).map segOf⟩:=⟨_,rfl⟩
        have HMW:=Lib.hid (show MnBlk W w3.heap.size mn ov from hm.segsAny (by rw [hmn];rfl))
        have HOW:=Lib.hid (show W.ownsRow X0.heap.size 46 4 ov mn.segs.length (sgCells mn.segs) by
         have e:mn.segs=xs.map (fun x=>segOf x.1):=by rw [hmn,HSG.out]
         rw [e,List.length_map]
         exact hown)
        have HE4:=Lib.hid (show decMan l=if manOk mn then (mn,0) else (zeroM,80) by rw [HE3.out,HMO.out,hmn])
        have hsx:=HSX.out
        have HMT:=Lib.hid (show MnBlk W w.heap.size ⟨0,0,0,0,0,[]⟩ (.slice none 0 0) by
         have h:=HM3.out.below HBX.out
         unfold MnBlk at h ⊢
         rw [htn.block _ (Array.getElem?_eq_some_iff.1 h).1 (by omega)]
         exact h)
        have HBW:=Lib.hid (turned_below (Below.next HB3.out HBX.out) htn (fun j hj=>by omega) (Nat.le_trans hgb HBX.out.size))
        have HDF:=Lib.hid hdf
        have HMV2:=Lib.hid (manValid_any mn ov W (sgIn_own (A:=fun _=>True) HOW.out (fun _ _=>trivial)).row)
        have hov:ov.oneCell'=true:=by obtain⟨_,_,e,_,_⟩:=own_shape HOW.out;rw [e];rfl
        obtain⟨vb,hvb⟩: ∃ vb,vb=manOk mn:=⟨_,rfl⟩
        rw [←hvb] at HMV2 HE4
        clear hm hown htn hdf hxs hvb hmn
        go_wp2_with (with_reducible refine wpList_load_mn rfl (.tmp 8) rfl w3.heap.size mn ov rfl HMW.out ?_)
        refine HMV2.out.mono ?_
        rintro e W6 ⟨rfl,hb6⟩
        have HMW6:=Lib.hid (HMW.out.below hb6)
        have HOW6:=Lib.hid (own_later HOW.out hb6)
        have HMT6:=Lib.hid (HMT.out.below hb6)
        have HBW6:=Lib.hid (Below.next HBW.out hb6)
        have HDF6:=Lib.hid ((hb6.block D (Array.getElem?_eq_some_iff.1 HDF.out).1).trans HDF.out)
        have hDg: ¬ D=w.heap.size:=by omega
        clear hb6 HMV2 HMW HOW HMT HBW HDF
        rcases vb with _ | _
        ·go_wp2_with (with_reducible refine wpList_store_mn rfl (.tmp 2) (.tmp 99) rfl w.heap.size ⟨0,0,0,0,0,[]⟩ zeroM (.slice none 0 0) (.slice none 0 0) rfl rfl HMT6.out rfl ?_)
         intro W7 hw7
         have HM7:=Lib.hid (show MnBlk W7 w.heap.size zeroM (.slice none 0 0) by rw [hw7.out];exact HMT6.out.row)
         have HT7:=Lib.hid (show Turned (fun k=>k=w.heap.size) W6 W7 by rw [hw7.out];exact run_setRow_turned _ _ _)
         have HB7:=Lib.hid (turned_below HBW6.out HT7.out (fun k hk=>by omega) HBW6.out.size)
         have hdf7:=(HT7.out.block D (Array.getElem?_eq_some_iff.1 HDF6.out).1 hDg).trans HDF6.out
         clear hw7
         go_wp2
         have HKF:=Lib.hid (Kept.putObj (B:=X0.heap.size) (.deferred none) hD hdf7 rfl)
         refine⟨by simp,.inl ⟨_,_,rfl,run_takeDeferred hdf7,?_⟩⟩
         exact⟨.tuple #[mnV zeroM (.slice none 0 0),.int .i64 80],results_mn2 rfl _ _ w.heap.size zeroM _ _ rfl rfl (HKF.out.blk HM7.out),_,by rw [HE4.out];rfl,by rw [HE4.out];exact sgIn_nil _ _,rfl,HKF.out.after HB7.out (by omega)⟩
        ·go_wp2_with (first | (with_reducible refine wpList_load_mn rfl (.tmp 8) rfl w3.heap.size mn ov rfl HMW6.out ?_) | (with_reducible refine wpList_store_mn rfl (.tmp 2) (.tmp 100) rfl w.heap.size ⟨0,0,0,0,0,[]⟩ mn (.slice none 0 0) ov rfl rfl HMT6.out hov ?_))
         intro W7 hw7
         have HM7:=Lib.hid (show MnBlk W7 w.heap.size mn ov by rw [hw7.out];exact HMT6.out.row)
         have HT7:=Lib.hid (show Turned (fun k=>k=w.heap.size) W6 W7 by rw [hw7.out];exact run_setRow_turned _ _ _)
         have HB7:=Lib.hid (turned_below HBW6.out HT7.out (fun k hk=>by omega) HBW6.out.size)
         have HO7:=Lib.hid (own_turnedB HOW6.out HT7.out (fun k hk=>by omega))
         have hdf7:=(HT7.out.block D (Array.getElem?_eq_some_iff.1 HDF6.out).1 hDg).trans HDF6.out
         clear hw7
         go_wp2
         have HKF:=Lib.hid (Kept.putObj (B:=X0.heap.size) (.deferred none) hD hdf7 rfl)
         refine⟨by simp,.inl ⟨_,_,rfl,run_takeDeferred hdf7,?_⟩⟩
         refine⟨.tuple #[mnV mn ov,.int .i64 0],results_mn2 rfl _ _ w.heap.size mn _ _ rfl rfl (HKF.out.blk HM7.out),ov,by rw [HE4.out];rfl,?_,hov,HKF.out.after HB7.out (by omega)⟩
         rw [HE4.out]
         exact sgIn_own (own_kept HO7.out HKF.out) (fun k hk=>by omega)
      ·
       have HG:=Lib.hid (show decMan l=(zeroM,80) by rw [HE2.out,if_pos (show decManBad body (us,at0,e1) from show (e1≠0∨at0≠body.length∨us.length<8∨us.length % 4≠0∨2199023255552<maxU us) from .inr (.inr (.inr (.inr (by rw [←HXX.out];simp at h5;omega)))))])
       go_wp2_with (first | (go_at_call 107;refine HMX.out.mono ?_;rintro e wx ⟨rfl,rfl⟩) | (with_reducible refine wpList_store_mn rfl (.tmp 2) (.tmp 50) rfl w.heap.size ⟨0,0,0,0,0,[]⟩ zeroM (.slice none 0 0) (.slice none 0 0) rfl rfl HM3.out rfl ?_))
       intro w4 hw4
       have HM4:=Lib.hid (show MnBlk w4 w.heap.size zeroM (.slice none 0 0) by rw [hw4.out];exact HM3.out.row)
       have HB4:=Lib.hid (show Below w.heap.size w w4 by rw [hw4.out];exact below_row HB3.out (Nat.le_refl _) _)
       clear hw4
       go_wp2
       exact⟨.tuple #[mnV zeroM (.slice none 0 0),.int .i64 80],results_mn2 rfl _ _ w.heap.size zeroM _ _ rfl rfl HM4.out,_,by rw [HG.out],by rw [HG.out];exact sgIn_nil _ _,rfl,HB4.out⟩
     ·
      have HG:=Lib.hid (show decMan l=(zeroM,80) by rw [HE2.out,if_pos (show decManBad body (us,at0,e1) from show (e1≠0∨at0≠body.length∨us.length<8∨us.length % 4≠0∨2199023255552<maxU us) from .inr (.inr (.inr (.inl (by simp at h4;omega)))))])
      go_wp2_with (first | (with_reducible refine wpList_store_mn rfl (.tmp 2) (.tmp 50) rfl w.heap.size ⟨0,0,0,0,0,[]⟩ zeroM (.slice none 0 0) (.slice none 0 0) rfl rfl HM3.out rfl ?_))
      intro w4 hw4
      have HM4:=Lib.hid (show MnBlk w4 w.heap.size zeroM (.slice none 0 0) by rw [hw4.out];exact HM3.out.row)
      have HB4:=Lib.hid (show Below w.heap.size w w4 by rw [hw4.out];exact below_row HB3.out (Nat.le_refl _) _)
      clear hw4
      go_wp2
      exact⟨.tuple #[mnV zeroM (.slice none 0 0),.int .i64 80],results_mn2 rfl _ _ w.heap.size zeroM _ _ rfl rfl HM4.out,_,by rw [HG.out],by rw [HG.out];exact sgIn_nil _ _,rfl,HB4.out⟩
    ·
     have HG:=Lib.hid (show decMan l=(zeroM,80) by rw [HE2.out,if_pos (show decManBad body (us,at0,e1) from show (e1≠0∨at0≠body.length∨us.length<8∨us.length % 4≠0∨2199023255552<maxU us) from .inr (.inr (.inl (by simp at h3;omega))))])
     go_wp2_with (first | (with_reducible refine wpList_store_mn rfl (.tmp 2) (.tmp 50) rfl w.heap.size ⟨0,0,0,0,0,[]⟩ zeroM (.slice none 0 0) (.slice none 0 0) rfl rfl HM3.out rfl ?_))
     intro w4 hw4
     have HM4:=Lib.hid (show MnBlk w4 w.heap.size zeroM (.slice none 0 0) by rw [hw4.out];exact HM3.out.row)
     have HB4:=Lib.hid (show Below w.heap.size w w4 by rw [hw4.out];exact below_row HB3.out (Nat.le_refl _) _)
     clear hw4
     go_wp2
     exact⟨.tuple #[mnV zeroM (.slice none 0 0),.int .i64 80],results_mn2 rfl _ _ w.heap.size zeroM _ _ rfl rfl HM4.out,_,by rw [HG.out],by rw [HG.out];exact sgIn_nil _ _,rfl,HB4.out⟩
   ·
    have HG:=Lib.hid (show decMan l=(zeroM,80) by rw [HE2.out,if_pos (show decManBad body (us,at0,e1) from show (e1≠0∨at0≠body.length∨us.length<8∨us.length % 4≠0∨2199023255552<maxU us) from .inr (.inl (by intro e;simp [e] at h2)))])
    go_wp2_with (first | (with_reducible refine wpList_store_mn rfl (.tmp 2) (.tmp 50) rfl w.heap.size ⟨0,0,0,0,0,[]⟩ zeroM (.slice none 0 0) (.slice none 0 0) rfl rfl HM3.out rfl ?_))
    intro w4 hw4
    have HM4:=Lib.hid (show MnBlk w4 w.heap.size zeroM (.slice none 0 0) by rw [hw4.out];exact HM3.out.row)
    have HB4:=Lib.hid (show Below w.heap.size w w4 by rw [hw4.out];exact below_row HB3.out (Nat.le_refl _) _)
    clear hw4
    go_wp2
    exact⟨.tuple #[mnV zeroM (.slice none 0 0),.int .i64 80],results_mn2 rfl _ _ w.heap.size zeroM _ _ rfl rfl HM4.out,_,by rw [HG.out],by rw [HG.out];exact sgIn_nil _ _,rfl,HB4.out⟩
  ·
   have HG:=Lib.hid (show decMan l=(zeroM,80) by rw [HE2.out,if_pos (show decManBad body (us,at0,e1) from show (e1≠0∨at0≠body.length∨us.length<8∨us.length % 4≠0∨2199023255552<maxU us) from .inl (by simpa using h1))])
   go_wp2_with (first | (with_reducible refine wpList_store_mn rfl (.tmp 2) (.tmp 50) rfl w.heap.size ⟨0,0,0,0,0,[]⟩ zeroM (.slice none 0 0) (.slice none 0 0) rfl rfl HM3.out rfl ?_))
   intro w4 hw4
   have HM4:=Lib.hid (show MnBlk w4 w.heap.size zeroM (.slice none 0 0) by rw [hw4.out];exact HM3.out.row)
   have HB4:=Lib.hid (show Below w.heap.size w w4 by rw [hw4.out];exact below_row HB3.out (Nat.le_refl _) _)
   clear hw4
   go_wp2
   exact⟨.tuple #[mnV zeroM (.slice none 0 0),.int .i64 80],results_mn2 rfl _ _ w.heap.size zeroM _ _ rfl rfl HM4.out,_,by rw [HG.out],by rw [HG.out];exact sgIn_nil _ _,rfl,HB4.out⟩
 ·have HG:=Lib.hid (show decMan l=(zeroM,80) by rw [HE.out,if_pos (by simpa using he0)])
  go_wp2_with (with_reducible refine wpList_store_mn rfl (.tmp 2) (.tmp 17) rfl w.heap.size ⟨0,0,0,0,0,[]⟩ zeroM (.slice none 0 0) (.slice none 0 0) rfl rfl HM2.out rfl ?_)
  intro w3 hw3
  have HM3:=Lib.hid (show MnBlk w3 w.heap.size zeroM (.slice none 0 0) by rw [hw3.out];exact HM2.out.row)
  have HB3:=Lib.hid (show Below w.heap.size w w3 by rw [hw3.out];exact below_row HB2.out (Nat.le_refl _) _)
  clear hw3
  go_wp2
  exact⟨.tuple #[mnV zeroM (.slice none 0 0),.int .i64 80],results_mn2 rfl _ _ w.heap.size zeroM _ _ rfl rfl HM3.out,_,by rw [HG.out],by rw [HG.out];exact sgIn_nil _ _,rfl,HB3.out⟩
end Go.Proofs.YtlobohpbgghleaaGreatDoor

namespace Go.Proofs.YtlobohpbgghleaaGreatDoor
open Go.RowKit
theorem wpList_cut_lh {ops:Array Oper} {rest:List Oper} {o:Oper} {a:Act} {w:World} {Q:Exit→Act→World→Prop} (hgd:o.guard=none) (x y z:Operand) (ho:o.op= .slice 47 x (some y) (some z) none) (oa:Option Addr) (cap lo hi:Nat) (l:List UInt8) (hx:a.eval x= .slice oa l.length cap) (hy:a.eval y= .int .i64 (lo:Int)) (hz:a.eval z= .int .i64 (hi:Int))
  (hv:BRow w (.slice oa l.length cap) l) (h1:lo≤hi) (h2:hi≤l.length) (h: ∀ v',BRow w v' ((l.take hi).drop lo)→v'.oneCell'=true→wpList Tryz.prog ops Q rest (a.put o.dst v') w):wpList Tryz.prog ops Q (o::rest) a w:=by
 have hv':=hv
 obtain⟨_,c',e,hl',_⟩:=hv'
 simp only [Value.slice.injEq,true_and] at e
 obtain⟨rfl,rfl⟩:=e
 have hb:=brow_cut (lo:=lo) (hi:=hi) (mx:=cap) hv h1 h2 (by omega)
 refine wpList_plain hgd fun K hK=> ?_
 unfold Oper.wp execOp
 simp only [ho,hx,hy,hz,Option.map_some,Option.map_none,sliceAt_b,run_cut_lh oa l.length cap lo hi h1 (Nat.le_trans h2 hl'),Sem.run_bind,Sem.run_pure,Result.andThen_ok]
 exact hK _ _ (h _ hb (by unfold sliced;rfl))
def rdD (d:Disk) (k:Nat):Disk:={d with reads:=IntKind.i64.wrap (d.reads+(k:Int))}
set_option maxRecDepth 100000 in
set_option maxHeartbeats 2000000 in
theorem read_any (w:World) (f m:Nat) (d:Disk) (L:List Slot) (h:FsAt w f m d L) (n:List UInt8) (x:Fil) (he:openE d n=0) (hx:atF d.files n=some x) (p k:Nat) (hk:p+k≤x.data.length):
  Calls Tryz.prog 73 #[.pointer (some ⟨f,0,none⟩),.string ⟨n.toArray⟩,.int .i64 (p:Int),.int .i64 (k:Int)] w fun e w'=> ∃ v,e= .returned (.tuple #[v,.int .i64 0])∧OwnB w' w.heap.size v ((x.data.drop p).take k)∧FsAt w' f m (rdD d k) L∧Turned (fun i=>i=f) w w':=by
 have HO:=Lib.hid (open_any w f m d L h n)
 obtain⟨s,hs1,ha,hv,hr,hsm,hsn⟩:=slot_of h he
 have hxs:x=s.fil:=by rw [hx] at ha;exact Option.some.inj ha
 subst hxs
 have hsl:=h.body.slot s hsm
 obtain⟨ao,cap,hsh,hlc,_⟩:=hsl.2.shape
 have hlen:=len_le_used (at_name hx).2
 have hus:=h.ok.used
 have hrm:=h.ok.room
 rw [he,hv] at HO
 have c0:=hsl.c0
 rw [hsh] at c0
 have c4:=h.hd.c4
 have f4:=h.hd.free 4
 have t1:decide ((p:Int)<0)=false:=by simp
 have t2:decide ((k:Int)<0)=false:=by simp
 have t3:decide (s.fil.data.length<p)=false:=by simp;omega
 have hpl:p≤s.fil.data.length:=by omega
 have t4:decide ((s.fil.data.length:Int) - (p:Int)<(k:Int))=false:=by simp;omega
 have hw1:IntKind.i64.wrap ((s.fil.data.length:Int) - (p:Int))=(s.fil.data.length:Int) - (p:Int):=by rw [IntKind.wrap_i64];omega
 have hw2:IntKind.i64.wrap ((p:Int)+(k:Int))=((p+k:Nat):Int):=by rw [IntKind.wrap_i64];omega
 obtain⟨R,hR⟩: ∃ R,R=IntKind.i64.wrap (d.reads+(k:Int)):=⟨_,rfl⟩
 have hw3:IntKind.i64.wrap ((hdOf d).reads+(k:Int))=R:=hR.symm
 have HRR:=Lib.hid hR
 have HH:=Lib.hid h
 have HSM:=Lib.hid hsm
 have HK:=Lib.hid hk
 have hko:p≤p+k:=by omega
 have hdl:s.fil.data.length≤67108864:=by omega
 have F4:=Lib.hid f4
 have HSH:=Lib.hid hsh
 have HLC:=Lib.hid hlc
 have HCL:=Lib.hid (fun W v (hb:BRow W v ((s.fil.data.take (p+k)).drop p))=>clone_any _ v W hb (by rw [List.length_drop,List.length_take];omega))
 have HTD:=Lib.hid (show (s.fil.data.take (p+k)).drop p=(s.fil.data.drop p).take k by rw [List.drop_take,Nat.add_sub_cancel_left])
 clear h he hs1 ha hv hr hsm hsn hsl hx hlen hus hrm hk hsh hlc hR
 go_enter Tryz.func73,Tryz.ntmps73
 obtain⟨w2,hw⟩: ∃ w2,w2=w.setCell ⟨f,4,none⟩ (.int .i64 R):=⟨_,rfl⟩
 have HF2:=Lib.hid (show FsAt w2 f m (rdD d k) L by
  rw [hw,HRR.out]
  have hk:=HH.out.ok
  exact⟨HH.out.hd.set 4 _ rfl,HH.out.body.setHd' 4 _,HH.out.fil,⟨hk.rise,hk.names,hk.safe,hk.count,hk.room,hk.used,hk.fuse,hk.steps,by show -9223372036854775808≤IntKind.i64.wrap (d.reads+(k:Int))∧IntKind.i64.wrap (d.reads+(k:Int))≤9223372036854775807;rw [IntKind.wrap_i64];omega⟩⟩)
 have HT2:=Lib.hid (show Turned (fun i=>i=f) w w2 by rw [hw];exact Turned.setCell (S:=fun i=>i=f) _ ⟨f,4,none⟩ _ rfl)
 have HSZ:=Lib.hid (show w2.heap.size=w.heap.size by rw [hw];simp)
 have HBR:=Lib.hid (HF2.out.body.slot s HSM.out).2.brow
 rw [HSH.out,hw] at HBR
 have HW:=Lib.hid hw
 clear hw
 go_wp2_with (first | (go_at_call 44;refine HO.out.mono ?_;rintro e w1 ⟨rfl,rfl⟩) | (with_reducible refine wpList_cut_lh rfl (.tmp 58) (.tmp 59) (.tmp 62) rfl ao cap p (p+k) s.fil.data rfl rfl rfl HBR.out hko HK.out ?_))
 rw [←HW.out]
 intro v' hb' h1'
 go_wp2_with fail
 refine(HCL.out w2 v' hb').mono ?_
 rintro e w3 ⟨v3,rfl,ho3,hb3⟩
 go_wp2
 refine bodyPost_ret (v:= .tuple #[v3,.int .i64 0]) (by simp [results,Tryz.results73,go_sem]) rfl ⟨_,rfl,?_,HF2.out.below hb3,HT2.out.trans (Turned.below hb3) fun _ h=> .inl h⟩
 rw [←HTD.out,←HSZ.out]
 exact ho3
end Go.Proofs.YtlobohpbgghleaaGreatDoor

namespace Go.Proofs.YtlobohpbgghleaaGreatDoor
open Go.RowKit
attribute [local go_sem] Oper.semAt_some
def takeRun (first most:Nat):Nat→List (Nat×Frm)→List (Nat×Frm)
 | _,[]=>[]
 | c,x::r=>if x.2.k≠1∨(x.2.s:Int) - c≠first then [] else if c+1=most then [x] else x::takeRun first most (c+1) r
def scanRun (b:List UInt8) (p first most:Nat):List Plc×Nat:=(plcs p (takeRun first most 0 (frs (b.drop p))),p+lastEnd 0 (takeRun first most 0 (frs (b.drop p))))
theorem take_stop {first most c:Nat} {x:Nat×Frm} {r:List (Nat×Frm)} (h:x.2.k≠1∨(x.2.s:Int) - c≠first):takeRun first most c (x::r)=[]:=by rw [takeRun,if_pos h]
theorem take_full {first most c:Nat} {x:Nat×Frm} {r:List (Nat×Frm)} (h: ¬ (x.2.k≠1∨(x.2.s:Int) - c≠first)) (h2:c+1=most):takeRun first most c (x::r)=[x]:=by rw [takeRun,if_neg h,if_pos h2]
theorem take_go {first most c:Nat} {x:Nat×Frm} {r:List (Nat×Frm)} (h: ¬ (x.2.k≠1∨(x.2.s:Int) - c≠first)) (h2: ¬ c+1=most):takeRun first most c (x::r)=x::takeRun first most (c+1) r:=by rw [takeRun,if_neg h,if_neg h2]
theorem takeRun_len {first most:Nat}: ∀ (xs:List (Nat×Frm)) (c:Nat),c<most→(takeRun first most c xs).length+c≤most
 | [],c,h=>by simp only [takeRun,List.length_nil];omega
 | x::r,c,h=>by
  rw [takeRun]
  split
  ·simp only [List.length_nil];omega
  ·split
   ·simp only [List.length_cons,List.length_nil];omega
   ·have:=takeRun_len (first:=first) (most:=most) r (c+1) (by omega)
    simp only [List.length_cons];omega
theorem heap_alloc_at (w:World) (o:Obj) (k:Nat) (h:k=w.heap.size):(w.alloc o).heap[k]? =some o:=by subst h;exact heap_alloc_new w o
def RunI (B g5 g6 b0 first most:Nat) (b:List UInt8) (X:World) (pre:List FrX) (W:World):Prop:=
 ScI B g5 g6 b0 b X pre W∧(∀ rest,takeRun first most 0 (frOf pre++rest)=frOf pre++takeRun first most pre.length rest)∧pre.length<most
def RunX (B g5 g6 b0 first most:Nat) (b:List UInt8) (X:World) (c:Code) (_:List FrX) (W:World):Prop:=
 c= .exit 0∧ ∃ ys,ScI B g5 g6 b0 b X ys W∧takeRun first most 0 (frs b)=frOf ys
theorem RunI.kept {B g5 g6 b0 first most:Nat} {b:List UInt8} {X:World} (hB:X.heap.size≤B):AbidesK B (RunI B g5 g6 b0 first most b X):=fun s W W' h hk=>⟨ScI.kept hB s W W' h.1 hk,h.2⟩
theorem RunX.kept {B g5 g6 b0 first most:Nat} {b:List UInt8} {X:World} (hB:X.heap.size≤B) (c:Code):AbidesK B (RunX B g5 g6 b0 first most b X c):=fun _ W W' ⟨h,ys,h1,h2⟩ hk=>⟨h,ys,ScI.kept hB ys W W' h1 hk,h2⟩
def RunP (w:World) (r:List Plc×Nat) (e:Ending) (w':World):Prop:= ∃ v,e= .returned (.tuple #[v,.int .i64 (r.2:Int)])∧PcIn (fun k=>w.heap.size≤k) w' v r.1∧Below w.heap.size w w'
set_option maxRecDepth 100000 in
set_option maxHeartbeats 4000000 in
theorem scanRun_any (b:List UInt8) (v:Value) (p first most:Nat) (w:World) (hv:BRow w v b) (hl:b.length≤67108864) (hn:NibTab w) (hp:p≤b.length) (hm:0<most) (hm2:most≤1000000):
  Calls Tryz.prog 83 #[v,.int .i64 (p:Int),.int .i64 (first:Int),.int .i64 (most:Int)] w (RunP w (scanRun b p first most)):=by
 have HV:=Lib.hid hv
 have HN:=Lib.hid hn
 have hv2:=hv
 obtain⟨oa,cap,rfl,hlc,hcc⟩:=hv2
 clear hn hcc
 have t1:decide ((b.length:Nat)<p)=false:=by simp;omega
 have t2:decide ((most:Int)≤0)=false:=by simp;omega
 have HP:=Lib.hid hp
 obtain⟨c,hc⟩: ∃ c,c=b.drop p:=⟨_,rfl⟩
 have HCL:=Lib.hid (show b.length - p=c.length by rw [hc,List.length_drop])
 have hcl:c.length≤67108864:=by rw [hc,List.length_drop];omega
 have HCB:=Lib.hid (show p+c.length≤67108864 by rw [hc,List.length_drop];omega)
 have HSR:=Lib.hid (show scanRun b p first most=(plcs p (takeRun first most 0 (frs c)),p+lastEnd 0 (takeRun first most 0 (frs c))) by rw [hc];rfl)
 obtain⟨oa',cap',hs,hbr⟩: ∃ oa' cap',(∀ W,(Instr.sliceAt 47 (.slice oa b.length cap) (some (.int .i64 (p:Int))) none none).run Tryz.prog W= .ok (.slice oa' c.length cap') W)∧BRow w (.slice oa' c.length cap') c:=by
  have h:=brow_cut (lo:=p) (hi:=b.length) (mx:=cap) hv hp (Nat.le_refl _) hlc
  rw [List.take_length,←hc] at h
  unfold sliced at h
  rw [HCL.out] at h
  refine⟨_,_,fun W=> ?_,h⟩
  rw [sliceAt_b,run_cut_l oa b.length cap p hp W,←HCL.out]
  rfl
 have HBR:=Lib.hid hbr
 clear hp hc hbr hv hlc
 refine(callsIn_wide (n:=3)).1 (callsIn_of_wp_marks Tryz.func83 rfl trivial (wpIn_wide.2 ?_) rfl)
 simp only [Tryz.ntmps83,List.size_toArray,List.length_cons,List.length_nil,Nat.reduceAdd,Nat.reduceSub,Array.replicate_succ,Array.replicate_zero,List.push_toArray,List.append_toArray,List.nil_append,List.cons_append]
 obtain⟨W0,hW0⟩: ∃ W0,W0=((((((w.alloc (.cells #[.int .i64 (p:Int)] 3)).alloc (.cells #[.int .i64 (first:Int)] 3)).alloc (.cells #[.int .i64 (most:Int)] 3)).alloc (.cells #[.slice none 0 0] 118)).alloc (.cells #[.int .i64 (p:Int)] 3)).alloc (.cells #[.slice oa' c.length cap'] 47)):=⟨_,rfl⟩
 have HSZ:=Lib.hid (show W0.heap.size=w.heap.size+6 by rw [hW0];simp)
 have HB0:=Lib.hid (show Below w.heap.size w W0 by rw [hW0];exact((((((Below.refl _ w).alloc (Nat.le_refl _) _).alloc (by simp) _).alloc (by simp;omega) _).alloc (by simp;omega) _).alloc (by simp;omega) _).alloc (by simp;omega) _)
 have HG0:=Lib.hid (show W0.heap[w.heap.size]? =some (.cells #[.int .i64 (p:Int)] 3 (0,0)) by
  rw [hW0]
  iterate 5 rw [Below.heap_alloc _ _ _ (by simp<;>omega)]
  exact heap_alloc_at _ _ _ (by simp<;>omega))
 have HG1:=Lib.hid (show W0.heap[w.heap.size+1]? =some (.cells #[.int .i64 (first:Int)] 3 (0,0)) by
  rw [hW0]
  iterate 4 rw [Below.heap_alloc _ _ _ (by simp<;>omega)]
  exact heap_alloc_at _ _ _ (by simp<;>omega))
 have HG2:=Lib.hid (show W0.heap[w.heap.size+1+1]? =some (.cells #[.int .i64 (most:Int)] 3 (0,0)) by
  rw [hW0]
  iterate 3 rw [Below.heap_alloc _ _ _ (by simp<;>omega)]
  exact heap_alloc_at _ _ _ (by simp<;>omega))
 have HG3:=Lib.hid (show W0.heap[w.heap.size+1+1+1]? =some (.cells #[.slice none 0 0] 118 (0,0)) by
  rw [hW0]
  iterate 2 rw [Below.heap_alloc _ _ _ (by simp<;>omega)]
  exact heap_alloc_at _ _ _ (by simp<;>omega))
 have HG4:=Lib.hid (show W0.heap[w.heap.size+1+1+1+1]? =some (.cells #[.int .i64 (p:Int)] 3 (0,0)) by
  rw [hW0]
  iterate 1 rw [Below.heap_alloc _ _ _ (by simp<;>omega)]
  exact heap_alloc_at _ _ _ (by simp<;>omega))
 have HG5:=Lib.hid (show W0.heap[w.heap.size+1+1+1+1+1]? =some (.cells #[.slice oa' c.length cap'] 47 (0,0)) by rw [hW0];exact heap_alloc_at _ _ _ (by simp<;>omega))
 have HW0:=Lib.hid hW0
 clear hW0
 go_wp2_with fail
 refine(each_any oa' c.length cap' _).mono ?_
 rintro e w1 ⟨rfl,rfl⟩
 go_wp2_with fail
 rw [show (((((w.alloc (.cells #[.int .i64 (p:Int)] 3)).alloc (.cells #[.int .i64 (first:Int)] 3)).alloc (.cells #[.int .i64 (most:Int)] 3)).alloc (.cells #[.slice none 0 0] 118)).alloc (.cells #[.int .i64 (p:Int)] 3)).alloc (.cells #[.slice oa' c.length cap'] 47)=W0 from HW0.out.symm]
 refine wp_rangeFuncR (gf:=163) (lb:= #[.pointer (some ⟨w.heap.size+1+1+1+1+1,0,none⟩)]) (encs:=frEnc) (R:=FrR c) (Kp:=ScK W0.heap.size (w.heap.size+1+1+1) (w.heap.size+1+1+1+1)) (S:=fun xs=>frOf xs=frs c) (Sp:=fun pre=>pre≠ []∧frOf pre <+: frs c) rfl (enters_of Tryz.func163 (by kernel_rfl) rfl)
  (each1_seq c oa' cap' (w.heap.size+1+1+1+1+1) W0 _ (by omega) (fun W=>Below w.heap.size w W∧W.cell? ⟨w.heap.size+1+1+1+1+1,0,none⟩=some (.slice oa' c.length cap')) ⟨HB0.out,cell_of_row W0 _ 0 _ _ _ HG5.out⟩ (fun W h=>⟨h.2,HBR.out.below h.1,HN.out.below h.1⟩) (fun W W' h hb=>⟨Below.next h.1 hb,cell_later hb h.2⟩) ?hK)
  ScK.trans ScK.put (fun _=>rfl) (RunI W0.heap.size (w.heap.size+1+1+1) (w.heap.size+1+1+1+1) p first most c W0) (RunX W0.heap.size (w.heap.size+1+1+1) (w.heap.size+1+1+1+1) p first most c W0) (RunI.kept (Nat.le_refl _)) (RunX.kept (Nat.le_refl _)) ?h0 ?hround ?hdone ?hstop
 case hK=>
  intro W W' hs ⟨h1,h2⟩ hk
  refine⟨⟨turned_below h1 hk (fun k hk'=>by have:=HSZ.out;omega) h1.size,?_⟩,hk.size⟩
  exact Turned.cell hk h2 (by have:=HSZ.out;rintro(h | h | h)<;>simp only at h<;>omega)
 case h0=>exact⟨⟨.slice none 0 0,HG3.out,HG4.out,pcOwn_nil _ _,List.nil_prefix,Turned.refl _ _⟩,fun _=>rfl,hm⟩
 case hround=>
  rintro l pre ⟨x0,⟨k,s,body⟩,bv⟩ Wo W hl0 hszo hI hko hR
  obtain⟨hpx,hbv,hbl,_,_,hs1⟩:=hR
  dsimp only at hbv hbl hs1
  have HI:=Lib.hid hI
  have HKO:=Lib.hid hko
  have hsz:W0.heap.size≤W.heap.size:=Nat.le_trans hszo hko.size
  clear hko
  have HPX:=Lib.hid hpx
  have HBV:=Lib.hid hbv
  obtain⟨ob,bcap,rfl,_,_⟩:=hbv
  clear hI hpx
  simp only [frEnc]
  gi_wp2
  refine⟨keepsFrom_turned (S:=fun _=>False) (Turned.below (below_alloc W _)) (fun _ _ _ h=>h.elim),Turned.below (below_alloc W _),fun W2 hk2=> ?_⟩
  have HKW:=Lib.hid ((Kept.ofBelow (B:=W0.heap.size) (below_alloc W (.cells #[.int .i64 (k:Int),.int .i64 (s:Int),.slice ob body.length bcap] 148))).trans hk2)
  have HKK:=Lib.hid (HKO.out.trans HKW.out)
  obtain⟨⟨v,h5o,h6o,howno,hprf,htno⟩,htk,hpm⟩:=HI.out
  have h5:=HKK.out.blk h5o
  have h6:=HKK.out.blk h6o
  have hown:=howno.kept HKK.out
  have htn:=htno.kept HKK.out (Nat.le_refl _)
  have HTK:=Lib.hid htk
  have HPM:=Lib.hid hpm
  have HPR:=Lib.hid hprf
  have HF:=Lib.hid (show FrBlk W2 W.heap.size (k:Int) (s:Int) (.slice ob body.length bcap) from hk2.blk (frBlk_alloc W (k:Int) (s:Int) (.slice ob body.length bcap)))
  have HBV2:=Lib.hid (show BRowIn (fun j=>W0.heap.size≤j∧j<W2.heap.size∧v.ownBlock≠some j) W2 (.slice ob body.length bcap) body from
   (HBV.out.kept HKW.out).mono fun j hj=>⟨Nat.le_trans hszo hj.1,by have:=hj.2;have:=(below_alloc W (.cells (frCs (k:Int) (s:Int) (.slice ob body.length bcap)) 148)).size;have:=hk2.size;simp only [frCs] at *;omega,fun e=>by have:=(howno.1.lt j e).2;have:=hj.1;omega⟩)
  clear h5o h6o howno htno htk hpm hprf
  obtain⟨ov,capv,hvs,_,_⟩:=own_shape hown.1
  obtain⟨n,hn⟩: ∃ n,n=(plX p pre).length:=⟨_,rfl⟩
  rw [←hn] at hvs
  have HNL:=Lib.hid (show n=pre.length by rw [hn];simp [plX])
  subst hvs
  have HO2:=Lib.hid hown
  have HT2:=Lib.hid htn
  have H52:=Lib.hid h5
  have H62:=Lib.hid h6
  obtain⟨z,hz⟩: ∃ z,z=body.length+20:=⟨_,rfl⟩
  have HZ:=Lib.hid hz
  have hsz2:W0.heap.size≤W2.heap.size:=Nat.le_trans hsz HKW.out.size
  have HA2:=Lib.hid ((HT2.out.block w.heap.size (by have:=HSZ.out;omega) (by omega)).trans HG0.out)
  have HFI2:=Lib.hid ((HT2.out.block (w.heap.size+1) (by have:=HSZ.out;omega) (by omega)).trans HG1.out)
  have HM2:=Lib.hid ((HT2.out.block (w.heap.size+1+1) (by have:=HSZ.out;omega) (by omega)).trans HG2.out)
  have hlen:=HPX.out.length_le
  have hfl:=frs_len c
  rw [frOf_snoc] at hlen
  simp only [List.length_append,List.length_cons,List.length_nil,frOf,List.length_map] at hlen
  have hnb:n≤67108863:=by have:=HNL.out;omega
  have HLEN:=Lib.hid (show (plX p pre).length+1≤1000000000 by rw [←hn];omega)
  have HTX:Hid ((k≠1∨(s:Int) - pre.length≠first→takeRun first most 0 (frs c)=frOf pre)∧(¬ (k≠1∨(s:Int) - pre.length≠first)→pre.length+1=most→takeRun first most 0 (frs c)=frOf (pre++[(x0,⟨k,s,body⟩,.slice ob body.length bcap)]))∧
    (¬ (k≠1∨(s:Int) - pre.length≠first)→ ¬ pre.length+1=most→ ∀ rest,takeRun first most 0 (frOf (pre++[(x0,⟨k,s,body⟩,.slice ob body.length bcap)])++rest)=frOf (pre++[(x0,⟨k,s,body⟩,.slice ob body.length bcap)])++takeRun first most (pre.length+1) rest)):=Lib.hid (by
   obtain⟨rest,hrest⟩:=HPX.out
   rw [frOf_snoc] at hrest
   refine⟨fun h=> ?_,fun h h2=> ?_,fun h h2 rest=> ?_⟩
   ·rw [←hrest,List.append_assoc,HTK.out,List.singleton_append,take_stop h,List.append_nil]
   ·rw [←hrest,List.append_assoc,HTK.out,List.singleton_append,take_full h h2,frOf_snoc]
   ·rw [frOf_snoc,List.append_assoc,HTK.out,List.singleton_append,take_go h h2,List.append_assoc,List.singleton_append])
  have hpz:x0+z≤c.length:=by
   have h1:=frs_mem (b:=c) (x:=(x0,⟨k,s,body⟩)) (HPX.out.mem (by rw [frOf_snoc];simp))
   simp only at h1
   omega
  have HPZ:=Lib.hid hpz
  have hg8:W0.heap.size≤W.heap.size:=hsz
  clear h5 h6 hown htn hk2 HKK HI HBV hz hn hlen hfl hpz
  generalize W.heap.size=g8 at*
  have c80:=HF.out.c0
  have c81:=HF.out.c1
  have cA:=cell_of_row W2 _ 0 _ _ _ HA2.out
  have cF:=cell_of_row W2 _ 0 _ _ _ HFI2.out
  have cV:=cell_of_row W2 _ 0 _ _ _ H52.out
  simp only [List.getElem?_toArray,List.getElem?_cons_zero] at cA cF cV
  have hws:IntKind.i64.wrap ((s:Int) - (n:Int))=(s:Int) - (n:Int):=by rw [IntKind.wrap_i64];omega
  rcases hk:((k:Int) != 1) with _ | _
  ·rcases hsf:((s:Int) - (n:Int) != (first:Int)) with _ | _
   ·have hk1:k=1:=by simp at hk;omega
    have hcond: ¬ (k≠1∨(s:Int) - pre.length≠first):=by have:=HNL.out;subst this;rintro(h | h);exact h hk1;simp at hsf;exact h hsf
    have HTF:=Lib.hid (HTX.out.2.1 hcond)
    have HTG:=Lib.hid (HTX.out.2.2 hcond)
    obtain⟨q,hq⟩: ∃ q,q=p+x0:=⟨_,rfl⟩
    have HQ:=Lib.hid hq
    have hwq:IntKind.i64.wrap ((p:Int)+(x0:Int))=(q:Int):=by have:=HPZ.out;have:=HCB.out;rw [IntKind.wrap_i64];omega
    have hqz:q+z≤67108864:=by have:=HPZ.out;have:=HCB.out;omega
    have hwz:IntKind.i64.wrap ((q:Int)+(z:Int))=(q:Int)+(z:Int):=by rw [IntKind.wrap_i64];omega
    clear hcond hk1 hq HTX
    refine wpIn_block (wpIn_seq (wpIn_seq (wpIn_region_plain (by rfl) (letsOut_then (letsOut_then (letsOut_block letsOut_G))) ?_)))
    go_wp2_with fail
    refine wpIn_cond_false rfl (wpIn_skip ?_)
    refine wpIn_seq (wpIn_region_plain (by rfl) (letsOut_then (letsOut_block letsOut_G)) ?_)
    go_wp2_with (with_reducible refine wpList_load_fr rfl (.tmp 13) rfl g8 (k:Int) (s:Int) (.slice ob body.length bcap) rfl HF.out ?_)
    refine(placed_any q z k s body ob bcap W2 hbl HZ).mono ?_
    rintro e W3 ⟨rfl,hb3⟩
    have HF9:=Lib.hid (heap_alloc_new W3 (.cells (pcCs ⟨q,z,⟨k,s,body⟩⟩ (.slice ob body.length bcap)) 160))
    have HB4:=Lib.hid (Below.next hb3 (below_alloc W3 (.cells (pcCs ⟨q,z,⟨k,s,body⟩⟩ (.slice ob body.length bcap)) 160)))
    have hg9:W2.heap.size≤W3.heap.size:=hb3.size
    simp only [pcCs] at HF9 HB4
    clear hb3
    go_wp2_with fail
    generalize W3.alloc (.cells #[.int .i64 (q:Int),.int .i64 (z:Int),.int .i64 (k:Int),.int .i64 (s:Int),.slice ob body.length bcap] 160)=W4 at*
    generalize W3.heap.size=g9 at*
    have HPB:=Lib.hid (show PlcBlk W4 g9 ⟨q,z,⟨k,s,body⟩⟩ (.slice ob body.length bcap) from HF9.out)
    have HO4:=Lib.hid (HO2.out.below HB4.out)
    have HBV4:=Lib.hid ((HBV2.out.below HB4.out).mono fun j hj=>(⟨hj.1,Nat.lt_of_lt_of_le hj.2.1 HB4.out.size,hj.2.2⟩:W0.heap.size≤j∧j<W4.heap.size∧(Value.slice ov n capv).ownBlock≠some j))
    have H54:=Lib.hid ((HB4.out.block _ (Array.getElem?_eq_some_iff.1 H52.out).1).trans H52.out)
    have H64:=Lib.hid ((HB4.out.block _ (Array.getElem?_eq_some_iff.1 H62.out).1).trans H62.out)
    have HM4:=Lib.hid ((HB4.out.block _ (Array.getElem?_eq_some_iff.1 HM2.out).1).trans HM2.out)
    have hsz4:W0.heap.size≤W4.heap.size:=Nat.le_trans hsz2 HB4.out.size
    have c5:=cell_of_row W4 _ 0 _ _ _ H54.out
    simp only [List.getElem?_toArray,List.getElem?_cons_zero] at c5
    have HLT:=Lib.hid (fun j (e:(Value.slice ov n capv).ownBlock=some j)=>(HO2.out.1.lt j e).2)
    clear HF9
    refine wpIn_seq (wpIn_region_plain (by rfl) (letsOut_then (letsOut_block letsOut_G)) ?_)
    go_wp2_with (first | (with_reducible refine wpList_load_plc rfl (.tmp 14) rfl g9 ⟨q,z,⟨k,s,body⟩⟩ (.slice ob body.length bcap) rfl HPB.out ?_) | (refine wpList_appPl (p:=⟨q,z,⟨k,s,body⟩⟩) (dv:= .slice ob body.length bcap) rfl (.tmp 50) (.tmp 52) rfl rfl rfl HO4.out hsz4 HBV4.out HLEN.out ?_))
    intro v5 W5 ho5 hb5 ht5 h15
    have HO5:=Lib.hid ho5
    have HT5:=Lib.hid ht5
    have H55:=Lib.hid ((hb5.block (w.heap.size+1+1+1) (by have:=HSZ.out;omega)).trans H54.out)
    have H65:=Lib.hid ((hb5.block (w.heap.size+1+1+1+1) (by have:=HSZ.out;omega)).trans H64.out)
    have HM5:=Lib.hid ((hb5.block (w.heap.size+1+1) (by have:=HSZ.out;omega)).trans HM4.out)
    have HPB5:=Lib.hid (show PlcBlk W5 g9 ⟨q,z,⟨k,s,body⟩⟩ (.slice ob body.length bcap) from(ht5.block g9 HPB.out.lt (fun e=>by have:=HLT.out _ e;omega)).trans HPB.out)
    have c55:=cell_of_row W5 _ 0 _ _ _ H55.out
    simp only [List.getElem?_toArray,List.getElem?_cons_zero] at c55
    have f55:W5.frozen? ⟨w.heap.size+1+1+1,0,none⟩=false:=by have:=H55.out;simp [World.frozen?,this]
    clear ho5 hb5 ht5 HO4 HBV4 HPB H54 H64 c5
    go_wp2_with (with_reducible refine wpList_store_cellV rfl 118 (.tmp 10) (.tmp 53) rfl (w.heap.size+1+1+1) 0 v5 (.slice ov n capv) (by kernel_rfl) h15 rfl rfl c55 f55 ?_)
    intro W6 hw6
    have HT6:=Lib.hid (show Turned (fun j=>j=w.heap.size+1+1+1) W5 W6 by rw [hw6.out];exact Turned.setCell (S:=fun j=>j=w.heap.size+1+1+1) _ ⟨w.heap.size+1+1+1,0,none⟩ _ rfl)
    have H56:=Lib.hid (show W6.heap[w.heap.size+1+1+1]? =some (.cells #[v5] 118 (0,0)) by rw [hw6.out];exact row_setCell H55.out 0 v5)
    have H66:=Lib.hid ((HT6.out.block _ (Array.getElem?_eq_some_iff.1 H65.out).1 (by omega)).trans H65.out)
    have HM6:=Lib.hid ((HT6.out.block _ (Array.getElem?_eq_some_iff.1 HM5.out).1 (by omega)).trans HM5.out)
    have HPB6:=Lib.hid (show PlcBlk W6 g9 ⟨q,z,⟨k,s,body⟩⟩ (.slice ob body.length bcap) from(HT6.out.block g9 HPB5.out.lt (by have:=HSZ.out;omega)).trans HPB5.out)
    have HO6:=Lib.hid (HO5.out.turned HT6.out (fun j hj=>by have:=HSZ.out;omega))
    clear hw6 c55 f55 HO5
    have c6:=cell_of_row W6 _ 0 _ _ _ H66.out
    simp only [List.getElem?_toArray,List.getElem?_cons_zero] at c6
    have f6:W6.frozen? ⟨w.heap.size+1+1+1+1,0,none⟩=false:=by have:=H66.out;simp [World.frozen?,this]
    have c90:W6.cell? ⟨g9,0,none⟩=some (.int .i64 (q:Int)):=HPB6.out.cell 0
    have c91:W6.cell? ⟨g9,1,none⟩=some (.int .i64 (z:Int)):=HPB6.out.cell 1
    refine wpIn_seq (wpIn_region_plain (by rfl) (letsOut_then (letsOut_block letsOut_G)) ?_)
    go_wp2_with fail
    have HT7:=Lib.hid (Turned.setCell (S:=fun j=>j=w.heap.size+1+1+1+1) W6 ⟨w.heap.size+1+1+1+1,0,none⟩ (.int .i64 ((q:Int)+(z:Int))) rfl)
    have H57:=Lib.hid ((HT7.out.block _ (Array.getElem?_eq_some_iff.1 H56.out).1 (by omega)).trans H56.out)
    have HM7:=Lib.hid ((HT7.out.block _ (Array.getElem?_eq_some_iff.1 HM6.out).1 (by omega)).trans HM6.out)
    have H67:=Lib.hid (row_setCell H66.out 0 (.int .i64 ((q:Int)+(z:Int))))
    have HO7:=Lib.hid (HO6.out.turned HT7.out (fun j hj=>by have:=HSZ.out;omega))
    generalize W6.setCell ⟨w.heap.size+1+1+1+1,0,none⟩ (.int .i64 ((q:Int)+(z:Int)))=W7 at*
    have HTT:=Lib.hid (show Turned (fun j=>j=w.heap.size+1+1+1∨j=w.heap.size+1+1+1+1∨(Value.slice ov n capv).ownBlock=some j) W2 W7 from
     (((Turned.below HB4.out).trans HT5.out (fun i hi=> .inl (.inr (.inr hi)))).trans HT6.out (fun i hi=> .inl (.inl hi))).trans HT7.out (fun i hi=> .inl (.inr (.inl hi))))
    have HKF:=Lib.hid (keepsFrom_turned (B:=W0.heap.size) HTT.out fun j o hj hs ho=>by
     rcases hs with h | h | h
     ·have:=HSZ.out;omega
     ·have:=HSZ.out;omega
     ·rcases HO2.out.1.2 with⟨e,_⟩ | ⟨g,gcap,cur,e,_,hg,_⟩
      ·rw [e] at h;cases h
      ·rw [e] at h
       have e:g=j:=Option.some.inj h
       subst e
       rw [hg] at ho
       cases ho
       rfl)
    have HSC:=Lib.hid (show ScI W0.heap.size (w.heap.size+1+1+1) (w.heap.size+1+1+1+1) p c W0 (pre++[(x0,⟨k,s,body⟩,.slice ob body.length bcap)]) W7 from
     ⟨v5,H57.out,by
      have e:(q:Int)+(z:Int)=((p+(x0+body.length+20):Nat):Int):=by have:=HZ.out;have:=HQ.out;omega
      rw [H67.out,frOf_snoc,lastEnd_snoc,e]
      rfl,by rw [plX_snoc,←HQ.out,←HZ.out];exact HO7.out,HPX.out,HT2.out.trans HTT.out fun j hj=>by
      rcases hj with h | h | h
      ·exact .inl (.inl h)
      ·exact .inl (.inr h)
      ·exact .inr (HO2.out.1.lt j h).1⟩)
    have HKP:=Lib.hid (show ScK W0.heap.size (w.heap.size+1+1+1) (w.heap.size+1+1+1+1) W2 W7 from HTT.out.mono fun j hj=>by
     rcases hj with h | h | h
     ·exact .inl h
     ·exact .inr (.inl h)
     ·exact .inr (.inr (HO2.out.1.lt j h).1))
    obtain⟨o5,cap5,hs5,_,_⟩:=own_shape HO7.out.1
    have HN5:=Lib.hid (show (plX p pre++[((⟨q,z,⟨k,s,body⟩⟩:Plc),Value.slice ob body.length bcap)]).length=n+1 by have:=HNL.out;simp [plX,this])
    rw [HN5.out] at hs5
    have d5:=cell_of_row W7 _ 0 _ _ _ H57.out
    have dM:=cell_of_row W7 _ 0 _ _ _ HM7.out
    simp only [List.getElem?_toArray,List.getElem?_cons_zero,hs5] at d5 dM
    clear c6 f6 c90 c91 HT5 HT6 HT7 H56 H66 H57 H67 HO6 HO7 HPB5 HPB6 HM6 HM7 hs5
    rcases hnm:(((n:Int)+1)==(most:Int)) with _ | _
    ·have HNM:=Lib.hid (show ¬ pre.length+1=most by have:=HNL.out;subst this;simp at hnm;omega)
     refine wpIn_seq (wpIn_region_plain (by rfl) (letsOut_then (letsOut_block letsOut_G)) ?_)
     go_wp2_with fail
     gi_wp2
     exact⟨HKF.out,HKP.out,HSC.out,fun rest=>by rw [HTG.out HNM.out rest];simp,by have:=HPM.out;have:=HNM.out;simp;omega⟩
    ·have HNM:=Lib.hid (show pre.length+1=most by have:=HNL.out;subst this;simp at hnm;omega)
     refine wpIn_seq (wpIn_region_plain (by rfl) (letsOut_then (letsOut_block letsOut_G)) ?_)
     go_wp2_with fail
     gi_wp2
     exact⟨HKF.out,rfl,_,HSC.out,HTF.out HNM.out⟩
   ·refine wpIn_block (wpIn_seq (wpIn_seq (wpIn_region_plain (by rfl) (letsOut_then (letsOut_then (letsOut_block letsOut_G))) ?_)))
    go_wp2_with fail
    gi_wp2
    exact⟨KeepsFrom.refl _ _,rfl,pre,⟨_,H52.out,H62.out,HO2.out,HPR.out,HT2.out⟩,HTX.out.1 (.inr (by have:=HNL.out;subst this;simpa using hsf))⟩
  ·refine wpIn_block (wpIn_seq (wpIn_seq (wpIn_region_plain (by rfl) (letsOut_then (letsOut_then (letsOut_block letsOut_G))) ?_)))
   go_wp2_with fail
   gi_wp2
   exact⟨KeepsFrom.refl _ _,rfl,pre,⟨_,H52.out,H62.out,HO2.out,HPR.out,HT2.out⟩,HTX.out.1 (.inl (by simp at hk;omega))⟩
 case hdone=>
  rintro D xs W hD hxs ⟨⟨v,h5,h6,hown,_,htn⟩,htk,_⟩ hdf
  have hty:takeRun first most 0 (frs c)=frOf xs:=by
   have h:=htk []
   rw [List.append_nil,hxs] at h
   rw [h,hxs,takeRun,List.append_nil]
  clear htk hxs
  have HFST:=Lib.hid (plX_fst p xs)
  have HSE:=Lib.hid (show scanRun b p first most=(plcs p (frOf xs),p+lastEnd 0 (frOf xs)) by rw [HSR.out,hty])
  obtain⟨n,hn⟩: ∃ n,n=p+lastEnd 0 (frOf xs):=⟨_,rfl⟩
  rw [←hn] at h6 HSE
  have HBW:=Lib.hid (turned_below HB0.out htn (fun j hj=>by omega) HB0.out.size)
  have HO:=Lib.hid hown
  have HDF:=Lib.hid hdf
  have c5:=cell_of_row W _ 0 _ _ _ h5
  have c6:=cell_of_row W _ 0 _ _ _ h6
  have hDlt:w.heap.size≤D:=by have:=HSZ.out;omega
  have HSZW:=Lib.hid (show w.heap.size≤W0.heap.size by have:=HSZ.out;omega)
  simp only [List.getElem?_toArray,List.getElem?_cons_zero] at c5 c6
  clear hn h5 h6 hown htn hdf hty HSZ HB0 HG0 HG1 HG2 HG3 HG4 HG5 HW0 hs
  go_wp2_with fail
  go_quiet (fail)
  go_wp2
  have HBF:=Lib.hid (below_drewN' W nq)
  have hdf:=(HBF.out.block D (Array.getElem?_eq_some_iff.1 HDF.out).1).trans HDF.out
  have HKF:=Lib.hid (Kept.putObj (B:=W0.heap.size) (.deferred none) hD hdf rfl)
  refine⟨by simp,.inl ⟨_,_,rfl,run_takeDeferred hdf,?_⟩⟩
  refine⟨.tuple #[v,.int .i64 (n:Int)],by simp [results,Tryz.results83,go_sem],v,by rw [HSE.out],?_,HKF.out.after (HBW.out.trans (HBF.out.mono HBW.out.size)) HSZW.out⟩
  rw [HSE.out]
  have h:=((HO.out.below HBF.out).kept HKF.out).pcIn (A:=fun k=>w.heap.size≤k) (fun k hk=>Nat.le_trans HSZW.out hk)
  rw [HFST.out] at h
  exact h
 case hstop=>
  rintro D _ pre W hD _ ⟨rfl,ys,⟨v,h5,h6,hown,_,htn⟩,hty⟩ hdf
  have HFST:=Lib.hid (plX_fst p ys)
  have HSE:=Lib.hid (show scanRun b p first most=(plcs p (frOf ys),p+lastEnd 0 (frOf ys)) by rw [HSR.out,hty])
  obtain⟨n,hn⟩: ∃ n,n=p+lastEnd 0 (frOf ys):=⟨_,rfl⟩
  rw [←hn] at h6 HSE
  have HBW:=Lib.hid (turned_below HB0.out htn (fun j hj=>by omega) HB0.out.size)
  have HO:=Lib.hid hown
  have HDF:=Lib.hid hdf
  have c5:=cell_of_row W _ 0 _ _ _ h5
  have c6:=cell_of_row W _ 0 _ _ _ h6
  have hDlt:w.heap.size≤D:=by have:=HSZ.out;omega
  have HSZW:=Lib.hid (show w.heap.size≤W0.heap.size by have:=HSZ.out;omega)
  simp only [List.getElem?_toArray,List.getElem?_cons_zero] at c5 c6
  clear hn h5 h6 hown htn hdf hty HSZ HB0 HG0 HG1 HG2 HG3 HG4 HG5 HW0 hs
  go_wp2_with fail
  go_quiet (fail)
  go_wp2
  have HBF:=Lib.hid (below_drewN' W nq)
  have hdf:=(HBF.out.block D (Array.getElem?_eq_some_iff.1 HDF.out).1).trans HDF.out
  have HKF:=Lib.hid (Kept.putObj (B:=W0.heap.size) (.deferred none) hD hdf rfl)
  refine⟨by simp,.inl ⟨_,_,rfl,run_takeDeferred hdf,?_⟩⟩
  refine⟨.tuple #[v,.int .i64 (n:Int)],by simp [results,Tryz.results83,go_sem],v,by rw [HSE.out],?_,HKF.out.after (HBW.out.trans (HBF.out.mono HBW.out.size)) HSZW.out⟩
  rw [HSE.out]
  have h:=((HO.out.below HBF.out).kept HKF.out).pcIn (A:=fun k=>w.heap.size≤k) (fun k hk=>Nat.le_trans HSZW.out hk)
  rw [HFST.out] at h
  exact h
end Go.Proofs.YtlobohpbgghleaaGreatDoor

namespace Go.Proofs.YtlobohpbgghleaaGreatDoor
open Go.RowKit
def begV (b:List UInt8) (g:Sg):Nat×Bool:=((hdrOf b).2.2.1,decide ((hdrOf b).2.2.2=0)&&decide (((hdrOf b).1:Int)=g.num)&&decide (((hdrOf b).2.1:Int)=g.first))
theorem fs_nib {w:World} {f m:Nat} {d:Disk} {L:List Slot} (h:FsAt w f m d L) (hn:NibTab w): ¬ 0=f:=by
 intro e
 have h1:=h.hd.c0
 rw [←e] at h1
 have h2:=hn.at 0 (by decide)
 rw [h1] at h2
 cases h2
set_option maxRecDepth 100000 in
set_option maxHeartbeats 4000000 in
theorem begins_any (l:List UInt8) (v:Value) (g:Sg) (w:World) (hv:BRow w v l) (hl:l.length≤140737488355328) (hn:NibTab w):
  Calls Tryz.prog 81 #[v,sgV g] w fun e w'=>e= .returned (.tuple #[.int .i64 ((begV l g).1:Int),.bool (begV l g).2])∧Below w.heap.size w w':=by
 have HB0:=Lib.hid (below_alloc w (.cells (sgCs g) 46))
 have HG0:=Lib.hid (show (w.alloc (.cells (sgCs g) 46)).heap[w.heap.size]? =some (.cells (sgCs g) 46 (0,0)) from heap_alloc_new w _)
 have HHO:=Lib.hid (hdrOf_any l v _ (hv.below HB0.out) hl (hn.below HB0.out))
 have HE:=Lib.hid (show begV l g=((hdrOf l).2.2.1,decide ((hdrOf l).2.2.2=0)&&decide (((hdrOf l).1:Int)=g.num)&&decide (((hdrOf l).2.1:Int)=g.first)) from rfl)
 obtain⟨oa,cap,rfl,_,_⟩:=hv
 obtain⟨r,hr⟩: ∃ r,r=hdrOf l:=⟨_,rfl⟩
 rw [←hr] at HHO HE
 clear hr hn
 obtain⟨num,first,n,e0⟩:=r
 unfold HdrPost at HHO
 simp only [sgCs] at HB0 HG0 HHO
 go_enter Tryz.func81,Tryz.ntmps81
 go_wp2_with fail
 refine HHO.out.mono ?_
 rintro e w1 ⟨rfl,hb1⟩
 have HB1:=Lib.hid (Below.next HB0.out hb1)
 have HG1:=Lib.hid ((hb1.block _ (Array.getElem?_eq_some_iff.1 HG0.out).1).trans HG0.out)
 have g0:=cell_of_row w1 _ 0 _ _ _ HG1.out
 have g1:=cell_of_row w1 _ 1 _ _ _ HG1.out
 simp only [List.getElem?_toArray,List.getElem?_cons_zero,List.getElem?_cons_succ] at g0 g1
 clear hb1 HB0 HG0 HHO
 rcases h1:(e0==0) with _ | _
 ·have HE2:=Lib.hid (show begV l g=(n,false) by rw [HE.out];have: ¬ e0=0:=by simpa using h1
                                                simp [this])
  go_wp2_with fail
  go_quiet (fail)
  go_wp2
  refine bodyPost_ret (v:= .tuple #[.int .i64 (n:Int),.bool false]) (by simp [results,Tryz.results81,go_sem]) rfl ⟨by rw [HE2.out],Below.next HB1.out (below_drewN' _ _)⟩
 ·have h1':e0=0:=by simpa using h1
  rcases h2:((num:Int)==g.num) with _ | _
  ·have HE2:=Lib.hid (show begV l g=(n,false) by rw [HE.out];have: ¬ (num:Int)=g.num:=by simpa using h2
                                                 simp [this])
   clear h1'
   go_wp2_with fail
   go_quiet (fail)
   go_wp2
   refine bodyPost_ret (v:= .tuple #[.int .i64 (n:Int),.bool false]) (by simp [results,Tryz.results81,go_sem]) rfl ⟨by rw [HE2.out],Below.next HB1.out (below_drewN' _ _)⟩
  ·have h2':(num:Int)=g.num:=by simpa using h2
   rcases h3:((first:Int)==g.first) with _ | _
   ·have HE2:=Lib.hid (show begV l g=(n,false) by rw [HE.out];have: ¬ (first:Int)=g.first:=by simpa using h3
                                                  simp [this])
    clear h1' h2'
    go_wp2_with fail
    go_quiet (fail)
    go_wp2
    refine bodyPost_ret (v:= .tuple #[.int .i64 (n:Int),.bool false]) (by simp [results,Tryz.results81,go_sem]) rfl ⟨by rw [HE2.out],Below.next HB1.out (below_drewN' _ _)⟩
   ·have HE2:=Lib.hid (show begV l g=(n,true) by rw [HE.out];have h3':(first:Int)=g.first:=by simpa using h3
                                                 simp [h1',h2',h3'])
    clear h1' h2'
    go_wp2_with fail
    go_quiet (fail)
    go_wp2
    refine bodyPost_ret (v:= .tuple #[.int .i64 (n:Int),.bool true]) (by simp [results,Tryz.results81,go_sem]) rfl ⟨by rw [HE2.out],Below.next HB1.out (below_drewN' _ _)⟩
theorem rdD_rdD (d:Disk) (a b:Nat):rdD (rdD d a) b=rdD d (a+b):=by
 unfold rdD
 have:IntKind.i64.wrap (IntKind.i64.wrap (d.reads+(a:Int))+(b:Int))=IntKind.i64.wrap (d.reads+((a+b:Nat):Int)):=by
  rw [IntKind.wrap_i64,IntKind.wrap_i64,IntKind.wrap_i64];omega
 simp only [this]
theorem rdD_zero {d:Disk} (h:DiskOk d):rdD d 0=d:=by
 have hr:=h.reads
 have:IntKind.i64.wrap (d.reads+((0:Nat):Int))=d.reads:=by rw [IntKind.wrap_i64];omega
 unfold rdD
 rw [this]
end Go.Proofs.YtlobohpbgghleaaGreatDoor

namespace Go.Proofs.YtlobohpbgghleaaGreatDoor
open Go.RowKit
def filD (d:Disk) (n:List UInt8):Option Fil:=if openE d n=0 then atF d.files n else none
theorem filD_some {d:Disk} {n:List UInt8} (h:openE d n=0): ∃ x,atF d.files n=some x∧filD d n=some x:=by
 obtain⟨_,_,x,hx⟩:=openE_zero h
 exact⟨x,hx,by unfold filD;rw [if_pos h,hx]⟩
theorem filD_none {d:Disk} {n:List UInt8} (h: ¬ openE d n=0):filD d n=none:=by unfold filD;rw [if_neg h]
theorem hdrOf_fine {b:List UInt8} (h:(hdrOf b).2.2.2=0):20≤(hdrOf b).2.2.1∧(hdrOf b).2.2.1≤b.length∧(hdrOf b).2.1≤1099511627777:=by
 unfold hdrOf at h ⊢
 split at h
 ·exact absurd h (by decide)
 ·rename_i hc
  rw [if_neg hc]
  have hd:=decF_fine (b:=b) (by
   rcases Decidable.em ((decF b).2.2=0) with h | h
   ·exact h
   ·exact absurd (.inl h) hc)
  split at h
  ·exact absurd h (by decide)
  ·unfold hdrIn at h ⊢
   split at h
   ·rename_i a c _
    split at h
    ·exact absurd h (by decide)
    ·rename_i hcc
     rw [if_neg hcc]
     have hb:rightB (a:Int) (c:Int)=true:=by
      rcases hx:rightB (a:Int) (c:Int)
      ·exact absurd (.inr (.inr hx)) hcc
      ·rfl
     unfold rightB at hb
     simp only [Bool.and_eq_true,decide_eq_true_eq] at hb
     simp only
     omega
   ·exact absurd h (by decide)
def activeV (d:Disk) (g:Sg):(Nat×Nat×Bool)×Nat:=
 match filD d (segName g.num) with
 | none=>((0,0,false),0)
 | some x=>if (begV x.data g).2=false then ((0,0,false),x.data.length)
  else (((scanRun x.data (begV x.data g).1 (hdrOf x.data).2.1 512).2,(scanRun x.data (begV x.data g).1 (hdrOf x.data).2.1 512).1.length,true),x.data.length)
theorem sizeE {d:Disk} {n:List UInt8} (h: ¬ openE d n=0):doD d (opSize n)=(d,[],0,openE d n):=by rw [doD_size,if_pos h]
theorem sizeO {d:Disk} {n:List UInt8} {x:Fil} (h:openE d n=0) (hx:atF d.files n=some x):doD d (opSize n)=(d,[],(x.data.length:Int),0):=by rw [doD_size,if_neg (fun k=>k h),hx]
theorem fil_len {w:World} {f m:Nat} {d:Disk} {L:List Slot} (h:FsAt w f m d L) {n:List UInt8} {x:Fil} (hx:atF d.files n=some x):x.data.length≤67108864:=by
 have h1:=len_le_used (at_name hx).2
 have h2:=h.ok.used
 have h3:=h.ok.room
 omega
set_option maxRecDepth 100000 in
set_option maxHeartbeats 4000000 in
theorem active_any (w:World) (f m:Nat) (d:Disk) (L:List Slot) (h:FsAt w f m d L) (hn:NibTab w) (g:Sg):
  Calls Tryz.prog 42 #[.pointer (some ⟨f,0,none⟩),sgV g] w fun e w'=>e= .returned (.tuple #[.int .i64 ((activeV d g).1.1:Int),.int .i64 ((activeV d g).1.2.1:Int),.bool (activeV d g).1.2.2])∧FsAt w' f m (rdD d (activeV d g).2) L∧Turned (fun i=>i=f) w w':=by
 have HB0:=Lib.hid (below_alloc w (.cells (sgCs g) 46))
 have HG0:=Lib.hid (show SgBlk (w.alloc (.cells (sgCs g) 46)) w.heap.size g from heap_alloc_new w _)
 have HF0:=Lib.hid (h.below HB0.out)
 have HN0:=Lib.hid (hn.below HB0.out)
 have HA:=Lib.hid (show activeV d g=match filD d (segName g.num) with
  | none=>((0,0,false),0)
  | some x=>if (begV x.data g).2=false then ((0,0,false),x.data.length)
   else (((scanRun x.data (begV x.data g).1 (hdrOf x.data).2.1 512).2,(scanRun x.data (begV x.data g).1 (hdrOf x.data).2.1 512).1.length,true),x.data.length) from rfl)
 have hfl:=h.hd.lt
 have g0:=HG0.out.c0
 have HSZ0:=Lib.hid (show (w.alloc (.cells (sgCs g) 46)).heap.size=w.heap.size+1 by simp)
 simp only [sgCs] at HB0 HG0 HF0 HN0 g0 HSZ0
 obtain⟨nm,hnm⟩: ∃ nm,nm=segName g.num:=⟨_,rfl⟩
 have HSN:=Lib.hid (fun W=>Segment_any g.num W)
 rw [←hnm] at HSN HA
 clear h hn hnm
 go_enter Tryz.func42,Tryz.ntmps42
 go_wp2_with fail
 refine(HSN.out _).mono ?_
 rintro e w1 ⟨rfl,hb1⟩
 have HB1:=Lib.hid (Below.next HB0.out hb1)
 have HF1:=Lib.hid (HF0.out.below hb1)
 have HN1:=Lib.hid (HN0.out.below hb1)
 have HG1:=Lib.hid ((hb1.block _ (Array.getElem?_eq_some_iff.1 HG0.out).1).trans HG0.out)
 have HS1:=Lib.hid (show w.heap.size+1≤w1.heap.size by have:=hb1.size;rw [HSZ0.out] at this;exact this)
 have HSI:=Lib.hid (size_any w1 f m d L HF1.out nm)
 clear hb1 HB0 HF0 HN0 HG0 HSN g0 HSZ0
 by_cases he:openE d nm=0
 ·obtain⟨x,hx,hfx⟩:=filD_some he
  rw [sizeO he hx] at HSI
  have HLX:=Lib.hid (fil_len HF1.out hx)
  have HRD:=Lib.hid (show Calls Tryz.prog 73 #[.pointer (some ⟨f,0,none⟩),.string ⟨nm.toArray⟩,.int .i64 0,.int .i64 (x.data.length:Int)] w1 fun e w'=> ∃ v,e= .returned (.tuple #[v,.int .i64 0])∧OwnB w' w1.heap.size v x.data∧FsAt w' f m (rdD d x.data.length) L∧Turned (fun i=>i=f) w1 w' by
   have:=read_any w1 f m d L HF1.out nm x he hx 0 x.data.length (by omega)
   rw [List.drop_zero,List.take_length] at this
   exact this)
  have HA2:=Lib.hid (show activeV d g=if (begV x.data g).2=false then ((0,0,false),x.data.length)
   else (((scanRun x.data (begV x.data g).1 (hdrOf x.data).2.1 512).2,(scanRun x.data (begV x.data g).1 (hdrOf x.data).2.1 512).1.length,true),x.data.length) by rw [HA.out,hfx])
  clear HA he hx hfx
  go_wp2_with fail
  refine HSI.out.mono ?_
  rintro e w1' ⟨rfl,rfl⟩
  go_wp2_with fail
  refine HRD.out.mono ?_
  rintro e w2 ⟨v2,rfl,ho2,hf2,ht2⟩
  have HNE:=fs_nib HF1.out HN1.out
  have HN2:=Lib.hid (HN1.out.turned ht2 HNE HN1.out.lt)
  have HT2:=Lib.hid (show Turned (fun i=>i=f) w w2 from(Turned.below HB1.out).trans ht2 fun i hi=> .inl hi)
  have HG2:=Lib.hid (show SgBlk w2 w.heap.size g from(ht2.block _ (by have:=HS1.out;omega) (by omega)).trans HG1.out)
  have HF2:=Lib.hid hf2
  have HO2:=Lib.hid ho2
  have HBG:=Lib.hid (begins_any x.data v2 g w2 ho2.brow (by have:=HLX.out;omega) HN2.out)
  obtain⟨o2,cap2,hsh,_,_⟩:=own_shape ho2
  subst hsh
  clear hf2 ho2 ht2 HRD HSI HF1 HG1 HN1
  go_wp2_with (with_reducible refine wpList_load_sg rfl (.tmp 3) rfl w.heap.size 0 g rfl HG2.out.range ?_)
  refine HBG.out.mono ?_
  rintro e w3 ⟨rfl,hb3⟩
  have HF3:=Lib.hid (HF2.out.below hb3)
  have HO3:=Lib.hid (HO2.out.later hb3)
  have HN3:=Lib.hid (HN2.out.below hb3)
  have HT3:=Lib.hid (show Turned (fun i=>i=f) w w3 from HT2.out.trans (Turned.below hb3) fun i hi=> .inl hi)
  have HG3:=Lib.hid (show SgBlk w3 w.heap.size g from(hb3.block _ (Array.getElem?_eq_some_iff.1 HG2.out).1).trans HG2.out)
  clear hb3 HBG HF2 HO2 HN2 HT2 HG2
  rcases hbg:(begV x.data g).2 with _ | _
  ·have HE:=Lib.hid (show activeV d g=((0,0,false),x.data.length) by rw [HA2.out,if_pos hbg])
   go_wp2
   refine bodyPost_ret (v:= .tuple #[.int .i64 0,.int .i64 0,.bool false]) (by simp [results,Tryz.results42,go_sem]) rfl ⟨by rw [HE.out];rfl,by rw [HE.out];exact HF3.out,HT3.out⟩
  ·have hh:(hdrOf x.data).2.2.2=0∧(((hdrOf x.data).2.1:Nat):Int)=g.first:=by
    unfold begV at hbg
    simp only [Bool.and_eq_true,decide_eq_true_eq] at hbg
    exact⟨hbg.1.1,hbg.2⟩
   have hfine:=hdrOf_fine hh.1
   have HE:=Lib.hid (show activeV d g=(((scanRun x.data (begV x.data g).1 (hdrOf x.data).2.1 512).2,(scanRun x.data (begV x.data g).1 (hdrOf x.data).2.1 512).1.length,true),x.data.length) by rw [HA2.out,if_neg (by rw [hbg];decide)])
   have HRU:=Lib.hid (scanRun_any x.data _ (begV x.data g).1 (hdrOf x.data).2.1 512 w3 HO3.out.brow HLX.out HN3.out hfine.2.1 (by decide) (by decide))
   rw [hh.2] at HRU
   obtain⟨r,hr⟩: ∃ r,r=scanRun x.data (begV x.data g).1 (hdrOf x.data).2.1 512:=⟨_,rfl⟩
   rw [←hr] at HRU HE
   obtain⟨n0,hn0⟩: ∃ n0,n0=(begV x.data g).1:=⟨_,rfl⟩
   rw [←hn0] at HRU
   rw [←hn0]
   have c1:=HG3.out.c1
   clear hr hn0 hh hfine hbg
   obtain⟨ps,en⟩:=r
   unfold RunP at HRU
   go_wp2_with fail
   refine HRU.out.mono ?_
   rintro e w4 ⟨v4,rfl,hp4,hb4⟩
   obtain⟨o4,cap4,hs4,_,_,_⟩:=hp4.shape
   subst hs4
   have HF4:=Lib.hid (HF3.out.below hb4)
   have HT4:=Lib.hid (show Turned (fun i=>i=f) w w4 from HT3.out.trans (Turned.below hb4) fun i hi=> .inl hi)
   clear hb4 hp4 HRU
   go_wp2
   refine bodyPost_ret (v:= .tuple #[.int .i64 (en:Int),.int .i64 (ps.length:Int),.bool true]) (by simp [results,Tryz.results42,go_sem]) rfl ⟨by rw [HE.out],by rw [HE.out];exact HF4.out,HT4.out⟩
 ·rw [sizeE he] at HSI
  have HE:=Lib.hid (show activeV d g=((0,0,false),0) by rw [HA.out,filD_none he])
  have t1:(openE d nm != 0)=true:=by simpa using he
  generalize openE d nm=e0 at*
  clear he HA
  go_wp2_with fail
  refine HSI.out.mono ?_
  rintro e w1' ⟨rfl,rfl⟩
  go_wp2
  refine bodyPost_ret (v:= .tuple #[.int .i64 0,.int .i64 0,.bool false]) (by simp [results,Tryz.results42,go_sem]) rfl ⟨by rw [HE.out];rfl,by rw [HE.out,rdD_zero HF1.out.ok];exact HF1.out,Turned.below HB1.out⟩
end Go.Proofs.YtlobohpbgghleaaGreatDoor
