import Derived.Test.YtlobohpbgghleaaGreatDoorRcOpen
import Derived.Test.YtlobohpbgghleaaGreatDoorFsAppend
import Derived.Test.YtlobohpbgghleaaGreatDoorFsDir
import Derived.Test.YtlobohpbgghleaaGreatDoorDkBlk
namespace Go.Proofs.YtlobohpbgghleaaGreatDoor
open Go.RowKit

/-! ## manifest.Save, walked -/

def saveOps (m : Man) : List DOp := [opCreate tmpN, opAppend tmpN (encMan m).1, opSync tmpN, opRename tmpN manN]
/-- what a row of calls answers -/
def RunPost (w : World) (f m : Nat) (L : List Slot) (r : Disk × Int) (e : Ending) (w' : World) : Prop := e = .returned (.int .i64 r.2) ∧ FsPost w f m L r.1 w'
theorem NibTab.turned {S : Nat → Prop} {w w' : World} (h : NibTab w) (ht : Turned S w w') (hS : ¬ S 0) (hg : 0 < w.heap.size) : NibTab w' := by
  have hb := ht.block 0 hg hS
  unfold NibTab Lib.TabIs World.var? at *
  simp only [show Tryz.prog.globalNamed "daybook/crc.nibbles" = some 0 by kernel_rfl, Option.bind_some, hb] at *
  exact h

theorem saveC1 (w : World) (f m : Nat) (d : Disk) (L : List Slot) (h : FsAt w f m d L) (hs : d.steps < 4611686018427387904) (b : Nat) (hc : w.cell? ⟨b, 0, none⟩ = some (.pointer (some ⟨f, 0, none⟩))) :
    Calls Tryz.prog 128 #[.pointer (some ⟨b, 0, none⟩)] w fun e w' => e = .returned (.int .i64 (doD d (opCreate tmpN)).2.2.2) ∧ FsPost w f m L (doD d (opCreate tmpN)).1 w' := by
  have HC := Lib.hid (create_any w f m d L h hs tmpN)
  clear h
  go_enter Tryz.func128, Tryz.ntmps128
  go_wp2_with fail
  refine HC.out.mono ?_
  rintro e w' ⟨rfl, hp⟩
  have HP := Lib.hid hp
  clear hp
  go_wp2
  go_ret
  exact ⟨rfl, HP.out⟩
theorem saveC2 (w : World) (f m : Nat) (d : Disk) (L : List Slot) (h : FsAt w f m d L) (hs : d.steps < 4611686018427387904) (b b' : Nat) (hc : w.cell? ⟨b, 0, none⟩ = some (.pointer (some ⟨f, 0, none⟩))) (bv : Value) (bs : List UInt8) (hb : BRowIn (fun k => ¬ foot f m L k) w bv bs) (hc' : w.cell? ⟨b', 0, none⟩ = some bv) :
    Calls Tryz.prog 129 #[.pointer (some ⟨b, 0, none⟩), .pointer (some ⟨b', 0, none⟩)] w fun e w' => e = .returned (.int .i64 (doD d (opAppend tmpN bs)).2.2.2) ∧ FsPost w f m L (doD d (opAppend tmpN bs)).1 w' := by
  have HC := Lib.hid (append_any w f m d L h hs tmpN bs bv hb)
  clear h hb
  go_enter Tryz.func129, Tryz.ntmps129
  go_wp2_with fail
  refine HC.out.mono ?_
  rintro e w' ⟨rfl, hp⟩
  have HP := Lib.hid hp
  clear hp
  go_wp2
  go_ret
  exact ⟨rfl, HP.out⟩
theorem saveC3 (w : World) (f m : Nat) (d : Disk) (L : List Slot) (h : FsAt w f m d L) (hs : d.steps < 4611686018427387904) (b : Nat) (hc : w.cell? ⟨b, 0, none⟩ = some (.pointer (some ⟨f, 0, none⟩))) :
    Calls Tryz.prog 130 #[.pointer (some ⟨b, 0, none⟩)] w fun e w' => e = .returned (.int .i64 (doD d (opSync tmpN)).2.2.2) ∧ FsPost w f m L (doD d (opSync tmpN)).1 w' := by
  have HC := Lib.hid (sync_any w f m d L h hs tmpN)
  clear h
  go_enter Tryz.func130, Tryz.ntmps130
  go_wp2_with fail
  refine HC.out.mono ?_
  rintro e w' ⟨rfl, hp⟩
  have HP := Lib.hid hp
  clear hp
  go_wp2
  go_ret
  exact ⟨rfl, HP.out⟩
theorem saveC4 (w : World) (f m : Nat) (d : Disk) (L : List Slot) (h : FsAt w f m d L) (hs : d.steps < 4611686018427387904) (b : Nat) (hc : w.cell? ⟨b, 0, none⟩ = some (.pointer (some ⟨f, 0, none⟩))) :
    Calls Tryz.prog 131 #[.pointer (some ⟨b, 0, none⟩)] w fun e w' => e = .returned (.int .i64 (doD d (opRename tmpN manN)).2.2.2) ∧ FsPost w f m L (doD d (opRename tmpN manN)).1 w' := by
  have HC := Lib.hid (rename_any w f m d L h hs tmpN manN)
  clear h
  go_enter Tryz.func131, Tryz.ntmps131
  go_wp2_with fail
  refine HC.out.mono ?_
  rintro e w' ⟨rfl, hp⟩
  have HP := Lib.hid hp
  clear hp
  go_wp2
  go_ret
  exact ⟨rfl, HP.out⟩

/-- behind some calls: a cell that no disk's block holds stands as it stood -/
theorem FsPost.cell {w w' : World} {f m : Nat} {L : List Slot} {d' : Disk} (h : FsPost w f m L d' w') {p : Addr} {v : Value} (hc : w.cell? p = some v) (hn : ¬ foot f m L p.block) : w'.cell? p = some v := by
  obtain ⟨L', _, ht, _⟩ := h
  exact ht.cell hc hn
theorem FsPost.step {w w1 w2 : World} {f m : Nat} {L L1 : List Slot} {d2 : Disk} (ht : Turned (foot f m L) w w1) (hL : ∀ k, foot f m L1 k → foot f m L k ∨ w.heap.size ≤ k) (h : FsPost w1 f m L1 d2 w2) : FsPost w f m L d2 w2 := h.then ht hL
theorem runD_stop {d : Disk} {o : DOp} {r : List DOp} (h : (doD d o).2.2.2 ≠ 0) : runD d (o :: r) = ((doD d o).1, (doD d o).2.2.2) := by rw [runD, if_neg h]
theorem runD_go {d : Disk} {o : DOp} {r : List DOp} (h : (doD d o).2.2.2 = 0) : runD d (o :: r) = runD (doD d o).1 r := by rw [runD, if_pos h]

set_option maxRecDepth 100000 in
set_option maxHeartbeats 4000000 in
theorem save_any (w : World) (f m : Nat) (d : Disk) (L : List Slot) (h : FsAt w f m d L) (hs : d.steps + 4 < 4611686018427387904) (mn : Man) (sv : Value) (hr : SgRow w sv mn.segs) (hn : NibTab w) (hok : manOk mn = true) :
    Calls Tryz.prog 93 #[.pointer (some ⟨f, 0, none⟩), mnV mn sv] w (RunPost w f m L (runD d (saveOps mn))) := by
  have HH := Lib.hid h
  have HST := Lib.hid hs
  obtain ⟨oa, cap, rfl, hl1, hl2, hc⟩ := hr
  have HR := Lib.hid (show SgRow w (.slice oa mn.segs.length cap) mn.segs from ⟨oa, cap, rfl, hl1, hl2, hc⟩)
  have HB0 := Lib.hid (Below.next (below_alloc w (.cells #[.pointer (some ⟨f, 0, none⟩)] 24)) (below_alloc _ (.cells (mnCs mn (.slice oa mn.segs.length cap)) 31)))
  have hbx : (w.alloc (.cells #[.pointer (some ⟨f, 0, none⟩)] 24)).cell? ⟨w.heap.size, 0, none⟩ = some (.pointer (some ⟨f, 0, none⟩)) := by rw [World.cell?_alloc_new]; rfl
  have HX0 := Lib.hid (cell_later (below_alloc _ (.cells (mnCs mn (.slice oa mn.segs.length cap)) 31)) hbx)
  have HMB := Lib.hid (show MnBlk ((w.alloc (.cells #[.pointer (some ⟨f, 0, none⟩)] 24)).alloc (.cells (mnCs mn (.slice oa mn.segs.length cap)) 31)) (w.heap.size + 1) mn (.slice oa mn.segs.length cap) by
    have := mnBlk_alloc (w.alloc (.cells #[.pointer (some ⟨f, 0, none⟩)] 24)) mn (.slice oa mn.segs.length cap)
    rwa [show (w.alloc (.cells #[.pointer (some ⟨f, 0, none⟩)] 24)).heap.size = w.heap.size + 1 by simp] at this)
  simp only [mnCs] at HMB
  have HENC := Lib.hid (manEncode_any mn (.slice oa mn.segs.length cap) _ (HR.out.below HB0.out) (hn.below HB0.out))
  have HENE := Lib.hid (show (encMan mn).2 = 0 by rw [encMan_ok hok])
  have hmf : ∀ (fn : Fn) (first cap : Array Value) (w : World), (Instr.makeFunc fn first cap).run Tryz.prog w = .ok (.func fn first cap) w := fun _ _ _ _ => rfl
  have hfw := h.lt
  have HFW := Lib.hid hfw
  clear hc hn hok h hs hbx hfw
  obtain ⟨er, her⟩ : ∃ er, er = encMan mn := ⟨_, rfl⟩
  rw [← her] at HENC HENE
  have HER := Lib.hid her
  clear her
  go_enter Tryz.func93, Tryz.ntmps93
  go_wp2_with (with_reducible refine wpList_load_mn rfl (.tmp 3) rfl (w.heap.size + 1) mn (.slice oa mn.segs.length cap) rfl HMB.out ?_)
  refine HENC.out.mono ?_
  rintro e w1 ⟨v1, rfl, ho1, hb1⟩
  rw [HENE.out]
  obtain ⟨o1, cap1, rfl, _, _⟩ := own_shape ho1
  have HO1 := Lib.hid ho1
  have HB1 := Lib.hid (Below.next HB0.out hb1)
  have HX1 := Lib.hid (cell_later hb1 HX0.out)
  clear ho1 hb1 HENC HX0 HB0
  go_wp2
  have hb5 : (w1.alloc (.cells #[.slice o1 er.1.length cap1] 47)).cell? ⟨w1.heap.size, 0, none⟩ = some (.slice o1 er.1.length cap1) := by rw [World.cell?_alloc_new]; rfl
  have sz5 : (w1.alloc (.cells #[.slice o1 er.1.length cap1] 47)).heap.size = w1.heap.size + 1 := by simp
  have HBW := Lib.hid (Below.next (below_alloc w1 (.cells #[.slice o1 er.1.length cap1] 47)) (below_alloc _ (.cells #[.func (.func 128) #[] #[.pointer (some ⟨w.heap.size, 0, none⟩)], .func (.func 129) #[] #[.pointer (some ⟨w.heap.size, 0, none⟩), .pointer (some ⟨w1.heap.size, 0, none⟩)], .func (.func 130) #[] #[.pointer (some ⟨w.heap.size, 0, none⟩)], .func (.func 131) #[] #[.pointer (some ⟨w.heap.size, 0, none⟩)]] 210)))
  have HC2 := Lib.hid (cell_later HBW.out HX1.out)
  have HC5 := Lib.hid (cell_later (below_alloc _ (.cells #[.func (.func 128) #[] #[.pointer (some ⟨w.heap.size, 0, none⟩)], .func (.func 129) #[] #[.pointer (some ⟨w.heap.size, 0, none⟩), .pointer (some ⟨w1.heap.size, 0, none⟩)], .func (.func 130) #[] #[.pointer (some ⟨w.heap.size, 0, none⟩)], .func (.func 131) #[] #[.pointer (some ⟨w.heap.size, 0, none⟩)]] 210)) hb5)
  have HGC := Lib.hid (fun (j : Nat) (v : Value) (hj : (#[.func (.func 128) #[] #[.pointer (some ⟨w.heap.size, 0, none⟩)], .func (.func 129) #[] #[.pointer (some ⟨w.heap.size, 0, none⟩), .pointer (some ⟨w1.heap.size, 0, none⟩)], .func (.func 130) #[] #[.pointer (some ⟨w.heap.size, 0, none⟩)], .func (.func 131) #[] #[.pointer (some ⟨w.heap.size, 0, none⟩)]] : Array Value)[j]? = some v) => show ((w1.alloc (.cells #[.slice o1 er.1.length cap1] 47)).alloc (.cells #[.func (.func 128) #[] #[.pointer (some ⟨w.heap.size, 0, none⟩)], .func (.func 129) #[] #[.pointer (some ⟨w.heap.size, 0, none⟩), .pointer (some ⟨w1.heap.size, 0, none⟩)], .func (.func 130) #[] #[.pointer (some ⟨w.heap.size, 0, none⟩)], .func (.func 131) #[] #[.pointer (some ⟨w.heap.size, 0, none⟩)]] 210)).cell? ⟨w1.heap.size + 1, j, none⟩ = some v by
    have := World.cell?_alloc_new (w1.alloc (.cells #[.slice o1 er.1.length cap1] 47)) #[.func (.func 128) #[] #[.pointer (some ⟨w.heap.size, 0, none⟩)], .func (.func 129) #[] #[.pointer (some ⟨w.heap.size, 0, none⟩), .pointer (some ⟨w1.heap.size, 0, none⟩)], .func (.func 130) #[] #[.pointer (some ⟨w.heap.size, 0, none⟩)], .func (.func 131) #[] #[.pointer (some ⟨w.heap.size, 0, none⟩)]] 210 j
    rw [sz5] at this
    rw [this]; exact hj)
  have HBV := Lib.hid ((browIn_own (A := fun k => w.heap.size ≤ k) HO1.out (fun k hk => by simp at hk; omega)).below HBW.out)
  have HBW0 := Lib.hid (Below.next HB1.out HBW.out)
  have HLO := Lib.hid (show w.heap.size ≤ w1.heap.size from HB1.out.size)
  have HF4 := Lib.hid (HH.out.below HBW0.out)
  have hmf' := Lib.hid hmf
  clear hb5 sz5 hmf HO1 HB1 HX1 HBW
  have HNF := Lib.hid (fun k (hk : w.heap.size ≤ k) => show ¬ foot f m L k from fun hf => by have := HFW.out k hf; omega)
  generalize ((w1.alloc (.cells #[.slice o1 er.1.length cap1] 47)).alloc (.cells #[.func (.func 128) #[] #[.pointer (some ⟨w.heap.size, 0, none⟩)], .func (.func 129) #[] #[.pointer (some ⟨w.heap.size, 0, none⟩), .pointer (some ⟨w1.heap.size, 0, none⟩)], .func (.func 130) #[] #[.pointer (some ⟨w.heap.size, 0, none⟩)], .func (.func 131) #[] #[.pointer (some ⟨w.heap.size, 0, none⟩)]] 210)) = W4 at *
  have HQ := Lib.hid (fun (d' : Disk) (W : World) (hp : FsPost W4 f m L d' W) => show FsPost w f m L d' W from hp.then (Turned.below HBW0.out) (fun _ h => .inl h))
  have HCL := Lib.hid (fun (d' : Disk) (W : World) (hp : FsPost W4 f m L d' W) => show W.cell? ⟨w.heap.size, 0, none⟩ = some (.pointer (some ⟨f, 0, none⟩)) ∧ W.cell? ⟨w1.heap.size, 0, none⟩ = some (.slice o1 er.1.length cap1) ∧ ∀ (j : Nat) (v : Value), (#[.func (.func 128) #[] #[.pointer (some ⟨w.heap.size, 0, none⟩)], .func (.func 129) #[] #[.pointer (some ⟨w.heap.size, 0, none⟩), .pointer (some ⟨w1.heap.size, 0, none⟩)], .func (.func 130) #[] #[.pointer (some ⟨w.heap.size, 0, none⟩)], .func (.func 131) #[] #[.pointer (some ⟨w.heap.size, 0, none⟩)]] : Array Value)[j]? = some v → W.cell? ⟨w1.heap.size + 1, j, none⟩ = some v from
    ⟨hp.cell HC2.out (HNF.out _ (Nat.le_refl _)), hp.cell HC5.out (HNF.out _ HLO.out), fun j v hj => hp.cell (HGC.out j v hj) (HNF.out _ (Nat.le_trans HLO.out (Nat.le_succ _)))⟩)
  have HP0 := Lib.hid (FsPost.same HF4.out)
  have HS0 := Lib.hid (show d.steps ≤ d.steps + 0 by omega)
  obtain ⟨d0, hd0⟩ : ∃ x, x = d := ⟨_, rfl⟩
  have HRUN := Lib.hid (show runD d (saveOps mn) = runD d0 [opCreate tmpN, opAppend tmpN er.1, opSync tmpN, opRename tmpN manN] by rw [hd0, HER.out]; rfl)
  rw [← hd0] at HP0
  have HS := Lib.hid (show d0.steps < 4611686018427387904 by rw [hd0]; have := HST.out; omega)
  have HST' := Lib.hid (show d0.steps + 4 < 4611686018427387904 by rw [hd0]; exact HST.out)
  clear hd0 HST
  refine wp_loop_rounds 5 ?_
  rw [rounds_succ]
  have g0 := (HCL.out _ _ HP0.out).2.2 0 _ rfl
  obtain ⟨L0, hfs0, ht0, hsub0⟩ := HP0.out
  have HCJ := Lib.hid (saveC1 _ f m _ L0 hfs0 HS.out w.heap.size (HCL.out _ _ HP0.out).1)
  have HTJ := Lib.hid ht0
  have HSJ := Lib.hid hsub0
  clear hfs0 ht0 hsub0
  go_wp2_with fail
  refine HCJ.out.mono ?_
  rintro e W5 ⟨rfl, hp⟩
  have HPn := Lib.hid (hp.then HTJ.out HSJ.out)
  clear hp HCJ g0
  by_cases he0 : (doD d0 (opCreate tmpN)).2.2.2 = 0
  case neg =>
    have tn : ((doD d0 (opCreate tmpN)).2.2.2 != 0) = true := by simpa using he0
    have HE := Lib.hid (show runD d (saveOps mn) = ((doD d0 (opCreate tmpN)).1, (doD d0 (opCreate tmpN)).2.2.2) by rw [HRUN.out, runD_stop he0])
    have HF := Lib.hid (HQ.out _ _ HPn.out)
    clear he0
    generalize (doD d0 (opCreate tmpN)).2.2.2 = ev at *
    go_wp2
    go_ret
    unfold RunPost
    rw [HE.out]
    exact ⟨rfl, HF.out⟩
  have HRUN := Lib.hid (show runD d (saveOps mn) = runD (doD d0 (opCreate tmpN)).1 [opAppend tmpN er.1, opSync tmpN, opRename tmpN manN] by rw [HRUN.out, runD_go he0])
  have HS := Lib.hid (show (doD d0 (opCreate tmpN)).1.steps < 4611686018427387904 by have h1 := (doD_steps d0 (opCreate tmpN)).1; have := HST'.out; omega)
  rw [he0]
  clear he0
  have HSB := Lib.hid (show (doD d0 (opCreate tmpN)).1.steps ≤ 4611686018427387900 + 0 by have h1 := (doD_steps d0 (opCreate tmpN)).1; have := HST'.out; omega)
  obtain ⟨d1, hdn⟩ : ∃ x, x = (doD d0 (opCreate tmpN)).1 := ⟨_, rfl⟩
  rw [← hdn] at HPn HRUN HS HSB
  clear hdn HTJ HSJ
  have HP1 := HPn
  clear HPn
  go_wp2
  rw [rounds_succ]
  have g1 := (HCL.out _ _ HP1.out).2.2 1 _ rfl
  obtain ⟨L1, hfs1, ht1, hsub1⟩ := HP1.out
  have HBVj := Lib.hid (show BRowIn (fun k => ¬ foot f m L1 k) _ (.slice o1 er.1.length cap1) er.1 from (HBV.out.low.turned ht1 (fun k hk hf => HNF.out k hk.1 hf)).mono (fun k hk hf => by
    rcases hsub1 k hf with h1 | h1
    · exact HNF.out k hk.1 h1
    · have := hk.2; omega))
  have HCJ := Lib.hid (saveC2 _ f m _ L1 hfs1 HS.out w.heap.size w1.heap.size (HCL.out _ _ HP1.out).1 _ _ HBVj.out (HCL.out _ _ HP1.out).2.1)
  have HTJ := Lib.hid ht1
  have HSJ := Lib.hid hsub1
  clear hfs1 ht1 hsub1
  go_wp2_with fail
  refine HCJ.out.mono ?_
  rintro e W6 ⟨rfl, hp⟩
  have HPn := Lib.hid (hp.then HTJ.out HSJ.out)
  clear hp HCJ g1
  by_cases he1 : (doD d1 (opAppend tmpN er.1)).2.2.2 = 0
  case neg =>
    have tn : ((doD d1 (opAppend tmpN er.1)).2.2.2 != 0) = true := by simpa using he1
    have HE := Lib.hid (show runD d (saveOps mn) = ((doD d1 (opAppend tmpN er.1)).1, (doD d1 (opAppend tmpN er.1)).2.2.2) by rw [HRUN.out, runD_stop he1])
    have HF := Lib.hid (HQ.out _ _ HPn.out)
    clear he1
    generalize (doD d1 (opAppend tmpN er.1)).2.2.2 = ev at *
    go_wp2
    go_ret
    unfold RunPost
    rw [HE.out]
    exact ⟨rfl, HF.out⟩
  have HRUN := Lib.hid (show runD d (saveOps mn) = runD (doD d1 (opAppend tmpN er.1)).1 [opSync tmpN, opRename tmpN manN] by rw [HRUN.out, runD_go he1])
  have HS := Lib.hid (show (doD d1 (opAppend tmpN er.1)).1.steps < 4611686018427387904 by have h1 := (doD_steps d1 (opAppend tmpN er.1)).1; have := HSB.out; omega)
  rw [he1]
  clear he1
  have HSB := Lib.hid (show (doD d1 (opAppend tmpN er.1)).1.steps ≤ 4611686018427387900 + 1 by have h1 := (doD_steps d1 (opAppend tmpN er.1)).1; have := HSB.out; omega)
  obtain ⟨d2, hdn⟩ : ∃ x, x = (doD d1 (opAppend tmpN er.1)).1 := ⟨_, rfl⟩
  rw [← hdn] at HPn HRUN HS HSB
  clear hdn HTJ HSJ
  have HP2 := HPn
  clear HPn
  go_wp2
  rw [rounds_succ]
  have g2 := (HCL.out _ _ HP2.out).2.2 2 _ rfl
  obtain ⟨L2, hfs2, ht2, hsub2⟩ := HP2.out
  have HCJ := Lib.hid (saveC3 _ f m _ L2 hfs2 HS.out w.heap.size (HCL.out _ _ HP2.out).1)
  have HTJ := Lib.hid ht2
  have HSJ := Lib.hid hsub2
  clear hfs2 ht2 hsub2
  go_wp2_with fail
  refine HCJ.out.mono ?_
  rintro e W7 ⟨rfl, hp⟩
  have HPn := Lib.hid (hp.then HTJ.out HSJ.out)
  clear hp HCJ g2
  by_cases he2 : (doD d2 (opSync tmpN)).2.2.2 = 0
  case neg =>
    have tn : ((doD d2 (opSync tmpN)).2.2.2 != 0) = true := by simpa using he2
    have HE := Lib.hid (show runD d (saveOps mn) = ((doD d2 (opSync tmpN)).1, (doD d2 (opSync tmpN)).2.2.2) by rw [HRUN.out, runD_stop he2])
    have HF := Lib.hid (HQ.out _ _ HPn.out)
    clear he2
    generalize (doD d2 (opSync tmpN)).2.2.2 = ev at *
    go_wp2
    go_ret
    unfold RunPost
    rw [HE.out]
    exact ⟨rfl, HF.out⟩
  have HRUN := Lib.hid (show runD d (saveOps mn) = runD (doD d2 (opSync tmpN)).1 [opRename tmpN manN] by rw [HRUN.out, runD_go he2])
  have HS := Lib.hid (show (doD d2 (opSync tmpN)).1.steps < 4611686018427387904 by have h1 := (doD_steps d2 (opSync tmpN)).1; have := HSB.out; omega)
  rw [he2]
  clear he2
  have HSB := Lib.hid (show (doD d2 (opSync tmpN)).1.steps ≤ 4611686018427387900 + 2 by have h1 := (doD_steps d2 (opSync tmpN)).1; have := HSB.out; omega)
  obtain ⟨d3, hdn⟩ : ∃ x, x = (doD d2 (opSync tmpN)).1 := ⟨_, rfl⟩
  rw [← hdn] at HPn HRUN HS HSB
  clear hdn HTJ HSJ
  have HP3 := HPn
  clear HPn
  go_wp2
  rw [rounds_succ]
  have g3 := (HCL.out _ _ HP3.out).2.2 3 _ rfl
  obtain ⟨L3, hfs3, ht3, hsub3⟩ := HP3.out
  have HCJ := Lib.hid (saveC4 _ f m _ L3 hfs3 HS.out w.heap.size (HCL.out _ _ HP3.out).1)
  have HTJ := Lib.hid ht3
  have HSJ := Lib.hid hsub3
  clear hfs3 ht3 hsub3
  go_wp2_with fail
  refine HCJ.out.mono ?_
  rintro e W8 ⟨rfl, hp⟩
  have HPn := Lib.hid (hp.then HTJ.out HSJ.out)
  clear hp HCJ g3
  by_cases he3 : (doD d3 (opRename tmpN manN)).2.2.2 = 0
  case neg =>
    have tn : ((doD d3 (opRename tmpN manN)).2.2.2 != 0) = true := by simpa using he3
    have HE := Lib.hid (show runD d (saveOps mn) = ((doD d3 (opRename tmpN manN)).1, (doD d3 (opRename tmpN manN)).2.2.2) by rw [HRUN.out, runD_stop he3])
    have HF := Lib.hid (HQ.out _ _ HPn.out)
    clear he3
    generalize (doD d3 (opRename tmpN manN)).2.2.2 = ev at *
    go_wp2
    go_ret
    unfold RunPost
    rw [HE.out]
    exact ⟨rfl, HF.out⟩
  have HRUN := Lib.hid (show runD d (saveOps mn) = runD (doD d3 (opRename tmpN manN)).1 [] by rw [HRUN.out, runD_go he3])
  have HS := Lib.hid (show (doD d3 (opRename tmpN manN)).1.steps < 4611686018427387904 by have h1 := (doD_steps d3 (opRename tmpN manN)).1; have := HSB.out; omega)
  rw [he3]
  clear he3
  have HSB := Lib.hid (show (doD d3 (opRename tmpN manN)).1.steps ≤ 4611686018427387900 + 3 by have h1 := (doD_steps d3 (opRename tmpN manN)).1; have := HSB.out; omega)
  obtain ⟨d4, hdn⟩ : ∃ x, x = (doD d3 (opRename tmpN manN)).1 := ⟨_, rfl⟩
  rw [← hdn] at HPn HRUN HS HSB
  clear hdn HTJ HSJ
  have HP4 := HPn
  clear HPn
  go_wp2
  rw [rounds_succ]
  have HF := Lib.hid (HQ.out _ _ HP4.out)
  go_wp2
  go_ret
  unfold RunPost
  rw [HRUN.out]
  exact ⟨rfl, HF.out⟩

end Go.Proofs.YtlobohpbgghleaaGreatDoor

namespace Go.Proofs.YtlobohpbgghleaaGreatDoor
open Go.RowKit

/-! ## recovery.begin, walked -/

def SgIn (A : Nat → Prop) (w : World) (v : Value) (l : List Sg) : Prop :=
  ∃ oa cap, v = .slice oa l.length cap ∧ l.length ≤ cap ∧ cap ≤ 9223372036854775807 ∧ ∀ (i : Nat) g, l[i]? = some g → ∃ b off, oa = some ⟨b, off, none⟩ ∧ A b ∧ w.rangeAt b (off + i * 4) (sgCs g).toList
theorem SgIn.row {A : Nat → Prop} {w : World} {v : Value} {l : List Sg} (h : SgIn A w v l) : SgRow w v l := by
  obtain ⟨oa, cap, h1, h2, h3, h4⟩ := h
  exact ⟨oa, cap, h1, h2, h3, fun i g hg => by obtain ⟨b, off, e, _, hc⟩ := h4 i g hg; exact ⟨b, off, e, hc⟩⟩
theorem SgIn.turned {A S : Nat → Prop} {w w' : World} {v : Value} {l : List Sg} (h : SgIn A w v l) (ht : Turned S w w') (hS : ∀ k, A k → ¬ S k) : SgIn A w' v l := by
  obtain ⟨oa, cap, h1, h2, h3, h4⟩ := h
  exact ⟨oa, cap, h1, h2, h3, fun i g hg => by obtain ⟨b, off, e, ha, hc⟩ := h4 i g hg; exact ⟨b, off, e, ha, fun j u hj => ht.cell (hc j u hj) (hS b ha)⟩⟩
theorem SgIn.below {A : Nat → Prop} {w w' : World} {v : Value} {l : List Sg} (h : SgIn A w v l) (hb : Below w.heap.size w w') : SgIn A w' v l := by
  obtain ⟨oa, cap, h1, h2, h3, h4⟩ := h
  exact ⟨oa, cap, h1, h2, h3, fun i g hg => by obtain ⟨b, off, e, ha, hc⟩ := h4 i g hg; exact ⟨b, off, e, ha, range_later hc hb⟩⟩
theorem SgIn.mono {A A' : Nat → Prop} {w : World} {v : Value} {l : List Sg} (h : SgIn A w v l) (hA : ∀ k, A k → A' k) : SgIn A' w v l := by
  obtain ⟨oa, cap, h1, h2, h3, h4⟩ := h
  exact ⟨oa, cap, h1, h2, h3, fun i g hg => by obtain ⟨b, off, e, ha, hc⟩ := h4 i g hg; exact ⟨b, off, e, hA b ha, hc⟩⟩
theorem SgIn.low {A : Nat → Prop} {w : World} {v : Value} {l : List Sg} (h : SgIn A w v l) : SgIn (fun k => A k ∧ k < w.heap.size) w v l := by
  obtain ⟨oa, cap, h1, h2, h3, h4⟩ := h
  exact ⟨oa, cap, h1, h2, h3, fun i g hg => by obtain ⟨b, off, e, ha, hc⟩ := h4 i g hg; exact ⟨b, off, e, ⟨ha, World.block_lt_of_cell? w _ (hc 0 _ rfl)⟩, hc⟩⟩
theorem FsPost.block {w w' : World} {f m : Nat} {L : List Slot} {d' : Disk} (h : FsPost w f m L d' w') {k : Nat} (hk : k < w.heap.size) (hn : ¬ foot f m L k) : w'.heap[k]? = w.heap[k]? := by
  obtain ⟨L', _, ht, _⟩ := h
  exact ht.block k hk hn
theorem FsPost.size {w w' : World} {f m : Nat} {L : List Slot} {d' : Disk} (h : FsPost w f m L d' w') : w.heap.size ≤ w'.heap.size := by
  obtain ⟨L', _, ht, _⟩ := h
  exact ht.size
theorem NibTab.lt {w : World} (h : NibTab w) : 0 < w.heap.size := World.block_lt_of_cell? w _ (h.at 0 (by decide))
/-- behind some calls the rest runs on -/
theorem FsPost.nib {w w' : World} {f m : Nat} {L : List Slot} {d' : Disk} (h : FsPost w f m L d' w') (hn : NibTab w) (hg : ¬ foot f m L 0) : NibTab w' := by
  obtain ⟨L', _, ht, _⟩ := h
  exact hn.turned ht hg hn.lt
def SgBlk (w : World) (b : Nat) (g : Sg) : Prop := w.heap[b]? = some (.cells (sgCs g) 46 (0, 0))
theorem SgBlk.range {w : World} {b : Nat} {g : Sg} (h : SgBlk w b g) : w.rangeAt b 0 (sgCs g).toList := fun j u hj => by
  unfold SgBlk at h
  simp only [World.cell?, h, Nat.zero_add]
  simpa using hj
theorem SgBlk.c0 {w : World} {b : Nat} {g : Sg} (h : SgBlk w b g) : w.cell? ⟨b, 0, none⟩ = some (.int .i64 g.num) := h.range 0 _ rfl

set_option maxRecDepth 100000 in
set_option maxHeartbeats 4000000 in
theorem begin_any (w : World) (f m : Nat) (d : Disk) (L : List Slot) (h : FsAt w f m d L) (hs : d.steps + 8 < 4611686018427387904) (n : List UInt8) (g : Sg) (mn : Man) (sv : Value) (hr : SgIn (fun k => ¬ foot f m L k) w sv mn.segs) (hn : NibTab w) (hg : ¬ foot f m L 0) (hok : manOk mn = true) :
    Calls Tryz.prog 60 #[.pointer (some ⟨f, 0, none⟩), .string ⟨n.toArray⟩, sgV g, mnV mn sv] w (RunPost w f m L (runD d (beginOps n g mn))) := by
  have HH := Lib.hid h
  have HST := Lib.hid hs
  have HOK := Lib.hid hok
  have HNG := Lib.hid hg
  have HRI := Lib.hid hr
  have HNB := Lib.hid hn
  have hfw := h.lt
  have HFW := Lib.hid hfw
  obtain ⟨oa, cap, rfl, hl1, hl2, hc⟩ := hr
  have HB0 := Lib.hid (Below.next (below_alloc w (.cells (sgCs g) 46)) (below_alloc _ (.cells (mnCs mn (.slice oa mn.segs.length cap)) 31)))
  have HMB := Lib.hid (show MnBlk ((w.alloc (.cells (sgCs g) 46)).alloc (.cells (mnCs mn (.slice oa mn.segs.length cap)) 31)) (w.heap.size + 1) mn (.slice oa mn.segs.length cap) by
    have := mnBlk_alloc (w.alloc (.cells (sgCs g) 46)) mn (.slice oa mn.segs.length cap)
    rwa [show (w.alloc (.cells (sgCs g) 46)).heap.size = w.heap.size + 1 by simp] at this)
  have HHD := Lib.hid (header_any g.num g.first _ (hn.below HB0.out))
  clear hc hn hok h hs hg hfw
  obtain ⟨er, her⟩ : ∃ er, er = hdrEnc g.num g.first := ⟨_, rfl⟩
  rw [← her] at HHD
  have HER := Lib.hid her
  clear her
  go_enter Tryz.func60, Tryz.ntmps60
  go_wp2_with fail
  refine HHD.out.mono ?_
  rintro e w1 ⟨v1, rfl, ho1, hb1⟩
  obtain ⟨o1, cap1, rfl, _, _⟩ := own_shape ho1
  have HBW0 := Lib.hid (Below.next HB0.out hb1)
  have HF4 := Lib.hid (HH.out.below HBW0.out)
  have HM1 := Lib.hid (HMB.out.below hb1)
  have HBV := Lib.hid (browIn_own (A := fun k => w.heap.size ≤ k) ho1 (fun k hk => by simp at hk; omega))
  have HNB1 := Lib.hid (HNB.out.below HBW0.out)
  have HRI1 := Lib.hid (HRI.out.below HBW0.out)
  clear ho1 hb1 HB0 HMB HHD HNB HRI
  have HNF := Lib.hid (fun k (hk : w.heap.size ≤ k) => show ¬ foot f m L k from fun hf => by have := HFW.out k hf; omega)
  have HQ := Lib.hid (fun (d' : Disk) (W : World) (hp : FsPost w1 f m L d' W) => show FsPost w f m L d' W from hp.then (Turned.below HBW0.out) (fun _ h => .inl h))
  have HP0 := Lib.hid (FsPost.same HF4.out)
  obtain ⟨d0, hd0⟩ : ∃ x, x = d := ⟨_, rfl⟩
  have HRUN := Lib.hid (show runD d (beginOps n g mn) = runD d0 ([opCreate n, opAppend n er.1, opSync n] ++ saveOps mn) by rw [hd0, HER.out]; rfl)
  rw [← hd0] at HP0
  have HS := Lib.hid (show d0.steps < 4611686018427387904 by rw [hd0]; have := HST.out; omega)
  have HSB := Lib.hid (show d0.steps ≤ 4611686018427387895 by rw [hd0]; have := HST.out; omega)
  simp only [List.cons_append, List.nil_append] at HRUN
  clear hd0 HST
  obtain ⟨L0, hfs0, ht0, hsub0⟩ := HP0.out
  have HCJ := Lib.hid (create_any _ f m _ L0 hfs0 HS.out n)
  have HTJ := Lib.hid ht0
  have HSJ := Lib.hid hsub0
  clear hfs0 ht0 hsub0
  go_wp2_with fail
  refine HCJ.out.mono ?_
  rintro e W5 ⟨rfl, hp⟩
  have HPn := Lib.hid (hp.then HTJ.out HSJ.out)
  clear hp HCJ
  by_cases he0 : (doD d0 (opCreate n)).2.2.2 = 0
  case neg =>
    have tn : ((doD d0 (opCreate n)).2.2.2 != 0) = true := by simpa using he0
    have HE := Lib.hid (show runD d (beginOps n g mn) = ((doD d0 (opCreate n)).1, (doD d0 (opCreate n)).2.2.2) by rw [HRUN.out, runD_stop he0])
    have HF := Lib.hid (HQ.out _ _ HPn.out)
    clear he0
    generalize (doD d0 (opCreate n)).2.2.2 = ev at *
    go_wp2
    go_ret
    unfold RunPost
    rw [HE.out]
    exact ⟨rfl, HF.out⟩
  have HRUN := Lib.hid (show runD d (beginOps n g mn) = runD (doD d0 (opCreate n)).1 (opAppend n er.1 :: opSync n :: saveOps mn) by rw [HRUN.out, runD_go he0])
  have HS := Lib.hid (show (doD d0 (opCreate n)).1.steps < 4611686018427387904 by have h1 := (doD_steps d0 (opCreate n)).1; have := HSB.out; omega)
  have HSB := Lib.hid (show (doD d0 (opCreate n)).1.steps ≤ 4611686018427387895 + 1 by have h1 := (doD_steps d0 (opCreate n)).1; have := HSB.out; omega)
  rw [he0]
  clear he0
  obtain ⟨d1, hdn⟩ : ∃ x, x = (doD d0 (opCreate n)).1 := ⟨_, rfl⟩
  rw [← hdn] at HPn HRUN HS HSB
  clear hdn HTJ HSJ
  have HP1 := HPn
  clear HPn
  obtain ⟨L1, hfs1, ht1, hsub1⟩ := HP1.out
  have HBVj := Lib.hid (show BRowIn (fun k => ¬ foot f m L1 k) _ (.slice o1 er.1.length cap1) er.1 from (HBV.out.low.turned ht1 (fun k hk hf => HNF.out k hk.1 hf)).mono (fun k hk hf => by
    rcases hsub1 k hf with h1 | h1
    · exact HNF.out k hk.1 h1
    · have := hk.2; omega))
  have HCJ := Lib.hid (append_any _ f m _ L1 hfs1 HS.out n er.1 (.slice o1 er.1.length cap1) HBVj.out)
  have HTJ := Lib.hid ht1
  have HSJ := Lib.hid hsub1
  clear hfs1 ht1 hsub1
  go_wp2_with fail
  refine HCJ.out.mono ?_
  rintro e W6 ⟨rfl, hp⟩
  have HPn := Lib.hid (hp.then HTJ.out HSJ.out)
  clear hp HCJ
  by_cases he1 : (doD d1 (opAppend n er.1)).2.2.2 = 0
  case neg =>
    have tn : ((doD d1 (opAppend n er.1)).2.2.2 != 0) = true := by simpa using he1
    have HE := Lib.hid (show runD d (beginOps n g mn) = ((doD d1 (opAppend n er.1)).1, (doD d1 (opAppend n er.1)).2.2.2) by rw [HRUN.out, runD_stop he1])
    have HF := Lib.hid (HQ.out _ _ HPn.out)
    clear he1
    generalize (doD d1 (opAppend n er.1)).2.2.2 = ev at *
    go_wp2
    go_ret
    unfold RunPost
    rw [HE.out]
    exact ⟨rfl, HF.out⟩
  have HRUN := Lib.hid (show runD d (beginOps n g mn) = runD (doD d1 (opAppend n er.1)).1 (opSync n :: saveOps mn) by rw [HRUN.out, runD_go he1])
  have HS := Lib.hid (show (doD d1 (opAppend n er.1)).1.steps < 4611686018427387904 by have h1 := (doD_steps d1 (opAppend n er.1)).1; have := HSB.out; omega)
  have HSB := Lib.hid (show (doD d1 (opAppend n er.1)).1.steps ≤ 4611686018427387895 + 2 by have h1 := (doD_steps d1 (opAppend n er.1)).1; have := HSB.out; omega)
  rw [he1]
  clear he1
  obtain ⟨d2, hdn⟩ : ∃ x, x = (doD d1 (opAppend n er.1)).1 := ⟨_, rfl⟩
  rw [← hdn] at HPn HRUN HS HSB
  clear hdn HTJ HSJ
  have HP2 := HPn
  clear HPn
  obtain ⟨L2, hfs2, ht2, hsub2⟩ := HP2.out
  have HCJ := Lib.hid (sync_any _ f m _ L2 hfs2 HS.out n)
  have HTJ := Lib.hid ht2
  have HSJ := Lib.hid hsub2
  clear hfs2 ht2 hsub2
  go_wp2_with fail
  refine HCJ.out.mono ?_
  rintro e W7 ⟨rfl, hp⟩
  have HPn := Lib.hid (hp.then HTJ.out HSJ.out)
  clear hp HCJ
  by_cases he2 : (doD d2 (opSync n)).2.2.2 = 0
  case neg =>
    have tn : ((doD d2 (opSync n)).2.2.2 != 0) = true := by simpa using he2
    have HE := Lib.hid (show runD d (beginOps n g mn) = ((doD d2 (opSync n)).1, (doD d2 (opSync n)).2.2.2) by rw [HRUN.out, runD_stop he2])
    have HF := Lib.hid (HQ.out _ _ HPn.out)
    clear he2
    generalize (doD d2 (opSync n)).2.2.2 = ev at *
    go_wp2
    go_ret
    unfold RunPost
    rw [HE.out]
    exact ⟨rfl, HF.out⟩
  have HRUN := Lib.hid (show runD d (beginOps n g mn) = runD (doD d2 (opSync n)).1 (saveOps mn) by rw [HRUN.out, runD_go he2])
  have HS := Lib.hid (show (doD d2 (opSync n)).1.steps < 4611686018427387904 by have h1 := (doD_steps d2 (opSync n)).1; have := HSB.out; omega)
  have HSB := Lib.hid (show (doD d2 (opSync n)).1.steps ≤ 4611686018427387895 + 3 by have h1 := (doD_steps d2 (opSync n)).1; have := HSB.out; omega)
  rw [he2]
  clear he2
  obtain ⟨d3, hdn⟩ : ∃ x, x = (doD d2 (opSync n)).1 := ⟨_, rfl⟩
  rw [← hdn] at HPn HRUN HS HSB
  clear hdn HTJ HSJ
  have HP3 := HPn
  clear HPn
  have HM3 := Lib.hid (show MnBlk W7 (w.heap.size + 1) mn (.slice oa mn.segs.length cap) by
    unfold MnBlk
    rw [HP3.out.block HM1.out.lt (HNF.out _ (Nat.le_succ _))]
    exact HM1.out)
  obtain ⟨L3, hfs3, ht3, hsub3⟩ := HP3.out
  have HSV := Lib.hid (save_any _ f m _ L3 hfs3 (by have := HSB.out; omega) mn (.slice oa mn.segs.length cap) (HRI1.out.turned ht3 (fun k hk hf => hk hf)).row (HP3.out.nib HNB1.out HNG.out) HOK.out)
  have HTJ := Lib.hid ht3
  have HSJ := Lib.hid hsub3
  clear hfs3 ht3 hsub3
  go_wp2_with (with_reducible refine wpList_load_mn rfl (.tmp 7) rfl (w.heap.size + 1) mn (.slice oa mn.segs.length cap) rfl HM3.out ?_)
  refine HSV.out.mono ?_
  rintro e W9 ⟨rfl, hp⟩
  have HF := Lib.hid (HQ.out _ _ (hp.then HTJ.out HSJ.out))
  clear hp
  rw [← HRUN.out]
  rw [← HRUN.out] at HF
  generalize runD d (beginOps n g mn) = rr at *
  go_wp2
  go_ret
  exact ⟨rfl, HF.out⟩

end Go.Proofs.YtlobohpbgghleaaGreatDoor

namespace Go.Proofs.YtlobohpbgghleaaGreatDoor
open Go.RowKit

/-! ## recovery.Apply, walked -/

def StIn (A : Nat → Prop) (w : World) (v : Value) (l : List (List UInt8)) : Prop :=
  ∃ oa cap, v = .slice oa l.length cap ∧ l.length ≤ cap ∧ cap ≤ 9223372036854775807 ∧ ∀ (i : Nat) x, l[i]? = some x → ∃ b off, oa = some ⟨b, off, none⟩ ∧ A b ∧ w.cell? ⟨b, off + i, none⟩ = some (.string ⟨x.toArray⟩)
theorem StIn.row {A : Nat → Prop} {w : World} {v : Value} {l : List (List UInt8)} (h : StIn A w v l) : StRow w v l := by
  obtain ⟨oa, cap, h1, h2, h3, h4⟩ := h
  exact ⟨oa, cap, h1, h2, h3, fun i g hg => by obtain ⟨b, off, e, _, hc⟩ := h4 i g hg; exact ⟨b, off, e, hc⟩⟩
theorem StIn.below {A : Nat → Prop} {w w' : World} {v : Value} {l : List (List UInt8)} (h : StIn A w v l) (hb : Below w.heap.size w w') : StIn A w' v l := by
  obtain ⟨oa, cap, h1, h2, h3, h4⟩ := h
  exact ⟨oa, cap, h1, h2, h3, fun i g hg => by obtain ⟨b, off, e, ha, hc⟩ := h4 i g hg; exact ⟨b, off, e, ha, cell_later hb hc⟩⟩
theorem StIn.mono {A A' : Nat → Prop} {w : World} {v : Value} {l : List (List UInt8)} (h : StIn A w v l) (hA : ∀ k, A k → A' k) : StIn A' w v l := by
  obtain ⟨oa, cap, h1, h2, h3, h4⟩ := h
  exact ⟨oa, cap, h1, h2, h3, fun i g hg => by obtain ⟨b, off, e, ha, hc⟩ := h4 i g hg; exact ⟨b, off, e, hA b ha, hc⟩⟩
def PlBlk (w : World) (b : Nat) (p : Pl) (sv rv : Value) : Prop := w.heap[b]? = some (.cells (plCs p sv rv) 34 (0, 0))
theorem PlBlk.lt {w : World} {b : Nat} {p : Pl} {sv rv : Value} (h : PlBlk w b p sv rv) : b < w.heap.size := (Array.getElem?_eq_some_iff.1 h).1
theorem PlBlk.cell {w : World} {b : Nat} {p : Pl} {sv rv : Value} (h : PlBlk w b p sv rv) (j : Nat) : w.cell? ⟨b, j, none⟩ = (plCs p sv rv)[j]? := by unfold PlBlk at h; simp [World.cell?, h]
theorem PlBlk.kept {w w' : World} {b : Nat} {p : Pl} {sv rv : Value} (h : PlBlk w b p sv rv) (hk : w'.heap[b]? = w.heap[b]?) : PlBlk w' b p sv rv := by unfold PlBlk at *; rw [hk]; exact h
theorem PlBlk.below {w w' : World} {b : Nat} {p : Pl} {sv rv : Value} (h : PlBlk w b p sv rv) (hb : Below w.heap.size w w') : PlBlk w' b p sv rv := h.kept (hb.block b h.lt)
theorem PlBlk.c0 {w : World} {b : Nat} {p : Pl} {sv rv : Value} (h : PlBlk w b p sv rv) : w.cell? ⟨b, 0, none⟩ = some (.bool p.fresh) := h.cell 0
theorem PlBlk.c6 {w : World} {b : Nat} {p : Pl} {sv rv : Value} (h : PlBlk w b p sv rv) : w.cell? ⟨b, 6, none⟩ = some sv := h.cell 6
theorem PlBlk.c7 {w : World} {b : Nat} {p : Pl} {sv rv : Value} (h : PlBlk w b p sv rv) : w.cell? ⟨b, 7, none⟩ = some rv := h.cell 7
theorem PlBlk.c8 {w : World} {b : Nat} {p : Pl} {sv rv : Value} (h : PlBlk w b p sv rv) : w.cell? ⟨b, 8, none⟩ = some (.int .i64 p.cut) := h.cell 8
theorem PlBlk.man {w : World} {b : Nat} {p : Pl} {sv rv : Value} (h : PlBlk w b p sv rv) : w.rangeAt b 1 (mnCs p.man sv).toList := fun j u hj => by
  rw [show (⟨b, 1 + j, none⟩ : Addr) = ⟨b, j + 1, none⟩ by rw [Nat.add_comm], h.cell]
  have hl : j < 6 := by have := (List.getElem?_eq_some_iff.1 hj).1; simpa [mnCs] using this
  rcases (show j = 0 ∨ j = 1 ∨ j = 2 ∨ j = 3 ∨ j = 4 ∨ j = 5 by omega) with rfl | rfl | rfl | rfl | rfl | rfl <;> simpa [mnCs, plCs] using hj
theorem plBlk_alloc (w : World) (p : Pl) (sv rv : Value) : PlBlk (w.alloc (.cells (plCs p sv rv) 34)) w.heap.size p sv rv := heap_alloc_new w _
theorem wpList_load_mnAt {ops : Array Oper} {rest : List Oper} {o : Oper} {a : Act} {w : World} {Q : Exit → Act → World → Prop} (hgd : o.guard = none) (x : Operand) (ho : o.op = .load 31 x)
    (b off : Nat) (m : Man) (sv : Value) (hx : a.eval x = .pointer (some ⟨b, off, none⟩)) (hE : w.rangeAt b off (mnCs m sv).toList)
    (h : wpList Tryz.prog ops Q rest (a.put o.dst (mnV m sv)) w) : wpList Tryz.prog ops Q (o :: rest) a w :=
  wpList_load_mid hgd 31 x ho b off hx (mnCs m sv).toList _ hE Tryz.underlying31 rfl mnInfo h
theorem FsPost.after {w w' w'' : World} {f m : Nat} {L : List Slot} {d' : Disk} (h : FsPost w f m L d' w') (hb : Below w'.heap.size w' w'') : FsPost w f m L d' w'' := by
  obtain ⟨L', h1, h2, h3⟩ := h
  exact ⟨L', h1.below hb, h2.trans (Turned.below hb) (fun _ h => .inl h), h3⟩
theorem runD_one (d : Disk) (o : DOp) : runD d [o] = ((doD d o).1, (doD d o).2.2.2) := by
  by_cases h : (doD d o).2.2.2 = 0
  · rw [runD_go h, runD, h]
  · rw [runD_stop h]
theorem drop_map_cons {l : List (List UInt8)} {k : Nat} {x : List UInt8} (h : l[k]? = some x) : (l.drop k).map opRemove = opRemove x :: (l.drop (k + 1)).map opRemove := by
  rw [dropF_cons h, List.map_cons]

set_option maxRecDepth 100000 in
set_option maxHeartbeats 2000000 in
/-- a plan whose manifest is none -/
theorem recApply_bad (w : World) (f m : Nat) (d : Disk) (L : List Slot) (h : FsAt w f m d L) (p : Pl) (sv rv : Value) (hs : SgRow w sv p.man.segs) (hok : manOk p.man = false) :
    Calls Tryz.prog 26 #[.pointer (some ⟨f, 0, none⟩), plV p sv rv] w (RunPost w f m L (applyD d p)) := by
  have HE := Lib.hid (show applyD d p = (d, 1) by unfold applyD; rw [hok]; rfl)
  have HV := Lib.hid (manValid_any p.man sv _ (hs.below (below_alloc w (.cells (plCs p sv rv) 34))))
  rw [hok] at HV
  have HF := Lib.hid (h.below (below_alloc w (.cells (plCs p sv rv) 34)))
  have HB := Lib.hid (below_alloc w (.cells (plCs p sv rv) 34))
  clear h hs hok
  go_enter Tryz.func26, Tryz.ntmps26
  go_wp2_with fail
  go_at_call 57
  refine HV.out.mono ?_
  rintro e w1 ⟨rfl, hb1⟩
  have HP := Lib.hid (show FsPost w f m L d w1 from ⟨L, HF.out.below hb1, Turned.below (Below.next HB.out hb1), fun _ h => .inl h⟩)
  clear hb1
  go_wp2
  go_ret
  unfold RunPost
  rw [HE.out]
  exact ⟨rfl, HP.out⟩
set_option maxRecDepth 100000 in
theorem recApply_nil (w : World) (p : Pl) (sv rv : Value) :
    Calls Tryz.prog 26 #[.pointer none, plV p sv rv] w fun e w' => e = .returned (.int .i64 1) ∧ Below w.heap.size w w' := by
  have HB := Lib.hid (below_alloc w (.cells (plCs p sv rv) 34))
  go_enter Tryz.func26, Tryz.ntmps26
  go_wp2
  go_ret
  exact ⟨rfl, HB.out⟩

set_option maxRecDepth 100000 in
set_option maxHeartbeats 8000000 in
theorem recApply_good (w : World) (f m : Nat) (d : Disk) (L : List Slot) (h : FsAt w f m d L) (p : Pl) (sv rv : Value) (hs : SgIn (fun k => ¬ foot f m L k) w sv p.man.segs) (hr : StIn (fun k => ¬ foot f m L k) w rv p.remove)
    (hn : NibTab w) (hg : ¬ foot f m L 0) (hst : d.steps + p.remove.length + 16 < 4611686018427387904) (hok : manOk p.man = true) :
    Calls Tryz.prog 26 #[.pointer (some ⟨f, 0, none⟩), plV p sv rv] w (RunPost w f m L (applyD d p)) := by
  have HH := Lib.hid h
  have HST := Lib.hid hst
  have HOK := Lib.hid hok
  have HNG := Lib.hid hg
  have HNB := Lib.hid hn
  have HFW := Lib.hid h.lt
  have HSI := Lib.hid hs
  obtain ⟨ob, bcap, rfl, hl1, hl2, hcs⟩ := hs
  obtain ⟨oa, cap, rfl, hl3, hl4, hcr⟩ := hr
  have HCR := Lib.hid hcr
  have HAP := Lib.hid (show applyD d p = runD d (refOps d p) by unfold applyD; rw [hok]; rfl)
  have HV := Lib.hid (manValid_any p.man (.slice ob p.man.segs.length bcap) _ (HSI.out.row.below (below_alloc w (.cells (plCs p (.slice ob p.man.segs.length bcap) (.slice oa p.remove.length cap)) 34))))
  rw [hok] at HV
  have HB0 := Lib.hid (below_alloc w (.cells (plCs p (.slice ob p.man.segs.length bcap) (.slice oa p.remove.length cap)) 34))
  have HPB := Lib.hid (plBlk_alloc w p (.slice ob p.man.segs.length bcap) (.slice oa p.remove.length cap))
  have hlast : ∃ (j : Nat) (g : Sg), p.man.segs.length = j + 1 ∧ p.man.segs[j]? = some g ∧ lastSg p.man = g := by
    obtain ⟨g, h1, _, _, _, _⟩ := chain_last _ _ _ _ (manFine hok).chain
    rcases hx : p.man.segs.length with _ | j
    · rw [List.length_eq_zero_iff.1 hx] at h1; cases h1
    · refine ⟨j, g, rfl, ?_, ?_⟩
      · rw [List.getLast?_eq_getElem?, hx] at h1; simpa using h1
      · unfold lastSg; rw [h1]; rfl
  clear h hst hok hg hn hcs hcr
  go_enter Tryz.func26, Tryz.ntmps26
  go_wp2_with fail
  go_at_call 57
  refine HV.out.mono ?_
  rintro e w1 ⟨rfl, hb1⟩
  have HBW := Lib.hid (Below.next HB0.out hb1)
  have HP1 := Lib.hid (HPB.out.below hb1)
  have HF1 := Lib.hid (HH.out.below HBW.out)
  have HSI1 := Lib.hid (HSI.out.below HBW.out)
  have HNB1 := Lib.hid (HNB.out.below HBW.out)
  have HNF := Lib.hid (fun k (hk : w.heap.size ≤ k) => show ¬ foot f m L k from fun hf => by have := HFW.out k hf; omega)
  have HQ := Lib.hid (fun (d' : Disk) (W : World) (hp : FsPost w1 f m L d' W) => show FsPost w f m L d' W from hp.then (Turned.below HBW.out) (fun _ h => .inl h))
  have r7 := HP1.out.c7
  clear hb1 HV HB0 HPB HSI HNB
  go_wp2
  go_loopw [6, 7, 24] (fun _ _ iv wr => ∃ (k : Nat) (dk : Disk), k ≤ p.remove.length ∧ iv = .int .i64 k ∧ Hid (FsPost w1 f m L dk wr) ∧ Hid (runD d (remOps p) = runD dk ((p.remove.drop k).map opRemove)) ∧ Hid (dk.steps ≤ d.steps + k)) (fun _ _ iv _ => p.remove.length - (intOf iv).toNat)
  case atStart => exact ⟨0, d, Nat.zero_le _, rfl, Lib.hid (FsPost.same HF1.out), Lib.hid rfl, Lib.hid (by omega)⟩
  case round =>
    clear r7
    obtain ⟨k, dk, hk, rfl, HP, HRM, HSK⟩ := hrel
    by_cases hlt : k < p.remove.length
    · obtain ⟨x, hx, _, _⟩ := nth p.remove k hlt
      have q1 : (k : Int) < (p.remove.length : Int) := by omega
      obtain ⟨b, off, rfl, hnb, hcx⟩ := HCR.out k x hx
      have cn : wr.cell? ⟨b, off + k, none⟩ = some (.string ⟨x.toArray⟩) := HP.out.cell (cell_later HBW.out hcx) hnb
      obtain ⟨Lk, hfk, htk, hsk⟩ := HP.out
      have HRV := Lib.hid (remove_any wr f m dk Lk hfk (by have := HSK.out; have := HST.out; omega) x)
      have HTJ := Lib.hid htk
      have HSJ := Lib.hid hsk
      have HDC := Lib.hid (drop_map_cons hx)
      clear hx hnb hcx hfk htk hsk
      go_wp2_with fail
      refine HRV.out.mono ?_
      rintro e w3 ⟨rfl, hp⟩
      have HPn := Lib.hid (hp.then HTJ.out HSJ.out)
      clear hp HRV HTJ HSJ cn
      by_cases he : (doD dk (opRemove x)).2.2.2 = 0
      · have HRM := Lib.hid (show runD d (remOps p) = runD (doD dk (opRemove x)).1 ((p.remove.drop (k + 1)).map opRemove) by rw [HRM.out, HDC.out, runD_go he])
        have HSK := Lib.hid (show (doD dk (opRemove x)).1.steps ≤ d.steps + (k + 1 : Nat) by have := (doD_steps dk (opRemove x)).1; have := HSK.out; omega)
        rw [he]
        clear he
        go_wp2
        go_roundw
        case rel => exact ⟨k + 1, _, by omega, by go_num, HPn, HRM, HSK⟩
        case measure => simp [intOf]; omega
      · have tn : ((doD dk (opRemove x)).2.2.2 != 0) = true := by simpa using he
        have HE := Lib.hid (show applyD d p = ((doD dk (opRemove x)).1, (doD dk (opRemove x)).2.2.2) by
          have h1 : runD d (remOps p) = ((doD dk (opRemove x)).1, (doD dk (opRemove x)).2.2.2) := by rw [HRM.out, HDC.out, runD_stop he]
          rw [HAP.out, refOps_run, if_neg (by rw [h1]; exact he), h1])
        have HF := Lib.hid (HQ.out _ _ HPn.out)
        clear he
        generalize (doD dk (opRemove x)).2.2.2 = ev at *
        go_wp2
        go_ret
        unfold RunPost
        rw [HE.out]
        exact ⟨rfl, HF.out⟩
    · obtain rfl : k = p.remove.length := by omega
      have HRUN0 := Lib.hid (show applyD d p = runD dk (tailOps dk p) by
        have h1 : runD d (remOps p) = (dk, 0) := by rw [HRM.out, List.drop_of_length_le (Nat.le_refl _)]; rfl
        rw [HAP.out, refOps_run, h1]; rfl)
      have HSD := Lib.hid (show dk.steps + 16 < 4611686018427387904 by have := HSK.out; have := HST.out; omega)
      clear HRM HSK
      obtain ⟨j, g, hjl, hjg, hlg⟩ := hlast
      have HLG := Lib.hid hlg
      have HPB := Lib.hid (HP1.out.kept (HP.out.block HP1.out.lt (HNF.out _ (Nat.le_refl _))))
      have hw1 : IntKind.i64.wrap ((p.man.segs.length : Int) - 1) = (j : Int) := by rw [IntKind.wrap_i64]; omega
      have q1 : (j : Int) < (p.man.segs.length : Int) := by omega
      obtain ⟨oa', cap', e1, _, _, hcs⟩ := HSI1.out
      simp only [Value.slice.injEq] at e1
      obtain ⟨rfl, _, rfl⟩ := e1
      obtain ⟨b, off, rfl, hnb, hrg⟩ := hcs j g hjg
      have HRG := Lib.hid (show wr.rangeAt b (off + j * 4) (sgCs g).toList from fun i u hi => HP.out.cell (hrg i u hi) hnb)
      have r6 := HPB.out.c6
      clear hjg hlg hcs hnb hrg hjl
      go_wp2_with (with_reducible refine wpList_load_sg rfl (.tmp 43) rfl b (off + j * 4) g rfl HRG.out ?_)
      have HB5 := Lib.hid (below_alloc wr (.cells (sgCs g) 46))
      have HS5 := Lib.hid (show SgBlk (wr.alloc (.cells (sgCs g) 46)) wr.heap.size g from heap_alloc_new wr _)
      refine (Segment_any g.num _).mono ?_
      rintro e w5 ⟨rfl, hb5⟩
      have HP5 := Lib.hid ((HP.out.after HB5.out).after hb5)
      have HPB5 := Lib.hid ((HPB.out.below HB5.out).below hb5)
      have HSB5 := Lib.hid (show SgBlk w5 wr.heap.size g by unfold SgBlk; rw [hb5.block _ (Array.getElem?_eq_some_iff.1 HS5.out).1]; exact HS5.out)
      have r0 := HPB5.out.c0
      have HSN := Lib.hid (show segN p.man = segName g.num by unfold segN; rw [HLG.out])
      obtain ⟨n, hnn⟩ : ∃ n, n = segName g.num := ⟨_, rfl⟩
      have HNN := Lib.hid hnn
      rw [← hnn]
      clear hb5 r6 hw1 HB5 HS5 HP hnn
      obtain ⟨L5, hf5, ht5, hs5⟩ := HP5.out
      have HF5 := Lib.hid hf5
      have HT5 := Lib.hid ht5
      have HS5 := Lib.hid hs5
      have HQ5 := Lib.hid (fun (d' : Disk) (W : World) (hp : FsPost w5 f m L5 d' W) => show FsPost w f m L d' W from HQ.out _ _ (hp.then HT5.out HS5.out))
      have HNG5 := Lib.hid (show ¬ foot f m L5 0 from fun hf => by
        rcases HS5.out _ hf with h1 | h1
        · exact HNG.out h1
        · have := HNB1.out.lt; omega)
      have HNB5 := Lib.hid (HP5.out.nib HNB1.out HNG.out)
      have HSI5 := Lib.hid (show SgIn (fun k => ¬ foot f m L5 k) w5 (.slice (some ⟨b, off, none⟩) p.man.segs.length bcap) p.man.segs from (HSI1.out.low.turned HT5.out (fun k hk hf => hk.1 hf)).mono (fun k hk hf => by
        rcases HS5.out k hf with h1 | h1
        · exact hk.1 h1
        · have := hk.2; omega))
      clear hf5 ht5 hs5
      rcases hfr : p.fresh with _ | _
      case true =>
        have HRUN := Lib.hid (show applyD d p = runD dk (beginOps n g p.man) by rw [HRUN0.out]; unfold tailOps; rw [hfr, HSN.out, HLG.out, HNN.out]; rfl)
        rw [hfr] at r0
        have HBG := Lib.hid (begin_any w5 f m dk L5 HF5.out (by have := HSD.out; omega) n g p.man (.slice (some ⟨b, off, none⟩) p.man.segs.length bcap) HSI5.out HNB5.out HNG5.out HOK.out)
        have HSR := Lib.hid HSB5.out.range
        have HMR := Lib.hid HPB5.out.man
        clear hfr
        go_wp2_with (first | (with_reducible refine wpList_load_sg rfl (.tmp 8) rfl wr.heap.size 0 g rfl HSR.out ?_) | (with_reducible refine wpList_load_mnAt rfl (.tmp 53) rfl w.heap.size 1 p.man (.slice (some ⟨b, off, none⟩) p.man.segs.length bcap) rfl HMR.out ?_))
        refine HBG.out.mono ?_
        rintro e w6 ⟨rfl, hp⟩
        have HF := Lib.hid (HQ5.out _ _ hp)
        clear hp
        rw [← HRUN.out]
        rw [← HRUN.out] at HF
        generalize applyD d p = rr at *
        go_wp2
        go_ret
        exact ⟨rfl, HF.out⟩
      rw [hfr] at r0
      have HRUNS := Lib.hid (show applyD d p = runD dk (opSize n :: (cutOps n p.cut (atF dk.files n) ++ [opSync n])) by rw [HRUN0.out]; unfold tailOps; rw [hfr, HSN.out, HNN.out]; rfl)
      have HSZ := Lib.hid (size_any w5 f m dk L5 HF5.out n)
      have r8 := HPB5.out.c8
      clear hfr
      by_cases hop : openE dk n = 0
      case neg =>
        have hE1 : doD dk (opSize n) = (dk, [], 0, openE dk n) := by rw [doD_size, if_pos hop]
        have HE := Lib.hid (show applyD d p = (dk, openE dk n) by rw [HRUNS.out, runD_stop (by rw [hE1]; exact hop), hE1])
        rw [hE1] at HSZ
        have tn : (openE dk n != 0) = true := by simpa using hop
        have HF := Lib.hid (HQ5.out _ _ (FsPost.same HF5.out))
        clear hop hE1
        generalize openE dk n = ev at *
        go_wp2_with fail
        refine HSZ.out.mono ?_
        rintro e w6 ⟨rfl, rfl⟩
        go_wp2
        go_ret
        unfold RunPost
        rw [HE.out]
        exact ⟨rfl, HF.out⟩
      obtain ⟨_, _, x, hax⟩ := openE_zero hop
      have hE1 : doD dk (opSize n) = (dk, [], (x.data.length : Int), 0) := by rw [doD_size, if_neg (by simpa using hop), hax]
      have HRUNT := Lib.hid (show applyD d p = runD dk (cutOps n p.cut (some x) ++ [opSync n]) by rw [HRUNS.out, runD_go (by rw [hE1]), hE1, hax])
      rw [hE1] at HSZ
      clear hop hE1 hax
      go_wp2_with fail
      refine HSZ.out.mono ?_
      rintro e w6 ⟨rfl, rfl⟩
      have HP0 := Lib.hid (FsPost.same HF5.out)
      have HQ := HQ5
      have HS := Lib.hid (show dk.steps < 4611686018427387904 by have := HSD.out; omega)
      have HSB := Lib.hid (show dk.steps ≤ 4611686018427387887 by have := HSD.out; omega)
      obtain ⟨d0, hd0⟩ : ∃ y, y = dk := ⟨_, rfl⟩
      rw [← hd0] at HP0 HS HSB HRUNT
      clear hd0 HSZ HQ5 HRUNS HRUN0
      rcases hcut : decide (p.cut < (x.data.length : Int)) with _ | _
      case true =>
        have HRUN := Lib.hid (show applyD d p = runD d0 (opCut n p.cut :: [opSync n]) by rw [HRUNT.out]; show runD d0 ((if p.cut < (x.data.length : Int) then [opCut n p.cut] else []) ++ [opSync n]) = _; rw [if_pos (by simpa using hcut)]; rfl)
        obtain ⟨L0, hfs0, ht0, hsub0⟩ := HP0.out
        have HCJ := Lib.hid (cut_any _ f m _ L0 hfs0 HS.out n p.cut)
        have HTJ := Lib.hid ht0
        have HSJ := Lib.hid hsub0
        clear hfs0 ht0 hsub0
        go_wp2_with fail
        refine HCJ.out.mono ?_
        rintro e W5 ⟨rfl, hp⟩
        have HPn := Lib.hid (hp.then HTJ.out HSJ.out)
        clear hp HCJ
        by_cases he0 : (doD d0 (opCut n p.cut)).2.2.2 = 0
        case neg =>
          have tn : ((doD d0 (opCut n p.cut)).2.2.2 != 0) = true := by simpa using he0
          have HE := Lib.hid (show applyD d p = ((doD d0 (opCut n p.cut)).1, (doD d0 (opCut n p.cut)).2.2.2) by rw [HRUN.out, runD_stop he0])
          have HF := Lib.hid (HQ.out _ _ HPn.out)
          clear he0
          generalize (doD d0 (opCut n p.cut)).2.2.2 = ev at *
          go_wp2
          go_ret
          unfold RunPost
          rw [HE.out]
          exact ⟨rfl, HF.out⟩
        have HRUN := Lib.hid (show applyD d p = runD (doD d0 (opCut n p.cut)).1 ([opSync n]) by rw [HRUN.out, runD_go he0])
        have HS := Lib.hid (show (doD d0 (opCut n p.cut)).1.steps < 4611686018427387904 by have h1 := (doD_steps d0 (opCut n p.cut)).1; have := HSB.out; omega)
        have HSB := Lib.hid (show (doD d0 (opCut n p.cut)).1.steps ≤ 4611686018427387887 + 1 by have h1 := (doD_steps d0 (opCut n p.cut)).1; have := HSB.out; omega)
        rw [he0]
        clear he0
        obtain ⟨d1, hdn⟩ : ∃ x, x = (doD d0 (opCut n p.cut)).1 := ⟨_, rfl⟩
        rw [← hdn] at HPn HRUN HS HSB
        clear hdn HTJ HSJ
        have HP1 := HPn
        clear HPn
        obtain ⟨L8, hfs, ht, hsub⟩ := HP1.out
        have HCJ := Lib.hid (sync_any _ f m _ L8 hfs HS.out n)
        have HTJ := Lib.hid ht
        have HSJ := Lib.hid hsub
        clear hfs ht hsub
        go_wp2_with fail
        refine HCJ.out.mono ?_
        rintro e W9 ⟨rfl, hp⟩
        have HF := Lib.hid (HQ.out _ _ (hp.then HTJ.out HSJ.out))
        have HE := Lib.hid (show applyD d p = ((doD d1 (opSync n)).1, (doD d1 (opSync n)).2.2.2) by rw [HRUN.out, runD_one])
        clear hp HCJ
        generalize (doD d1 (opSync n)).2.2.2 = ev at *
        go_wp2
        go_ret
        unfold RunPost
        rw [HE.out]
        exact ⟨rfl, HF.out⟩
      have HRUN := Lib.hid (show applyD d p = runD d0 [opSync n] by rw [HRUNT.out]; show runD d0 ((if p.cut < (x.data.length : Int) then [opCut n p.cut] else []) ++ [opSync n]) = _; rw [if_neg (by simpa using hcut)]; rfl)
      obtain ⟨L8, hfs, ht, hsub⟩ := HP0.out
      have HCJ := Lib.hid (sync_any _ f m _ L8 hfs HS.out n)
      have HTJ := Lib.hid ht
      have HSJ := Lib.hid hsub
      clear hfs ht hsub
      go_wp2_with fail
      refine HCJ.out.mono ?_
      rintro e W9 ⟨rfl, hp⟩
      have HF := Lib.hid (HQ.out _ _ (hp.then HTJ.out HSJ.out))
      have HE := Lib.hid (show applyD d p = ((doD d0 (opSync n)).1, (doD d0 (opSync n)).2.2.2) by rw [HRUN.out, runD_one])
      clear hp HCJ
      generalize (doD d0 (opSync n)).2.2.2 = ev at *
      go_wp2
      go_ret
      unfold RunPost
      rw [HE.out]
      exact ⟨rfl, HF.out⟩

end Go.Proofs.YtlobohpbgghleaaGreatDoor
