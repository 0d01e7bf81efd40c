import Derived.Test.YtlobohpbgghleaaGreatDoorChgA
import Derived.Test.YtlobohpbgghleaaGreatDoorChgB
import Derived.Test.YtlobohpbgghleaaGreatDoorBars
namespace Go.Proofs.YtlobohpbgghleaaGreatDoor
open Go.RowKit

/-! ## the document's barred and change, at any call that is told here -/

/-- a call of the kinds 0 to 5, or 7 -/
structure OpFine (o : DOp) : Prop where
  lo : 0 ≤ o.k
  hi : o.k ≤ 7
  six : o.k ≠ 6

set_option maxRecDepth 100000 in
set_option maxHeartbeats 2000000 in
theorem barred_down (d : Disk) (fv : Value) (o : DOp) (bv kv : Value) (w : World) (hdn : d.down = true) :
    Calls Tryz.prog 53 #[dkV d fv, opV o bv kv] w fun e w' => e = .returned (.int .i64 (barD d o)) ∧ Below w.heap.size w w' := by
  have HE := Lib.hid (show barD d o = 3 by unfold barD; rw [hdn]; rfl)
  have HB0 := Lib.hid (Below.next (below_alloc w (.cells (dkCs d fv) 51)) (below_alloc _ (.cells (opCs o bv kv) 59)))
  simp only [dkCs, hdn] at HB0
  go_enter Tryz.func53, Tryz.ntmps53
  go_wp2
  go_ret
  exact ⟨by rw [HE.out]; rfl, HB0.out⟩
set_option maxRecDepth 100000 in
set_option maxHeartbeats 2000000 in
theorem barred_name (d : Disk) (fv : Value) (o : DOp) (bv kv : Value) (w : World) (hdn : d.down = false) (hr : rightName o.name = false) :
    Calls Tryz.prog 53 #[dkV d fv, opV o bv kv] w fun e w' => e = .returned (.int .i64 (barD d o)) ∧ Below w.heap.size w w' := by
  have HE := Lib.hid (show barD d o = 50 by unfold barD; rw [hdn, hr]; rfl)
  have HB0 := Lib.hid (Below.next (below_alloc w (.cells (dkCs d fv) 51)) (below_alloc _ (.cells (opCs o bv kv) 59)))
  have HR1 := Lib.hid (fun W => refRight_any o.name W)
  rw [hr] at HR1
  simp only [dkCs, hdn] at HB0
  clear hr
  go_enter Tryz.func53, Tryz.ntmps53
  go_wp2_with (go_at_call 49; with_reducible refine (HR1.out _).mono ?_; rintro e w1 ⟨rfl, rfl⟩)
  go_ret
  exact ⟨by rw [HE.out]; rfl, HB0.out⟩
set_option maxRecDepth 100000 in
set_option maxHeartbeats 2000000 in
theorem barred_to (d : Disk) (fv : Value) (o : DOp) (bv kv : Value) (w : World) (hdn : d.down = false) (hr : rightName o.name = true) (hk : o.k = 3) (hr2 : rightName o.to = false) :
    Calls Tryz.prog 53 #[dkV d fv, opV o bv kv] w fun e w' => e = .returned (.int .i64 (barD d o)) ∧ Below w.heap.size w w' := by
  have HE := Lib.hid (show barD d o = 50 by unfold barD; rw [hdn, hr, hr2, hk]; rfl)
  have HB0 := Lib.hid (Below.next (below_alloc w (.cells (dkCs d fv) 51)) (below_alloc _ (.cells (opCs o bv kv) 59)))
  have HR1 := Lib.hid (fun W => refRight_any o.name W)
  have HR2 := Lib.hid (fun W => refRight_any o.to W)
  have e3 : (o.k == 3) = true := by rw [hk]; rfl
  rw [hr] at HR1
  rw [hr2] at HR2
  simp only [dkCs, hdn] at HB0
  clear hr hr2 hk
  go_enter Tryz.func53, Tryz.ntmps53
  go_wp2_with (go_at_call 49; first | (with_reducible refine (HR1.out _).mono ?_; rintro e w1 ⟨rfl, rfl⟩) | (with_reducible refine (HR2.out _).mono ?_; rintro e w1 ⟨rfl, rfl⟩))
  go_ret
  exact ⟨by rw [HE.out]; rfl, HB0.out⟩

theorem barred_any {A : Nat → Prop} (d : Disk) (fv : Value) (o : DOp) (bv kv : Value) (w : World) (hf : FilesIn A w fv d.files) (hd : DiskOk d) (hb : BRowIn A w bv o.b) (ho : OpFine o) :
    Calls Tryz.prog 53 #[dkV d fv, opV o bv kv] w fun e w' => e = .returned (.int .i64 (barD d o)) ∧ Below w.heap.size w w' := by
  rcases hdn : d.down with _ | _
  · rcases hr : rightName o.name with _ | _
    · exact barred_name d fv o bv kv w hdn hr
    · have h0 := ho.lo
      have h7 := ho.hi
      have h6 := ho.six
      rcases (show o.k = 0 ∨ o.k = 1 ∨ o.k = 3 ∨ o.k = 5 ∨ (o.k = 2 ∨ o.k = 4 ∨ o.k = 7) by omega) with hk | hk | hk | hk | hk
      · exact barred_create d fv o bv kv w hf hd hb hdn hr hk
      · exact barred_append d fv o bv kv w hf hd hb hdn hr hk
      · rcases hr2 : rightName o.to with _ | _
        · exact barred_to d fv o bv kv w hdn hr hk hr2
        · exact barred_rename d fv o bv kv w hf hd hb hdn hr hk hr2
      · exact barred_cut d fv o bv kv w hf hd hb hdn hr hk
      · exact barred_plain d fv o bv kv w hf hd hb hdn hr hk
  · exact barred_down d fv o bv kv w hdn

theorem change_any {A : Nat → Prop} (d x : Disk) (fv : Value) (o : DOp) (bv kv : Value) (w : World) (hf : FilesIn A w fv d.files) (hA : ∀ k, w.heap.size ≤ k → A k) (hd : DiskOk x) (hx : x.files = d.files) (hxr : x.room = d.room) (hb : BRowIn A w bv o.b) (ho : 0 ≤ o.k ∧ o.k ≤ 5) (hbar : barD x o = 0) :
    Calls Tryz.prog 54 #[dkV d fv, opV o bv kv] w fun e w' => ∃ v, e = .returned (dkV (chgD d o) v) ∧ FilesIn A w' v (chgD d o).files ∧ Below w.heap.size w w' := by
  have hn : d.files.length ≤ 1000000 := by have := hd.count; rw [hx] at this; omega
  rcases ha : atF d.files o.name with _ | f
  · have h0 := (bar_none hbar (by rw [hx]; exact ha)).1
    exact change_create d fv o bv kv w hf hA hn h0
  · obtain ⟨h0, h1, h5, _⟩ := bar_some hbar (by rw [hx]; exact ha)
    have hl := len_le_used (at_name ha).2
    have hu := hd.used
    have hr := hd.room
    rw [hx] at hu
    rcases (show o.k = 1 ∨ o.k = 2 ∨ o.k = 3 ∨ o.k = 4 ∨ o.k = 5 by omega) with hk | hk | hk | hk | hk
    · have := h1 hk
      exact change_append d fv o bv kv w hf hA hn hb hk f ha (by omega)
    · exact change_sync d fv o bv kv w hf hA hn hk f ha
    · exact change_rename d fv o bv kv w hf hA hn hk f ha
    · exact change_remove d fv o bv kv w hf hA hn hk f ha
    · obtain ⟨n0, n1⟩ := h5 hk
      obtain ⟨nn, hnn⟩ := Int.eq_ofNat_of_zero_le n0
      exact change_cut d fv o bv kv w hf hA hn hk f ha nn hnn (by omega) (by omega)

end Go.Proofs.YtlobohpbgghleaaGreatDoor

namespace Go.Proofs.YtlobohpbgghleaaGreatDoor
open Go.RowKit

/-! ## the document's Do -/

def DoPost (A : Nat → Prop) (d : Disk) (o : DOp) (w : World) (e : Ending) (w' : World) : Prop :=
  ∃ v, e = .returned (.tuple #[dkV (doD d o).1 v, .slice none 0 0, .int .i64 (doD d o).2.2.1, .int .i64 (doD d o).2.2.2]) ∧ FilesIn A w' v (doD d o).1.files ∧ Below w.heap.size w w'

set_option maxRecDepth 100000 in
set_option maxHeartbeats 4000000 in
theorem do_barred {A : Nat → Prop} (d : Disk) (fv : Value) (o : DOp) (bv kv : Value) (w : World) (hf : FilesIn A w fv d.files) (hd : DiskOk d) (hb : BRowIn A w bv o.b) (ho : OpFine o) (hbar : barD d o ≠ 0) :
    Calls Tryz.prog 23 #[dkV d fv, opV o bv kv] w (DoPost A d o w) := by
  have hlo := ho.lo
  have hhi := ho.hi
  have hsx := ho.six
  have e8 : (o.k == 8) = false := by simp; omega
  have e9 : (o.k == 9) = false := by simp; omega
  have e6 : (o.k == 6) = false := by simp; omega
  have l0 : decide (o.k < 0) = false := by simp; omega
  have l9 : decide (9 < o.k) = false := by simp; omega
  have HE := Lib.hid (doD_barred (d := d) (o := o) ⟨hlo, hhi⟩ hbar)
  have HW0 := Lib.hid (ChW.start w d fv o bv kv ⟨[], 0, 0, false, 0, 0⟩ (.slice none 0 0))
  have HFL := Lib.hid (hf.low.mono (A' := Out A w.heap.size (w.heap.size + 1 + 1 + 1)) (fun k hk' => ⟨hk'.1, .inl hk'.2⟩))
  have HBA := Lib.hid (barred_any d fv o bv kv _ (hf.below HW0.out.below) hd (hb.below HW0.out.below) ho)
  have tb : (barD d o != 0) = true := by simpa using hbar
  generalize barD d o = e0 at *
  clear hf hd hb ho hbar hlo hhi hsx
  go_enter Tryz.func23, Tryz.ntmps23
  go_wp2_with fail
  refine HBA.out.mono ?_
  rintro e w1 ⟨rfl, hb1⟩
  have HC := Lib.hid (HW0.out.next hb1)
  have HP := Lib.hid (HFL.out.below HC.out.below)
  have k0 := HC.out.op.c0
  have c2 := HC.out.dk.c2
  have c4 := HC.out.dk.c4
  clear hb1 HBA HW0
  obtain ⟨rd, rv, hr8⟩ := HC.out.res
  have HR8 := Lib.hid hr8
  have HV1 := Lib.hid (show fv.oneCell' = true from HP.out.one)
  clear hr8
  go_wp2_with (first | (with_reducible refine wpList_load_dk rfl (.tmp 2) rfl w.heap.size (d) fv rfl HC.out.dk ?_) | (with_reducible refine wpList_load_op rfl (.tmp 3) rfl (w.heap.size + 1) o bv kv rfl HC.out.op ?_) | (with_reducible refine wpList_store_dk rfl (.tmp 4) (.tmp 41) rfl (w.heap.size + 1 + 1) rd (d) rv fv rfl rfl HR8.out HV1.out ?_))
  intro w9 hw9
  obtain ⟨hd9, hb9, ht9⟩ := HC.out.done hw9.out
  have HP9 := Lib.hid ((HP.out.turned ht9 (fun k hk' => by have := hk'.2; omega)).mono (A' := A) (fun k hk' => hk'.1))
  have HD9 := Lib.hid hd9
  have HB9 := Lib.hid hb9
  clear hw9 hd9 hb9 ht9
  go_wp2
  refine bodyPost_ret (v := .tuple #[dkV (d) fv, .slice none 0 0, .int .i64 (0), .int .i64 (e0)]) (results_dk4 rfl _ _ (w.heap.size + 1 + 1) (d) fv _ _ _ rfl rfl rfl rfl HD9.out) rfl ?_
  unfold DoPost
  rw [HE.out]
  exact ⟨fv, rfl, HP9.out, HB9.out⟩

set_option maxRecDepth 100000 in
set_option maxHeartbeats 4000000 in
theorem do_step {A : Nat → Prop} (d : Disk) (fv : Value) (o : DOp) (bv kv : Value) (w : World) (hf : FilesIn A w fv d.files) (hA : ∀ k, w.heap.size ≤ k → A k) (hd : DiskOk d) (hs : d.steps < 4611686018427387904) (hb : BRowIn A w bv o.b) (ho : OpFine o) (hk : o.k ≤ 5) (hbar : barD d o = 0) (hfu : d.fuse ≠ 1) :
    Calls Tryz.prog 23 #[dkV d fv, opV o bv kv] w (DoPost A d o w) := by
  have hlo := ho.lo
  have hhi := ho.hi
  have hsx := ho.six
  have e8 : (o.k == 8) = false := by simp; omega
  have e9 : (o.k == 9) = false := by simp; omega
  have e6 : (o.k == 6) = false := by simp; omega
  have l0 : decide (o.k < 0) = false := by simp; omega
  have l9 : decide (9 < o.k) = false := by simp; omega
  have e7 : (o.k == 7) = false := by simp; omega
  have ef : (d.fuse == 1) = false := by simpa using hfu
  have hfz := hd.fuse
  have hst := hd.steps
  have hw4 : IntKind.i64.wrap (d.steps + 1) = d.steps + 1 := by rw [IntKind.wrap_i64]; omega
  have hw2 : 1 < d.fuse → IntKind.i64.wrap (d.fuse - 1) = d.fuse - 1 := fun h => by rw [IntKind.wrap_i64]; omega
  have HE := Lib.hid (show doD d o = (chgD (stepD d) o, [], 0, 0) by rw [doD_step ⟨hlo, hk⟩ hbar, if_neg hfu, if_neg hfu])
  have HFA := Lib.hid hA
  have HBL := Lib.hid (hb.low.mono (A' := Out A w.heap.size (w.heap.size + 1 + 1 + 1)) (fun k hk' => ⟨hk'.1, .inl hk'.2⟩))
  have HCH := Lib.hid (fun (W : World) (hF : FilesIn (Out A w.heap.size (w.heap.size + 1 + 1 + 1)) W fv d.files) (hB : BRowIn (Out A w.heap.size (w.heap.size + 1 + 1 + 1)) W bv o.b) (hS : w.heap.size + 1 + 1 + 1 ≤ W.heap.size) => change_any (A := Out A w.heap.size (w.heap.size + 1 + 1 + 1)) (stepD d) d fv o bv kv W (by rw [stepD_files]; exact hF) (fun k hk' => ⟨hA k (by omega), .inr (by omega)⟩) hd (by rw [stepD_files]) (by rw [stepD_room]) hB ⟨hlo, hk⟩ hbar)
  have HW0 := Lib.hid (ChW.start w d fv o bv kv ⟨[], 0, 0, false, 0, 0⟩ (.slice none 0 0))
  have HFL := Lib.hid (hf.low.mono (A' := Out A w.heap.size (w.heap.size + 1 + 1 + 1)) (fun k hk' => ⟨hk'.1, .inl hk'.2⟩))
  have HBA := Lib.hid (barred_any d fv o bv kv _ (hf.below HW0.out.below) hd (hb.below HW0.out.below) ho)
  have tb : (barD d o != 0) = false := by rw [hbar]; rfl
  rw [hbar] at HBA
  clear hf hd hb ho hbar hlo hhi hsx
  clear hA hk hfz hst hs
  go_enter Tryz.func23, Tryz.ntmps23
  go_wp2_with fail
  refine HBA.out.mono ?_
  rintro e w1 ⟨rfl, hb1⟩
  have HC := Lib.hid (HW0.out.next hb1)
  have HP := Lib.hid (HFL.out.below HC.out.below)
  have k0 := HC.out.op.c0
  have c2 := HC.out.dk.c2
  have c4 := HC.out.dk.c4
  clear hb1 HBA HW0
  have f2 := HC.out.dk.free 2
  have f4 := HC.out.dk.free 4
  rcases hgt : decide (1 < d.fuse) with _ | _
  · have HSD := Lib.hid (show stepD d = (⟨d.files, d.room, d.fuse, d.down, d.steps + 1, d.reads⟩ : Disk) by unfold stepD; rw [if_neg hfu, if_neg (by simpa using hgt)])
    have HCX := Lib.hid hfu
    clear hfu hw2
    go_wp2_with (with_reducible refine wpList_store_cellV rfl 3 (.tmp 107) (.tmp 106) rfl w.heap.size 4 (.int .i64 (d.steps + 1)) (.int .i64 d.steps) (by kernel_rfl) rfl rfl rfl c4 f4 ?_)
    intro w3 hw3
    have HP3 := Lib.hid (show FilesIn (Out A w.heap.size (w.heap.size + 1 + 1 + 1)) w3 fv d.files by rw [hw3.out]; exact HP.out.turned (turned_set _ ⟨w.heap.size, 4, none⟩ _ (Nat.le_refl _) (by simp only; omega)) out_not)
    have HC := Lib.hid (show ChW w (⟨d.files, d.room, d.fuse, d.down, d.steps + 1, d.reads⟩ : Disk) fv o bv kv w3 by rw [hw3.out]; exact HC.out.set 4 _ rfl)
    have HP := HP3
    have HB3 := Lib.hid (HBL.out.below HC.out.below)
    have HCG := Lib.hid (HCH.out w3 HP.out HB3.out HC.out.size)
    rw [HSD.out] at HCG
    have HE := Lib.hid (show doD d o = (chgD (⟨d.files, d.room, d.fuse, d.down, d.steps + 1, d.reads⟩ : Disk) o, [], 0, 0) by rw [HE.out, HSD.out])
    clear hw3 HP3 c4 f4 HSD HCH
    go_wp2_with (first | (with_reducible refine wpList_load_dk rfl (.tmp 2) rfl w.heap.size ((⟨d.files, d.room, d.fuse, d.down, d.steps + 1, d.reads⟩ : Disk)) fv rfl HC.out.dk ?_) | (with_reducible refine wpList_load_op rfl (.tmp 3) rfl (w.heap.size + 1) o bv kv rfl HC.out.op ?_))
    refine HCG.out.mono ?_
    rintro e w4 ⟨v4, rfl, h4, hb4⟩
    have HP := Lib.hid h4
    have HC := Lib.hid (HC.out.next hb4)
    clear h4 hb4 HCG
    generalize chgD (⟨d.files, d.room, d.fuse, d.down, d.steps + 1, d.reads⟩ : Disk) o = dd at *
    obtain ⟨rd, rv, hr8⟩ := HC.out.res
    have HR8 := Lib.hid hr8
    have HV1 := Lib.hid (show v4.oneCell' = true from HP.out.one)
    clear hr8
    go_wp2_with (with_reducible refine wpList_store_dk rfl (.tmp 4) (.tmp 110) rfl (w.heap.size + 1 + 1) rd dd rv v4 rfl rfl HR8.out HV1.out ?_)
    intro w9 hw9
    obtain ⟨hd9, hb9, ht9⟩ := HC.out.done hw9.out
    have HP9 := Lib.hid ((HP.out.turned ht9 (fun k hk' => by have := hk'.2; omega)).mono (A' := A) (fun k hk' => hk'.1))
    have HD9 := Lib.hid hd9
    have HB9 := Lib.hid hb9
    clear hw9 hd9 hb9 ht9
    go_wp2
    refine bodyPost_ret (v := .tuple #[dkV dd v4, .slice none 0 0, .int .i64 0, .int .i64 0]) (results_dk4 rfl _ _ (w.heap.size + 1 + 1) dd v4 _ _ _ rfl rfl rfl rfl HD9.out) rfl ?_
    unfold DoPost
    rw [HE.out]
    exact ⟨v4, rfl, HP9.out, HB9.out⟩
  · have HSD := Lib.hid (show stepD d = (⟨d.files, d.room, d.fuse - 1, d.down, d.steps + 1, d.reads⟩ : Disk) by unfold stepD; rw [if_neg hfu, if_pos (by simpa using hgt)])
    have hw2' := hw2 (by simpa using hgt)
    have HCX := Lib.hid hfu
    clear hfu hw2
    go_wp2_with (with_reducible refine wpList_store_cellV rfl 3 (.tmp 103) (.tmp 102) rfl w.heap.size 2 (.int .i64 (d.fuse - 1)) (.int .i64 d.fuse) (by kernel_rfl) rfl rfl rfl c2 f2 ?_)
    intro w2 hw2
    have HP2 := Lib.hid (show FilesIn (Out A w.heap.size (w.heap.size + 1 + 1 + 1)) w2 fv d.files by rw [hw2.out]; exact HP.out.turned (turned_set _ ⟨w.heap.size, 2, none⟩ _ (Nat.le_refl _) (by simp only; omega)) out_not)
    have HC := Lib.hid (show ChW w (⟨d.files, d.room, d.fuse - 1, d.down, d.steps, d.reads⟩ : Disk) fv o bv kv w2 by rw [hw2.out]; exact HC.out.set 2 _ rfl)
    have HP := HP2
    have c4 := HC.out.dk.c4
    have f4 := HC.out.dk.free 4
    clear hw2 HP2 c2 f2
    go_wp2_with (with_reducible refine wpList_store_cellV rfl 3 (.tmp 107) (.tmp 106) rfl w.heap.size 4 (.int .i64 (d.steps + 1)) (.int .i64 d.steps) (by kernel_rfl) rfl rfl rfl c4 f4 ?_)
    intro w3 hw3
    have HP3 := Lib.hid (show FilesIn (Out A w.heap.size (w.heap.size + 1 + 1 + 1)) w3 fv d.files by rw [hw3.out]; exact HP.out.turned (turned_set _ ⟨w.heap.size, 4, none⟩ _ (Nat.le_refl _) (by simp only; omega)) out_not)
    have HC := Lib.hid (show ChW w (⟨d.files, d.room, d.fuse - 1, d.down, d.steps + 1, d.reads⟩ : Disk) fv o bv kv w3 by rw [hw3.out]; exact HC.out.set 4 _ rfl)
    have HP := HP3
    have HB3 := Lib.hid (HBL.out.below HC.out.below)
    have HCG := Lib.hid (HCH.out w3 HP.out HB3.out HC.out.size)
    rw [HSD.out] at HCG
    have HE := Lib.hid (show doD d o = (chgD (⟨d.files, d.room, d.fuse - 1, d.down, d.steps + 1, d.reads⟩ : Disk) o, [], 0, 0) by rw [HE.out, HSD.out])
    clear hw3 HP3 c4 f4 HSD HCH
    go_wp2_with (first | (with_reducible refine wpList_load_dk rfl (.tmp 2) rfl w.heap.size ((⟨d.files, d.room, d.fuse - 1, d.down, d.steps + 1, d.reads⟩ : Disk)) fv rfl HC.out.dk ?_) | (with_reducible refine wpList_load_op rfl (.tmp 3) rfl (w.heap.size + 1) o bv kv rfl HC.out.op ?_))
    refine HCG.out.mono ?_
    rintro e w4 ⟨v4, rfl, h4, hb4⟩
    have HP := Lib.hid h4
    have HC := Lib.hid (HC.out.next hb4)
    clear h4 hb4 HCG
    generalize chgD (⟨d.files, d.room, d.fuse - 1, d.down, d.steps + 1, d.reads⟩ : Disk) o = dd at *
    obtain ⟨rd, rv, hr8⟩ := HC.out.res
    have HR8 := Lib.hid hr8
    have HV1 := Lib.hid (show v4.oneCell' = true from HP.out.one)
    clear hr8
    go_wp2_with (with_reducible refine wpList_store_dk rfl (.tmp 4) (.tmp 110) rfl (w.heap.size + 1 + 1) rd dd rv v4 rfl rfl HR8.out HV1.out ?_)
    intro w9 hw9
    obtain ⟨hd9, hb9, ht9⟩ := HC.out.done hw9.out
    have HP9 := Lib.hid ((HP.out.turned ht9 (fun k hk' => by have := hk'.2; omega)).mono (A' := A) (fun k hk' => hk'.1))
    have HD9 := Lib.hid hd9
    have HB9 := Lib.hid hb9
    clear hw9 hd9 hb9 ht9
    go_wp2
    refine bodyPost_ret (v := .tuple #[dkV dd v4, .slice none 0 0, .int .i64 0, .int .i64 0]) (results_dk4 rfl _ _ (w.heap.size + 1 + 1) dd v4 _ _ _ rfl rfl rfl rfl HD9.out) rfl ?_
    unfold DoPost
    rw [HE.out]
    exact ⟨v4, rfl, HP9.out, HB9.out⟩

set_option maxRecDepth 100000 in
set_option maxHeartbeats 4000000 in
theorem do_off {A : Nat → Prop} (d : Disk) (fv : Value) (o : DOp) (bv kv : Value) (w : World) (hf : FilesIn A w fv d.files) (hd : DiskOk d) (hb : BRowIn A w bv o.b) (ho : OpFine o) (hk : o.k ≤ 5) (hk1 : o.k ≠ 1) (hbar : barD d o = 0) (hfu : d.fuse = 1) :
    Calls Tryz.prog 23 #[dkV d fv, opV o bv kv] w (DoPost A d o w) := by
  have hlo := ho.lo
  have hhi := ho.hi
  have hsx := ho.six
  have e8 : (o.k == 8) = false := by simp; omega
  have e9 : (o.k == 9) = false := by simp; omega
  have e6 : (o.k == 6) = false := by simp; omega
  have l0 : decide (o.k < 0) = false := by simp; omega
  have l9 : decide (9 < o.k) = false := by simp; omega
  have e7 : (o.k == 7) = false := by simp; omega
  have e1 : (o.k == 1) = false := by simpa using hk1
  have ef : (d.fuse == 1) = true := by rw [hfu]; rfl
  have HSD := Lib.hid (show stepD d = (⟨d.files, d.room, 0, true, d.steps, d.reads⟩ : Disk) by unfold stepD; rw [if_pos hfu])
  have HE := Lib.hid (show doD d o = ((⟨d.files, d.room, 0, true, d.steps, d.reads⟩ : Disk), [], 0, 3) by rw [doD_step ⟨hlo, hk⟩ hbar, if_pos hfu, if_neg hk1, if_pos hfu, HSD.out])
  have HW0 := Lib.hid (ChW.start w d fv o bv kv ⟨[], 0, 0, false, 0, 0⟩ (.slice none 0 0))
  have HFL := Lib.hid (hf.low.mono (A' := Out A w.heap.size (w.heap.size + 1 + 1 + 1)) (fun k hk' => ⟨hk'.1, .inl hk'.2⟩))
  have HBA := Lib.hid (barred_any d fv o bv kv _ (hf.below HW0.out.below) hd (hb.below HW0.out.below) ho)
  have tb : (barD d o != 0) = false := by rw [hbar]; rfl
  rw [hbar] at HBA
  clear hf hd hb ho hbar hlo hhi hsx
  clear hk hfu hk1
  go_enter Tryz.func23, Tryz.ntmps23
  go_wp2_with fail
  refine HBA.out.mono ?_
  rintro e w1 ⟨rfl, hb1⟩
  have HC := Lib.hid (HW0.out.next hb1)
  have HP := Lib.hid (HFL.out.below HC.out.below)
  have k0 := HC.out.op.c0
  have c2 := HC.out.dk.c2
  have c4 := HC.out.dk.c4
  clear hb1 HBA HW0
  have f2 := HC.out.dk.free 2
  go_wp2_with (with_reducible refine wpList_store_cellV rfl 3 (.tmp 88) _ rfl w.heap.size 2 (.int .i64 0) (.int .i64 d.fuse) (by kernel_rfl) rfl rfl rfl c2 f2 ?_)
  intro w2 hw2
  have HP2 := Lib.hid (show FilesIn (Out A w.heap.size (w.heap.size + 1 + 1 + 1)) w2 fv d.files by rw [hw2.out]; exact HP.out.turned (turned_set _ ⟨w.heap.size, 2, none⟩ _ (Nat.le_refl _) (by simp only; omega)) out_not)
  have HC := Lib.hid (show ChW w (⟨d.files, d.room, 0, d.down, d.steps, d.reads⟩ : Disk) fv o bv kv w2 by rw [hw2.out]; exact HC.out.set 2 _ rfl)
  have HP := HP2
  have c3 := HC.out.dk.c3
  have f3 := HC.out.dk.free 3
  clear hw2 HP2 c2 f2 k0 c4
  go_wp2_with (with_reducible refine wpList_store_cellV rfl 4 (.tmp 89) _ rfl w.heap.size 3 (.bool true) (.bool d.down) (by kernel_rfl) rfl rfl rfl c3 f3 ?_)
  intro w3 hw3
  have HP3 := Lib.hid (show FilesIn (Out A w.heap.size (w.heap.size + 1 + 1 + 1)) w3 fv d.files by rw [hw3.out]; exact HP.out.turned (turned_set _ ⟨w.heap.size, 3, none⟩ _ (Nat.le_refl _) (by simp only; omega)) out_not)
  have HC := Lib.hid (show ChW w (⟨d.files, d.room, 0, true, d.steps, d.reads⟩ : Disk) fv o bv kv w3 by rw [hw3.out]; exact HC.out.set 3 _ rfl)
  have HP := HP3
  have k0 := HC.out.op.c0
  clear hw3 HP3 c3 f3
  obtain ⟨rd, rv, hr8⟩ := HC.out.res
  have HR8 := Lib.hid hr8
  have HV1 := Lib.hid (show fv.oneCell' = true from HP.out.one)
  clear hr8
  go_wp2_with (first | (with_reducible refine wpList_load_dk rfl (.tmp 2) rfl w.heap.size ((⟨d.files, d.room, 0, true, d.steps, d.reads⟩ : Disk)) fv rfl HC.out.dk ?_) | (with_reducible refine wpList_load_op rfl (.tmp 3) rfl (w.heap.size + 1) o bv kv rfl HC.out.op ?_) | (with_reducible refine wpList_store_dk rfl (.tmp 4) (.tmp 96) rfl (w.heap.size + 1 + 1) rd ((⟨d.files, d.room, 0, true, d.steps, d.reads⟩ : Disk)) rv fv rfl rfl HR8.out HV1.out ?_))
  intro w9 hw9
  obtain ⟨hd9, hb9, ht9⟩ := HC.out.done hw9.out
  have HP9 := Lib.hid ((HP.out.turned ht9 (fun k hk' => by have := hk'.2; omega)).mono (A' := A) (fun k hk' => hk'.1))
  have HD9 := Lib.hid hd9
  have HB9 := Lib.hid hb9
  clear hw9 hd9 hb9 ht9
  go_wp2
  refine bodyPost_ret (v := .tuple #[dkV ((⟨d.files, d.room, 0, true, d.steps, d.reads⟩ : Disk)) fv, .slice none 0 0, .int .i64 (0), .int .i64 (3)]) (results_dk4 rfl _ _ (w.heap.size + 1 + 1) ((⟨d.files, d.room, 0, true, d.steps, d.reads⟩ : Disk)) fv _ _ _ rfl rfl rfl rfl HD9.out) rfl ?_
  unfold DoPost
  rw [HE.out]
  exact ⟨fv, rfl, HP9.out, HB9.out⟩

set_option maxRecDepth 100000 in
set_option maxHeartbeats 4000000 in
theorem do_off1 {A : Nat → Prop} (d : Disk) (fv : Value) (o : DOp) (bv kv : Value) (w : World) (hf : FilesIn A w fv d.files) (hA : ∀ k, w.heap.size ≤ k → A k) (hd : DiskOk d) (hb : BRowIn A w bv o.b) (ho : OpFine o) (hk : o.k ≤ 5) (hk1 : o.k = 1) (hbar : barD d o = 0) (hfu : d.fuse = 1) :
    Calls Tryz.prog 23 #[dkV d fv, opV o bv kv] w (DoPost A d o w) := by
  have hlo := ho.lo
  have hhi := ho.hi
  have hsx := ho.six
  have e8 : (o.k == 8) = false := by simp; omega
  have e9 : (o.k == 9) = false := by simp; omega
  have e6 : (o.k == 6) = false := by simp; omega
  have l0 : decide (o.k < 0) = false := by simp; omega
  have l9 : decide (9 < o.k) = false := by simp; omega
  have e7 : (o.k == 7) = false := by simp; omega
  have e1 : (o.k == 1) = true := by rw [hk1]; rfl
  have ef : (d.fuse == 1) = true := by rw [hfu]; rfl
  have HSD := Lib.hid (show stepD d = (⟨d.files, d.room, 0, true, d.steps, d.reads⟩ : Disk) by unfold stepD; rw [if_pos hfu])
  have HE := Lib.hid (show doD d o = (chgD (⟨d.files, d.room, 0, true, d.steps, d.reads⟩ : Disk) o, [], 0, 3) by rw [doD_step ⟨hlo, hk⟩ hbar, if_pos hfu, if_pos hk1, if_pos hfu, HSD.out])
  have HBL := Lib.hid (hb.low.mono (A' := Out A w.heap.size (w.heap.size + 1 + 1 + 1)) (fun k hk' => ⟨hk'.1, .inl hk'.2⟩))
  have HCH := Lib.hid (fun (W : World) (hF : FilesIn (Out A w.heap.size (w.heap.size + 1 + 1 + 1)) W fv d.files) (hB : BRowIn (Out A w.heap.size (w.heap.size + 1 + 1 + 1)) W bv o.b) (hS : w.heap.size + 1 + 1 + 1 ≤ W.heap.size) => change_any (A := Out A w.heap.size (w.heap.size + 1 + 1 + 1)) (⟨d.files, d.room, 0, true, d.steps, d.reads⟩ : Disk) d fv o bv kv W hF (fun k hk' => ⟨hA k (by omega), .inr (by omega)⟩) hd rfl rfl hB ⟨hlo, hk⟩ hbar)
  have HW0 := Lib.hid (ChW.start w d fv o bv kv ⟨[], 0, 0, false, 0, 0⟩ (.slice none 0 0))
  have HFL := Lib.hid (hf.low.mono (A' := Out A w.heap.size (w.heap.size + 1 + 1 + 1)) (fun k hk' => ⟨hk'.1, .inl hk'.2⟩))
  have HBA := Lib.hid (barred_any d fv o bv kv _ (hf.below HW0.out.below) hd (hb.below HW0.out.below) ho)
  have tb : (barD d o != 0) = false := by rw [hbar]; rfl
  rw [hbar] at HBA
  clear hf hd hb ho hbar hlo hhi hsx
  clear hk hfu hk1 hA
  go_enter Tryz.func23, Tryz.ntmps23
  go_wp2_with fail
  refine HBA.out.mono ?_
  rintro e w1 ⟨rfl, hb1⟩
  have HC := Lib.hid (HW0.out.next hb1)
  have HP := Lib.hid (HFL.out.below HC.out.below)
  have k0 := HC.out.op.c0
  have c2 := HC.out.dk.c2
  have c4 := HC.out.dk.c4
  clear hb1 HBA HW0
  have f2 := HC.out.dk.free 2
  go_wp2_with (with_reducible refine wpList_store_cellV rfl 3 (.tmp 88) _ rfl w.heap.size 2 (.int .i64 0) (.int .i64 d.fuse) (by kernel_rfl) rfl rfl rfl c2 f2 ?_)
  intro w2 hw2
  have HP2 := Lib.hid (show FilesIn (Out A w.heap.size (w.heap.size + 1 + 1 + 1)) w2 fv d.files by rw [hw2.out]; exact HP.out.turned (turned_set _ ⟨w.heap.size, 2, none⟩ _ (Nat.le_refl _) (by simp only; omega)) out_not)
  have HC := Lib.hid (show ChW w (⟨d.files, d.room, 0, d.down, d.steps, d.reads⟩ : Disk) fv o bv kv w2 by rw [hw2.out]; exact HC.out.set 2 _ rfl)
  have HP := HP2
  have c3 := HC.out.dk.c3
  have f3 := HC.out.dk.free 3
  clear hw2 HP2 c2 f2 k0 c4
  go_wp2_with (with_reducible refine wpList_store_cellV rfl 4 (.tmp 89) _ rfl w.heap.size 3 (.bool true) (.bool d.down) (by kernel_rfl) rfl rfl rfl c3 f3 ?_)
  intro w3 hw3
  have HP3 := Lib.hid (show FilesIn (Out A w.heap.size (w.heap.size + 1 + 1 + 1)) w3 fv d.files by rw [hw3.out]; exact HP.out.turned (turned_set _ ⟨w.heap.size, 3, none⟩ _ (Nat.le_refl _) (by simp only; omega)) out_not)
  have HC := Lib.hid (show ChW w (⟨d.files, d.room, 0, true, d.steps, d.reads⟩ : Disk) fv o bv kv w3 by rw [hw3.out]; exact HC.out.set 3 _ rfl)
  have HP := HP3
  have k0 := HC.out.op.c0
  clear hw3 HP3 c3 f3
  have HB3 := Lib.hid (HBL.out.below HC.out.below)
  have HCG := Lib.hid (HCH.out w3 HP.out HB3.out HC.out.size)
  clear HCH
  go_wp2_with (first | (with_reducible refine wpList_load_dk rfl (.tmp 2) rfl w.heap.size ((⟨d.files, d.room, 0, true, d.steps, d.reads⟩ : Disk)) fv rfl HC.out.dk ?_) | (with_reducible refine wpList_load_op rfl (.tmp 3) rfl (w.heap.size + 1) o bv kv rfl HC.out.op ?_))
  refine HCG.out.mono ?_
  rintro e w4 ⟨v4, rfl, h4, hb4⟩
  have HP := Lib.hid h4
  have HC := Lib.hid (HC.out.next hb4)
  clear h4 hb4 HCG k0
  generalize chgD (⟨d.files, d.room, 0, true, d.steps, d.reads⟩ : Disk) o = dd at *
  have HV4 := Lib.hid (show v4.oneCell' = true from HP.out.one)
  have HDK := Lib.hid HC.out.dk
  go_wp2_with (with_reducible refine wpList_store_dk rfl (.tmp 2) (.tmp 95) rfl w.heap.size (⟨d.files, d.room, 0, true, d.steps, d.reads⟩ : Disk) dd fv v4 rfl rfl HDK.out HV4.out ?_)
  intro w5 hw5
  have HP := Lib.hid (show FilesIn (Out A w.heap.size (w.heap.size + 1 + 1 + 1)) w5 v4 dd.files by rw [hw5.out]; exact HP.out.turned (S := fun k => w.heap.size ≤ k ∧ k < w.heap.size + 1 + 1 + 1) ⟨rfl, rfl, rfl, by simp, fun k _ hn => setRow_other _ _ _ _ (fun e => hn (by omega))⟩ out_not)
  have HC := Lib.hid (HC.out.setAll hw5.out)
  clear hw5 HDK HV4
  obtain ⟨rd, rv, hr8⟩ := HC.out.res
  have HR8 := Lib.hid hr8
  have HV1 := Lib.hid (show v4.oneCell' = true from HP.out.one)
  clear hr8
  go_wp2_with (first | (with_reducible refine wpList_load_dk rfl (.tmp 2) rfl w.heap.size (dd) v4 rfl HC.out.dk ?_) | (with_reducible refine wpList_load_op rfl (.tmp 3) rfl (w.heap.size + 1) o bv kv rfl HC.out.op ?_) | (with_reducible refine wpList_store_dk rfl (.tmp 4) (.tmp 96) rfl (w.heap.size + 1 + 1) rd (dd) rv v4 rfl rfl HR8.out HV1.out ?_))
  intro w9 hw9
  obtain ⟨hd9, hb9, ht9⟩ := HC.out.done hw9.out
  have HP9 := Lib.hid ((HP.out.turned ht9 (fun k hk' => by have := hk'.2; omega)).mono (A' := A) (fun k hk' => hk'.1))
  have HD9 := Lib.hid hd9
  have HB9 := Lib.hid hb9
  clear hw9 hd9 hb9 ht9
  go_wp2
  refine bodyPost_ret (v := .tuple #[dkV (dd) v4, .slice none 0 0, .int .i64 (0), .int .i64 (3)]) (results_dk4 rfl _ _ (w.heap.size + 1 + 1) (dd) v4 _ _ _ rfl rfl rfl rfl HD9.out) rfl ?_
  unfold DoPost
  rw [HE.out]
  exact ⟨v4, rfl, HP9.out, HB9.out⟩

set_option maxRecDepth 100000 in
set_option maxHeartbeats 4000000 in
theorem do_size {A : Nat → Prop} (d : Disk) (fv : Value) (o : DOp) (bv kv : Value) (w : World) (hf : FilesIn A w fv d.files) (hd : DiskOk d) (hb : BRowIn A w bv o.b) (ho : OpFine o) (hk : o.k = 7) (hbar : barD d o = 0) :
    Calls Tryz.prog 23 #[dkV d fv, opV o bv kv] w (DoPost A d o w) := by
  have hlo := ho.lo
  have hhi := ho.hi
  have hsx := ho.six
  have e8 : (o.k == 8) = false := by simp; omega
  have e9 : (o.k == 9) = false := by simp; omega
  have e6 : (o.k == 6) = false := by simp; omega
  have l0 : decide (o.k < 0) = false := by simp; omega
  have l9 : decide (9 < o.k) = false := by simp; omega
  have e7 : (o.k == 7) = true := by rw [hk]; rfl
  obtain ⟨f, ha⟩ : ∃ f, atF d.files o.name = some f := by
    rcases ha : atF d.files o.name with _ | f
    · have := (bar_none hbar ha).1; omega
    · exact ⟨f, rfl⟩
  have HE := Lib.hid (show doD d o = (d, [], (f.data.length : Int), 0) by
    unfold doD
    rw [if_neg (by omega), if_neg (by omega), if_neg (by omega), if_neg (by simpa using hbar), if_neg (by omega), if_pos hk, ha])
  have HA0 := Lib.hid ha
  obtain ⟨oa, cap, rfl, hl1, hl2, hcc⟩ := hf.low.shape
  have HCC := Lib.hid hcc
  have HAT := Lib.hid (fun W (h : ChW w d (.slice oa d.files.length cap) o bv kv W) => at_any (A := A) d (.slice oa d.files.length cap) o.name W (hf.below h.below))
  clear hcc ha
  have HW0 := Lib.hid (ChW.start w d (.slice oa d.files.length cap) o bv kv ⟨[], 0, 0, false, 0, 0⟩ (.slice none 0 0))
  have HFL := Lib.hid (hf.low.mono (A' := Out A w.heap.size (w.heap.size + 1 + 1 + 1)) (fun k hk' => ⟨hk'.1, .inl hk'.2⟩))
  have HBA := Lib.hid (barred_any d (.slice oa d.files.length cap) o bv kv _ (hf.below HW0.out.below) hd (hb.below HW0.out.below) ho)
  have tb : (barD d o != 0) = false := by rw [hbar]; rfl
  rw [hbar] at HBA
  clear hf hd hb ho hbar hlo hhi hsx
  clear hk
  go_enter Tryz.func23, Tryz.ntmps23
  go_wp2_with fail
  refine HBA.out.mono ?_
  rintro e w1 ⟨rfl, hb1⟩
  have HC := Lib.hid (HW0.out.next hb1)
  have HP := Lib.hid (HFL.out.below HC.out.below)
  have k0 := HC.out.op.c0
  have c2 := HC.out.dk.c2
  have c4 := HC.out.dk.c4
  clear hb1 HBA HW0
  clear c2 c4
  have q1 := HC.out.op.c1
  go_wp2_with fail
  refine wp_region_held_drew (S := fun w' => ChW w d (.slice oa d.files.length cap) o bv kv w') (by kernel_rfl) (HC.out.next (show Below w1.heap.size w1 w1.drew from below_drewN' _ 1)) (fun hHeld => ?_)
  clear k0 q1
  refine tk 1 rfl ?v_108 ?hy_108 ?r_108
  case hy_108 => intro w hSw; have c0 := hSw.dk.c0; have k1 := hSw.op.c1; go_simp; try with_reducible rfl
  simp only [pA, pB, pC, pD]
  refine tk 2 rfl ?v_109 ?hy_109 ?r_109
  case hy_109 => intro w hSw; have c0 := hSw.dk.c0; have k1 := hSw.op.c1; go_simp; try with_reducible rfl
  simp only [pA, pB, pC, pD]
  refine tk 4 rfl ?v_110 ?hy_110 ?r_110
  case hy_110 => intro w hSw; have c0 := hSw.dk.c0; have k1 := hSw.op.c1; go_simp; try with_reducible rfl
  simp only [pA, pB, pC, pD]
  refine tk 5 rfl ?v_111 ?hy_111 ?r_111
  case hy_111 => intro w hSw; have c0 := hSw.dk.c0; have k1 := hSw.op.c1; go_simp; try with_reducible rfl
  simp only [pA, pB, pC, pD]
  refine tkl 0 w.heap.size 0 (dkCs d (.slice oa d.files.length cap)).toList rfl rfl (fun w' h j v hv => by rw [Nat.zero_add, h.dk.cell]; simpa using hv) Tryz.underlying51 rfl (by rw [dkInfo]; rfl) ?_
  simp only [pA, pB, pC, pD]
  refine tkl 3 w.heap.size 0 (dkCs d (.slice oa d.files.length cap)).toList rfl rfl (fun w' h j v hv => by rw [Nat.zero_add, h.dk.cell]; simpa using hv) Tryz.underlying51 rfl (by rw [dkInfo]; rfl) ?_
  simp only [pA, pB, pC, pD]
  generalize World.drew _ = Wd at *
  refine wpAnyH_ready (rs := [6]) (by kernel_rfl) (by simp) ?_
  refine AllReadyH.cons rfl (fun K hK => ?_) AllReadyH.nil
  go_simp
  go_at_call 50
  refine (HAT.out _ hHeld).mono ?_
  rintro e w2 ⟨z, rfl, hz, hb2⟩
  have HC2 := Lib.hid (hHeld.next hb2)
  clear hb2
  rcases hz with ⟨rfl, hbad⟩ | ⟨i, f1, rfl, hi, ha'⟩
  · exfalso; rw [HA0.out] at hbad; cases hbad
  have hff : f1 = f := by have h := HA0.out; rw [ha'] at h; exact Option.some.inj h
  subst hff
  obtain ⟨b, off, rfl, hbA, dv, hr, hdv⟩ := HCC.out i f1 hi
  have q1 : (i : Int) < (d.files.length : Int) := by have := (List.getElem?_eq_some_iff.1 hi).1; omega
  obtain ⟨ao, dcap, rfl, _, _⟩ := hdv
  have HR := Lib.hid (fun W (hW : Below w.heap.size w W) => range_later hr hW)
  clear hi ha' hr hbA HA0
  go_wp2_with fail
  refine hK.out _ _ HC2.out (fun hHeld => ?_)
  clear hK K
  refine tk 7 rfl ?v_112 ?hy_112 ?r_112
  case hy_112 => intro w hSw; have cn := HR.out _ hSw.below 1 _ rfl; go_simp; try with_reducible rfl
  simp only [pA, pB, pC, pD]
  refine tk 8 rfl ?v_113 ?hy_113 ?r_113
  case hy_113 => intro w hSw; have cn := HR.out _ hSw.below 1 _ rfl; go_simp; try with_reducible rfl
  simp only [pA, pB, pC, pD]
  refine tk 9 rfl ?v_114 ?hy_114 ?r_114
  case hy_114 => intro w hSw; have cn := HR.out _ hSw.below 1 _ rfl; go_simp; try with_reducible rfl
  simp only [pA, pB, pC, pD]
  refine tk 10 rfl ?v_115 ?hy_115 ?r_115
  case hy_115 => intro w hSw; have cn := HR.out _ hSw.below 1 _ rfl; go_simp; try with_reducible rfl
  simp only [pA, pB, pC, pD]
  obtain ⟨rd, rv, hr8⟩ := HC2.out.res
  have HR8 := Lib.hid hr8
  clear hr8
  refine wpAnyH_ready (rs := [11]) (by kernel_rfl) (by simp) ?_
  refine AllReadyH.cons rfl (fun K hK => ?_) AllReadyH.nil
  rw [if_pos (by kernel_rfl)]
  refine wp_store_row 51 (.tmp 4) (.tmp 74) rfl (w.heap.size + 1 + 1) (dkCs d (.slice (some ⟨b, off, none⟩) d.files.length cap)) rfl rfl 51 (dkCs rd rv) HR8.out dkInfo rfl (dkCs_one _ _ rfl) ?_
  obtain ⟨hd9, hb9, ht9⟩ := HC2.out.done (W' := w2.setRow (w.heap.size + 1 + 1) (dkCs d (.slice (some ⟨b, off, none⟩) d.files.length cap))) rfl
  have HC3 := Lib.hid (show ChW w d (.slice (some ⟨b, off, none⟩) d.files.length cap) o bv kv (w2.setRow (w.heap.size + 1 + 1) (dkCs d (.slice (some ⟨b, off, none⟩) d.files.length cap))) from
    ⟨by unfold DkBlk; rw [setRow_other _ _ _ _ (by omega)]; exact HC2.out.dk, by unfold OpBlk; rw [setRow_other _ _ _ _ (by omega)]; exact HC2.out.op, ⟨_, _, hd9⟩, hb9, by simpa using HC2.out.size⟩)
  have HP9 := Lib.hid (((HFL.out.below HC2.out.below).turned ht9 (fun k hk' => by have := hk'.2; omega)).mono (A' := A) (fun k hk' => hk'.1))
  have HD9 := Lib.hid hd9
  have HB9 := Lib.hid hb9
  clear hd9 hb9 ht9
  refine hK.out _ _ HC3.out (fun hHeld => ?_)
  clear hK K
  generalize World.setRow _ _ _ = W9 at *
  refine tk 12 rfl ?v_116 ?hy_116 ?r_116
  case hy_116 => intro w hSw; go_simp; try with_reducible rfl
  simp only [pA]
  refine tk 13 rfl ?v_117 ?hy_117 ?r_117
  case hy_117 => intro w hSw; go_simp; try with_reducible rfl
  simp only [pA]
  refine tk 14 rfl ?v_118 ?hy_118 ?r_118
  case hy_118 => intro w hSw; go_simp; try with_reducible rfl
  simp only [pA]
  refine wpAnyH_done (by kernel_rfl) ?_ _
  go_wp2
  refine bodyPost_ret (v := .tuple #[dkV d (.slice (some ⟨b, off, none⟩) d.files.length cap), .slice none 0 0, .int .i64 (f1.data.length : Int), .int .i64 0]) (results_dk4 rfl _ _ (w.heap.size + 1 + 1) d (.slice (some ⟨b, off, none⟩) d.files.length cap) _ _ _ rfl rfl rfl rfl HD9.out) rfl ?_
  unfold DoPost
  rw [HE.out]
  exact ⟨_, rfl, HP9.out, HB9.out⟩

set_option maxRecDepth 100000 in
set_option maxHeartbeats 4000000 in
theorem do_fuse {A : Nat → Prop} (d : Disk) (fv : Value) (o : DOp) (bv kv : Value) (w : World) (hf : FilesIn A w fv d.files) (hk : o.k = 9) :
    Calls Tryz.prog 23 #[dkV d fv, opV o bv kv] w (DoPost A d o w) := by
  have HD0 := Lib.hid (show doD d o = ({ d with fuse := if 0 < o.n then o.n else 0 }, [], 0, 0) by unfold doD; rw [if_neg (by omega), if_pos hk])
  have e8 : (o.k == 8) = false := by rw [hk]; rfl
  have e9 : (o.k == 9) = true := by rw [hk]; rfl
  have HW0 := Lib.hid (ChW.start w d fv o bv kv ⟨[], 0, 0, false, 0, 0⟩ (.slice none 0 0))
  have HFL := Lib.hid (hf.low.mono (A' := Out A w.heap.size (w.heap.size + 1 + 1 + 1)) (fun k hk' => ⟨hk'.1, .inl hk'.2⟩))
  simp only [dkCs, opCs] at HW0
  clear hf hk
  have c2 := HW0.out.dk.c2
  have f2 := HW0.out.dk.free 2
  go_enter Tryz.func23, Tryz.ntmps23
  go_wp2_with (with_reducible refine wpList_store_cellV rfl 3 (.tmp 19) _ rfl w.heap.size 2 (.int .i64 0) (.int .i64 d.fuse) (by kernel_rfl) rfl rfl rfl c2 f2 ?_)
  intro w2 hw2
  have HC2 := Lib.hid (show ChW w (⟨d.files, d.room, 0, d.down, d.steps, d.reads⟩ : Disk) fv o bv kv w2 by rw [hw2.out]; exact ChW.start w (⟨d.files, d.room, 0, d.down, d.steps, d.reads⟩ : Disk) fv o bv kv ⟨[], 0, 0, false, 0, 0⟩ (.slice none 0 0))
  clear hw2 c2 f2 HW0
  have k4 := HC2.out.op.c4
  rcases hgt : decide (0 < o.n) with _ | _
  · have HE := Lib.hid (show doD d o = ((⟨d.files, d.room, 0, d.down, d.steps, d.reads⟩ : Disk), [], 0, 0) by rw [HD0.out, if_neg (by simpa using hgt)])
    clear HD0
    have HC := HC2
    have HP := Lib.hid (HFL.out.below HC.out.below)
    obtain ⟨rd, rv, hr8⟩ := HC.out.res
    have HR8 := Lib.hid hr8
    have HV1 := Lib.hid (show fv.oneCell' = true from HP.out.one)
    clear hr8
    go_wp2_with (first | (with_reducible refine wpList_load_dk rfl (.tmp 2) rfl w.heap.size ((⟨d.files, d.room, 0, d.down, d.steps, d.reads⟩ : Disk)) fv rfl HC.out.dk ?_) | (with_reducible refine wpList_load_op rfl (.tmp 3) rfl (w.heap.size + 1) o bv kv rfl HC.out.op ?_) | (with_reducible refine wpList_store_dk rfl (.tmp 4) (.tmp 26) rfl (w.heap.size + 1 + 1) rd ((⟨d.files, d.room, 0, d.down, d.steps, d.reads⟩ : Disk)) rv fv rfl rfl HR8.out HV1.out ?_))
    intro w9 hw9
    obtain ⟨hd9, hb9, ht9⟩ := HC.out.done hw9.out
    have HP9 := Lib.hid ((HP.out.turned ht9 (fun k hk' => by have := hk'.2; omega)).mono (A' := A) (fun k hk' => hk'.1))
    have HD9 := Lib.hid hd9
    have HB9 := Lib.hid hb9
    clear hw9 hd9 hb9 ht9
    go_wp2
    refine bodyPost_ret (v := .tuple #[dkV ((⟨d.files, d.room, 0, d.down, d.steps, d.reads⟩ : Disk)) fv, .slice none 0 0, .int .i64 (0), .int .i64 (0)]) (results_dk4 rfl _ _ (w.heap.size + 1 + 1) ((⟨d.files, d.room, 0, d.down, d.steps, d.reads⟩ : Disk)) fv _ _ _ rfl rfl rfl rfl HD9.out) rfl ?_
    unfold DoPost
    rw [HE.out]
    exact ⟨fv, rfl, HP9.out, HB9.out⟩
    
  · have HE := Lib.hid (show doD d o = ((⟨d.files, d.room, o.n, d.down, d.steps, d.reads⟩ : Disk), [], 0, 0) by rw [HD0.out, if_pos (by simpa using hgt)])
    clear HD0
    have c2 := HC2.out.dk.c2
    have f2 := HC2.out.dk.free 2
    go_wp2_with (with_reducible refine wpList_store_cellV rfl 3 (.tmp 25) (.tmp 24) rfl w.heap.size 2 (.int .i64 o.n) (.int .i64 0) (by kernel_rfl) rfl rfl rfl c2 f2 ?_)
    intro w3 hw3
    have HC := Lib.hid (show ChW w (⟨d.files, d.room, o.n, d.down, d.steps, d.reads⟩ : Disk) fv o bv kv w3 by rw [hw3.out]; exact HC2.out.set 2 _ rfl)
    clear hw3 c2 f2 HC2
    have HP := Lib.hid (HFL.out.below HC.out.below)
    obtain ⟨rd, rv, hr8⟩ := HC.out.res
    have HR8 := Lib.hid hr8
    have HV1 := Lib.hid (show fv.oneCell' = true from HP.out.one)
    clear hr8
    go_wp2_with (first | (with_reducible refine wpList_load_dk rfl (.tmp 2) rfl w.heap.size ((⟨d.files, d.room, o.n, d.down, d.steps, d.reads⟩ : Disk)) fv rfl HC.out.dk ?_) | (with_reducible refine wpList_load_op rfl (.tmp 3) rfl (w.heap.size + 1) o bv kv rfl HC.out.op ?_) | (with_reducible refine wpList_store_dk rfl (.tmp 4) (.tmp 26) rfl (w.heap.size + 1 + 1) rd ((⟨d.files, d.room, o.n, d.down, d.steps, d.reads⟩ : Disk)) rv fv rfl rfl HR8.out HV1.out ?_))
    intro w9 hw9
    obtain ⟨hd9, hb9, ht9⟩ := HC.out.done hw9.out
    have HP9 := Lib.hid ((HP.out.turned ht9 (fun k hk' => by have := hk'.2; omega)).mono (A' := A) (fun k hk' => hk'.1))
    have HD9 := Lib.hid hd9
    have HB9 := Lib.hid hb9
    clear hw9 hd9 hb9 ht9
    go_wp2
    refine bodyPost_ret (v := .tuple #[dkV ((⟨d.files, d.room, o.n, d.down, d.steps, d.reads⟩ : Disk)) fv, .slice none 0 0, .int .i64 (0), .int .i64 (0)]) (results_dk4 rfl _ _ (w.heap.size + 1 + 1) ((⟨d.files, d.room, o.n, d.down, d.steps, d.reads⟩ : Disk)) fv _ _ _ rfl rfl rfl rfl HD9.out) rfl ?_
    unfold DoPost
    rw [HE.out]
    exact ⟨fv, rfl, HP9.out, HB9.out⟩
    

/-- any call that is told here -/
theorem do_any {A : Nat → Prop} (d : Disk) (fv : Value) (o : DOp) (bv kv : Value) (w : World) (hf : FilesIn A w fv d.files) (hA : ∀ k, w.heap.size ≤ k → A k) (hd : DiskOk d) (hs : d.steps < 4611686018427387904) (hb : BRowIn A w bv o.b) (ho : OpFine o) :
    Calls Tryz.prog 23 #[dkV d fv, opV o bv kv] w (DoPost A d o w) := by
  have h0 := ho.lo
  have h7 := ho.hi
  have h6 := ho.six
  by_cases hbar : barD d o = 0
  · by_cases hk7 : o.k = 7
    · exact do_size d fv o bv kv w hf hd hb ho hk7 hbar
    · have hk : o.k ≤ 5 := by omega
      by_cases hfu : d.fuse = 1
      · by_cases hk1 : o.k = 1
        · exact do_off1 d fv o bv kv w hf hA hd hb ho hk hk1 hbar hfu
        · exact do_off d fv o bv kv w hf hd hb ho hk hk1 hbar hfu
      · exact do_step d fv o bv kv w hf hA hd hs hb ho hk hbar hfu
  · exact do_barred d fv o bv kv w hf hd hb ho hbar

end Go.Proofs.YtlobohpbgghleaaGreatDoor
