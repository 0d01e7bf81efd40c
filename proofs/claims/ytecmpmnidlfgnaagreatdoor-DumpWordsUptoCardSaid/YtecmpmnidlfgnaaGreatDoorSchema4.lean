import Derived.Test.YtecmpmnidlfgnaaGreatDoorSchema3
import Derived.Test.YtecmpmnidlfgnaaGreatDoorEvEq
namespace Go.Proofs.YtecmpmnidlfgnaaGreatDoor
open Go.RowKit

theorem schemaCheck_version (v : Int) (e : Ev) (w : World) (h : v < 1 ∨ 5 < v) : Calls Tryz.prog 26 #[.int .i64 v, evV e] w (ChkPost (evCheck v e) w) := by
  have hf := Lib.hid (chk30 (e := e) h)
  have hT := Lib.hid (show typedV v e = .nilIface by unfold typedV; rw [if_neg (by omega), if_neg (by omega), if_neg (by omega), if_neg (by omega), if_neg (by omega)])
  have HT := Lib.hid (fun W => hT.out ▸ typed_any v e W)
  clear h
  unfold evV
  go_enter Tryz.func26, Tryz.ntmps26
  go_wp2_with fail
  refine (HT.out _).mono ?_
  rintro x w2 ⟨rfl, hb⟩
  have HB := Lib.hid (Below.next ((Below.refl _ _).alloc (Nat.le_refl _) _) hb)
  clear hb
  go_wp2
  go_ret
  exact ⟨by rw [hf.out]; rfl, HB.out⟩


theorem evCells {w' : World} {b : Nat} {e : Ev} (h : EvAt w' b e) : w'.cell? ⟨b, 0, none⟩ = some (.int .i64 e.kind) ∧ w'.cell? ⟨b, 1, none⟩ = some (.int .i64 e.order) ∧ w'.cell? ⟨b, 2, none⟩ = some (.int .i64 e.item) ∧ w'.cell? ⟨b, 3, none⟩ = some (.int .i64 e.qty) ∧ w'.cell? ⟨b, 4, none⟩ = some (.int .i64 e.price) ∧ w'.cell? ⟨b, 5, none⟩ = some (.int .i64 e.cur) ∧ w'.cell? ⟨b, 6, none⟩ = some (.int .i64 e.tax) ∧ w'.cell? ⟨b, 7, none⟩ = some (.string ⟨e.who.toArray⟩) ∧ w'.cell? ⟨b, 8, none⟩ = some (.int .i64 e.stamp) ∧ w'.cell? ⟨b, 9, none⟩ = some (.string ⟨e.note.toArray⟩) :=
  ⟨h.c0, h.c1, h.c2, h.c3, h.c4, h.c5, h.c6, h.c7, h.c8, h.c9⟩
theorem evFits_1 (e : Ev) : evFits 1 e = (fitsV1 e && evSame (ev1 e) e) := by
  rw [Bool.eq_iff_iff]
  simp only [evFits, fitsV1, coreB, ev1, evSame, btw, Bool.and_eq_true, decide_eq_true_eq, beq_iff_eq, Bool.or_eq_true, List.isEmpty_iff]
  grind
theorem evFits_2 (e : Ev) : evFits 2 e = (fits2 e && evSame (ev2 e) e) := by
  rw [Bool.eq_iff_iff]
  simp only [evFits, fits2, coreB, ev2, evSame, btw, Bool.and_eq_true, decide_eq_true_eq, beq_iff_eq, Bool.or_eq_true, List.isEmpty_iff]
  grind
theorem evFits_3 (e : Ev) : evFits 3 e = (fits3 e && evSame (ev3 e) e) := by
  rw [Bool.eq_iff_iff]
  simp only [evFits, fits3, fits2, coreB, ev3, evSame, btw, Bool.and_eq_true, decide_eq_true_eq, beq_iff_eq, Bool.or_eq_true, List.isEmpty_iff]
  grind
theorem evFits_4 (e : Ev) : evFits 4 e = (fits4 e && evSame (ev4 e) e) := by
  rw [Bool.eq_iff_iff]
  simp only [evFits, fits4, fits3, fits2, coreB, ev4, evSame, btw, Bool.and_eq_true, decide_eq_true_eq, beq_iff_eq, Bool.or_eq_true, List.isEmpty_iff]
  grind
theorem evFits_5 (e : Ev) : evFits 5 e = fits5 e := by
  rw [Bool.eq_iff_iff]
  simp only [evFits, fits5, fits4, fits3, fits2, coreB, btw, Bool.and_eq_true, decide_eq_true_eq, Bool.or_eq_true, List.isEmpty_iff]
  grind

end Go.Proofs.YtecmpmnidlfgnaaGreatDoor
