import Derived.Test.YtecmpmnidlfgnaaGreatDoorScriptShape
import Derived.Test.YtecmpmnidlfgnaaGreatDoorShelfSort
import Derived.Sort.OwnSorted
namespace Go.Proofs.YtecmpmnidlfgnaaGreatDoor
open Go.RowKit Go.Sort

/-! ## script's Verbs -/

def verbsU : List (List UInt8) := [[115, 121, 110, 99], [114, 111, 116, 97, 116, 101], [115, 110, 97, 112, 115, 104, 111, 116], [99, 111, 109, 112, 97, 99, 116], [99, 108, 111, 115, 101], [108, 105, 115, 116], [97, 117, 100, 105, 116], [118, 105, 101, 119], [101, 114, 114], [111, 114, 100, 101, 114, 115], [100, 105, 115, 107], [108, 111, 97, 100], [114, 101, 112, 108, 97, 121], [102, 117, 115, 101], [111, 112, 101, 110], [99, 114, 97, 115, 104], [97, 112, 112, 101, 110, 100], [112, 117, 116]]
theorem verbs_sorted : verbsU.mergeSort (fun x y => decide (x ≤ y)) = verbsS := by
  refine List.Perm.eq_of_pairwise (le := fun a b => decide (a ≤ b) = true) (fun a b _ _ h1 h2 => ?_) (List.pairwise_mergeSort (fun a b c h1 h2 => ?_) (fun a b => ?_) _) (by decide +kernel) ((List.mergeSort_perm _ _).trans (by decide +kernel))
  · exact List.le_antisymm (of_decide_eq_true h1) (of_decide_eq_true h2)
  · exact decide_eq_true (List.le_trans (of_decide_eq_true h1) (of_decide_eq_true h2))
  · rw [Bool.or_eq_true, decide_eq_true_eq, decide_eq_true_eq]; exact List.le_total a b

theorem verbsS_any (w : World) : Calls Tryz.prog 40 #[] w fun x w' => ∃ v, x = .returned v ∧ w'.ownsRow w.heap.size 9 1 v 18 (strs verbsS) ∧ Below w.heap.size w w' := by
  have hb := heap_alloc_new w (.cells (verbsU.map encStr).toArray 9)
  have HH := Lib.hid (holds_of_block (ss := verbsU) hb rfl)
  have HLT := Lib.hid (Array.getElem?_eq_some_iff.1 hb).1
  have HOWN := fun (n : Nat) (os : Array Obj) => ownsRow_sorted (n := n) (os := os) (base := w.heap.size) (cap := 18) (ss := verbsU) (ts := verbsS) rfl (Nat.le_refl _) hb (Nat.le_refl _) (by decide) rfl
  have HO := Lib.hid HOWN
  have HA := Lib.hid (show Below w.heap.size w (w.alloc (.cells (verbsU.map encStr).toArray 9)) from (Below.refl _ _).alloc (Nat.le_refl _) _)
  clear HOWN hb
  go_enter Tryz.func40, Tryz.ntmps40
  go_wp2_with fail
  refine (Tryz.slices_Sort_string w.heap.size 0 18 verbsU _ HH.out HLT.out (by decide)).mono ?_
  rintro x w1 ⟨rfl, n, os, rfl⟩
  rw [verbs_sorted]
  have HB := Lib.hid (show Below w.heap.size w _ from HA.out.grown (grownBy_sorted (g := w.heap.size) (n := n) (os := os) verbsS.toArray) HA.out.size (fun k e => by cases e; exact Nat.le_refl _))
  go_wp2
  go_ret
  exact ⟨_, rfl, HO.out n os, HB.out⟩

end Go.Proofs.YtecmpmnidlfgnaaGreatDoor
