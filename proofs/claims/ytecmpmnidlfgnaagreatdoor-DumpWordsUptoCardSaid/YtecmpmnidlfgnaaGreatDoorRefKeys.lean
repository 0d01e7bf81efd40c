import Derived.Test.YtecmpmnidlfgnaaGreatDoorEvent
namespace Go.Proofs.YtecmpmnidlfgnaaGreatDoor
open Go.RowKit

/-! ## the reference's Kind, Keys, Get, Set -/

set_option maxHeartbeats 4000000 in
theorem refKind_any (k : Nat) (h : k < 11) (w : World) : Calls Tryz.prog 43 #[.int .i64 (k : Int)] w fun x w' => x = .returned (.string ⟨(kindW.getD k []).toArray⟩) ∧ Below w.heap.size w w' := by
  rcases (show k = 0 ∨ k = 1 ∨ k = 2 ∨ k = 3 ∨ k = 4 ∨ k = 5 ∨ k = 6 ∨ k = 7 ∨ k = 8 ∨ k = 9 ∨ k = 10 by omega) with rfl | rfl | rfl | rfl | rfl | rfl | rfl | rfl | rfl | rfl | rfl
  all_goals
    clear h
    go_enter Tryz.func43, Tryz.ntmps43
    go_wp2
    go_ret
    exact ⟨rfl, (Below.refl _ _).alloc (Nat.le_refl _) _⟩
theorem refKind_int (k : Int) (h0 : 0 ≤ k) (h : k ≤ 10) (w : World) : Calls Tryz.prog 43 #[.int .i64 k] w fun x w' => x = .returned (.string ⟨(kindWord k).toArray⟩) ∧ Below w.heap.size w w' := by
  obtain ⟨n, rfl⟩ := Int.eq_ofNat_of_zero_le h0
  exact refKind_any n (by omega) w

/-- the keys, as strings in a block -/
def KeyStrs (w : World) (b : Nat) : Prop := ∀ k, k < 8 → w.cell? ⟨b, k, none⟩ = some (.string ⟨(keyS k).toArray⟩)
theorem KeyStrs.below {w w' : World} {b : Nat} (h : KeyStrs w b) (hb : Below w.heap.size w w') : KeyStrs w' b := fun k hk => cell_later hb (h k hk)

theorem refKeys_any (w : World) : Calls Tryz.prog 44 #[] w fun x w' => x = .returned (.slice (some ⟨w.heap.size, 0, none⟩) 8 8) ∧ KeyStrs w' w.heap.size ∧ Below w.heap.size w w' := by
  go_enter Tryz.func44, Tryz.ntmps44
  go_wp2
  go_ret
  refine ⟨rfl, fun k hk => ?_, (Below.refl _ _).alloc (Nat.le_refl _) _⟩
  rw [World.cell?_alloc_new]
  match k, hk with
  | 0, _ => rfl
  | 1, _ => rfl
  | 2, _ => rfl
  | 3, _ => rfl
  | 4, _ => rfl
  | 5, _ => rfl
  | 6, _ => rfl
  | 7, _ => rfl

set_option maxHeartbeats 4000000 in
theorem refGet_any (e : Ev) (k : Nat) (h : k < 8) (w : World) : Calls Tryz.prog 45 #[evV e, .int .i64 (k : Int)] w fun x w' => x = .returned (.int .i64 (getKey e k)) ∧ Below w.heap.size w w' := by
  unfold evV
  rcases (show k = 0 ∨ k = 1 ∨ k = 2 ∨ k = 3 ∨ k = 4 ∨ k = 5 ∨ k = 6 ∨ k = 7 by omega) with rfl | rfl | rfl | rfl | rfl | rfl | rfl | rfl
  all_goals
    clear h
    go_enter Tryz.func45, Tryz.ntmps45
    go_wp2
    go_ret
    exact ⟨rfl, ((Below.refl _ _).alloc (Nat.le_refl _) _).alloc (by simp) _⟩

set_option maxHeartbeats 4000000 in
theorem refSet_any (e : Ev) (k : Nat) (h : k < 8) (n : Int) (w : World) : Calls Tryz.prog 56 #[evV e, .int .i64 (k : Int), .int .i64 n] w fun x w' => x = .returned (evV (setKey e k n)) ∧ Below w.heap.size w w' := by
  unfold evV
  rcases (show k = 0 ∨ k = 1 ∨ k = 2 ∨ k = 3 ∨ k = 4 ∨ k = 5 ∨ k = 6 ∨ k = 7 by omega) with rfl | rfl | rfl | rfl | rfl | rfl | rfl | rfl
  · go_enter Tryz.func56, Tryz.ntmps56
    go_wp2
    refine bodyPost_ret (v := evV (setKey e 0 n)) (by simp [results, Tryz.results56, go_sem, setKey]) rfl ⟨rfl, ?_⟩
    exact ((Below.refl _ _).alloc (Nat.le_refl _) _).alloc (by simp) _
  · go_enter Tryz.func56, Tryz.ntmps56
    go_wp2
    refine bodyPost_ret (v := evV (setKey e 1 n)) (by simp [results, Tryz.results56, go_sem, setKey]) rfl ⟨rfl, ?_⟩
    exact ((Below.refl _ _).alloc (Nat.le_refl _) _).alloc (by simp) _
  · go_enter Tryz.func56, Tryz.ntmps56
    go_wp2
    refine bodyPost_ret (v := evV (setKey e 2 n)) (by simp [results, Tryz.results56, go_sem, setKey]) rfl ⟨rfl, ?_⟩
    exact ((Below.refl _ _).alloc (Nat.le_refl _) _).alloc (by simp) _
  · go_enter Tryz.func56, Tryz.ntmps56
    go_wp2
    refine bodyPost_ret (v := evV (setKey e 3 n)) (by simp [results, Tryz.results56, go_sem, setKey]) rfl ⟨rfl, ?_⟩
    exact ((Below.refl _ _).alloc (Nat.le_refl _) _).alloc (by simp) _
  · go_enter Tryz.func56, Tryz.ntmps56
    go_wp2
    refine bodyPost_ret (v := evV (setKey e 4 n)) (by simp [results, Tryz.results56, go_sem, setKey]) rfl ⟨rfl, ?_⟩
    exact ((Below.refl _ _).alloc (Nat.le_refl _) _).alloc (by simp) _
  · go_enter Tryz.func56, Tryz.ntmps56
    go_wp2
    refine bodyPost_ret (v := evV (setKey e 5 n)) (by simp [results, Tryz.results56, go_sem, setKey]) rfl ⟨rfl, ?_⟩
    exact ((Below.refl _ _).alloc (Nat.le_refl _) _).alloc (by simp) _
  · go_enter Tryz.func56, Tryz.ntmps56
    go_wp2
    refine bodyPost_ret (v := evV (setKey e 6 n)) (by simp [results, Tryz.results56, go_sem, setKey]) rfl ⟨rfl, ?_⟩
    exact ((Below.refl _ _).alloc (Nat.le_refl _) _).alloc (by simp) _
  · go_enter Tryz.func56, Tryz.ntmps56
    go_wp2
    refine bodyPost_ret (v := evV (setKey e 7 n)) (by simp [results, Tryz.results56, go_sem, setKey]) rfl ⟨rfl, ?_⟩
    exact ((Below.refl _ _).alloc (Nat.le_refl _) _).alloc (by simp) _

end Go.Proofs.YtecmpmnidlfgnaaGreatDoor
