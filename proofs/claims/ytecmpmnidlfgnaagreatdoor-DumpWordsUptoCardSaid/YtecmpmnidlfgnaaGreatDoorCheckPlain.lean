import Derived.Test.YtecmpmnidlfgnaaGreatDoorDumpPlain
namespace Go.Proofs.YtecmpmnidlfgnaaGreatDoor

/-! ## the reference's way to check, plain -/

def hasOf (v : Int) : Int := if v = 1 then 5 else if v = 2 then 6 else if v = 3 then 7 else if v = 4 then 8 else 10
def numsL (e : Ev) : List Int := [0, e.kind, e.order, e.item, e.qty, e.price, e.cur, e.tax, 0, e.stamp, 0]
def lowL (v : Int) : List Int := [0, 1, 1, 0, if v < 3 then -10000 else 0, 0, 0, 0, 0, 0, 0]
def highL (v : Int) : List Int := [0, 10, 1099511627776, 65535, 10000, if v = 1 then 1000000 else 100000000, 3, 5000, 0, 1099511627776, 0]
/-- a tag that is not right -/
def tagBad (v : Int) (e : Ev) (k : Nat) : Prop := hasOf v < k ∧ (numsL e).getD k 0 ≠ 0 ∨ (numsL e).getD k 0 < (lowL v).getD k 0 ∨ (highL v).getD k 0 < (numsL e).getD k 0

theorem fits_iff (v : Int) (e : Ev) (h0 : 1 ≤ v) (h1 : v ≤ 5) (hk0 : 1 ≤ e.kind) (hk1 : e.kind ≤ lastKind v) :
    evFits v e = true ↔ (∀ k, 1 ≤ k → k ≤ 10 → ¬ tagBad v e k) ∧ ¬ (v < 4 ∧ e.who ≠ [] ∨ v < 5 ∧ e.note ≠ []) ∧ plainS e.who = true := by
  have hl : lastKind v ≤ 10 := by unfold lastKind; split <;> (try split) <;> (try split) <;> omega
  unfold evFits btw
  simp only [Bool.and_eq_true, decide_eq_true_eq, Bool.or_eq_true, List.isEmpty_iff]
  constructor
  · rintro ⟨⟨⟨⟨⟨⟨⟨⟨h2, h3⟩, h4⟩, h5⟩, h6⟩, h7⟩, h8⟩, h9⟩, h10⟩
    refine ⟨fun k g0 g1 => ?_, ?_, ?_⟩
    · unfold tagBad hasOf
      match k, g0, g1 with
      | 1, _, _ => simp only [numsL, lowL, highL, List.getD_cons_succ, List.getD_cons_zero]; split <;> (try split) <;> (try split) <;> (try split) <;> omega
      | 2, _, _ => simp only [numsL, lowL, highL, List.getD_cons_succ, List.getD_cons_zero]; split <;> (try split) <;> (try split) <;> (try split) <;> omega
      | 3, _, _ => simp only [numsL, lowL, highL, List.getD_cons_succ, List.getD_cons_zero]; split <;> (try split) <;> (try split) <;> (try split) <;> omega
      | 4, _, _ => simp only [numsL, lowL, highL, List.getD_cons_succ, List.getD_cons_zero]; split at h4 <;> rename_i hv <;> simp only [hv, if_true, if_false] <;> (split <;> (try split) <;> (try split) <;> (try split) <;> omega)
      | 5, _, _ => simp only [numsL, lowL, highL, List.getD_cons_succ, List.getD_cons_zero]; split at h5 <;> rename_i hv <;> simp only [hv, if_true, if_false] <;> (try split) <;> (try split) <;> (try split) <;> omega
      | 6, _, _ => simp only [numsL, lowL, highL, List.getD_cons_succ, List.getD_cons_zero]; split at h6 <;> (split <;> (try split) <;> (try split) <;> (try split) <;> omega)
      | 7, _, _ => simp only [numsL, lowL, highL, List.getD_cons_succ, List.getD_cons_zero]; split at h7 <;> (split <;> (try split) <;> (try split) <;> (try split) <;> omega)
      | 8, _, _ => simp only [numsL, lowL, highL, List.getD_cons_succ, List.getD_cons_zero]; omega
      | 9, _, _ => simp only [numsL, lowL, highL, List.getD_cons_succ, List.getD_cons_zero]; split at h9 <;> (split <;> (try split) <;> (try split) <;> (try split) <;> omega)
      | 10, _, _ => simp only [numsL, lowL, highL, List.getD_cons_succ, List.getD_cons_zero]; omega
    · rintro (⟨hv, hw⟩ | ⟨hv, hn⟩)
      · rw [if_pos hv] at h8; exact hw (List.isEmpty_iff.1 h8)
      · rcases h10 with h | h
        · omega
        · exact hn h
    · split at h8
      · rw [List.isEmpty_iff.1 h8]; rfl
      · exact h8
  · rintro ⟨ht, hwn, hp⟩
    have t2 := ht 2 (by omega) (by omega)
    have t3 := ht 3 (by omega) (by omega)
    have t4 := ht 4 (by omega) (by omega)
    have t5 := ht 5 (by omega) (by omega)
    have t6 := ht 6 (by omega) (by omega)
    have t7 := ht 7 (by omega) (by omega)
    have t9 := ht 9 (by omega) (by omega)
    unfold tagBad hasOf at t2 t3 t4 t5 t6 t7 t9
    simp only [numsL, lowL, highL, List.getD_cons_succ, List.getD_cons_zero] at t2 t3 t4 t5 t6 t7 t9
    refine ⟨⟨⟨⟨⟨⟨⟨⟨?_, ?_⟩, ?_⟩, ?_⟩, ?_⟩, ?_⟩, ?_⟩, ?_⟩, ?_⟩
    · omega
    · omega
    · split <;> rename_i hv <;> simp only [hv, if_true, if_false] at t4 <;> omega
    · split <;> rename_i hv <;> simp only [hv, if_true, if_false] at t5 <;> omega
    · split <;> rename_i hv <;> (split at t6 <;> (try split at t6) <;> (try split at t6) <;> (try split at t6) <;> omega)
    · split <;> rename_i hv <;> (split at t7 <;> (try split at t7) <;> (try split at t7) <;> (try split at t7) <;> omega)
    · split
      · rename_i hv
        rw [List.isEmpty_iff]
        exact Classical.byContradiction fun h => hwn (.inl ⟨hv, h⟩)
      · exact hp
    · split <;> rename_i hv <;> (split at t9 <;> (try split at t9) <;> (try split at t9) <;> (try split at t9) <;> omega)
    · by_cases hv : v < 5
      · exact .inr (Classical.byContradiction fun h => hwn (.inr ⟨hv, h⟩))
      · exact .inl (by omega)

end Go.Proofs.YtecmpmnidlfgnaaGreatDoor
