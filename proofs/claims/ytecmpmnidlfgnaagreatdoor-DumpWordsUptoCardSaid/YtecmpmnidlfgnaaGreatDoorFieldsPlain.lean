import Derived.Test.YtecmpmnidlfgnaaGreatDoorDumpBack
namespace Go.Proofs.YtecmpmnidlfgnaaGreatDoor

theorem fields_nocut {nx : Nat} {e : Ev} {w : List UInt8} {ws : List (List UInt8)} (h : cutAt 61 w = none) : fieldsOf nx e (w :: ws) = (evNone, 100) := by rw [fieldsOf, h]
theorem fields_noteBad {nx : Nat} {e : Ev} {w val : List UInt8} (h : cutAt 61 w = some (noteW, val)) (hb : unhexOf val = none ∨ unhexOf val = some []) : fieldsOf nx e [w] = (evNone, 101) := by
  rw [fieldsOf, h]
  simp only
  rw [if_pos (by simp)]
  rcases hb with hb | hb <;> rw [hb]
  simp
theorem fields_noteOk {nx : Nat} {e : Ev} {w val b : List UInt8} (h : cutAt 61 w = some (noteW, val)) (hb : unhexOf val = some b) (hn : b ≠ []) : fieldsOf nx e [w] = ({ e with note := b }, 0) := by
  rw [fieldsOf, h]
  simp only
  rw [if_pos (by simp), hb]
  simp only
  rw [if_neg hn]
theorem keyIdx_none {nm : List UInt8} (h : ∀ k, k < 8 → keyW.getD k [] ≠ nm) : keyIdx nm = none := by
  cases hk : keyIdx nm with
  | none => rfl
  | some k => obtain ⟨h1, h2⟩ := keyIdx_spec hk; exact absurd h2 (h k h1)
theorem keyW_inj {i j : Nat} (hi : i < 8) (hj : j < 8) (h : keyW.getD i [] = keyW.getD j []) : i = j := by
  have a := keyIdx_at i hi
  have b := keyIdx_at j hj
  rw [h, b] at a
  exact (Option.some.inj a).symm
theorem fields_nokey {nx : Nat} {e : Ev} {w nm val : List UInt8} {ws : List (List UInt8)} (h : cutAt 61 w = some (nm, val)) (hn : ¬ (nm = noteW ∧ ws = [])) (hk : ∀ k, nx ≤ k → k < 8 → keyW.getD k [] ≠ nm) :
    fieldsOf nx e (w :: ws) = (evNone, 100) := by
  rw [fieldsOf, h]
  simp only
  rw [if_neg hn]
  cases hx : keyIdx nm with
  | none => rfl
  | some k =>
    obtain ⟨h1, h2⟩ := keyIdx_spec hx
    simp only
    rw [if_pos]
    exact Nat.lt_of_not_le fun hle => hk k hle h1 h2
theorem fields_keyBad {nx k : Nat} {e : Ev} {w nm val : List UInt8} {ws : List (List UInt8)} (h : cutAt 61 w = some (nm, val)) (hn : ¬ (nm = noteW ∧ ws = [])) (hk : k < 8) (hle : nx ≤ k) (hw : keyW.getD k [] = nm)
    (hb : if k = 6 then val = [] else numberOf val = none ∨ numberOf val = some 0) : fieldsOf nx e (w :: ws) = (evNone, 101) := by
  rw [fieldsOf, h]
  simp only
  rw [if_neg hn, ← hw, keyIdx_at k hk]
  simp only
  rw [if_neg (by omega)]
  split at hb
  · rename_i h6; rw [if_pos h6, if_pos hb]
  · rename_i h6
    rw [if_neg h6]
    rcases hb with hb | hb <;> rw [hb]
    simp
theorem fields_keyOk {nx k : Nat} {e : Ev} {w nm val : List UInt8} {ws : List (List UInt8)} (h : cutAt 61 w = some (nm, val)) (hn : ¬ (nm = noteW ∧ ws = [])) (hk : k < 8) (hle : nx ≤ k) (hw : keyW.getD k [] = nm)
    (hb : if k = 6 then val ≠ [] else ∃ n, numberOf val = some n ∧ n ≠ 0) : fieldsOf nx e (w :: ws) = fieldsOf (k + 1) (if k = 6 then { e with who := val } else setKey e k ((numberOf val).getD 0)) ws := by
  rw [fieldsOf, h]
  simp only
  rw [if_neg hn, ← hw, keyIdx_at k hk]
  simp only
  rw [if_neg (by omega)]
  split at hb
  · rename_i h6
    rw [if_pos h6, if_neg hb, if_pos h6, h6]
  · rename_i h6
    obtain ⟨n, hb, h0⟩ := hb
    rw [if_neg h6, if_neg h6, hb]
    simp only
    rw [if_neg h0]
    rfl

theorem fields_code : ∀ (ws : List (List UInt8)) (nx : Nat) (e : Ev), (fieldsOf nx e ws).2 = 0 ∨ (fieldsOf nx e ws).2 = 100 ∨ (fieldsOf nx e ws).2 = 101
  | [], _, _ => .inl rfl
  | w :: ws, nx, e => by
    rw [fieldsOf]
    split
    · exact .inr (.inl rfl)
    · split
      · split
        · exact .inr (.inr rfl)
        · split
          · exact .inr (.inr rfl)
          · exact .inl rfl
      · split
        · exact .inr (.inl rfl)
        · split
          · exact .inr (.inl rfl)
          · split
            · split
              · exact .inr (.inr rfl)
              · exact fields_code ws _ _
            · split
              · exact .inr (.inr rfl)
              · split
                · exact .inr (.inr rfl)
                · exact fields_code ws _ _

theorem splitOn_part (c : UInt8) : ∀ (s x : List UInt8), x ∈ splitOn c s → x.length ≤ s.length
  | [], x, h => by simp [splitOn] at h; subst h; simp
  | y :: l, x, h => by
    by_cases hy : y = c
    · rw [splitOn, if_pos hy] at h
      rcases List.mem_cons.1 h with rfl | h
      · simp
      · have := splitOn_part c l x h; simp; omega
    · obtain ⟨w, ws, e1, e2⟩ := splitOn_cons_ne hy l
      rw [e2] at h
      rcases List.mem_cons.1 h with rfl | h
      · have := splitOn_part c l w (by rw [e1]; simp); simp; omega
      · have := splitOn_part c l x (by rw [e1]; simp [h]); simp; omega

end Go.Proofs.YtecmpmnidlfgnaaGreatDoor
