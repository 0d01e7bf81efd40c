import Derived.Test.YtlobohpbgghleaaDoorDumpPlain
namespace Go.Proofs.YtlobohpbgghleaaDoor

/-! ## the reference's way to check, plain -/

def hasOf (v : Int) : Int := if v = 1 then 5 else if v = 2 then 6 else if v = 3 then 7 else if v = 4 then 8 else 10
def numsL (e : Ev) : List Int := [0, e.kind, e.order, e.item, e.qty, e.price, e.cur, e.tax, 0, e.stamp, 0]
def lowL (v : Int) : List Int := [0, 1, 1, 0, if v < 3 then -10000 else 0, 0, 0, 0, 0, 0, 0]
def highL (v : Int) : List Int := [0, 10, 1099511627776, 65535, 10000, if v = 1 then 1000000 else 100000000, 3, 5000, 0, 1099511627776, 0]
/-- a tag that is not right -/
def tagBad (v : Int) (e : Ev) (k : Nat) : Prop := hasOf v < k ∧ (numsL e).getD k 0 ≠ 0 ∨ (numsL e).getD k 0 < (lowL v).getD k 0 ∨ (highL v).getD k 0 < (numsL e).getD k 0

theorem fits_iff (v : Int) (e : Ev) (h0 : 1 ≤ v) (h1 : v ≤ 5) (hk0 : 1 ≤ e.kind) (hk1 : e.kind ≤ lastKind v) :
    evFits v e = true ↔ (∀ k, 1 ≤ k → k ≤ 10 → ¬ tagBad v e k) ∧ ¬ (v < 4 ∧ e.who ≠ [] ∨ v < 5 ∧ e.note ≠ []) ∧ plainS e.who = true := by
  have hl : lastKind v ≤ 10 := by unfold lastKind; split <;> (try split) <;> (try split) <;> omega
  unfold evFits btw
  simp only [Bool.and_eq_true, decide_eq_true_eq, Bool.or_eq_true, List.isEmpty_iff]
  constructor
  · rintro ⟨⟨⟨⟨⟨⟨⟨⟨h2, h3⟩, h4⟩, h5⟩, h6⟩, h7⟩, h8⟩, h9⟩, h10⟩
    refine ⟨fun k g0 g1 => ?_, ?_, ?_⟩
    · unfold tagBad hasOf
      match k, g0, g1 with
      | 1, _, _ => simp only [numsL, lowL, highL, List.getD_cons_succ, List.getD_cons_zero]; split <;> (try split) <;> (try split) <;> (try split) <;> omega
      | 2, _, _ => simp only [numsL, lowL, highL, List.getD_cons_succ, List.getD_cons_zero]; split <;> (try split) <;> (try split) <;> (try split) <;> omega
      | 3, _, _ => simp only [numsL, lowL, highL, List.getD_cons_succ, List.getD_cons_zero]; split <;> (try split) <;> (try split) <;> (try split) <;> omega
      | 4, _, _ => simp only [numsL, lowL, highL, List.getD_cons_succ, List.getD_cons_zero]; split at h4 <;> rename_i hv <;> simp only [hv, if_true, if_false] <;> (split <;> (try split) <;> (try split) <;> (try split) <;> omega)
      | 5, _, _ => simp only [numsL, lowL, highL, List.getD_cons_succ, List.getD_cons_zero]; split at h5 <;> rename_i hv <;> simp only [hv, if_true, if_false] <;> (try split) <;> (try split) <;> (try split) <;> omega
      | 6, _, _ => simp only [numsL, lowL, highL, List.getD_cons_succ, List.getD_cons_zero]; split at h6 <;> (split <;> (try split) <;> (try split) <;> (try split) <;> omega)
      | 7, _, _ => simp only [numsL, lowL, highL, List.getD_cons_succ, List.getD_cons_zero]; split at h7 <;> (split <;> (try split) <;> (try split) <;> (try split) <;> omega)
      | 8, _, _ => simp only [numsL, lowL, highL, List.getD_cons_succ, List.getD_cons_zero]; omega
      | 9, _, _ => simp only [numsL, lowL, highL, List.getD_cons_succ, List.getD_cons_zero]; split at h9 <;> (split <;> (try split) <;> (try split) <;> (try split) <;> omega)
      | 10, _, _ => simp only [numsL, lowL, highL, List.getD_cons_succ, List.getD_cons_zero]; omega
    · rintro (⟨hv, hw⟩ | ⟨hv, hn⟩)
      · rw [if_pos hv] at h8; exact hw (List.isEmpty_iff.1 h8)
      · rcases h10 with h | h
        · omega
        · exact hn h
    · split at h8
      · rw [List.isEmpty_iff.1 h8]; rfl
      · exact h8
  · rintro ⟨ht, hwn, hp⟩
    have t2 := ht 2 (by omega) (by omega)
    have t3 := ht 3 (by omega) (by omega)
    have t4 := ht 4 (by omega) (by omega)
    have t5 := ht 5 (by omega) (by omega)
    have t6 := ht 6 (by omega) (by omega)
    have t7 := ht 7 (by omega) (by omega)
    have t9 := ht 9 (by omega) (by omega)
    unfold tagBad hasOf at t2 t3 t4 t5 t6 t7 t9
    simp only [numsL, lowL, highL, List.getD_cons_succ, List.getD_cons_zero] at t2 t3 t4 t5 t6 t7 t9
    refine ⟨⟨⟨⟨⟨⟨⟨⟨?_, ?_⟩, ?_⟩, ?_⟩, ?_⟩, ?_⟩, ?_⟩, ?_⟩, ?_⟩
    · omega
    · omega
    · split <;> rename_i hv <;> simp only [hv, if_true, if_false] at t4 <;> omega
    · split <;> rename_i hv <;> simp only [hv, if_true, if_false] at t5 <;> omega
    · split <;> rename_i hv <;> (split at t6 <;> (try split at t6) <;> (try split at t6) <;> (try split at t6) <;> omega)
    · split <;> rename_i hv <;> (split at t7 <;> (try split at t7) <;> (try split at t7) <;> (try split at t7) <;> omega)
    · split
      · rename_i hv
        rw [List.isEmpty_iff]
        exact Classical.byContradiction fun h => hwn (.inl ⟨hv, h⟩)
      · exact hp
    · split <;> rename_i hv <;> (split at t9 <;> (try split at t9) <;> (try split at t9) <;> (try split at t9) <;> omega)
    · by_cases hv : v < 5
      · exact .inr (Classical.byContradiction fun h => hwn (.inr ⟨hv, h⟩))
      · exact .inl (by omega)

end Go.Proofs.YtlobohpbgghleaaDoor

namespace Go.Proofs.YtlobohpbgghleaaDoor

/-! ## there and back, without a program -/

theorem keyIdx_spec {w : List UInt8} {k : Nat} (h : keyIdx w = some k) : k < 8 ∧ keyW.getD k [] = w := by
  unfold keyIdx at h
  obtain ⟨h1, h2, _⟩ := List.findIdx?_eq_some_iff_getElem.1 h
  refine ⟨h1, ?_⟩
  rw [List.getD_eq_getElem?_getD, List.getElem?_eq_getElem h1]
  simpa using h2
theorem keyIdx_at (k : Nat) (h : k < 8) : keyIdx (keyW.getD k []) = some k := by
  match k, h with
  | 0, _ => decide
  | 1, _ => decide
  | 2, _ => decide
  | 3, _ => decide
  | 4, _ => decide
  | 5, _ => decide
  | 6, _ => decide
  | 7, _ => decide
theorem keyW_no61 (k : Nat) (h : k < 8) : (61 : UInt8) ∉ keyW.getD k [] ∧ (32 : UInt8) ∉ keyW.getD k [] ∧ keyW.getD k [] ≠ noteW := by
  match k, h with
  | 0, _ => decide
  | 1, _ => decide
  | 2, _ => decide
  | 3, _ => decide
  | 4, _ => decide
  | 5, _ => decide
  | 6, _ => decide
  | 7, _ => decide
theorem kindIdx_spec {w : List UInt8} (h : kindIdx w ≠ 0) : kindIdx w ≤ 10 ∧ kindWord (kindIdx w) = w := by
  unfold kindIdx at h ⊢
  split at h
  · rename_i k hk
    obtain ⟨h1, h2, _⟩ := List.findIdx?_eq_some_iff_getElem.1 hk
    have h1' : k < 11 := h1
    refine ⟨by omega, ?_⟩
    unfold kindWord
    simp only [Int.toNat_natCast]
    rw [List.getD_eq_getElem?_getD, List.getElem?_eq_getElem h1]
    simpa using h2
  · exact absurd rfl h
theorem kindIdx_at (k : Nat) (h : k < 11) : kindIdx (kindW.getD k []) = k ∧ (32 : UInt8) ∉ kindW.getD k [] := by
  match k, h with
  | 0, _ => decide
  | 1, _ => decide
  | 2, _ => decide
  | 3, _ => decide
  | 4, _ => decide
  | 5, _ => decide
  | 6, _ => decide
  | 7, _ => decide
  | 8, _ => decide
  | 9, _ => decide
  | 10, _ => decide

/-- each word with its blank -/
def blanked (ws : List (List UInt8)) : List UInt8 := (ws.map (32 :: ·)).flatten
theorem joinBy_blanked (w : List UInt8) (ws : List (List UInt8)) : joinBy 32 (w :: ws) = w ++ blanked ws := by
  induction ws generalizing w with
  | nil => simp [joinBy, blanked]
  | cons v ws ih => rw [joinBy, ih v]; simp [blanked]

/-- the parts of the keys from k on -/
def partsFrom (e : Ev) (k : Nat) : Nat → List UInt8
  | 0 => []
  | n + 1 => partOf e k ++ partsFrom e (k + 1) n
theorem partsTo_from (e : Ev) (n : Nat) : ∀ k, partsTo e (k + n) = partsTo e k ++ partsFrom e k n := by
  induction n with
  | zero => intro k; simp [partsFrom]
  | succ n ih => intro k; rw [partsFrom, show k + (n + 1) = (k + 1) + n by omega, ih (k + 1), partsTo, List.append_assoc]
theorem parts_all (e : Ev) : partsTo e 8 = partsFrom e 0 8 := by have := partsTo_from e 8 0; simpa [partsTo] using this

/-- keys and who, from 'next' on, hold nothing -/
def blankFrom (x : Ev) (next : Nat) : Prop := (∀ k, next ≤ k → getKey x k = 0) ∧ (next ≤ 6 → x.who = []) ∧ x.note = []

theorem getKey_set (x : Ev) (k : Nat) (n : Int) (hk : k < 8) (h6 : k ≠ 6) (j : Nat) : getKey (setKey x k n) j = if j = k then n else getKey x j := by
  match k, hk with
  | 0, _ => match j with | 0 => rfl | 1 => rfl | 2 => rfl | 3 => rfl | 4 => rfl | 5 => rfl | 6 => rfl | 7 => rfl | j + 8 => simp [getKey]
  | 1, _ => match j with | 0 => rfl | 1 => rfl | 2 => rfl | 3 => rfl | 4 => rfl | 5 => rfl | 6 => rfl | 7 => rfl | j + 8 => simp [getKey]
  | 2, _ => match j with | 0 => rfl | 1 => rfl | 2 => rfl | 3 => rfl | 4 => rfl | 5 => rfl | 6 => rfl | 7 => rfl | j + 8 => simp [getKey]
  | 3, _ => match j with | 0 => rfl | 1 => rfl | 2 => rfl | 3 => rfl | 4 => rfl | 5 => rfl | 6 => rfl | 7 => rfl | j + 8 => simp [getKey]
  | 4, _ => match j with | 0 => rfl | 1 => rfl | 2 => rfl | 3 => rfl | 4 => rfl | 5 => rfl | 6 => rfl | 7 => rfl | j + 8 => simp [getKey]
  | 5, _ => match j with | 0 => rfl | 1 => rfl | 2 => rfl | 3 => rfl | 4 => rfl | 5 => rfl | 6 => rfl | 7 => rfl | j + 8 => simp [getKey]
  | 6, _ => exact absurd rfl h6
  | 7, _ => match j with | 0 => rfl | 1 => rfl | 2 => rfl | 3 => rfl | 4 => rfl | 5 => rfl | 6 => rfl | 7 => rfl | j + 8 => simp [getKey]
theorem set_who (x : Ev) (k : Nat) (n : Int) : (setKey x k n).who = x.who ∧ (setKey x k n).note = x.note ∧ (setKey x k n).kind = x.kind := by
  unfold setKey; split <;> exact ⟨rfl, rfl, rfl⟩

theorem partOf_blank (e : Ev) (k : Nat) (h : getKey e k = 0) (hw : k = 6 → e.who = []) : partOf e k = [] := by
  unfold partOf
  split
  · rename_i h6; simp [whoPart, hw h6]
  · simp [keyPart, h]

/-- blank parts fall away -/
theorem partsFrom_skip (e : Ev) (k : Nat) : ∀ (m n : Nat), (∀ j, k ≤ j → j < k + m → partOf e j = []) → partsFrom e k (m + n) = partsFrom e (k + m) n
  | 0, n, _ => by simp
  | m + 1, n, h => by
    rw [show m + 1 + n = (m + n) + 1 by omega, partsFrom, h k (Nat.le_refl _) (by omega), List.nil_append]
    have := partsFrom_skip e (k + 1) m n (fun j h1 h2 => h j (by omega) (by omega))
    rw [this]; congr 1; omega

/-- what the words behind the kind said is what would be written -/
theorem fields_back : ∀ (ws : List (List UInt8)) (next : Nat) (x e : Ev), next ≤ 8 → blankFrom x next → fieldsOf next x ws = (e, 0) →
    blanked ws = partsFrom e next (8 - next) ++ notePart e.note ∧ (∀ k, k < next → getKey e k = getKey x k) ∧ (6 < next → e.who = x.who) ∧ e.kind = x.kind
  | [], next, x, e, hn, hb, h => by
    rw [fieldsOf] at h
    injection h with h
    subst h
    refine ⟨?_, fun _ _ => rfl, fun _ => rfl, rfl⟩
    have : partsFrom x next (8 - next) = partsFrom x (next + (8 - next)) 0 := partsFrom_skip x next (8 - next) 0 fun j h1 _ => partOf_blank x j (hb.1 j h1) (fun h6 => hb.2.1 (by omega))
    rw [this, partsFrom, hb.2.2]; rfl
  | w :: ws, next, x, e, hn, hb, h => by
    rw [fieldsOf] at h
    split at h
    · injection h with h1 h2; omega
    · rename_i name val hcut
      obtain ⟨hw, _⟩ := cutAt_some hcut
      split at h
      · rename_i hnote
        obtain ⟨rfl, rfl⟩ := hnote
        split at h
        · injection h with h1 h2; omega
        · rename_i b hbb
          split at h
          · injection h with h1 h2; omega
          · rename_i hb0
            injection h with h1 h2
            subst h1
            refine ⟨?_, fun _ _ => rfl, fun _ => rfl, rfl⟩
            have : partsFrom { x with note := b } next (8 - next) = partsFrom { x with note := b } (next + (8 - next)) 0 :=
              partsFrom_skip _ next (8 - next) 0 fun j h1 _ => partOf_blank _ j (hb.1 j h1) (fun h6 => hb.2.1 (by omega))
            rw [this, partsFrom, List.nil_append]
            simp only [notePart, if_neg hb0, blanked, List.map_cons, List.map_nil, List.flatten_cons, List.flatten_nil, List.append_nil, hw, hex_unhex _ _ hbb]
            rfl
      · split at h
        · injection h with h1 h2; omega
        · rename_i k hk
          obtain ⟨hk8, hkw⟩ := keyIdx_spec hk
          split at h
          · injection h with h1 h2; omega
          · rename_i hkn
            have hkn' : next ≤ k := by omega
            split at h
            · rename_i h6
              subst h6
              split at h
              · injection h with h1 h2; omega
              · rename_i hval
                obtain ⟨g1, g2, g3, g4⟩ := fields_back ws 7 { x with who := val } e (by omega) ⟨fun j hj => hb.1 j (by omega), by omega, hb.2.2⟩ h
                have hwho : e.who = val := g3 (by omega)
                refine ⟨?_, fun j hj => g2 j (by omega), fun hj => by omega, g4⟩
                have hs : partsFrom e next (8 - next) = partsFrom e 6 2 := by
                  have := partsFrom_skip e next (6 - next) 2 fun j h1 h2 => partOf_blank e j (by rw [g2 j (by omega)]; exact hb.1 j h1) (by omega)
                  rw [show 6 - next + 2 = 8 - next by omega, show next + (6 - next) = 6 by omega] at this
                  exact this
                rw [hs, partsFrom]
                simp only [blanked, List.map_cons, List.flatten_cons] at g1 ⊢
                rw [g1]
                have hp : partOf e 6 = 32 :: w := by
                  unfold partOf whoPart
                  rw [if_pos rfl, hwho, if_neg hval, hw, ← hkw]; rfl
                rw [hp]
                simp only [List.append_assoc, List.cons_append]
            · rename_i h6
              split at h
              · injection h with h1 h2; omega
              · rename_i n hnum
                split at h
                · injection h with h1 h2; omega
                · rename_i hn0
                  obtain ⟨hs1, hs2, hs3⟩ := set_who x k n
                  obtain ⟨g1, g2, g3, g4⟩ := fields_back ws (k + 1) (setKey x k n) e (by omega)
                    ⟨fun j hj => by rw [getKey_set x k n hk8 h6, if_neg (by omega)]; exact hb.1 j (by omega), fun hj => by rw [hs1]; exact hb.2.1 (by omega), by rw [hs2]; exact hb.2.2⟩ h
                  have hke : getKey e k = n := by rw [g2 k (by omega), getKey_set x k n hk8 h6, if_pos rfl]
                  refine ⟨?_, fun j hj => by rw [g2 j (by omega), getKey_set x k n hk8 h6, if_neg (by omega)], fun hj => by rw [g3 (by omega), hs1], by rw [g4, hs3]⟩
                  have hs : partsFrom e next (8 - next) = partsFrom e k (8 - k) := by
                    have := partsFrom_skip e next (k - next) (8 - k) fun j h1 h2 => partOf_blank e j (by rw [g2 j (by omega), getKey_set x k n hk8 h6, if_neg (by omega)]; exact hb.1 j h1)
                      (fun hj => by rw [g3 (by omega), hs1]; exact hb.2.1 (by omega))
                    rw [show k - next + (8 - k) = 8 - next by omega, show next + (k - next) = k by omega] at this
                    exact this
                  rw [hs, show 8 - k = (8 - (k + 1)) + 1 by omega, partsFrom]
                  simp only [blanked, List.map_cons, List.flatten_cons] at g1 ⊢
                  rw [g1]
                  have hp : partOf e k = 32 :: w := by
                    unfold partOf keyPart
                    rw [if_neg h6, hke, if_neg hn0, hkw, ((numberOf_iff val n).1 hnum).2, ← hw]
                  rw [hp]
                  simp only [List.append_assoc, List.cons_append]

theorem blank_start (k : Int) : blankFrom { evNone with kind := k } 0 :=
  ⟨fun j _ => by unfold getKey; split <;> rfl, fun _ => rfl, rfl⟩

/-- words that are read are those that are written -/
theorem event_back {v : Int} {s : List UInt8} {e : Ev} (h : eventOf v s = (e, 0)) : evCheck v e = 0 ∧ wordsOf e = s := by
  unfold eventOf at h
  split at h
  · injection h with h1 h2; omega
  · rename_i w ws hs
    split at h
    · injection h with h1 h2; omega
    · rename_i hk
      simp only at h
      split at h
      · rename_i hr
        injection h with h1 h2
        exact absurd h2 hr
      · rename_i hr
        split at h
        · rename_i hc
          injection h with h1 h2
          exact absurd h2 hc
        · rename_i hc
          injection h with h1 h2
          have hf : fieldsOf 0 { evNone with kind := (kindIdx w : Int) } ws = (e, 0) := by
            refine Prod.ext h1 ?_
            simpa using hr
          obtain ⟨g1, g2, g3, g4⟩ := fields_back ws 0 _ e (by omega) (blank_start _) hf
          rw [h1] at hc
          refine ⟨by simpa using hc, ?_⟩
          have hj := join_split 32 s
          rw [hs, joinBy_blanked, g1] at hj
          rw [← hj, wordsOf, parts_all]
          have : kindWord e.kind = w := by rw [g4]; exact (kindIdx_spec hk).2
          rw [this, List.append_assoc]

/-! ### the other way -/

/-- the words of the key k -/
def wordsAt (e : Ev) (k : Nat) : List (List UInt8) :=
  if k = 6 then (if e.who = [] then [] else [keyW.getD 6 [] ++ 61 :: e.who]) else if getKey e k = 0 then [] else [keyW.getD k [] ++ 61 :: Lib.itoa (getKey e k)]
def wordsFrom (e : Ev) (k : Nat) : Nat → List (List UInt8)
  | 0 => []
  | n + 1 => wordsAt e k ++ wordsFrom e (k + 1) n
def noteWords (e : Ev) : List (List UInt8) := if e.note = [] then [] else [noteW ++ 61 :: hexOf e.note]

theorem blanked_append (a b : List (List UInt8)) : blanked (a ++ b) = blanked a ++ blanked b := by simp [blanked]
theorem blanked_at (e : Ev) (k : Nat) : blanked (wordsAt e k) = partOf e k := by
  unfold wordsAt partOf whoPart keyPart blanked
  split
  · split
    · rfl
    · simp [keyW]
  · split <;> simp
theorem blanked_from (e : Ev) (n : Nat) : ∀ k, blanked (wordsFrom e k n) = partsFrom e k n := by
  induction n with
  | zero => intro k; rfl
  | succ n ih => intro k; rw [wordsFrom, partsFrom, blanked_append, blanked_at, ih]
theorem blanked_note (e : Ev) : blanked (noteWords e) = notePart e.note := by
  unfold noteWords notePart blanked
  split
  · rfl
  · simp [noteW]

/-- e's key k, in x -/
def take1 (x e : Ev) (k : Nat) : Ev := if k = 6 then { x with who := e.who } else setKey x k (getKey e k)
def takeTo (x e : Ev) (k : Nat) : Nat → Ev
  | 0 => x
  | n + 1 => takeTo (take1 x e k) e (k + 1) n

theorem getKey_i64 (e : Ev) (he : ∀ k, I64 (getKey e k)) (k : Nat) : numberOf (Lib.itoa (getKey e k)) = some (getKey e k) := (numberOf_iff _ _).2 ⟨he k, rfl⟩

theorem take1_blank {x e : Ev} {k : Nat} (hk : k < 8) (hb : blankFrom x k) : blankFrom (take1 x e k) (k + 1) := by
  unfold take1
  split
  · rename_i h6
    exact ⟨fun j hj => hb.1 j (by omega), fun h => by omega, hb.2.2⟩
  · rename_i h6
    obtain ⟨h1, h2, h3⟩ := set_who x k (getKey e k)
    exact ⟨fun j hj => by rw [getKey_set x k _ hk h6, if_neg (by omega)]; exact hb.1 j (by omega), fun h => by rw [h1]; exact hb.2.1 (by omega), by rw [h2]; exact hb.2.2⟩
theorem set_same (x : Ev) (k : Nat) (h : getKey x k = 0) (h8 : k < 8) (h6 : k ≠ 6) : setKey x k 0 = x := by
  cases x
  match k, h8 with
  | 0, _ => simp [getKey] at h; simp [setKey, h]
  | 1, _ => simp [getKey] at h; simp [setKey, h]
  | 2, _ => simp [getKey] at h; simp [setKey, h]
  | 3, _ => simp [getKey] at h; simp [setKey, h]
  | 4, _ => simp [getKey] at h; simp [setKey, h]
  | 5, _ => simp [getKey] at h; simp [setKey, h]
  | 6, _ => exact absurd rfl h6
  | 7, _ => simp [getKey] at h; simp [setKey, h]

theorem fields_step (x e : Ev) (k next : Nat) (rest : List (List UInt8)) (hk : k < 8) (hn : next ≤ k) (hb : blankFrom x k) (he : ∀ k, I64 (getKey e k)) :
    ∃ next', next' ≤ k + 1 ∧ fieldsOf next x (wordsAt e k ++ rest) = fieldsOf next' (take1 x e k) rest := by
  obtain ⟨k1, k2, k3⟩ := keyW_no61 k hk
  unfold wordsAt take1
  split
  · rename_i h6
    subst h6
    split
    · rename_i hw
      refine ⟨next, by omega, ?_⟩
      rw [hw, ← hb.2.1 (Nat.le_refl _)]; rfl
    · rename_i hw
      refine ⟨7, by omega, ?_⟩
      rw [List.cons_append, fieldsOf, cutAt_mk _ _ k1]
      simp only
      rw [if_neg (fun h => k3 h.1), keyIdx_at 6 hk]
      simp only
      rw [if_neg (by omega), if_pos trivial, if_neg hw]
      rfl
  · rename_i h6
    split
    · rename_i h0
      refine ⟨next, by omega, ?_⟩
      rw [h0, set_same x k (hb.1 k (Nat.le_refl _)) hk h6]; rfl
    · rename_i h0
      refine ⟨k + 1, Nat.le_refl _, ?_⟩
      rw [List.cons_append, fieldsOf, cutAt_mk _ _ k1]
      simp only
      rw [if_neg (fun h => k3 h.1), keyIdx_at k hk]
      simp only
      rw [if_neg (by omega), if_neg h6, getKey_i64 e he k]
      simp only
      rw [if_neg h0]
      rfl

theorem fields_all (e : Ev) (rest : List (List UInt8)) (he : ∀ k, I64 (getKey e k)) : ∀ (n k next : Nat) (x : Ev), k + n = 8 → next ≤ k → blankFrom x k →
    ∃ next', next' ≤ 8 ∧ fieldsOf next x (wordsFrom e k n ++ rest) = fieldsOf next' (takeTo x e k n) rest
  | 0, k, next, x, h, hn, hb => ⟨next, by omega, rfl⟩
  | n + 1, k, next, x, h, hn, hb => by
    obtain ⟨n1, h1, e1⟩ := fields_step x e k next (wordsFrom e (k + 1) n ++ rest) (by omega) hn hb he
    obtain ⟨n2, h2, e2⟩ := fields_all e rest he n (k + 1) n1 (take1 x e k) (by omega) h1 (take1_blank (by omega) hb)
    exact ⟨n2, h2, by rw [wordsFrom, List.append_assoc, e1, e2]; rfl⟩

theorem take_all (e : Ev) : takeTo { evNone with kind := e.kind } e 0 8 = { e with note := [] } := by
  cases e; simp [takeTo, take1, setKey, getKey, evNone]

theorem itoa_chars (n : Int) : ∀ c ∈ Lib.itoa n, c.toNat ≠ 32 ∧ c.toNat ≠ 10 ∧ c.toNat ≠ 61 := by
  intro c hc
  unfold Lib.itoa at hc
  split at hc
  · rcases List.mem_cons.1 hc with rfl | hc
    · decide
    · have := decDigits_digs _ c hc; unfold isDig at this; omega
  · have := decDigits_digs _ c hc; unfold isDig at this; omega
theorem hexOf_chars (l : List UInt8) : ∀ c ∈ hexOf l, c.toNat ≠ 32 ∧ c.toNat ≠ 10 := by
  induction l with
  | nil => simp [hexOf]
  | cons x l ih =>
    have hx1 := x.toNat_lt
    intro c hc
    simp only [hexOf, List.mem_cons] at hc
    rcases hc with rfl | rfl | hc
    · have := hx_toNat (x.toNat / 16) (by omega); split at this <;> omega
    · have := hx_toNat (x.toNat % 16) (by omega); split at this <;> omega
    · exact ih c hc
theorem plainS_chars {s : List UInt8} (h : plainS s = true) : ∀ c ∈ s, c.toNat ≠ 32 ∧ c.toNat ≠ 10 := by
  intro c hc
  have := List.all_eq_true.1 h c hc
  simp only [plainC, Bool.or_eq_true, Bool.and_eq_true, beq_iff_eq, decide_eq_true_eq] at this
  omega

theorem check0 {v : Int} {e : Ev} (h : evCheck v e = 0) : 1 ≤ v ∧ v ≤ 5 ∧ 1 ≤ e.kind ∧ e.kind ≤ lastKind v ∧ e.kind ≤ 10 ∧ evFits v e = true ∧ e.who.length ≤ 16 ∧ e.note.length ≤ 120 := by
  unfold evCheck at h
  split at h
  · omega
  · split at h
    · omega
    · split at h
      · omega
      · split at h
        · rename_i h1 h2 h3 h4
          refine ⟨by omega, by omega, by omega, by omega, ?_, h4, by omega, by omega⟩
          have : lastKind v ≤ 10 := by unfold lastKind; split <;> (try split) <;> (try split) <;> omega
          omega
        · omega

theorem fits_i64 {v : Int} {e : Ev} (h : evFits v e = true) : (∀ k, I64 (getKey e k)) ∧ plainS e.who = true ∧ (1 ≤ e.order ∧ e.order ≤ 1099511627776) := by
  unfold evFits at h
  simp only [Bool.and_eq_true] at h
  obtain ⟨⟨⟨⟨⟨⟨⟨⟨h1, h2⟩, h3⟩, h4⟩, h5⟩, h6⟩, h7⟩, h8⟩, h9⟩ := h
  simp only [btw, Bool.and_eq_true, decide_eq_true_eq] at h1 h2 h3 h4 h5 h6 h8
  refine ⟨fun k => ?_, ?_, h1⟩
  · unfold getKey I64
    split
    · omega
    · omega
    · split at h3 <;> omega
    · split at h4 <;> omega
    · split at h5 <;> omega
    · split at h6 <;> omega
    · split at h8 <;> omega
    · omega
  · split at h7
    · rw [List.isEmpty_iff.1 h7]; rfl
    · exact h7

/-- the words of an event, none with a blank or a line's end -/
theorem words_chars {v : Int} {e : Ev} (h : evCheck v e = 0) : (∀ w ∈ kindWord e.kind :: (wordsFrom e 0 8 ++ noteWords e), ∀ c ∈ w, c.toNat ≠ 32 ∧ c.toNat ≠ 10) := by
  obtain ⟨_, _, k1, _, k2, hf, _, _⟩ := check0 h
  obtain ⟨_, hp, _⟩ := fits_i64 hf
  have hk : ∀ k, ∀ c ∈ keyW.getD k [], c.toNat ≠ 32 ∧ c.toNat ≠ 10 := by
    intro k
    match k with
    | 0 => decide
    | 1 => decide
    | 2 => decide
    | 3 => decide
    | 4 => decide
    | 5 => decide
    | 6 => decide
    | 7 => decide
    | k + 8 => intro c hc; simp [keyW] at hc
  have hat : ∀ k, ∀ w ∈ wordsAt e k, ∀ c ∈ w, c.toNat ≠ 32 ∧ c.toNat ≠ 10 := by
    intro k w hw c hc
    unfold wordsAt at hw
    split at hw
    · split at hw
      · cases hw
      · obtain rfl := List.mem_singleton.1 hw
        rcases List.mem_append.1 hc with hc | hc
        · exact hk 6 c hc
        · rcases List.mem_cons.1 hc with rfl | hc
          · decide
          · exact plainS_chars hp c hc
    · split at hw
      · cases hw
      · obtain rfl := List.mem_singleton.1 hw
        rcases List.mem_append.1 hc with hc | hc
        · exact hk k c hc
        · rcases List.mem_cons.1 hc with rfl | hc
          · decide
          · have := itoa_chars _ c hc; omega
  have hfr : ∀ n k, ∀ w ∈ wordsFrom e k n, ∀ c ∈ w, c.toNat ≠ 32 ∧ c.toNat ≠ 10 := by
    intro n
    induction n with
    | zero => intro k w hw; cases hw
    | succ n ih =>
      intro k w hw
      rcases List.mem_append.1 hw with hw | hw
      · exact hat k w hw
      · exact ih (k + 1) w hw
  intro w hw c hc
  rcases List.mem_cons.1 hw with rfl | hw
  · have : ∀ k, k < 11 → ∀ c ∈ kindW.getD k [], c.toNat ≠ 32 ∧ c.toNat ≠ 10 := by
      intro k hk
      match k, hk with
      | 0, _ => decide
      | 1, _ => decide
      | 2, _ => decide
      | 3, _ => decide
      | 4, _ => decide
      | 5, _ => decide
      | 6, _ => decide
      | 7, _ => decide
      | 8, _ => decide
      | 9, _ => decide
      | 10, _ => decide
    exact this e.kind.toNat (by omega) c hc
  · rcases List.mem_append.1 hw with hw | hw
    · exact hfr 8 0 w hw c hc
    · unfold noteWords at hw
      split at hw
      · cases hw
      · obtain rfl := List.mem_singleton.1 hw
        rcases List.mem_append.1 hc with hc | hc
        · have : ∀ c ∈ noteW, c.toNat ≠ 32 ∧ c.toNat ≠ 10 := by decide
          exact this c hc
        · rcases List.mem_cons.1 hc with rfl | hc
          · decide
          · exact hexOf_chars _ c hc

theorem wordsOf_join (e : Ev) : wordsOf e = joinBy 32 (kindWord e.kind :: (wordsFrom e 0 8 ++ noteWords e)) := by
  rw [joinBy_blanked, blanked_append, blanked_from, blanked_note, wordsOf, parts_all, List.append_assoc]

/-- what is written is read -/
theorem event_there {v : Int} {e : Ev} (h : evCheck v e = 0) : eventOf v (wordsOf e) = (e, 0) := by
  obtain ⟨_, _, k1, _, k2, hf, _, _⟩ := check0 h
  obtain ⟨hi, _, _⟩ := fits_i64 hf
  have hsp : splitOn 32 (wordsOf e) = kindWord e.kind :: (wordsFrom e 0 8 ++ noteWords e) := by
    rw [wordsOf_join]
    refine split_join _ (by simp) fun w hw hm => (words_chars h w hw 32 hm).1 rfl
  unfold eventOf
  rw [hsp]
  simp only
  have hkx : kindIdx (kindWord e.kind) = e.kind.toNat := (kindIdx_at e.kind.toNat (by omega)).1
  rw [hkx, if_neg (by omega), show ((e.kind.toNat : Nat) : Int) = e.kind by omega]
  obtain ⟨n', hn', hfl⟩ := fields_all e (noteWords e) hi 8 0 0 { evNone with kind := e.kind } rfl (Nat.le_refl _) (blank_start _)
  rw [hfl, take_all]
  have hlast : fieldsOf n' { e with note := [] } (noteWords e) = (e, 0) := by
    unfold noteWords
    split
    · rename_i hn
      rw [fieldsOf]
      cases e; simp at hn; simp [hn]
    · rename_i hn
      rw [fieldsOf, cutAt_mk _ _ (by decide)]
      simp only
      rw [if_pos (by simp), unhex_hex]
      simp only
      rw [if_neg hn]
  rw [hlast]
  simp [h]

/-! ### lines and texts -/

theorem wordsOf_chars {v : Int} {e : Ev} (h : evCheck v e = 0) : (10 : UInt8) ∉ wordsOf e := by
  rw [wordsOf_join]
  have key : ∀ ws : List (List UInt8), (∀ w ∈ ws, ∀ c ∈ w, c.toNat ≠ 32 ∧ c.toNat ≠ 10) → (10 : UInt8) ∉ joinBy 32 ws := by
    intro ws
    induction ws with
    | nil => intro _ h; cases h
    | cons w ws ih =>
      intro hw
      cases ws with
      | nil => intro hm; exact (hw w (by simp) 10 hm).2 rfl
      | cons v ws =>
        intro hm
        rw [joinBy] at hm
        rcases List.mem_append.1 hm with hm | hm
        · exact (hw w (by simp) 10 hm).2 rfl
        · rcases List.mem_cons.1 hm with hm | hm
          · exact absurd hm (by decide)
          · exact ih (fun x hx => hw x (List.mem_cons_of_mem _ hx)) hm
  exact key _ (words_chars h)

theorem line_ok {n : Int} {e : Ev} (h : (lineOf n e).2 = 0) : 1 ≤ n ∧ n ≤ 1099511627776 ∧ evCheck 5 e = 0 ∧ (lineOf n e).1 = Lib.itoa n ++ 32 :: wordsOf e := by
  unfold lineOf at h ⊢
  split at h
  · simp at h
  · split at h
    · rename_i h1 h2; exact absurd h h2
    · rename_i h1 h2
      rw [if_neg h1, if_neg h2]
      exact ⟨by omega, by omega, by simpa using h2, rfl⟩
theorem itoa_no32 (n : Int) : (32 : UInt8) ∉ Lib.itoa n := fun h => (itoa_chars n 32 h).1 rfl
theorem record_there {n : Int} {e : Ev} (h : (lineOf n e).2 = 0) : recordOf (lineOf n e).1 = ((n, e), 0) := by
  obtain ⟨h1, h2, h3, h4⟩ := line_ok h
  rw [h4]
  unfold recordOf
  rw [cutAt_mk _ _ (itoa_no32 n)]
  simp only
  rw [(numberOf_iff _ n).2 ⟨⟨by omega, by omega⟩, rfl⟩]
  simp only
  rw [if_neg (by omega), event_there h3]
  simp
theorem record_back {s : List UInt8} {r : Int × Ev} (h : recordOf s = (r, 0)) : lineOf r.1 r.2 = (s, 0) := by
  unfold recordOf at h
  split at h
  · injection h with h1 h2; omega
  · rename_i a b hc
    obtain ⟨hs, _⟩ := cutAt_some hc
    split at h
    · injection h with h1 h2; omega
    · rename_i n hn
      split at h
      · injection h with h1 h2; omega
      · rename_i hb
        split at h
        · rename_i h0
          injection h with h1 h2
          exact absurd h2 h0
        · rename_i h0
          injection h with h1 h2
          subst h1
          have he : eventOf 5 b = ((eventOf 5 b).1, 0) := Prod.ext rfl (by simpa using h0)
          obtain ⟨g1, g2⟩ := event_back he
          unfold lineOf
          simp only
          rw [if_neg hb, if_neg (by rw [g1]; simp), g2, ((numberOf_iff a n).1 hn).2, hs]
theorem line_no10 {n : Int} {e : Ev} (h : (lineOf n e).2 = 0) : (10 : UInt8) ∉ (lineOf n e).1 := by
  obtain ⟨h1, h2, h3, h4⟩ := line_ok h
  rw [h4]
  intro hm
  rcases List.mem_append.1 hm with hm | hm
  · exact (itoa_chars n 10 hm).2.1 rfl
  · rcases List.mem_cons.1 hm with hm | hm
    · exact absurd hm (by decide)
    · exact wordsOf_chars h3 hm

theorem read_there : ∀ (rs : List (Int × Ev)) (n : Int), (textOf rs).2 = 0 → linesOf n (splitOn 10 (textOf rs).1) = (rs, 0, 0)
  | [], n, _ => rfl
  | r :: rs, n, h => by
    rw [textOf] at h ⊢
    split at h
    · rename_i h0; exact absurd h h0
    · rename_i h0
      split at h
      · rename_i h1; exact absurd h h1
      · rename_i h1
        rw [if_neg h0, if_neg h1]
        simp only
        have h0' : (lineOf r.1 r.2).2 = 0 := by simpa using h0
        have h1' : (textOf rs).2 = 0 := by simpa using h1
        rw [splitOn_mk _ _ (line_no10 h0')]
        have ih := read_there rs (n + 1) h1'
        cases hs : splitOn 10 (textOf rs).1 with
        | nil => exact absurd hs (splitOn_ne _ _)
        | cons w ws =>
          rw [hs] at ih
          rw [linesOf, record_there h0', ih]
          simp

theorem lines_back : ∀ (ws : List (List UInt8)) (n : Int) (rs : List (Int × Ev)) (m : Int), 0 < n → ws ≠ [] → linesOf n ws = (rs, m, 0) → textOf rs = (joinBy 10 ws, 0) ∧ m = 0
  | [], n, rs, m, _, h, _ => absurd rfl h
  | [w], n, rs, m, _, _, h => by
    rw [linesOf] at h
    split at h
    · rename_i hw
      injection h with h1 h2
      injection h2 with h2 h3
      subst h1
      exact ⟨by rw [hw]; rfl, h2.symm⟩
    · injection h with h1 h2
      injection h2 with h2 h3
      omega
  | w :: v :: ws, n, rs, m, hn, _, h => by
    rw [linesOf] at h
    split at h
    · rename_i h0
      injection h with h1 h2
      injection h2 with h2 h3
      exact absurd h3 h0
    · rename_i h0
      split at h
      · rename_i h3
        injection h with h1 h2
        rw [h2] at h3
        exact absurd rfl h3
      · rename_i h3
        injection h with h1 h2
        injection h2 with h2 h4
        have h3' : (linesOf (n + 1) (v :: ws)).2.2 = 0 := by simpa using h3
        have hl : linesOf (n + 1) (v :: ws) = ((linesOf (n + 1) (v :: ws)).1, (linesOf (n + 1) (v :: ws)).2.1, 0) := Prod.ext rfl (Prod.ext rfl h3')
        obtain ⟨ih, _⟩ := lines_back (v :: ws) (n + 1) _ _ (by omega) (by simp) hl
        have hr : recordOf w = ((recordOf w).1, 0) := Prod.ext rfl (by simpa using h0)
        have hb := record_back hr
        subst h1
        refine ⟨?_, h2.symm⟩
        rw [textOf, hb, ih]
        simp [joinBy]
theorem read_back {s : List UInt8} {rs : List (Int × Ev)} {m : Int} (h : readOf s = (rs, m, 0)) : textOf rs = (s, 0) ∧ m = 0 := by
  have := lines_back (splitOn 10 s) 1 rs m (by omega) (splitOn_ne _ _) h
  rw [join_split] at this
  exact this
theorem lines_bad : ∀ (ws : List (List UInt8)) (n : Int), 0 < n → (linesOf n ws).2.2 ≠ 0 → (linesOf n ws).1 = [] ∧ 0 < (linesOf n ws).2.1
  | [], n, _, h => absurd rfl h
  | [w], n, hn, h => by
    rw [linesOf] at h ⊢
    split at h
    · exact absurd rfl h
    · rename_i hw
      rw [if_neg hw]; exact ⟨rfl, hn⟩
  | w :: v :: ws, n, hn, h => by
    rw [linesOf] at h ⊢
    split at h
    · rename_i h0
      rw [if_pos h0]; exact ⟨rfl, hn⟩
    · rename_i h0
      rw [if_neg h0]
      split at h
      · rename_i h1
        rw [if_pos h1]
        exact ⟨rfl, (lines_bad (v :: ws) (n + 1) (by omega) h1).2⟩
      · exact absurd rfl h

end Go.Proofs.YtlobohpbgghleaaDoor

namespace Go.Proofs.YtlobohpbgghleaaDoor

theorem fields_nocut {nx : Nat} {e : Ev} {w : List UInt8} {ws : List (List UInt8)} (h : cutAt 61 w = none) : fieldsOf nx e (w :: ws) = (evNone, 100) := by rw [fieldsOf, h]
theorem fields_noteBad {nx : Nat} {e : Ev} {w val : List UInt8} (h : cutAt 61 w = some (noteW, val)) (hb : unhexOf val = none ∨ unhexOf val = some []) : fieldsOf nx e [w] = (evNone, 101) := by
  rw [fieldsOf, h]
  simp only
  rw [if_pos (by simp)]
  rcases hb with hb | hb <;> rw [hb]
  simp
theorem fields_noteOk {nx : Nat} {e : Ev} {w val b : List UInt8} (h : cutAt 61 w = some (noteW, val)) (hb : unhexOf val = some b) (hn : b ≠ []) : fieldsOf nx e [w] = ({ e with note := b }, 0) := by
  rw [fieldsOf, h]
  simp only
  rw [if_pos (by simp), hb]
  simp only
  rw [if_neg hn]
theorem keyIdx_none {nm : List UInt8} (h : ∀ k, k < 8 → keyW.getD k [] ≠ nm) : keyIdx nm = none := by
  cases hk : keyIdx nm with
  | none => rfl
  | some k => obtain ⟨h1, h2⟩ := keyIdx_spec hk; exact absurd h2 (h k h1)
theorem keyW_inj {i j : Nat} (hi : i < 8) (hj : j < 8) (h : keyW.getD i [] = keyW.getD j []) : i = j := by
  have a := keyIdx_at i hi
  have b := keyIdx_at j hj
  rw [h, b] at a
  exact (Option.some.inj a).symm
theorem fields_nokey {nx : Nat} {e : Ev} {w nm val : List UInt8} {ws : List (List UInt8)} (h : cutAt 61 w = some (nm, val)) (hn : ¬ (nm = noteW ∧ ws = [])) (hk : ∀ k, nx ≤ k → k < 8 → keyW.getD k [] ≠ nm) :
    fieldsOf nx e (w :: ws) = (evNone, 100) := by
  rw [fieldsOf, h]
  simp only
  rw [if_neg hn]
  cases hx : keyIdx nm with
  | none => rfl
  | some k =>
    obtain ⟨h1, h2⟩ := keyIdx_spec hx
    simp only
    rw [if_pos]
    exact Nat.lt_of_not_le fun hle => hk k hle h1 h2
theorem fields_keyBad {nx k : Nat} {e : Ev} {w nm val : List UInt8} {ws : List (List UInt8)} (h : cutAt 61 w = some (nm, val)) (hn : ¬ (nm = noteW ∧ ws = [])) (hk : k < 8) (hle : nx ≤ k) (hw : keyW.getD k [] = nm)
    (hb : if k = 6 then val = [] else numberOf val = none ∨ numberOf val = some 0) : fieldsOf nx e (w :: ws) = (evNone, 101) := by
  rw [fieldsOf, h]
  simp only
  rw [if_neg hn, ← hw, keyIdx_at k hk]
  simp only
  rw [if_neg (by omega)]
  split at hb
  · rename_i h6; rw [if_pos h6, if_pos hb]
  · rename_i h6
    rw [if_neg h6]
    rcases hb with hb | hb <;> rw [hb]
    simp
theorem fields_keyOk {nx k : Nat} {e : Ev} {w nm val : List UInt8} {ws : List (List UInt8)} (h : cutAt 61 w = some (nm, val)) (hn : ¬ (nm = noteW ∧ ws = [])) (hk : k < 8) (hle : nx ≤ k) (hw : keyW.getD k [] = nm)
    (hb : if k = 6 then val ≠ [] else ∃ n, numberOf val = some n ∧ n ≠ 0) : fieldsOf nx e (w :: ws) = fieldsOf (k + 1) (if k = 6 then { e with who := val } else setKey e k ((numberOf val).getD 0)) ws := by
  rw [fieldsOf, h]
  simp only
  rw [if_neg hn, ← hw, keyIdx_at k hk]
  simp only
  rw [if_neg (by omega)]
  split at hb
  · rename_i h6
    rw [if_pos h6, if_neg hb, if_pos h6, h6]
  · rename_i h6
    obtain ⟨n, hb, h0⟩ := hb
    rw [if_neg h6, if_neg h6, hb]
    simp only
    rw [if_neg h0]
    rfl

theorem fields_code : ∀ (ws : List (List UInt8)) (nx : Nat) (e : Ev), (fieldsOf nx e ws).2 = 0 ∨ (fieldsOf nx e ws).2 = 100 ∨ (fieldsOf nx e ws).2 = 101
  | [], _, _ => .inl rfl
  | w :: ws, nx, e => by
    rw [fieldsOf]
    split
    · exact .inr (.inl rfl)
    · split
      · split
        · exact .inr (.inr rfl)
        · split
          · exact .inr (.inr rfl)
          · exact .inl rfl
      · split
        · exact .inr (.inl rfl)
        · split
          · exact .inr (.inl rfl)
          · split
            · split
              · exact .inr (.inr rfl)
              · exact fields_code ws _ _
            · split
              · exact .inr (.inr rfl)
              · split
                · exact .inr (.inr rfl)
                · exact fields_code ws _ _

theorem splitOn_part (c : UInt8) : ∀ (s x : List UInt8), x ∈ splitOn c s → x.length ≤ s.length
  | [], x, h => by simp [splitOn] at h; subst h; simp
  | y :: l, x, h => by
    by_cases hy : y = c
    · rw [splitOn, if_pos hy] at h
      rcases List.mem_cons.1 h with rfl | h
      · simp
      · have := splitOn_part c l x h; simp; omega
    · obtain ⟨w, ws, e1, e2⟩ := splitOn_cons_ne hy l
      rw [e2] at h
      rcases List.mem_cons.1 h with rfl | h
      · have := splitOn_part c l w (by rw [e1]; simp); simp; omega
      · have := splitOn_part c l x (by rw [e1]; simp [h]); simp; omega

end Go.Proofs.YtlobohpbgghleaaDoor
