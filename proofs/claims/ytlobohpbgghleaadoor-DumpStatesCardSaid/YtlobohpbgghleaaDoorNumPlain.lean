import Derived.Lib.ItoaNum
import Derived.Lib.AtoiAll
namespace Go.Proofs.YtlobohpbgghleaaDoor

/-! ## numbers, as they are written -/

def I64 (n : Int) : Prop := -9223372036854775808 ≤ n ∧ n ≤ 9223372036854775807
def isDig (c : UInt8) : Prop := 48 ≤ c.toNat ∧ c.toNat ≤ 57
instance (c : UInt8) : Decidable (isDig c) := by unfold isDig; infer_instance
def dval (l : List UInt8) : Nat := l.foldl (fun a c => 10 * a + (c.toNat - 48)) 0

theorem dval_snoc (l : List UInt8) (c : UInt8) : dval (l ++ [c]) = 10 * dval l + (c.toNat - 48) := by simp [dval]

theorem dig_toNat (d : Nat) (h : d < 10) : (UInt8.ofNat (48 + d)).toNat = 48 + d := by
  rw [UInt8.toNat_ofNat']; omega
theorem dig_ofNat (c : UInt8) (h : isDig c) : UInt8.ofNat (48 + (c.toNat - 48)) = c := by
  obtain ⟨h1, h2⟩ := h
  rw [show 48 + (c.toNat - 48) = c.toNat by omega]
  exact UInt8.ofNat_toNat

theorem decDigits_big {u : Nat} (h : ¬ u < 10) : Lib.decDigits u = Lib.decDigits (u / 10) ++ [UInt8.ofNat (48 + u % 10)] := by rw [Lib.decDigits, dif_neg h]

theorem dval_decDigits (u : Nat) : dval (Lib.decDigits u) = u := by
  induction u using Nat.strongRecOn with
  | _ u ih =>
    by_cases h : u < 10
    · rw [Lib.decDigits_one h]
      simp [dval]; omega
    · rw [decDigits_big h, dval_snoc, ih _ (by omega), dig_toNat _ (by omega)]; omega

theorem decDigits_ne (u : Nat) : Lib.decDigits u ≠ [] := by
  rw [Lib.decDigits]; split <;> simp

theorem decDigits_digs (u : Nat) : ∀ c ∈ Lib.decDigits u, isDig c := by
  induction u using Nat.strongRecOn with
  | _ u ih =>
    by_cases h : u < 10
    · rw [Lib.decDigits_one h]
      intro c hc
      obtain rfl := List.mem_singleton.1 hc
      unfold isDig; rw [dig_toNat _ h]; omega
    · rw [decDigits_big h]
      intro c hc
      rcases List.mem_append.1 hc with hc | hc
      · exact ih _ (by omega) c hc
      · obtain rfl := List.mem_singleton.1 hc
        unfold isDig; rw [dig_toNat _ (by omega)]; omega

/-- the first digit is no 0, but of 0 itself -/
theorem decDigits_head (u : Nat) (h : u ≠ 0) : ∃ c r, Lib.decDigits u = c :: r ∧ c.toNat ≠ 48 := by
  induction u using Nat.strongRecOn with
  | _ u ih =>
    by_cases hu : u < 10
    · exact ⟨_, [], Lib.decDigits_one hu, by rw [dig_toNat _ hu]; omega⟩
    · obtain ⟨c, r, e, hc⟩ := ih (u / 10) (by omega) (by omega)
      exact ⟨c, r ++ [UInt8.ofNat (48 + u % 10)], by rw [decDigits_big hu, e]; rfl, hc⟩

theorem decDigits_inj {u v : Nat} (h : Lib.decDigits u = Lib.decDigits v) : u = v := by
  rw [← dval_decDigits u, ← dval_decDigits v, h]

theorem itoa_inj {m n : Int} (h : Lib.itoa m = Lib.itoa n) : m = n := by
  unfold Lib.itoa at h
  split at h <;> split at h
  · simp at h; have := decDigits_inj h; omega
  · have hd := decDigits_digs n.toNat 45 (by rw [← h]; simp)
    unfold isDig at hd; simp at hd
  · have hd := decDigits_digs m.toNat 45 (by rw [h]; simp)
    unfold isDig at hd; simp at hd
  · have := decDigits_inj h; omega

theorem snoc_ind' {α : Type} {P : List α → Prop} (h0 : P []) (h1 : ∀ l a, P l → P (l ++ [a])) (l : List α) : P l := by
  have key : ∀ m : List α, P m.reverse := fun m => by
    induction m with
    | nil => exact h0
    | cons a m ih => rw [List.reverse_cons]; exact h1 _ _ ih
  have := key l.reverse
  rwa [List.reverse_reverse] at this

/-- digits without a needless 0 ahead are the numeral of their value -/
theorem decDigits_dval (l : List UInt8) : (∀ c ∈ l, isDig c) → l ≠ [] → (l.length = 1 ∨ ∃ c r, l = c :: r ∧ c.toNat ≠ 48) → Lib.decDigits (dval l) = l := by
  induction l using snoc_ind' with
  | h0 => intro _ h; exact absurd rfl h
  | h1 l a ih =>
    intro hd _ hh
    have ha : isDig a := hd a (by simp)
    have ha' := ha
    unfold isDig at ha'
    rw [dval_snoc]
    cases l with
    | nil =>
      rw [show 10 * dval [] + (a.toNat - 48) = a.toNat - 48 by simp [dval], Lib.decDigits_one (by omega), dig_ofNat a ha]; rfl
    | cons c r =>
      rcases hh with hh | ⟨c', r', e, hc⟩
      · simp at hh
      · simp at e
        obtain ⟨rfl, rfl⟩ := e
        have h1 := ih (fun x hx => hd x (List.mem_append_left _ hx)) (by simp) (.inr ⟨c, r, rfl, hc⟩)
        have hpos : dval (c :: r) ≠ 0 := by
          intro h0
          rw [h0] at h1
          have := decDigits_digs 0
          rw [Lib.decDigits_one (by decide)] at h1
          simp at h1
          apply hc
          rw [← h1.1]; rfl
        rw [decDigits_big (by omega), show (10 * dval (c :: r) + (a.toNat - 48)) / 10 = dval (c :: r) by omega, h1,
          show (10 * dval (c :: r) + (a.toNat - 48)) % 10 = a.toNat - 48 by omega, dig_ofNat a ha]

/-! ## parseUint10 -/

theorem pu_snoc (l : List UInt8) (c : UInt8) : ∀ acc, Lib.parseUint10 acc (l ++ [c]) = match Lib.parseUint10 acc l with | .ok a => Lib.parseUint10 a [c] | .syntax => .syntax | .range => .range := by
  induction l with
  | nil => intro acc; simp [Lib.parseUint10]
  | cons x l ih =>
    intro acc
    simp only [List.cons_append]
    rw [Lib.parseUint10]
    conv => rhs; rw [Lib.parseUint10]
    by_cases h : 48 ≤ x.toNat ∧ x.toNat ≤ 57
    · rw [if_pos h, if_pos h]
      by_cases h2 : 1844674407370955162 ≤ acc
      · rw [if_pos h2, if_pos h2]
      · rw [if_neg h2, if_neg h2]
        by_cases h3 : 18446744073709551616 ≤ acc * 10 + (x.toNat - 48)
        · rw [if_pos h3, if_pos h3]
        · rw [if_neg h3, if_neg h3]; exact ih _
    · rw [if_neg h, if_neg h]

theorem pu_digits (u : Nat) (h : u < 18446744073709551616) : Lib.parseUint10 0 (Lib.decDigits u) = .ok u := by
  induction u using Nat.strongRecOn with
  | _ u ih =>
    by_cases hu : u < 10
    · rw [Lib.decDigits_one hu]
      have h1 := dig_toNat u hu
      simp only [Lib.parseUint10]
      rw [if_pos (by rw [h1]; omega), if_neg (by omega), if_neg (by rw [h1]; omega), h1]
      congr 1; omega
    · rw [decDigits_big hu, pu_snoc, ih (u / 10) (by omega) (by omega)]
      have h1 := dig_toNat (u % 10) (by omega)
      simp only [Lib.parseUint10]
      rw [if_pos (by rw [h1]; omega), if_neg (by omega), if_neg (by rw [h1]; omega), h1]
      congr 1; omega

theorem atoi_itoa (n : Int) (h : I64 n) : Lib.atoiAll (Lib.itoa n) = .ok n := by
  obtain ⟨h0, h1⟩ := h
  unfold Lib.itoa
  split
  · rename_i hn
    unfold Lib.atoiAll
    simp only [show (45 : UInt8).toNat = 45 from rfl, or_true, if_true, Lib.parseMag, if_neg (decDigits_ne _), pu_digits _ (show n.natAbs < 18446744073709551616 by omega)]
    rw [if_neg (by simp), if_neg (by omega)]
    congr 1; omega
  · rename_i hn
    have hd := decDigits_digs n.toNat
    have hne := decDigits_ne n.toNat
    have hp := pu_digits n.toNat (by omega)
    cases hl : Lib.decDigits n.toNat with
    | nil => exact absurd hl hne
    | cons c r =>
      rw [hl] at hd hp
      have hc := hd c (by simp)
      unfold isDig at hc
      unfold Lib.atoiAll
      have e1 : ¬ (c.toNat = 43 ∨ c.toNat = 45) := by omega
      have e2 : ¬ c.toNat = 45 := by omega
      have e3 : ¬ c.toNat = 43 := by omega
      simp [e2, e3, Lib.parseMag, hp]
      rw [if_neg (by omega)]
      congr 1; omega

/-- what a numeral stands for, if it is written as numbers are -/
def numberOf (s : List UInt8) : Option Int :=
  match Lib.atoiAll s with
  | .ok n => if Lib.itoa n = s then some n else none
  | _ => none

theorem atoiAll_i64 {s : List UInt8} {n : Int} (h : Lib.atoiAll s = .ok n) : I64 n := by
  unfold Lib.atoiAll at h
  split at h
  · cases h
  · simp only at h
    split at h
    · cases h
    · cases h
    · rename_i u hu
      split at h
      · cases h
      · split at h
        · cases h
        · injection h with h
          subst h
          unfold I64
          split <;> omega

theorem numberOf_iff (s : List UInt8) (n : Int) : numberOf s = some n ↔ I64 n ∧ Lib.itoa n = s := by
  unfold numberOf
  constructor
  · intro h
    split at h
    · rename_i m hm
      split at h
      · rename_i he
        injection h with h
        subst h
        exact ⟨atoiAll_i64 hm, he⟩
      · cases h
    · cases h
  · rintro ⟨h, rfl⟩
    rw [atoi_itoa n h]
    simp

/-- digit by digit from the left -/
def downs (D : Nat) : List UInt8 → Option Nat
  | [] => some D
  | c :: r => if isDig c then if 9223372036854775808 < 10 * D + (c.toNat - 48) then none else downs (10 * D + (c.toNat - 48)) r else none

theorem downs_spec : ∀ (r l : List UInt8), dval l ≤ 9223372036854775808 → downs (dval l) r = if (∀ c ∈ r, isDig c) ∧ dval (l ++ r) ≤ 9223372036854775808 then some (dval (l ++ r)) else none
  | [], l, h => by simp [downs, h]
  | c :: r, l, h => by
    rw [downs]
    by_cases hc : isDig c
    · rw [if_pos hc]
      have e : l ++ c :: r = (l ++ [c]) ++ r := by simp
      by_cases hb : 9223372036854775808 < 10 * dval l + (c.toNat - 48)
      · rw [if_pos hb, if_neg]
        rintro ⟨_, h2⟩
        have mono : ∀ (r l : List UInt8), dval l ≤ dval (l ++ r) := by
          intro r
          induction r with
          | nil => intro l; simp
          | cons x r ih => intro l; rw [show l ++ x :: r = (l ++ [x]) ++ r by simp]; refine Nat.le_trans ?_ (ih _); rw [dval_snoc]; omega
        rw [e] at h2
        have := mono r (l ++ [c])
        rw [dval_snoc] at this
        omega
      · rw [if_neg hb]
        have := downs_spec r (l ++ [c]) (by rw [dval_snoc]; omega)
        rw [dval_snoc] at this
        rw [this, e]
        simp [hc]
    · rw [if_neg hc, if_neg]
      rintro ⟨h1, _⟩
      exact hc (h1 c (by simp))

theorem downs0 (r : List UInt8) : downs 0 r = if (∀ c ∈ r, isDig c) ∧ dval r ≤ 9223372036854775808 then some (dval r) else none := downs_spec r [] (by decide)

/-- the reference's way -/
def refNumber (s : List UInt8) : Option Int :=
  match s with
  | [] => none
  | c :: r =>
    if c.toNat = 45 then
      if r = [] ∨ 19 < r.length ∨ r.head?.map (·.toNat) = some 48 then none else (downs 0 r).map fun D => -(D : Int)
    else if 19 < s.length ∨ c.toNat = 48 ∧ 1 < s.length then none
    else match downs 0 s with | some D => if D = 9223372036854775808 then none else some (D : Int) | none => none

theorem dig_count (u : Nat) (h : u ≤ 9223372036854775808) : (Lib.decDigits u).length ≤ 19 := by
  have : ∀ (k u : Nat), u < 10 ^ (k + 1) → (Lib.decDigits u).length ≤ k + 1 := by
    intro k
    induction k with
    | zero => intro u h; rw [Lib.decDigits_one (by omega)]; simp
    | succ k ih =>
      intro u h
      by_cases hu : u < 10
      · rw [Lib.decDigits_one hu]; simp
      · rw [decDigits_big hu]
        have := ih (u / 10) (by rw [Nat.pow_succ] at h; omega)
        simp; omega
  exact this 18 u (by omega)

theorem refNumber_eq (s : List UInt8) : refNumber s = numberOf s := by
  have key : ∀ n, refNumber s = some n ↔ I64 n ∧ Lib.itoa n = s := by
    intro n
    constructor
    · intro h
      unfold refNumber at h
      split at h
      · cases h
      · rename_i c r
        split at h
        · rename_i hc
          split at h
          · cases h
          · rename_i hn
            rw [downs0] at h
            split at h
            · rename_i hd
              obtain rfl : -((dval r : Nat) : Int) = n := Option.some.inj h
              obtain ⟨x, r', rfl⟩ : ∃ x r', r = x :: r' := by cases r with | nil => simp at hn | cons x r' => exact ⟨x, r', rfl⟩
              have hx : x.toNat ≠ 48 := by intro hx; apply hn; simp [hx]
              have he := decDigits_dval (x :: r') hd.1 (by simp) (.inr ⟨x, r', rfl, hx⟩)
              have hpos : dval (x :: r') ≠ 0 := by
                intro h0
                rw [h0, Lib.decDigits_one (by decide)] at he
                simp at he
                exact hx (by rw [← he.1]; rfl)
              refine ⟨⟨by omega, by omega⟩, ?_⟩
              unfold Lib.itoa
              rw [if_pos (by omega), show (-(dval (x :: r') : Int)).natAbs = dval (x :: r') by omega, he]
              congr 1
              exact UInt8.toNat_inj.1 hc.symm
            · cases h
        · rename_i hc
          split at h
          · cases h
          · rename_i hn
            rw [downs0] at h
            split at h
            · rename_i D hD
              split at hD
              · rename_i hd
                split at h
                · cases h
                · injection h with h
                  injection hD with hD
                  subst hD; subst h
                  rename_i hne
                  refine ⟨⟨by omega, by omega⟩, ?_⟩
                  unfold Lib.itoa
                  rw [if_neg (by omega), Int.toNat_natCast]
                  refine decDigits_dval (c :: r) hd.1 (by simp) ?_
                  by_cases h1 : (c :: r).length = 1
                  · exact .inl h1
                  · refine .inr ⟨c, r, rfl, fun h48 => hn (.inr ⟨h48, ?_⟩)⟩
                    simp at h1 ⊢
                    cases r with | nil => simp at h1 | cons _ _ => simp
              · cases hD
            · cases h
    · rintro ⟨⟨h0, h1⟩, rfl⟩
      unfold Lib.itoa
      split
      · rename_i hn
        have hc := dig_count n.natAbs (by omega)
        obtain ⟨x, r, e, hx⟩ := decDigits_head n.natAbs (by omega)
        have hd := decDigits_digs n.natAbs
        have hv := dval_decDigits n.natAbs
        unfold refNumber
        simp only [show (45 : UInt8).toNat = 45 from rfl, if_true]
        rw [if_neg, downs0, if_pos ⟨hd, by rw [hv]; omega⟩, hv]
        · simp; omega
        · rw [e] at hc ⊢
          simp at hc ⊢
          exact ⟨by omega, hx⟩
      · rename_i hn
        have hc := dig_count n.toNat (by omega)
        have hd := decDigits_digs n.toNat
        have hv := dval_decDigits n.toNat
        have hne := decDigits_ne n.toNat
        have hx : n.toNat ≠ 0 → ∃ c r, Lib.decDigits n.toNat = c :: r ∧ c.toNat ≠ 48 := decDigits_head n.toNat
        have hz : n.toNat = 0 → (Lib.decDigits n.toNat).length = 1 := fun h => by rw [h, Lib.decDigits_one (by decide)]; rfl
        cases hl : Lib.decDigits n.toNat with
        | nil => exact absurd hl hne
        | cons c r =>
          rw [hl] at hc hd hv hx hz
          have hdc := hd c (by simp)
          unfold isDig at hdc
          unfold refNumber
          simp only
          rw [if_neg (by omega), if_neg, downs0, if_pos ⟨hd, by rw [hv]; omega⟩, hv]
          · simp only
            rw [if_neg (by omega)]
            congr 1; omega
          · rintro (h | ⟨h, h2⟩)
            · omega
            · by_cases hz0 : n.toNat = 0
              · have := hz hz0; omega
              · obtain ⟨c', r', e, hx'⟩ := hx hz0
                injection e with e1 e2
                subst e1
                exact hx' h
  cases h : numberOf s with
  | none =>
    cases h2 : refNumber s with
    | none => rfl
    | some n => have := (key n).1 h2; rw [(numberOf_iff s n).2 this] at h; cases h
  | some n => exact (key n).2 ((numberOf_iff s n).1 h)

/-! ## hex -/

def hx (d : Nat) : UInt8 := if d < 10 then UInt8.ofNat (48 + d) else UInt8.ofNat (87 + d)
def hexOf : List UInt8 → List UInt8
  | [] => []
  | x :: l => hx (x.toNat / 16) :: hx (x.toNat % 16) :: hexOf l
def unhx (c : UInt8) : Option Nat := if 48 ≤ c.toNat ∧ c.toNat ≤ 57 then some (c.toNat - 48) else if 97 ≤ c.toNat ∧ c.toNat ≤ 102 then some (c.toNat - 87) else none
def unhexOf : List UInt8 → Option (List UInt8)
  | [] => some []
  | [_] => none
  | a :: b :: l => match unhx a, unhx b with
    | some x, some y => (unhexOf l).map (UInt8.ofNat (16 * x + y) :: ·)
    | _, _ => none

theorem hx_toNat (d : Nat) (h : d < 16) : (hx d).toNat = if d < 10 then 48 + d else 87 + d := by
  unfold hx
  split
  · rw [UInt8.toNat_ofNat']; omega
  · rw [UInt8.toNat_ofNat']; omega
theorem unhx_hx (d : Nat) (h : d < 16) : unhx (hx d) = some d := by
  have := hx_toNat d h
  unfold unhx
  split at this
  · rw [if_pos (by omega)]; congr 1; omega
  · rw [if_neg (by omega), if_pos (by omega)]; congr 1; omega
theorem unhx_some {c : UInt8} {d : Nat} (h : unhx c = some d) : d < 16 ∧ hx d = c := by
  unfold unhx at h
  split at h
  · injection h with h; subst h
    refine ⟨by omega, ?_⟩
    apply UInt8.toNat_inj.1; rw [hx_toNat _ (by omega), if_pos (by omega)]; omega
  · split at h
    · injection h with h; subst h
      refine ⟨by omega, ?_⟩
      apply UInt8.toNat_inj.1; rw [hx_toNat _ (by omega), if_neg (by omega)]; omega
    · cases h

theorem hexOf_length (l : List UInt8) : (hexOf l).length = 2 * l.length := by
  induction l with
  | nil => rfl
  | cons x l ih => simp [hexOf, ih]; omega
theorem hexOf_append (a b : List UInt8) : hexOf (a ++ b) = hexOf a ++ hexOf b := by
  induction a with
  | nil => rfl
  | cons x l ih => simp [hexOf, ih]
theorem unhex_hex (l : List UInt8) : unhexOf (hexOf l) = some l := by
  induction l with
  | nil => rfl
  | cons x l ih =>
    have := x.toNat_lt
    simp only [hexOf, unhexOf]
    rw [unhx_hx _ (by omega), unhx_hx _ (by omega), ih]
    simp only [Option.map_some]
    congr 2
    apply UInt8.toNat_inj.1; rw [UInt8.toNat_ofNat']; omega
theorem hex_unhex : ∀ (s b : List UInt8), unhexOf s = some b → hexOf b = s
  | [], b, h => by simp [unhexOf] at h; subst h; rfl
  | [_], b, h => by simp [unhexOf] at h
  | a :: c :: l, b, h => by
    simp only [unhexOf] at h
    split at h
    · rename_i x y hx' hy
      cases hr : unhexOf l with
      | none => rw [hr] at h; simp at h
      | some r =>
        rw [hr, Option.map_some, Option.some.injEq] at h
        obtain rfl : UInt8.ofNat (16 * x + y) :: r = b := h
        have := hex_unhex l r hr
        obtain ⟨h1, h2⟩ := unhx_some hx'
        obtain ⟨h3, h4⟩ := unhx_some hy
        simp only [hexOf]
        rw [UInt8.toNat_ofNat', show (16 * x + y) % 2 ^ 8 = 16 * x + y by omega, show (16 * x + y) / 16 = x by omega, show (16 * x + y) % 16 = y by omega, this, h2, h4]
    · cases h
theorem unhexOf_length {s b : List UInt8} (h : unhexOf s = some b) : s.length = 2 * b.length := by
  rw [← hex_unhex s b h, hexOf_length]

end Go.Proofs.YtlobohpbgghleaaDoor
