import Derived.Test.YteooppnofahgkaaRefNames
import Derived.Test.YteooppnofahgkaaRight
namespace Go.Proofs.Yteooppnofahgkaa
open Go.RowKit

def d8 (n : Int) (k : Nat) : UInt8 := UInt8.ofNat (dgt n 6 k).toNat
theorem six_eq (n : Int) : six n = [d8 n 5, d8 n 4, d8 n 3, d8 n 2, d8 n 1, d8 n 0] := rfl
theorem d8_nat (n : Int) (k : Nat) (hk : k < 6) : ((d8 n k).toNat : Int) = 48 + n / 10 ^ k % 10 := by
  have h := dgt_bd n 6 k
  have e : dgt n 6 k = 48 + n / 10 ^ k % 10 := by rw [dgt, if_pos hk]
  rw [d8, ← e]; simp; omega
theorem d8s (n : Int) : ((d8 n 0).toNat : Int) = 48 + n % 10 ∧ ((d8 n 1).toNat : Int) = 48 + n / 10 % 10 ∧ ((d8 n 2).toNat : Int) = 48 + n / 100 % 10 ∧
    ((d8 n 3).toNat : Int) = 48 + n / 1000 % 10 ∧ ((d8 n 4).toNat : Int) = 48 + n / 10000 % 10 ∧ ((d8 n 5).toNat : Int) = 48 + n / 100000 % 10 :=
  ⟨by simpa using d8_nat n 0 (by decide), by simpa using d8_nat n 1 (by decide), by simpa using d8_nat n 2 (by decide), by simpa using d8_nat n 3 (by decide), by simpa using d8_nat n 4 (by decide), by simpa using d8_nat n 5 (by decide)⟩

theorem decOf_six_eq (n : Int) (h0 : 0 ≤ n) (h1 : n ≤ 999999) : decOf (six n) = n := by
  obtain ⟨a0, a1, a2, a3, a4, a5⟩ := d8s n
  rw [six_eq]
  simp only [decOf, List.foldl_cons, List.foldl_nil]
  omega

theorem six_digits (n : Int) : (six n).all isDig = true := by
  obtain ⟨a0, a1, a2, a3, a4, a5⟩ := d8s n
  rw [six_eq]
  simp only [List.all_cons, List.all_nil, Bool.and_true, Bool.and_eq_true, isDig_iff]
  omega

theorem six_inj (n m : Int) (h0 : 0 ≤ n) (h1 : n ≤ 999999) (h2 : 0 ≤ m) (h3 : m ≤ 999999) (h : six n = six m) : n = m := by
  rw [← decOf_six_eq n h0 h1, ← decOf_six_eq m h2 h3, h]

theorem six_of_decOf (t : List UInt8) (hl : t.length = 6) (hd : t.all isDig = true) : six (decOf t) = t := by
  match t, hl with
  | [a, b, c, d, e, f], _ =>
    simp only [List.all_cons, List.all_nil, Bool.and_true, Bool.and_eq_true, isDig_iff] at hd
    obtain ⟨a0, a1, a2, a3, a4, a5⟩ := d8s (decOf [a, b, c, d, e, f])
    rw [six_eq]
    have hv : decOf [a, b, c, d, e, f] = 100000 * ((a.toNat : Int) - 48) + 10000 * ((b.toNat : Int) - 48) + 1000 * ((c.toNat : Int) - 48) + 100 * ((d.toNat : Int) - 48) + 10 * ((e.toNat : Int) - 48) + ((f.toNat : Int) - 48) := by
      simp only [decOf, List.foldl_cons, List.foldl_nil]; omega
    generalize decOf [a, b, c, d, e, f] = n at *
    have u : ∀ x y : UInt8, (x.toNat : Int) = y.toNat → x = y := fun x y h => UInt8.toNat_inj.1 (by omega)
    rw [u (d8 n 5) a (by omega), u (d8 n 4) b (by omega), u (d8 n 3) c (by omega), u (d8 n 2) d (by omega), u (d8 n 1) e (by omega), u (d8 n 0) f (by omega)]

theorem bytesLess_pre (p a b : List UInt8) : Op.bytesLess (p ++ a) (p ++ b) = Op.bytesLess a b := by
  induction p with
  | nil => rfl
  | cons x p ih => simp [Op.bytesLess, ih]

def lowD (n : Int) : Nat → List UInt8
  | 0 => []
  | k + 1 => d8 n k :: lowD n k
theorem lowD_less (n m : Int) (h : n < m) (hn : 0 ≤ n) : ∀ k, k ≤ 6 → n / 10 ^ k = m / 10 ^ k → Op.bytesLess (lowD n k) (lowD m k) = true
  | 0, _, e => by simp at e; omega
  | k + 1, hk, e => by
    have hp : (0 : Int) < 10 ^ k := Int.pow_pos (by decide)
    have q : ∀ x : Int, x / 10 ^ (k + 1) = x / 10 ^ k / 10 := fun x => by rw [Int.pow_succ, Int.ediv_ediv_of_nonneg (Int.le_of_lt hp)]
    rw [q, q] at e
    have hle : n / 10 ^ k ≤ m / 10 ^ k := Int.ediv_le_ediv hp (by omega)
    have a := d8_nat n k (by omega)
    have b := d8_nat m k (by omega)
    by_cases he : n / 10 ^ k = m / 10 ^ k
    · have : d8 n k = d8 m k := UInt8.toNat_inj.1 (by rw [he] at a; omega)
      simp [lowD, Op.bytesLess, this, lowD_less n m h hn k (by omega) he]
    · have : d8 n k < d8 m k := UInt8.lt_iff_toNat_lt.2 (by omega)
      simp [lowD, Op.bytesLess, this]

theorem six_less (n m : Int) (h0 : 0 ≤ n) (h3 : m ≤ 999999) (h : n < m) : Op.bytesLess (six n) (six m) = true :=
  lowD_less n m h h0 6 (by omega) (by omega)

theorem numOf_six (n : Int) (h0 : 0 ≤ n) (h1 : n ≤ 999999) : numOf (six n) = n := by
  rw [numOf, if_pos ⟨rfl, six_digits n⟩, decOf_six_eq n h0 h1]

theorem pre_append (p t : List UInt8) : Lib.hasPrefix (p ++ t) p = true ∧ Lib.trimPrefix (p ++ t) p = t := by
  have h : Lib.hasPrefix (p ++ t) p = true := by simp [Lib.hasPrefix, List.isPrefixOf_iff_prefix]
  exact ⟨h, by simp [Lib.trimPrefix, h]⟩
theorem pre_split (l p : List UInt8) (h : Lib.hasPrefix l p = true) : l = p ++ Lib.trimPrefix l p := by
  have h' : p <+: l := by simpa [Lib.hasPrefix, List.isPrefixOf_iff_prefix] using h
  obtain ⟨t, rfl⟩ := h'
  rw [(pre_append p t).2]

theorem numOf_bd (t : List UInt8) : 0 ≤ numOf t ∧ numOf t ≤ 999999 ∧ (numOf t ≠ 0 → t = six (numOf t)) := by
  unfold numOf
  split
  · rename_i h
    have hb := decOf_bd t h.2
    rw [h.1] at hb
    exact ⟨hb.1, by omega, fun _ => (six_of_decOf t h.1 h.2).symm⟩
  · exact ⟨by omega, by omega, fun h => absurd rfl h⟩

/-- what Parse answers where it knows a number -/
theorem parseOf_cases (l : List UInt8) : (l = manName ∧ parseOf l = (1, 0)) ∨ (l = tmpName ∧ parseOf l = (2, 0)) ∨
    (∃ n, 1 ≤ n ∧ n ≤ 999999 ∧ l = segPre ++ six n ∧ parseOf l = (3, n)) ∨ (∃ n, 1 ≤ n ∧ n ≤ 999999 ∧ l = bookPre ++ six n ∧ parseOf l = (4, n)) ∨
    (l ≠ manName ∧ l ≠ tmpName ∧ (∀ n, 1 ≤ n → n ≤ 999999 → l ≠ segPre ++ six n) ∧ (∀ n, 1 ≤ n → n ≤ 999999 → l ≠ bookPre ++ six n) ∧ parseOf l = (0, 0)) := by
  by_cases h1 : l = manName
  · exact .inl ⟨h1, by rw [parseOf, if_pos h1]⟩
  by_cases h2 : l = tmpName
  · exact .inr (.inl ⟨h2, by rw [parseOf, if_neg h1, if_pos h2]⟩)
  by_cases h3 : Lib.hasPrefix l segPre = true
  · have e : parseOf l = parseK 3 (numOf (Lib.trimPrefix l segPre)) := by rw [parseOf, if_neg h1, if_neg h2, if_pos h3]
    have hs := pre_split l segPre h3
    obtain ⟨b0, b1, b2⟩ := numOf_bd (Lib.trimPrefix l segPre)
    by_cases h0 : numOf (Lib.trimPrefix l segPre) = 0
    · refine .inr (.inr (.inr (.inr ⟨h1, h2, ?_, ?_, by rw [e, parseK, if_pos h0]⟩)))
      · intro n hn1 hn2 hl
        rw [hl, (pre_append segPre (six n)).2, numOf_six n (by omega) hn2] at h0
        omega
      · intro n _ _ hl
        rw [hl] at h3
        revert h3
        simp [Lib.hasPrefix, segPre, bookPre]
    · exact .inr (.inr (.inl ⟨_, by omega, b1, by rw [← b2 h0]; exact hs, by rw [e, parseK, if_neg h0]⟩))
  by_cases h4 : Lib.hasPrefix l bookPre = true
  · have e : parseOf l = parseK 4 (numOf (Lib.trimPrefix l bookPre)) := by rw [parseOf, if_neg h1, if_neg h2, if_neg h3, if_pos h4]
    have hs := pre_split l bookPre h4
    obtain ⟨b0, b1, b2⟩ := numOf_bd (Lib.trimPrefix l bookPre)
    by_cases h0 : numOf (Lib.trimPrefix l bookPre) = 0
    · refine .inr (.inr (.inr (.inr ⟨h1, h2, ?_, ?_, by rw [e, parseK, if_pos h0]⟩)))
      · intro n _ _ hl
        rw [hl] at h3
        exact h3 (pre_append segPre (six n)).1
      · intro n hn1 hn2 hl
        rw [hl, (pre_append bookPre (six n)).2, numOf_six n (by omega) hn2] at h0
        omega
    · exact .inr (.inr (.inr (.inl ⟨_, by omega, b1, by rw [← b2 h0]; exact hs, by rw [e, parseK, if_neg h0]⟩)))
  · refine .inr (.inr (.inr (.inr ⟨h1, h2, ?_, ?_, by rw [parseOf, if_neg h1, if_neg h2, if_neg h3, if_neg h4]⟩)))
    · intro n _ _ hl; rw [hl] at h3; exact h3 (pre_append segPre (six n)).1
    · intro n _ _ hl; rw [hl] at h4; exact h4 (pre_append bookPre (six n)).1

theorem segName_eq (n : Int) (h : 1 ≤ n ∧ n ≤ 999999) : segName n = segPre ++ six n := by rw [segName, if_pos h, segPre]
theorem bookName_eq (n : Int) (h : 1 ≤ n ∧ n ≤ 999999) : bookName n = bookPre ++ six n := by rw [bookName, if_pos h, bookPre]

theorem tailNum_pre (p : List UInt8) (n : Int) (h0 : 0 ≤ n) (h1 : n ≤ 999999) : tailNum (p ++ six n) = n := by
  rw [tailNum]
  have : (p ++ six n).length - 6 = p.length := by simp [six]
  rw [this, List.drop_left, decOf_six_eq n h0 h1]

/-- the reference's Parse is the program's -/
theorem refParse_eq (l : List UInt8) : refParseOf l = parseOf l := by
  rcases parseOf_cases l with ⟨rfl, h⟩ | ⟨rfl, h⟩ | ⟨n, h1, h2, rfl, h⟩ | ⟨n, h1, h2, rfl, h⟩ | ⟨h1, h2, h3, h4, h⟩
  · rw [h]; decide
  · rw [h]; decide
  · rw [h, refParseOf, if_neg (by simp [segPre, manName]), if_neg (by simp [segPre, tmpName]), if_neg (by simp [segPre, six]), tailNum_pre _ n (by omega) h2, if_neg (by omega), if_pos (segName_eq n ⟨h1, h2⟩).symm]
  · rw [h, refParseOf, if_neg (by simp [bookPre, manName]), if_neg (by simp [bookPre, tmpName]), if_neg (by simp [bookPre, six]), tailNum_pre _ n (by omega) h2, if_neg (by omega),
      if_neg (by rw [segName_eq n ⟨h1, h2⟩]; simp [segPre, bookPre]), if_pos (bookName_eq n ⟨h1, h2⟩).symm]
  · rw [h, refParseOf, if_neg h1, if_neg h2]
    split
    · rfl
    split
    · rfl
    rename_i h5
    rw [if_neg (by rw [segName_eq _ (by omega)]; exact h3 _ (by omega) (by omega)), if_neg (by rw [bookName_eq _ (by omega)]; exact h4 _ (by omega) (by omega))]

theorem six_ok (n : Int) : (six n).all okCh = true := by
  rw [List.all_eq_true]
  intro c hc
  have := (isDig_iff c).1 (List.all_eq_true.1 (six_digits n) c hc)
  simp only [okCh, Bool.or_eq_true, Bool.and_eq_true, decide_eq_true_eq]
  omega
theorem rightName_seg (n : Int) : rightName (segPre ++ six n) = true := by
  simp only [rightName, List.all_append, six_ok]
  simp [segPre, six]; decide
theorem rightName_book (n : Int) : rightName (bookPre ++ six n) = true := by
  simp only [rightName, List.all_append, six_ok]
  simp [bookPre, six]; decide
theorem parse_right (l : List UInt8) (h : (parseOf l).1 ≠ 0) : rightName l = true := by
  rcases parseOf_cases l with ⟨rfl, _⟩ | ⟨rfl, _⟩ | ⟨n, h1, h2, rfl, _⟩ | ⟨n, h1, h2, rfl, _⟩ | ⟨_, _, _, _, e⟩
  · decide
  · decide
  · exact rightName_seg n
  · exact rightName_book n
  · rw [e] at h; exact absurd rfl h

end Go.Proofs.Yteooppnofahgkaa
