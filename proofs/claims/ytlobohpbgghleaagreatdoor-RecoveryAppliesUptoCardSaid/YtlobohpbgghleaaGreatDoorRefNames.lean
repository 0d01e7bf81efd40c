import Derived.Test.YtlobohpbgghleaaGreatDoorNames
namespace Go.Proofs.YtlobohpbgghleaaGreatDoor
open Go.RowKit

theorem six_drop (n : Int) (k : Nat) (hk : k < 6) : (six n).drop (5 - k) = UInt8.ofNat (48 + n / 10 ^ k % 10).toNat :: (six n).drop (6 - k) := by
  have : k = 0 ∨ k = 1 ∨ k = 2 ∨ k = 3 ∨ k = 4 ∨ k = 5 := by omega
  rcases this with rfl | rfl | rfl | rfl | rfl | rfl <;> simp [six, dgt]

set_option maxHeartbeats 400000 in
theorem refSix_any (n : Int) (w : World) (h1 : 1 ≤ n) (h2 : n ≤ 999999) :
    Calls Tryz.prog 47 #[.int .i64 n] w fun e w' => e = .returned (.string ⟨(six n).toArray⟩) ∧ Below w.heap.size w w' := by
  go_enter Tryz.func47, Tryz.ntmps47
  go_wp2
  go_loopw [0, 3, 4] (fun nv sv iv wr => ∃ k : Nat, k ≤ 6 ∧ iv = .int .i64 k ∧ nv = .int .i64 (n / 10 ^ k) ∧ sv = .string ⟨((six n).drop (6 - k)).toArray⟩ ∧ Below w.heap.size w wr) (fun _ _ iv _ => (6 - intOf iv).toNat)
  case atStart => exact ⟨0, by omega, rfl, by simp, rfl, Below.refl _ _⟩
  case round =>
    obtain ⟨k, hk, rfl, rfl, rfl, hb⟩ := hrel
    have hn0 : 0 ≤ n / 10 ^ k := Int.ediv_nonneg (by omega) (pow10_pos k)
    have hn1 : n / 10 ^ k ≤ 999999 := Int.le_trans (Int.ediv_le_self _ (by omega)) h2
    by_cases hk6 : k < 6
    · have hl : ((six n).drop (6 - k)).length = k := by simp [six]; omega
      have hcv := conv_one wr (48 + n / 10 ^ k % 10)
      go_wp2
      go_roundw
      case rel => exact ⟨k + 1, by omega, by go_num, by rw [Int.pow_succ, ← Int.ediv_ediv_of_nonneg (pow10_pos k)], by rw [show 6 - (k + 1) = 5 - k by omega, six_drop n k hk6, ba_append]; rfl, hb.alloc hb.size _⟩
      case measure => simp [intOf]; omega
    · obtain rfl : k = 6 := by omega
      go_wp2
      go_ret
      exact ⟨rfl, hb⟩

theorem refSegment_any (n : Int) (w : World) :
    Calls Tryz.prog 20 #[.int .i64 n] w fun e w' => e = .returned (.string ⟨(segName n).toArray⟩) ∧ Below w.heap.size w w' := by
  by_cases h : 1 ≤ n ∧ n ≤ 999999
  · rw [segName, if_pos h]
    have hl : (six n).length = 6 := rfl
    go_enter Tryz.func20, Tryz.ntmps20
    go_wp2_with (go_at_call 47; refine (refSix_any n _ h.1 h.2).mono ?_; rintro e w' ⟨rfl, hb⟩)
    go_ret
    exact ⟨ret_str (ba_append _ _), hb⟩
  · rw [segName, if_neg h]
    by_cases h' : n < 1
    · go_enter Tryz.func20, Tryz.ntmps20
      go_wp2
      go_ret
      exact ⟨rfl, Below.refl _ _⟩
    · have h2 : 999999 < n := by omega
      go_enter Tryz.func20, Tryz.ntmps20
      go_wp2
      go_ret
      exact ⟨rfl, Below.refl _ _⟩

theorem refBook_any (n : Int) (w : World) :
    Calls Tryz.prog 98 #[.int .i64 n] w fun e w' => e = .returned (.string ⟨(bookName n).toArray⟩) ∧ Below w.heap.size w w' := by
  by_cases h : 1 ≤ n ∧ n ≤ 999999
  · rw [bookName, if_pos h]
    have hl : (six n).length = 6 := rfl
    go_enter Tryz.func98, Tryz.ntmps98
    go_wp2_with (go_at_call 47; refine (refSix_any n _ h.1 h.2).mono ?_; rintro e w' ⟨rfl, hb⟩)
    go_ret
    exact ⟨ret_str (ba_append _ _), hb⟩
  · rw [bookName, if_neg h]
    by_cases h' : n < 1
    · go_enter Tryz.func98, Tryz.ntmps98
      go_wp2
      go_ret
      exact ⟨rfl, Below.refl _ _⟩
    · have h2 : 999999 < n := by omega
      go_enter Tryz.func98, Tryz.ntmps98
      go_wp2
      go_ret
      exact ⟨rfl, Below.refl _ _⟩

/-- the number that the last six bytes would be -/
def tailNum (l : List UInt8) : Int := decOf (l.drop (l.length - 6))
def refParseOf (l : List UInt8) : Int × Int :=
  if l = manName then (1, 0) else if l = tmpName then (2, 0)
  else if l.length < 6 then (0, 0)
  else if tailNum l < 1 ∨ 999999 < tailNum l then (0, 0)
  else if l = segName (tailNum l) then (3, tailNum l)
  else if l = bookName (tailNum l) then (4, tailNum l) else (0, 0)

theorem decOf_wide (l : List UInt8) : -23 * (10 ^ l.length - 1) ≤ decOf l ∧ decOf l ≤ 23 * (10 ^ l.length - 1) := by
  refine snoc_ind (P := fun l => -23 * (10 ^ l.length - 1) ≤ decOf l ∧ decOf l ≤ 23 * (10 ^ l.length - 1)) (by simp [decOf]) ?_ l
  intro l c ih
  have hc : (c.toNat : Int) < 256 := by have := c.toNat_lt; omega
  rw [decOf_snoc]
  simp only [List.length_append, List.length_cons, List.length_nil, Nat.zero_add, Int.pow_succ]
  omega

theorem decOf_six (l : List UInt8) (h : l.length ≤ 6) : -23000000 ≤ decOf l ∧ decOf l ≤ 23000000 := by
  have h1 := decOf_wide l
  have : l.length = 0 ∨ l.length = 1 ∨ l.length = 2 ∨ l.length = 3 ∨ l.length = 4 ∨ l.length = 5 ∨ l.length = 6 := by omega
  rcases this with h | h | h | h | h | h | h <;> rw [h] at h1 <;> omega

set_option maxHeartbeats 1000000 in
theorem refParse_loop (l : List UInt8) (w : World) (h6 : 6 ≤ l.length) (hx : l.length ≤ 4611686018427387904) (hm : (l == [109, 97, 110, 105, 102, 101, 115, 116]) = false) (ht' : (l == [109, 97, 110, 105, 102, 101, 115, 116, 46, 116, 109, 112]) = false) :
    Calls Tryz.prog 94 #[.string ⟨l.toArray⟩] w fun e w' => e = .returned (.tuple #[.int .i64 (refParseOf l).1, .int .i64 (refParseOf l).2]) ∧ Below w.heap.size w w' := by
  obtain ⟨m, hl⟩ : ∃ m, l.length = m + 6 := ⟨l.length - 6, by omega⟩
  go_enter Tryz.func94, Tryz.ntmps94
  go_wp2
  go_loop [4, 5] (fun nv iv => ∃ k : Nat, k ≤ 6 ∧ iv = .int .i64 (m + k : Nat) ∧ nv = .int .i64 (decOf ((l.drop m).take k))) (fun _ iv => (m + 6 - intOf iv).toNat)
  case atStart => exact ⟨0, by omega, by go_num, rfl⟩
  case round =>
    obtain ⟨k, hk, rfl, rfl⟩ := hrel
    have hbd := decOf_six ((l.drop m).take k) (by rw [List.length_take]; omega)
    by_cases hk6 : k < 6
    · obtain ⟨x, hx, hts, _⟩ := nth (l.drop m) k (by rw [List.length_drop]; omega)
      have hx' : l[m + k]? = some x := by simpa using hx
      have hy := ba_get hx'
      have HT := Lib.hid hts
      obtain ⟨hbd1, hbd2⟩ := hbd
      clear hx hts
      go_wp2
      go_round
      case rel => exact ⟨k + 1, by omega, by go_num, by rw [HT.out, decOf_snoc]; have := x.toNat_lt; congr 1; simp only [wrap64]; omega⟩
      case measure => simp [intOf]; omega
    · obtain rfl : k = 6 := by omega
      have e : (l.drop m).take 6 = l.drop m := List.take_of_length_le (by rw [List.length_drop]; omega)
      rw [e] at hbd ⊢
      have ht : tailNum l = decOf (l.drop m) := by rw [tailNum, show l.length - 6 = m by omega]
      rw [← ht] at hbd ⊢
      have hp : refParseOf l = if tailNum l < 1 ∨ 999999 < tailNum l then (0, 0) else if l = segName (tailNum l) then (3, tailNum l) else if l = bookName (tailNum l) then (4, tailNum l) else (0, 0) := by
        rw [refParseOf, if_neg (by simpa [manName] using hm), if_neg (by simpa [tmpName] using ht'), if_neg (by omega)]
      generalize tailNum l = n at *
      by_cases hn1 : n < 1
      · have HP := Lib.hid (hp.trans (if_pos (.inl hn1)))
        clear hp ht e
        go_wp2
        go_ret2
        exact ⟨by rw [HP.out]; rfl, Below.refl _ _⟩
      by_cases hn2 : 999999 < n
      · have HP := Lib.hid (hp.trans (if_pos (.inr hn2)))
        clear hp ht e
        go_wp2
        go_ret2
        exact ⟨by rw [HP.out]; rfl, Below.refl _ _⟩
      rw [if_neg (by omega)] at hp
      by_cases hs : l = segName n
      · have HP := Lib.hid (hp.trans (if_pos hs))
        have hs' : (l == segName n) = true := by simpa using hs
        clear hp ht e hs
        go_wp2_with (go_at_call 20; (with_reducible refine (refSegment_any n _).mono ?_); rintro e w' ⟨rfl, hb⟩)
        go_ret2
        exact ⟨by rw [HP.out]; rfl, hb⟩
      rw [if_neg hs] at hp
      have hs' : (l == segName n) = false := by simpa using hs
      by_cases hb : l = bookName n
      · have HP := Lib.hid (hp.trans (if_pos hb))
        have hb' : (l == bookName n) = true := by simpa using hb
        clear hp ht e hs hb
        go_wp2_with (first | (go_at_call 20; (with_reducible refine (refSegment_any n _).mono ?_); rintro e w' ⟨rfl, hb⟩) | (go_at_call 98; (with_reducible refine (refBook_any n _).mono ?_); rintro e w'' ⟨rfl, hb2⟩))
        go_ret2
        exact ⟨by rw [HP.out]; rfl, hb.trans (hb2.mono hb.size)⟩
      · have HP := Lib.hid (hp.trans (if_neg hb))
        have hb' : (l == bookName n) = false := by simpa using hb
        clear hp ht e hs hb
        go_wp2_with (first | (go_at_call 20; (with_reducible refine (refSegment_any n _).mono ?_); rintro e w' ⟨rfl, hb⟩) | (go_at_call 98; (with_reducible refine (refBook_any n _).mono ?_); rintro e w'' ⟨rfl, hb2⟩))
        go_ret2
        exact ⟨by rw [HP.out]; rfl, hb.trans (hb2.mono hb.size)⟩

theorem refParse_any (l : List UInt8) (w : World) (hx : l.length ≤ 4611686018427387904) :
    Calls Tryz.prog 94 #[.string ⟨l.toArray⟩] w fun e w' => e = .returned (.tuple #[.int .i64 (refParseOf l).1, .int .i64 (refParseOf l).2]) ∧ Below w.heap.size w w' := by
  by_cases h1 : l = manName
  · subst h1
    rw [show refParseOf manName = (1, 0) by decide]
    unfold manName
    go_enter Tryz.func94, Tryz.ntmps94
    go_wp2
    go_ret2
    exact ⟨rfl, Below.refl _ _⟩
  have h1' : (l == [109, 97, 110, 105, 102, 101, 115, 116]) = false := by simpa [manName] using h1
  by_cases h2 : l = tmpName
  · subst h2
    rw [show refParseOf tmpName = (2, 0) by decide]
    unfold tmpName
    clear h1' h1 hx
    go_enter Tryz.func94, Tryz.ntmps94
    go_wp2
    go_ret2
    exact ⟨rfl, Below.refl _ _⟩
  have h2' : (l == [109, 97, 110, 105, 102, 101, 115, 116, 46, 116, 109, 112]) = false := by simpa [tmpName] using h2
  by_cases h6 : 6 ≤ l.length
  · exact refParse_loop l w h6 hx h1' h2'
  · have hp : Hid (refParseOf l = (0, 0)) := Lib.hid (by rw [refParseOf, if_neg h1, if_neg h2, if_pos (by omega)])
    clear h1 h2
    go_enter Tryz.func94, Tryz.ntmps94
    go_wp2
    go_ret2
    exact ⟨by rw [hp.out]; rfl, Below.refl _ _⟩

end Go.Proofs.YtlobohpbgghleaaGreatDoor
