import Derived.Test.YtlobohpbgghleaaGreatDoorBase
import Derived.Test.YtlobohpbgghleaaGreatDoorShelf
namespace Go.Proofs.YtlobohpbgghleaaGreatDoor
open Go.RowKit

/-- digit k (from the right) of n, in ASCII, after `m` digits are written -/
def dgt (n : Int) (m k : Nat) : Int := if k < m then 48 + n / 10 ^ k % 10 else 48
def sixv (n : Int) (m : Nat) : Array Value := #[.int .u8 (dgt n m 5), .int .u8 (dgt n m 4), .int .u8 (dgt n m 3), .int .u8 (dgt n m 2), .int .u8 (dgt n m 1), .int .u8 (dgt n m 0)]
/-- the six digits -/
def six (n : Int) : List UInt8 := [UInt8.ofNat (dgt n 6 5).toNat, UInt8.ofNat (dgt n 6 4).toNat, UInt8.ofNat (dgt n 6 3).toNat, UInt8.ofNat (dgt n 6 2).toNat, UInt8.ofNat (dgt n 6 1).toNat, UInt8.ofNat (dgt n 6 0).toNat]
def segName (n : Int) : List UInt8 := if 1 ≤ n ∧ n ≤ 999999 then [115, 101, 103, 45] ++ six n else []
def bookName (n : Int) : List UInt8 := if 1 ≤ n ∧ n ≤ 999999 then [98, 111, 111, 107, 45] ++ six n else []

theorem sixv_set (n : Int) (k : Nat) (hk : k < 6) : (sixv n k).setIfInBounds (5 - k) (.int .u8 (48 + n / 10 ^ k % 10)) = sixv n (k + 1) := by
  have : k = 0 ∨ k = 1 ∨ k = 2 ∨ k = 3 ∨ k = 4 ∨ k = 5 := by omega
  rcases this with rfl | rfl | rfl | rfl | rfl | rfl <;> simp [sixv, dgt]

theorem sixv_get (n : Int) (k : Nat) (hk : k < 6) : (sixv n k)[5 - k]? = some (.int .u8 48) := by
  have : k = 0 ∨ k = 1 ∨ k = 2 ∨ k = 3 ∨ k = 4 ∨ k = 5 := by omega
  rcases this with rfl | rfl | rfl | rfl | rfl | rfl <;> simp [sixv, dgt]

theorem dgt_bd (n : Int) (m k : Nat) : 48 ≤ dgt n m k ∧ dgt n m k ≤ 57 := by unfold dgt; split <;> omega

theorem pow10_pos (k : Nat) : (0 : Int) ≤ 10 ^ k := by exact_mod_cast Nat.zero_le _

theorem dgt_done (n : Int) (k : Nat) (hz : n / 10 ^ k = 0) (j : Nat) : dgt n k j = dgt n 6 j ∨ 6 ≤ j := by
  by_cases h6 : j < 6
  · left
    unfold dgt
    rw [if_pos h6]
    by_cases hj : j < k
    · rw [if_pos hj]
    · rw [if_neg hj]
      obtain ⟨i, rfl⟩ : ∃ i, j = k + i := ⟨j - k, by omega⟩
      have : n / 10 ^ (k + i) = 0 := by
        rw [Int.pow_add, ← Int.ediv_ediv_of_nonneg (pow10_pos k), hz]; simp
      rw [this]; simp
  · right; omega

theorem sixv_done (n : Int) (k : Nat) (hz : n / 10 ^ k = 0) : sixv n k = sixv n 6 := by
  have h := fun j (hj : j < 6) => (dgt_done n k hz j).resolve_right (by omega)
  simp [sixv, h]

theorem sixv_six (n : Int) (j : Nat) (hj : j < (six n).length) : (sixv n 6)[j]? = some (.int .u8 ((six n)[j].toNat : Int)) := by
  have h := fun j => dgt_bd n 6 j
  have e : ∀ j, ((UInt8.ofNat (dgt n 6 j).toNat).toNat : Int) = dgt n 6 j := fun j => by
    have := h j
    simp; omega
  have : j = 0 ∨ j = 1 ∨ j = 2 ∨ j = 3 ∨ j = 4 ∨ j = 5 := by simp [six] at hj; omega
  rcases this with rfl | rfl | rfl | rfl | rfl | rfl <;> simp only [sixv, six, List.getElem_cons_zero, List.getElem_cons_succ, e] <;> rfl

set_option maxHeartbeats 400000 in
theorem numbered_yes (p : List UInt8) (n : Int) (w : World) (hp : p.length ≤ 100) (h1 : 1 ≤ n) (h2 : n ≤ 999999) :
    Calls Tryz.prog 91 #[.string ⟨p.toArray⟩, .int .i64 n] w fun e w' => e = .returned (.string ⟨(p ++ six n).toArray⟩) ∧ Below w.heap.size w w' := by
  have kc := fun (w : World) (C : Array Value) (n c : Nat) => Lib.run_convert_bytes_const (P := Tryz.prog) w 47 5 C n c Tryz.underlying47 Tryz.underlying5
  go_enter Tryz.func91, Tryz.ntmps91
  go_wp2
  go_loopw [1, 6] (fun nv iv wr => ∃ k : Nat, k ≤ 6 ∧ iv = .int .i64 (5 - k) ∧ nv = .int .i64 (n / 10 ^ k) ∧ Below w.heap.size w wr ∧ w.heap.size < wr.heap.size ∧
     wr.heap[w.heap.size]? = some (.cells (sixv n k) 5 (6, 7))) (fun _ iv _ => (intOf iv + 1).toNat)
  case atStart => exact ⟨0, by omega, rfl, by simp, (Below.refl _ _).alloc (Nat.le_refl _) _, by simp, (heap_alloc_new w _).trans (by simp [sixv, dgt])⟩
  case round =>
    obtain ⟨k, hk, rfl, rfl, hb, hs, hblk⟩ := hrel
    have hn0 : 0 ≤ n / 10 ^ k := Int.ediv_nonneg (by omega) (pow10_pos k)
    have hn1 : n / 10 ^ k ≤ 999999 := Int.le_trans (Int.ediv_le_self _ (by omega)) h2
    by_cases hz : n / 10 ^ k = 0
    · rw [sixv_done n k hz] at hblk
      have hcv : ∀ c, (convert 47 9 (.slice (some ⟨w.heap.size, 0, none⟩) 6 c)).run Tryz.prog wr = .ok (.string ⟨(six n).toArray⟩) wr := fun c =>
        run_convert_bytes_back (P := Tryz.prog) wr 47 9 5 ⟨w.heap.size, 0, none⟩ c (six n) Tryz.underlying47 Tryz.underlying5 Tryz.underlying9 (fun j hj => by
          rw [addr_add, World.cell?, hblk]; simpa using sixv_six n j hj)
      have hl6 : (six n).length = 6 := rfl
      go_wp2
      go_ret
      exact ⟨ret_str (ba_append _ _), hb⟩
    · have hk6 : k < 6 := by
        rcases Nat.lt_or_ge k 6 with h | h
        · exact h
        · exfalso; apply hz
          obtain rfl : k = 6 := by omega
          omega
      have hc : wr.cell? ⟨w.heap.size, 5 - k, none⟩ = some (.int .u8 48) := by simp [World.cell?, hblk, sixv_get n k hk6]
      have hf : wr.frozen? ⟨w.heap.size, 5 - k, none⟩ = false := by simp [World.frozen?, hblk]; omega
      go_wp2
      go_roundw
      case rel => exact ⟨k + 1, by omega, by go_num, by rw [Int.pow_succ, ← Int.ediv_ediv_of_nonneg (pow10_pos k)], hb.setCell (Nat.le_refl _) _, by simpa using hs, by rw [Joins.block_setCell hblk, sixv_set n k hk6]⟩
      case measure => simp [intOf]; omega

theorem numbered_no (p : ByteArray) (n : Int) (w : World) (h : n < 1 ∨ 999999 < n) :
    Calls Tryz.prog 91 #[.string p, .int .i64 n] w fun e w' => e = .returned (.string ⟨([] : List UInt8).toArray⟩) ∧ w' = w := by
  rcases h with h | h
  · go_enter Tryz.func91, Tryz.ntmps91
    go_wp2
    go_ret
    exact ⟨rfl, rfl⟩
  · have h' : ¬ n < 1 := by omega
    go_enter Tryz.func91, Tryz.ntmps91
    go_wp2
    go_ret
    exact ⟨rfl, rfl⟩

theorem Segment_any (n : Int) (w : World) :
    Calls Tryz.prog 59 #[.int .i64 n] w fun e w' => e = .returned (.string ⟨(segName n).toArray⟩) ∧ Below w.heap.size w w' := by
  by_cases h : 1 ≤ n ∧ n ≤ 999999
  · rw [segName, if_pos h]
    go_enter Tryz.func59, Tryz.ntmps59
    go_wp2_with (go_at_call 91; refine (numbered_yes [115, 101, 103, 45] n _ (by decide) h.1 h.2).mono ?_; rintro e w' ⟨rfl, hb⟩)
    go_ret
    exact ⟨rfl, hb⟩
  · rw [segName, if_neg h]
    go_enter Tryz.func59, Tryz.ntmps59
    go_wp2_with (go_at_call 91; refine (numbered_no _ n _ (by omega)).mono ?_; rintro e w' ⟨rfl, rfl⟩)
    go_ret
    exact ⟨rfl, Below.refl _ _⟩

theorem Book_any (n : Int) (w : World) :
    Calls Tryz.prog 79 #[.int .i64 n] w fun e w' => e = .returned (.string ⟨(bookName n).toArray⟩) ∧ Below w.heap.size w w' := by
  by_cases h : 1 ≤ n ∧ n ≤ 999999
  · rw [bookName, if_pos h]
    go_enter Tryz.func79, Tryz.ntmps79
    go_wp2_with (go_at_call 91; refine (numbered_yes [98, 111, 111, 107, 45] n _ (by decide) h.1 h.2).mono ?_; rintro e w' ⟨rfl, hb⟩)
    go_ret
    exact ⟨rfl, hb⟩
  · rw [bookName, if_neg h]
    go_enter Tryz.func79, Tryz.ntmps79
    go_wp2_with (go_at_call 91; refine (numbered_no _ n _ (by omega)).mono ?_; rintro e w' ⟨rfl, rfl⟩)
    go_ret
    exact ⟨rfl, Below.refl _ _⟩

def isDig (c : UInt8) : Bool := decide (48 ≤ (c.toNat : Int)) && decide ((c.toNat : Int) ≤ 57)
def decOf (l : List UInt8) : Int := l.foldl (fun n c => 10 * n + ((c.toNat : Int) - 48)) 0
/-- what stands behind the prefix, as a number; 0: none -/
def numOf (l : List UInt8) : Int := if l.length = 6 ∧ l.all isDig then decOf l else 0

theorem decOf_snoc (l : List UInt8) (c : UInt8) : decOf (l ++ [c]) = 10 * decOf l + ((c.toNat : Int) - 48) := by simp [decOf]

theorem isDig_iff (c : UInt8) : isDig c = true ↔ 48 ≤ (c.toNat : Int) ∧ (c.toNat : Int) ≤ 57 := by simp [isDig]

theorem decOf_bd (l : List UInt8) (h : l.all isDig = true) : 0 ≤ decOf l ∧ decOf l < 10 ^ l.length := by
  revert h
  refine snoc_ind (P := fun l => l.all isDig = true → 0 ≤ decOf l ∧ decOf l < 10 ^ l.length) (by simp [decOf]) ?_ l
  · intro l c ih h
    simp only [List.all_append, List.all_cons, List.all_nil, Bool.and_true, Bool.and_eq_true] at h
    have h1 := ih h.1
    have h2 := (isDig_iff c).1 h.2
    rw [decOf_snoc]
    simp only [List.length_append, List.length_cons, List.length_nil, Nat.zero_add, Int.pow_succ]
    omega

set_option maxRecDepth 100000 in
set_option maxHeartbeats 1000000 in
theorem number_any (l : List UInt8) (w : World) :
    Calls Tryz.prog 122 #[.string ⟨l.toArray⟩] w fun e w' => e = .returned (.int .i64 (numOf l)) ∧ Below w.heap.size w w' := by
  by_cases h6 : l.length = 6
  · go_enter Tryz.func122, Tryz.ntmps122
    go_wp2
    obtain ⟨c, w1, hcv, hb, hs, hc, hcell⟩ := conv_bytes w l
    go_simp
    go_wp2
    have h6' := Lib.hid h6
    clear h6 hcv
    go_loop [3, 12] (fun nv iv => ∃ k : Nat, k ≤ 6 ∧ iv = .int .i64 k ∧ nv = .int .i64 (decOf (l.take k)) ∧ (l.take k).all isDig = true) (fun _ iv => (6 - intOf iv).toNat)
    case atStart => exact ⟨0, by omega, rfl, rfl, rfl⟩
    case round =>
      obtain ⟨k, hk, rfl, rfl, hall⟩ := hrel
      have h6 := h6'.out
      have hbd := decOf_bd _ hall
      have hpw : (10 : Int) ^ (l.take k).length ≤ 1000000 := by
        rw [List.length_take]
        have : min k l.length = 0 ∨ min k l.length = 1 ∨ min k l.length = 2 ∨ min k l.length = 3 ∨ min k l.length = 4 ∨ min k l.length = 5 ∨ min k l.length = 6 := by omega
        rcases this with h | h | h | h | h | h | h <;> rw [h] <;> decide
      by_cases hk6 : k < 6
      · obtain ⟨x, hx, hts, hmem⟩ := nth l k (by omega)
        have hcl := hcell k x hx
        have HT := Lib.hid hts
        have hn1 : decOf (l.take k) < 1000000 := by omega
        have hn0 := hbd.1
        have HA := Lib.hid hall
        have hno : Hid (isDig x = false → numOf l = 0) := Lib.hid fun hf => by
          rw [numOf, if_neg]
          rintro ⟨_, ha⟩
          have := List.all_eq_true.1 ha x hmem
          rw [hf] at this
          cases this
        clear hpw hbd hall hx hts h6 hcell hmem
        go_wp2
        · go_ret
          have hd : isDig x = false := by have h : 57 < (x.toNat : Int) := by omega
                                          simp [isDig]; omega
          exact ⟨ret_int (hno.out hd).symm, hb⟩
        · go_round
          case rel =>
            have hd : isDig x = true := (isDig_iff x).2 ⟨by omega, by omega⟩
            exact ⟨k + 1, by omega, by go_num, by rw [HT.out, decOf_snoc], by rw [HT.out]; simp [HA.out, hd]⟩
          case measure => simp [intOf]; omega
        · go_ret
          have hd : isDig x = false := by simp [isDig]; omega
          exact ⟨ret_int (hno.out hd).symm, hb⟩
      · obtain rfl : k = 6 := by omega
        go_wp2
        go_ret
        have e : l.take 6 = l := List.take_of_length_le (by omega)
        rw [e] at hall
        exact ⟨ret_int (by rw [numOf, if_pos ⟨h6, hall⟩, e]), hb⟩
  · go_enter Tryz.func122, Tryz.ntmps122
    go_wp2
    go_ret
    exact ⟨ret_int (by rw [numOf, if_neg (by simp [h6])]), Below.refl _ _⟩

theorem cutPrefix_l (l p : List UInt8) (w : World) : Calls Tryz.prog 121 #[.string ⟨l.toArray⟩, .string ⟨p.toArray⟩] w fun e w' =>
    e = .returned (.tuple #[.string ⟨(Lib.trimPrefix l p).toArray⟩, .bool (Lib.hasPrefix l p)]) ∧ w = w' :=
  (Tryz.strings_CutPrefix ⟨l.toArray⟩ ⟨p.toArray⟩ w).mono fun _ _ ⟨h1, h2⟩ => ⟨by simpa using h1, h2.symm⟩

def segPre : List UInt8 := [115, 101, 103, 45]
def bookPre : List UInt8 := [98, 111, 111, 107, 45]
def manName : List UInt8 := [109, 97, 110, 105, 102, 101, 115, 116]
def tmpName : List UInt8 := [109, 97, 110, 105, 102, 101, 115, 116, 46, 116, 109, 112]
def parseK (k n : Int) : Int × Int := if n = 0 then (0, 0) else (k, n)
/-- what a name stands for, and its number -/
def parseOf (l : List UInt8) : Int × Int :=
  if l = manName then (1, 0) else if l = tmpName then (2, 0)
  else if Lib.hasPrefix l segPre = true then parseK 3 (numOf (Lib.trimPrefix l segPre))
  else if Lib.hasPrefix l bookPre = true then parseK 4 (numOf (Lib.trimPrefix l bookPre)) else (0, 0)

theorem ret_two {j k : IntKind} {a b c d : Int} (h : a = c) (h' : b = d) : Ending.returned (.tuple #[.int j a, .int k b]) = .returned (.tuple #[.int j c, .int k d]) := by rw [h, h']

set_option maxHeartbeats 1000000 in
theorem Parse_any (l : List UInt8) (w : World) :
    Calls Tryz.prog 84 #[.string ⟨l.toArray⟩] w fun e w' => e = .returned (.tuple #[.int .i64 (parseOf l).1, .int .i64 (parseOf l).2]) ∧ Below w.heap.size w w' := by
  by_cases h1 : l = manName
  · subst h1
    have hp : parseOf manName = (1, 0) := by decide
    rw [hp]
    unfold manName
    go_enter Tryz.func84, Tryz.ntmps84
    go_wp2
    go_ret2
    exact ⟨rfl, Below.refl _ _⟩
  have h1' : (l == [109, 97, 110, 105, 102, 101, 115, 116]) = false := by simpa [manName] using h1
  by_cases h2 : l = tmpName
  · subst h2
    have hp : parseOf tmpName = (2, 0) := by decide
    rw [hp]
    unfold tmpName
    clear h1' h1
    go_enter Tryz.func84, Tryz.ntmps84
    go_wp2
    go_ret2
    exact ⟨rfl, Below.refl _ _⟩
  have h2' : (l == [109, 97, 110, 105, 102, 101, 115, 116, 46, 116, 109, 112]) = false := by simpa [tmpName] using h2
  by_cases h3 : Lib.hasPrefix l segPre = true
  · have hp : Hid (parseOf l = parseK 3 (numOf (Lib.trimPrefix l segPre))) := Lib.hid (by rw [parseOf, if_neg h1, if_neg h2, if_pos h3])
    clear h1 h2
    unfold segPre at h3
    generalize hm : numOf (Lib.trimPrefix l segPre) = m at hp
    have HM := Lib.hid hm
    clear hm
    by_cases h0 : m = 0
    all_goals
      go_enter Tryz.func84, Tryz.ntmps84
      go_wp2_with (first | (go_at_call 121; (with_reducible refine (cutPrefix_l _ _ _).mono ?_); rintro e w' ⟨rfl, rfl⟩) | (go_at_call 122; refine (number_any _ _).mono ?_; rw [show numOf (Lib.trimPrefix l [115, 101, 103, 45]) = m from HM.out]; rintro e w' ⟨rfl, hb⟩))
      go_ret2
      exact ⟨by rw [hp.out]; simp [parseK, h0], hb⟩
  have h3' : Lib.hasPrefix l [115, 101, 103, 45] = false := by simpa [segPre] using h3
  by_cases h4 : Lib.hasPrefix l bookPre = true
  · have hp : Hid (parseOf l = parseK 4 (numOf (Lib.trimPrefix l bookPre))) := Lib.hid (by rw [parseOf, if_neg h1, if_neg h2, if_neg h3, if_pos h4])
    clear h1 h2 h3
    unfold bookPre at h4
    generalize hm : numOf (Lib.trimPrefix l bookPre) = m at hp
    have HM := Lib.hid hm
    clear hm
    by_cases h0 : m = 0
    all_goals
      go_enter Tryz.func84, Tryz.ntmps84
      go_wp2_with (first | (go_at_call 121; (with_reducible refine (cutPrefix_l _ _ _).mono ?_); rintro e w' ⟨rfl, rfl⟩) | (go_at_call 122; refine (number_any _ _).mono ?_; rw [show numOf (Lib.trimPrefix l [98, 111, 111, 107, 45]) = m from HM.out]; rintro e w' ⟨rfl, hb⟩))
      go_ret2
      exact ⟨by rw [hp.out]; simp [parseK, h0], hb⟩
  · have h4' : Lib.hasPrefix l [98, 111, 111, 107, 45] = false := by simpa [bookPre] using h4
    have hp : Hid (parseOf l = (0, 0)) := Lib.hid (by rw [parseOf, if_neg h1, if_neg h2, if_neg h3, if_neg h4])
    clear h1 h2 h3 h4
    go_enter Tryz.func84, Tryz.ntmps84
    go_wp2_with (go_at_call 121; (with_reducible refine (cutPrefix_l _ _ _).mono ?_); rintro e w' ⟨rfl, rfl⟩)
    go_ret2
    exact ⟨by rw [hp.out]; rfl, Below.refl _ _⟩

end Go.Proofs.YtlobohpbgghleaaGreatDoor
