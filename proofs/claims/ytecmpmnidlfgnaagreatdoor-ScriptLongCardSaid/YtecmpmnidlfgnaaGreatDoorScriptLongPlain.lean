import Derived.Test.YtecmpmnidlfgnaaGreatDoorScriptCmd
import Derived.Laws.BitsLemmas
namespace Go.Proofs.YtecmpmnidlfgnaaGreatDoor
open Go.RowKit

/-! ## ScriptLong, in plain words: many lines 'sync', and many bytes 'x' -/

def syncW : List UInt8 := [115, 121, 110, 99]
def syncC : Cmd := ⟨syncW, [], evNone, []⟩
def syncT (m : Nat) : List UInt8 := (List.replicate m (syncW ++ [10])).flatten

theorem syncT_succ (m : Nat) : syncT (m + 1) = syncT m ++ (syncW ++ [10]) := by
  unfold syncT
  rw [List.replicate_succ', List.flatten_append]
  simp
theorem syncT_front (m : Nat) : syncT (m + 1) = syncW ++ 10 :: syncT m := by
  unfold syncT
  rw [List.replicate_succ, List.flatten_cons]
  simp
theorem syncT_length (m : Nat) : (syncT m).length = m * 5 := by
  induction m with
  | zero => rfl
  | succ m ih => rw [syncT_succ, List.length_append, ih]; simp [syncW]; omega
theorem sync_line : cmdLine syncC = (syncW, 0) := by kernel_rfl
theorem sync_cmd : cmdOf syncW = (syncC, 0) := by kernel_rfl

theorem printSync : ∀ (m i : Nat) (S : List UInt8), S.length = i * 5 → i ≤ 400 → addP S (printC i S.length (List.replicate m syncC)) = if i + m ≤ 400 then (S ++ syncT m, 0, 0) else ([], 401, 102)
  | 0, i, S, hS, hi => by
    rw [List.replicate_zero, addP_end, if_pos (by omega)]
    simp [syncT]
  | m + 1, i, S, hS, hi => by
    rw [List.replicate_succ]
    by_cases h4 : 400 ≤ i
    · obtain rfl : i = 400 := by omega
      rw [addP_many h4, if_neg (by omega)]
      rfl
    · rw [addP_good h4 (by rw [sync_line]) (by rw [sync_line, hS]; simp [syncW]; omega), sync_line]
      have ih := printSync m (i + 1) (S ++ (syncW ++ [10])) (by rw [List.length_append, hS]; simp [syncW]; omega) (by omega)
      first
        | rw [ih]
        | (simp only [List.append_assoc] at ih ⊢; rw [ih])
      by_cases hm : i + 1 + m ≤ 400
      · rw [if_pos hm, if_pos (by omega), syncT_front]; simp
      · rw [if_neg hm, if_neg (by omega)]
theorem print_sync (m : Nat) : printOf (List.replicate m syncC) = if m ≤ 400 then (syncT m, 0, 0) else ([], 401, 102) := by
  rw [addP_nil]
  have h := printSync m 0 [] rfl (by omega)
  simp only [List.length_nil, List.nil_append, Nat.zero_add] at h
  exact h

theorem splitSync : ∀ m : Nat, splitOn 10 (syncT m) = List.replicate m syncW ++ [[]]
  | 0 => rfl
  | m + 1 => by rw [syncT_front, splitOn_mk _ _ (by decide), splitSync m, List.replicate_succ]; rfl

theorem linesSync : ∀ (m i : Nat) (acc : List Cmd), i ≤ 400 → addC acc (linesC ((i : Int) + 1) (List.replicate m syncW ++ [[]])) = if i + m ≤ 400 then (acc ++ List.replicate m syncC, 0, 0) else ([], 401, 102)
  | 0, i, acc, hi => by
    rw [List.replicate_zero, List.nil_append, addC_last, if_pos (by omega)]; simp
  | m + 1, i, acc, hi => by
    rw [List.replicate_succ, List.cons_append]
    by_cases h4 : 400 ≤ i
    · obtain rfl : i = 400 := by omega
      rw [addC_many (by omega) (.inr (by decide)), if_neg (by omega)]
      rfl
    · rw [addC_good (by omega) (by simp) (by rw [sync_cmd]), sync_cmd]
      have ih := linesSync m (i + 1) (acc ++ [syncC]) (by omega)
      rw [show ((i : Int) + 1 + 1) = (((i + 1 : Nat) : Int) + 1) by omega, ih]
      by_cases hm : i + 1 + m ≤ 400
      · rw [if_pos hm, if_pos (by omega), List.replicate_succ]; simp
      · rw [if_neg hm, if_neg (by omega)]
theorem parse_sync (m : Nat) (hm : m ≤ 511) : parseOf (syncT m) = if m ≤ 400 then (List.replicate m syncC, 0, 0) else ([], 401, 102) := by
  unfold parseOf
  rw [if_neg (by rw [syncT_length]; omega), addC_nil, splitSync]
  have h := linesSync m 0 [] (by omega)
  simpa using h
theorem parse_xs (p : Nat) (hp : 0 < p) : parseOf (List.replicate p 120) = if 65536 < p then ([], 0, 102) else ([], 1, 10) := by
  unfold parseOf
  rw [List.length_replicate]
  by_cases h : 65536 < p
  · rw [if_pos h, if_pos h]
  · rw [if_neg h, if_neg h, splitOn_one _ (by rw [List.mem_replicate]; rintro ⟨_, h⟩; exact absurd h (by decide)), addC_nil, addC_short (by omega) (by intro h; have := congrArg List.length h; simp at this; omega)]

theorem and511 (n : Int) : ∃ m : Nat, m ≤ 511 ∧ bits .and .i64 n 511 = (m : Int) := by
  have h511 : (BitVec.ofInt 64 511).toNat = 2 ^ 9 - 1 := by decide
  have key : (BitVec.ofInt 64 n &&& BitVec.ofInt 64 511).toNat = (n % ((2 ^ 64 : Nat) : Int)).toNat % 2 ^ 9 := by
    rw [BitVec.toNat_and, BitVec.toNat_ofInt, h511, Nat.and_two_pow_sub_one_eq_mod]
  refine ⟨(n % ((2 ^ 64 : Nat) : Int)).toNat % 2 ^ 9, by have := Nat.mod_lt ((n % ((2 ^ 64 : Nat) : Int)).toNat) (show 0 < 2 ^ 9 by decide); omega, ?_⟩
  show IntKind.i64.wrap ((BitVec.ofInt 64 n &&& BitVec.ofInt 64 511).toNat : Nat) = _
  rw [key, IntKind.wrap_i64]
  have := Nat.mod_lt ((n % ((2 ^ 64 : Nat) : Int)).toNat) (show 0 < 2 ^ 9 by decide)
  omega

end Go.Proofs.YtecmpmnidlfgnaaGreatDoor
