import Derived.Test.YtecmpmnidlfgnaaGreatDoorLibV
import Derived.Test.YtecmpmnidlfgnaaGreatDoorRefSplit
namespace Go.Proofs.YtecmpmnidlfgnaaGreatDoor
open Go.RowKit

/-! ## strings.Cut and strings.Split at one byte -/

theorem index_cut (c : UInt8) : ∀ l : List UInt8, (∃ o : Nat, Lib.indexByte l c = o ∧ cutAt c l = some (l.take o, l.drop (o + 1))) ∨ (Lib.indexByte l c = -1 ∧ cutAt c l = none)
  | [] => .inr ⟨rfl, rfl⟩
  | b :: l => by
    by_cases h : b = c
    · exact .inl ⟨0, by rw [Lib.indexByte, if_pos (by simp [h])]; rfl, by rw [cutAt, if_pos h]; rfl⟩
    · have hb : ¬ (b == c) = true := by simpa using h
      rcases index_cut c l with ⟨o, h1, h2⟩ | ⟨h1, h2⟩
      · refine .inl ⟨o + 1, ?_, ?_⟩
        · rw [Lib.indexByte, if_neg hb, h1, if_neg (by simp)]; rfl
        · rw [cutAt, if_neg h, h2]; rfl
      · exact .inr ⟨by rw [Lib.indexByte, if_neg hb, h1]; rfl, by rw [cutAt, if_neg h, h2]; rfl⟩

theorem libCut (l : List UInt8) (c : UInt8) : Lib.cut l [c] = cutV c l := by
  unfold Lib.cut cutV
  rw [Lib.index_one]
  rcases index_cut c l with ⟨o, h1, h2⟩ | ⟨h1, h2⟩
  · rw [h1, h2, if_pos (by omega)]; simp
  · rw [h1, h2, if_neg (by decide)]

theorem Cut_any (l : List UInt8) (c : UInt8) (w : World) (hL : LibV w) (hl : l.length ≤ 4294967280) :
    Calls Tryz.prog 59 #[.string ⟨l.toArray⟩, .string ⟨[c].toArray⟩] w fun e w' =>
      e = .returned (.tuple #[.string ⟨(cutV c l).1.toArray⟩, .string ⟨(cutV c l).2.1.toArray⟩, .bool (cutV c l).2.2]) ∧ Below w.heap.size w w' := by
  obtain ⟨m, hm⟩ := hL.maxl
  refine (Tryz.strings_Cut ⟨l.toArray⟩ ⟨[c].toArray⟩ m w (by simp [ByteArray.size]; omega) hm).mono ?_
  rintro e w' ⟨rfl, n, rfl⟩
  refine ⟨?_, below_drewN' _ _⟩
  simp only
  rw [libCut]

theorem splitK_one (c : UInt8) : ∀ (k : Nat) (l : List UInt8), l.count c = k → Lib.splitK [c] 0 k l = splitOn c l
  | 0, l, h => by
    have : c ∉ l := by rw [List.count_eq_zero] at h; exact h
    rw [Lib.splitK, splitOn_one _ this]
  | k + 1, l, h => by
    rw [Lib.splitK, Lib.index_one, splitOn_cut]
    rcases index_cut c l with ⟨o, h1, h2⟩ | ⟨h1, h2⟩
    · rw [h1, h2, if_neg (by simp)]
      simp only [Int.toNat_natCast, Nat.add_zero, List.length_singleton]
      rw [splitK_one c k (l.drop (o + 1))]
      obtain ⟨h3, h4⟩ := cutAt_some h2
      rw [h3, List.count_append, List.count_cons_self, List.count_eq_zero.2 h4] at h
      omega
    · exfalso
      have := cutAt_none.1 h2
      rw [List.count_eq_zero.2 this] at h
      omega

theorem strs_of_split (l : List UInt8) (c : UInt8) : (Lib.splitB ⟨[c].toArray⟩ 0 (l.count c) ⟨l.toArray⟩).map Value.string = strs (splitOn c l) := by
  have h := Lib.splitB_data ⟨[c].toArray⟩ 0 (l.count c) ⟨l.toArray⟩
  simp only at h
  rw [splitK_one c _ l rfl] at h
  unfold strs
  rw [← h, List.map_map]
  congr 1

theorem Split_any (l : List UInt8) (c : UInt8) (w : World) (hL : LibV w) (hl : l.length ≤ 4294967280) :
    Calls Tryz.prog 57 #[.string ⟨l.toArray⟩, .string ⟨[c].toArray⟩] w (StrsPost (splitOn c l) w) := by
  obtain ⟨m, hm⟩ := hL.maxl
  refine (Tryz.strings_Split ⟨l.toArray⟩ ⟨[c].toArray⟩ m w (by simp [ByteArray.size]; omega) hm (by simp [ByteArray.size])).mono ?_
  rintro e w' ⟨rfl, rfl⟩
  have hc : Lib.countB ⟨l.toArray⟩ ⟨[c].toArray⟩ = l.count c := by
    unfold Lib.countB
    simp only
    exact Lib.count_one c l
  have hlen : (splitOn c l).length = l.count c + 1 := by
    have h := strs_of_split l c
    have h2 := Lib.splitB_all ⟨[c].toArray⟩ (by simp [ByteArray.size]) 0 (l.count c) ⟨l.toArray⟩ hc
    have h3 := congrArg List.length h
    rw [List.length_map, h2] at h3
    simpa [strs] using h3.symm
  rw [hc]
  refine ⟨_, rfl, ⟨by simp [strs], .inr ⟨w.heap.size, l.count c + 1, _, by rw [hlen], Nat.le_refl _, heap_alloc_new w _, by rw [hlen]; exact Nat.le_refl _, ?_, ?_, ?_⟩⟩, (Below.refl _ _).alloc (Nat.le_refl _) _⟩
  · have := List.count_le_length (l := l) (a := c); unfold maxLen; omega
  · rw [strs_of_split]; simp [strs, hlen]
  · rw [strs_of_split]; simp only [Nat.mul_one]; rw [List.take_of_length_le (by simp [strs])]

end Go.Proofs.YtecmpmnidlfgnaaGreatDoor
