import Derived.Test.YtecmpmnidlfgnaaGreatDoorScriptPlain
import Derived.Test.YtecmpmnidlfgnaaGreatDoorOwn
import Derived.Deep.QuietTactic
import Derived.IntWalk
namespace Go.Proofs.YtecmpmnidlfgnaaGreatDoor
open Go.RowKit

set_option maxRecDepth 100000 in
set_option maxHeartbeats 8000000 in
theorem shapeOf_any (v : List UInt8) (w : World) : Calls Tryz.prog 66 #[.string ⟨v.toArray⟩] w fun x w' => x = .returned (.int .i64 (shapeV v : Int)) ∧ w = w' := by
  by_cases h0 : v = [115, 121, 110, 99]
  · have k0 : (v == [115, 121, 110, 99]) = true := by rw [beq_iff_eq]; exact h0
    have hs := Lib.hid (show shapeV v = 0 by rw [h0]; decide)
    clear h0
    go_enter Tryz.func66, Tryz.ntmps66
    go_wp2
    go_ret
    exact ⟨by rw [hs.out]; rfl, rfl⟩
  have k0 : (v == [115, 121, 110, 99]) = false := by rw [beq_eq_false_iff_ne]; exact h0
  have H0 := Lib.hid h0
  clear h0
  by_cases h1 : v = [114, 111, 116, 97, 116, 101]
  · have k1 : (v == [114, 111, 116, 97, 116, 101]) = true := by rw [beq_iff_eq]; exact h1
    have hs := Lib.hid (show shapeV v = 0 by rw [h1]; decide)
    clear h1
    go_enter Tryz.func66, Tryz.ntmps66
    go_wp2
    go_ret
    exact ⟨by rw [hs.out]; rfl, rfl⟩
  have k1 : (v == [114, 111, 116, 97, 116, 101]) = false := by rw [beq_eq_false_iff_ne]; exact h1
  have H1 := Lib.hid h1
  clear h1
  by_cases h2 : v = [115, 110, 97, 112, 115, 104, 111, 116]
  · have k2 : (v == [115, 110, 97, 112, 115, 104, 111, 116]) = true := by rw [beq_iff_eq]; exact h2
    have hs := Lib.hid (show shapeV v = 0 by rw [h2]; decide)
    clear h2
    go_enter Tryz.func66, Tryz.ntmps66
    go_wp2
    go_ret
    exact ⟨by rw [hs.out]; rfl, rfl⟩
  have k2 : (v == [115, 110, 97, 112, 115, 104, 111, 116]) = false := by rw [beq_eq_false_iff_ne]; exact h2
  have H2 := Lib.hid h2
  clear h2
  by_cases h3 : v = [99, 111, 109, 112, 97, 99, 116]
  · have k3 : (v == [99, 111, 109, 112, 97, 99, 116]) = true := by rw [beq_iff_eq]; exact h3
    have hs := Lib.hid (show shapeV v = 0 by rw [h3]; decide)
    clear h3
    go_enter Tryz.func66, Tryz.ntmps66
    go_wp2
    go_ret
    exact ⟨by rw [hs.out]; rfl, rfl⟩
  have k3 : (v == [99, 111, 109, 112, 97, 99, 116]) = false := by rw [beq_eq_false_iff_ne]; exact h3
  have H3 := Lib.hid h3
  clear h3
  by_cases h4 : v = [99, 108, 111, 115, 101]
  · have k4 : (v == [99, 108, 111, 115, 101]) = true := by rw [beq_iff_eq]; exact h4
    have hs := Lib.hid (show shapeV v = 0 by rw [h4]; decide)
    clear h4
    go_enter Tryz.func66, Tryz.ntmps66
    go_wp2
    go_ret
    exact ⟨by rw [hs.out]; rfl, rfl⟩
  have k4 : (v == [99, 108, 111, 115, 101]) = false := by rw [beq_eq_false_iff_ne]; exact h4
  have H4 := Lib.hid h4
  clear h4
  by_cases h5 : v = [108, 105, 115, 116]
  · have k5 : (v == [108, 105, 115, 116]) = true := by rw [beq_iff_eq]; exact h5
    have hs := Lib.hid (show shapeV v = 0 by rw [h5]; decide)
    clear h5
    go_enter Tryz.func66, Tryz.ntmps66
    go_wp2
    go_ret
    exact ⟨by rw [hs.out]; rfl, rfl⟩
  have k5 : (v == [108, 105, 115, 116]) = false := by rw [beq_eq_false_iff_ne]; exact h5
  have H5 := Lib.hid h5
  clear h5
  by_cases h6 : v = [97, 117, 100, 105, 116]
  · have k6 : (v == [97, 117, 100, 105, 116]) = true := by rw [beq_iff_eq]; exact h6
    have hs := Lib.hid (show shapeV v = 0 by rw [h6]; decide)
    clear h6
    go_enter Tryz.func66, Tryz.ntmps66
    go_wp2
    go_ret
    exact ⟨by rw [hs.out]; rfl, rfl⟩
  have k6 : (v == [97, 117, 100, 105, 116]) = false := by rw [beq_eq_false_iff_ne]; exact h6
  have H6 := Lib.hid h6
  clear h6
  by_cases h7 : v = [118, 105, 101, 119]
  · have k7 : (v == [118, 105, 101, 119]) = true := by rw [beq_iff_eq]; exact h7
    have hs := Lib.hid (show shapeV v = 0 by rw [h7]; decide)
    clear h7
    go_enter Tryz.func66, Tryz.ntmps66
    go_wp2
    go_ret
    exact ⟨by rw [hs.out]; rfl, rfl⟩
  have k7 : (v == [118, 105, 101, 119]) = false := by rw [beq_eq_false_iff_ne]; exact h7
  have H7 := Lib.hid h7
  clear h7
  by_cases h8 : v = [101, 114, 114]
  · have k8 : (v == [101, 114, 114]) = true := by rw [beq_iff_eq]; exact h8
    have hs := Lib.hid (show shapeV v = 0 by rw [h8]; decide)
    clear h8
    go_enter Tryz.func66, Tryz.ntmps66
    go_wp2
    go_ret
    exact ⟨by rw [hs.out]; rfl, rfl⟩
  have k8 : (v == [101, 114, 114]) = false := by rw [beq_eq_false_iff_ne]; exact h8
  have H8 := Lib.hid h8
  clear h8
  by_cases h9 : v = [111, 114, 100, 101, 114, 115]
  · have k9 : (v == [111, 114, 100, 101, 114, 115]) = true := by rw [beq_iff_eq]; exact h9
    have hs := Lib.hid (show shapeV v = 0 by rw [h9]; decide)
    clear h9
    go_enter Tryz.func66, Tryz.ntmps66
    go_wp2
    go_ret
    exact ⟨by rw [hs.out]; rfl, rfl⟩
  have k9 : (v == [111, 114, 100, 101, 114, 115]) = false := by rw [beq_eq_false_iff_ne]; exact h9
  have H9 := Lib.hid h9
  clear h9
  by_cases h10 : v = [100, 105, 115, 107]
  · have k10 : (v == [100, 105, 115, 107]) = true := by rw [beq_iff_eq]; exact h10
    have hs := Lib.hid (show shapeV v = 1 by rw [h10]; decide)
    clear h10
    go_enter Tryz.func66, Tryz.ntmps66
    go_wp2
    go_ret
    exact ⟨by rw [hs.out]; rfl, rfl⟩
  have k10 : (v == [100, 105, 115, 107]) = false := by rw [beq_eq_false_iff_ne]; exact h10
  have H10 := Lib.hid h10
  clear h10
  by_cases h11 : v = [108, 111, 97, 100]
  · have k11 : (v == [108, 111, 97, 100]) = true := by rw [beq_iff_eq]; exact h11
    have hs := Lib.hid (show shapeV v = 1 by rw [h11]; decide)
    clear h11
    go_enter Tryz.func66, Tryz.ntmps66
    go_wp2
    go_ret
    exact ⟨by rw [hs.out]; rfl, rfl⟩
  have k11 : (v == [108, 111, 97, 100]) = false := by rw [beq_eq_false_iff_ne]; exact h11
  have H11 := Lib.hid h11
  clear h11
  by_cases h12 : v = [114, 101, 112, 108, 97, 121]
  · have k12 : (v == [114, 101, 112, 108, 97, 121]) = true := by rw [beq_iff_eq]; exact h12
    have hs := Lib.hid (show shapeV v = 1 by rw [h12]; decide)
    clear h12
    go_enter Tryz.func66, Tryz.ntmps66
    go_wp2
    go_ret
    exact ⟨by rw [hs.out]; rfl, rfl⟩
  have k12 : (v == [114, 101, 112, 108, 97, 121]) = false := by rw [beq_eq_false_iff_ne]; exact h12
  have H12 := Lib.hid h12
  clear h12
  by_cases h13 : v = [102, 117, 115, 101]
  · have k13 : (v == [102, 117, 115, 101]) = true := by rw [beq_iff_eq]; exact h13
    have hs := Lib.hid (show shapeV v = 1 by rw [h13]; decide)
    clear h13
    go_enter Tryz.func66, Tryz.ntmps66
    go_wp2
    go_ret
    exact ⟨by rw [hs.out]; rfl, rfl⟩
  have k13 : (v == [102, 117, 115, 101]) = false := by rw [beq_eq_false_iff_ne]; exact h13
  have H13 := Lib.hid h13
  clear h13
  by_cases h14 : v = [111, 112, 101, 110]
  · have k14 : (v == [111, 112, 101, 110]) = true := by rw [beq_iff_eq]; exact h14
    have hs := Lib.hid (show shapeV v = 2 by rw [h14]; decide)
    clear h14
    go_enter Tryz.func66, Tryz.ntmps66
    go_wp2
    go_ret
    exact ⟨by rw [hs.out]; rfl, rfl⟩
  have k14 : (v == [111, 112, 101, 110]) = false := by rw [beq_eq_false_iff_ne]; exact h14
  have H14 := Lib.hid h14
  clear h14
  by_cases h15 : v = [99, 114, 97, 115, 104]
  · have k15 : (v == [99, 114, 97, 115, 104]) = true := by rw [beq_iff_eq]; exact h15
    have hs := Lib.hid (show shapeV v = 3 by rw [h15]; decide)
    clear h15
    go_enter Tryz.func66, Tryz.ntmps66
    go_wp2
    go_ret
    exact ⟨by rw [hs.out]; rfl, rfl⟩
  have k15 : (v == [99, 114, 97, 115, 104]) = false := by rw [beq_eq_false_iff_ne]; exact h15
  have H15 := Lib.hid h15
  clear h15
  by_cases h16 : v = [97, 112, 112, 101, 110, 100]
  · have k16 : (v == [97, 112, 112, 101, 110, 100]) = true := by rw [beq_iff_eq]; exact h16
    have hs := Lib.hid (show shapeV v = 4 by rw [h16]; decide)
    clear h16
    go_enter Tryz.func66, Tryz.ntmps66
    go_wp2
    go_ret
    exact ⟨by rw [hs.out]; rfl, rfl⟩
  have k16 : (v == [97, 112, 112, 101, 110, 100]) = false := by rw [beq_eq_false_iff_ne]; exact h16
  have H16 := Lib.hid h16
  clear h16
  by_cases h17 : v = [112, 117, 116]
  · have k17 : (v == [112, 117, 116]) = true := by rw [beq_iff_eq]; exact h17
    have hs := Lib.hid (show shapeV v = 5 by rw [h17]; decide)
    clear h17
    go_enter Tryz.func66, Tryz.ntmps66
    go_wp2
    go_ret
    exact ⟨by rw [hs.out]; rfl, rfl⟩
  have k17 : (v == [112, 117, 116]) = false := by rw [beq_eq_false_iff_ne]; exact h17
  have H17 := Lib.hid h17
  clear h17
  have hs := Lib.hid (show shapeV v = 6 by
    unfold shapeV
    rw [if_neg (by simp only [vNothing, List.mem_cons, List.not_mem_nil, or_false, not_or]; exact ⟨H0.out, H1.out, H2.out, H3.out, H4.out, H5.out, H6.out, H7.out, H8.out, H9.out⟩), if_neg (by simp only [vNumber, List.mem_cons, List.not_mem_nil, or_false, not_or]; exact ⟨H10.out, H11.out, H12.out, H13.out⟩), if_neg (show ¬ v = vOpen from H14.out), if_neg (show ¬ v = vCrash from H15.out), if_neg (show ¬ v = vAppend from H16.out), if_neg (show ¬ v = vPut from H17.out)])
  go_enter Tryz.func66, Tryz.ntmps66
  go_wp2
  go_ret
  exact ⟨by rw [hs.out]; rfl, rfl⟩

theorem counted_any (s n : Nat) (w : World) (hs : s ≤ 6) : Calls Tryz.prog 67 #[.int .i64 (s : Int), .int .i64 (n : Int)] w fun x w' => x = .returned (.bool (countOk s n)) ∧ w = w' := by
  match s, hs with
  | 0, _ =>
    have t1 := Lib.hid (show (((n : Int) == 0) = (n == 0)) from by rw [Bool.eq_iff_iff]; simp; try omega)
    go_enter Tryz.func67, Tryz.ntmps67
    go_wp2
    go_ret
    exact ⟨ret_bool (by simp only [countOk]; exact t1.out), rfl⟩
  | 1, _ =>
    have t1 := Lib.hid (show (((n : Int) == 1) = (n == 1)) from by rw [Bool.eq_iff_iff]; simp; try omega)
    go_enter Tryz.func67, Tryz.ntmps67
    go_wp2
    go_ret
    exact ⟨ret_bool (by simp only [countOk]; exact t1.out), rfl⟩
  | 2, _ =>
    have t1 := Lib.hid (show (((n : Int) == 2) = (n == 2)) from by rw [Bool.eq_iff_iff]; simp; try omega)
    go_enter Tryz.func67, Tryz.ntmps67
    go_wp2
    go_ret
    exact ⟨ret_bool (by simp only [countOk]; exact t1.out), rfl⟩
  | 3, _ =>
    have t1 := Lib.hid (show (decide ((n : Int) ≤ 64) = decide (n ≤ 64)) from by rw [Bool.eq_iff_iff]; simp; try omega)
    go_enter Tryz.func67, Tryz.ntmps67
    go_wp2
    go_ret
    exact ⟨ret_bool (by simp only [countOk]; exact t1.out), rfl⟩
  | 4, _ =>
    have t1 := Lib.hid (show (((n : Int) == 1) = (n == 1)) from by rw [Bool.eq_iff_iff]; simp; try omega)
    go_enter Tryz.func67, Tryz.ntmps67
    go_wp2
    go_ret
    exact ⟨ret_bool (by simp only [countOk]; exact t1.out), rfl⟩
  | 5, _ =>
    have t1 := Lib.hid (show (((n : Int) == 0) = (n == 0)) from by rw [Bool.eq_iff_iff]; simp; try omega)
    go_enter Tryz.func67, Tryz.ntmps67
    go_wp2
    go_ret
    exact ⟨ret_bool (by simp only [countOk]; exact t1.out), rfl⟩
  | 6, _ =>
    have t1 := Lib.hid (show (((n : Int) == 0) = (n == 0)) from by rw [Bool.eq_iff_iff]; simp; try omega)
    go_enter Tryz.func67, Tryz.ntmps67
    go_wp2
    go_ret
    exact ⟨ret_bool (by simp only [countOk]; exact t1.out), rfl⟩

/-! ## the reference's Verbs, Least and Most -/

def verbsS : List (List UInt8) := [[97, 112, 112, 101, 110, 100], [97, 117, 100, 105, 116], [99, 108, 111, 115, 101], [99, 111, 109, 112, 97, 99, 116], [99, 114, 97, 115, 104], [100, 105, 115, 107], [101, 114, 114], [102, 117, 115, 101], [108, 105, 115, 116], [108, 111, 97, 100], [111, 112, 101, 110], [111, 114, 100, 101, 114, 115], [112, 117, 116], [114, 101, 112, 108, 97, 121], [114, 111, 116, 97, 116, 101], [115, 110, 97, 112, 115, 104, 111, 116], [115, 121, 110, 99], [118, 105, 101, 119]]
theorem least_in : ∀ v ∈ verbsS, v ≠ vOpen → v ∉ vNumber → v ≠ vAppend → leastOf v = 0 := by decide
theorem verbs_all : (∀ v ∈ vNothing, v ∈ verbsS) ∧ vCrash ∈ verbsS ∧ vPut ∈ verbsS := by decide
theorem least_out {v : List UInt8} (h : v ∉ verbsS) (h1 : v ≠ vOpen) (h2 : v ∉ vNumber) (h3 : v ≠ vAppend) : leastOf v = -1 := by
  unfold leastOf
  rw [if_neg h1, if_neg (by rintro (x | x); exact h2 x; exact h3 x), if_neg]
  rintro (x | x | x)
  · exact h (verbs_all.1 v x)
  · exact h (x ▸ verbs_all.2.1)
  · exact h (x ▸ verbs_all.2.2)

theorem refVerbs_any (w : World) : Calls Tryz.prog 39 #[] w fun x w' => ∃ v, x = .returned v ∧ w'.ownsRow w.heap.size 9 1 v 18 (strs verbsS) ∧ Below w.heap.size w w' := by
  go_enter Tryz.func39, Tryz.ntmps39
  go_wp2
  go_ret
  exact ⟨_, rfl, ⟨rfl, .inr ⟨w.heap.size, 18, _, rfl, Nat.le_refl _, heap_alloc_new w _, Nat.le_refl _, by decide, rfl, rfl⟩⟩, (Below.refl _ _).alloc (Nat.le_refl _) _⟩

set_option maxRecDepth 100000 in
set_option maxHeartbeats 4000000 in
theorem least_any (v : List UInt8) (w : World) : Calls Tryz.prog 41 #[.string ⟨v.toArray⟩] w fun x w' => x = .returned (.int .i64 (leastOf v)) ∧ Below w.heap.size w w' := by
  by_cases h0 : v = [111, 112, 101, 110]
  · have k0 : (v == [111, 112, 101, 110]) = true := by rw [beq_iff_eq]; exact h0
    have hs := Lib.hid (show leastOf v = 2 by rw [h0]; decide)
    clear h0
    go_enter Tryz.func41, Tryz.ntmps41
    go_wp2
    go_ret
    exact ⟨by rw [hs.out]; rfl, Below.refl _ _⟩
  have k0 : (v == [111, 112, 101, 110]) = false := by rw [beq_eq_false_iff_ne]; exact h0
  have H0 := Lib.hid h0
  clear h0
  by_cases h1 : v = [100, 105, 115, 107]
  · have k1 : (v == [100, 105, 115, 107]) = true := by rw [beq_iff_eq]; exact h1
    have hs := Lib.hid (show leastOf v = 1 by rw [h1]; decide)
    clear h1
    go_enter Tryz.func41, Tryz.ntmps41
    go_wp2
    go_ret
    exact ⟨by rw [hs.out]; rfl, Below.refl _ _⟩
  have k1 : (v == [100, 105, 115, 107]) = false := by rw [beq_eq_false_iff_ne]; exact h1
  have H1 := Lib.hid h1
  clear h1
  by_cases h2 : v = [108, 111, 97, 100]
  · have k2 : (v == [108, 111, 97, 100]) = true := by rw [beq_iff_eq]; exact h2
    have hs := Lib.hid (show leastOf v = 1 by rw [h2]; decide)
    clear h2
    go_enter Tryz.func41, Tryz.ntmps41
    go_wp2
    go_ret
    exact ⟨by rw [hs.out]; rfl, Below.refl _ _⟩
  have k2 : (v == [108, 111, 97, 100]) = false := by rw [beq_eq_false_iff_ne]; exact h2
  have H2 := Lib.hid h2
  clear h2
  by_cases h3 : v = [114, 101, 112, 108, 97, 121]
  · have k3 : (v == [114, 101, 112, 108, 97, 121]) = true := by rw [beq_iff_eq]; exact h3
    have hs := Lib.hid (show leastOf v = 1 by rw [h3]; decide)
    clear h3
    go_enter Tryz.func41, Tryz.ntmps41
    go_wp2
    go_ret
    exact ⟨by rw [hs.out]; rfl, Below.refl _ _⟩
  have k3 : (v == [114, 101, 112, 108, 97, 121]) = false := by rw [beq_eq_false_iff_ne]; exact h3
  have H3 := Lib.hid h3
  clear h3
  by_cases h4 : v = [102, 117, 115, 101]
  · have k4 : (v == [102, 117, 115, 101]) = true := by rw [beq_iff_eq]; exact h4
    have hs := Lib.hid (show leastOf v = 1 by rw [h4]; decide)
    clear h4
    go_enter Tryz.func41, Tryz.ntmps41
    go_wp2
    go_ret
    exact ⟨by rw [hs.out]; rfl, Below.refl _ _⟩
  have k4 : (v == [102, 117, 115, 101]) = false := by rw [beq_eq_false_iff_ne]; exact h4
  have H4 := Lib.hid h4
  clear h4
  by_cases h5 : v = [97, 112, 112, 101, 110, 100]
  · have k5 : (v == [97, 112, 112, 101, 110, 100]) = true := by rw [beq_iff_eq]; exact h5
    have hs := Lib.hid (show leastOf v = 1 by rw [h5]; decide)
    clear h5
    go_enter Tryz.func41, Tryz.ntmps41
    go_wp2
    go_ret
    exact ⟨by rw [hs.out]; rfl, Below.refl _ _⟩
  have k5 : (v == [97, 112, 112, 101, 110, 100]) = false := by rw [beq_eq_false_iff_ne]; exact h5
  have H5 := Lib.hid h5
  clear h5
  have HN := Lib.hid (show v ∉ vNumber by simp only [vNumber, List.mem_cons, List.not_mem_nil, or_false, not_or]; exact ⟨H1.out, H2.out, H3.out, H4.out⟩)
  go_enter Tryz.func41, Tryz.ntmps41
  go_wp2_with fail
  refine (refVerbs_any _).mono ?_
  rintro x w1 ⟨sv, rfl, hown, hb1⟩
  obtain ⟨g, cap, rfl, _, _, _, _, hcs⟩ := own_get hown (by decide)
  have HCS := Lib.hid (show ∀ (j : Nat) t, verbsS[j]? = some t → w1.cell? ⟨g, j, none⟩ = some (.string ⟨t.toArray⟩) from fun j t h => hcs j _ (strs_get h))
  have HB1 := Lib.hid hb1
  have HLN := Lib.hid (show verbsS.length = 18 from rfl)
  clear hown hcs hb1
  go_wp2
  go_loopw [28] (fun iv wr => ∃ k : Nat, k ≤ 18 ∧ iv = .int .i64 k ∧ Hid (v ∉ verbsS.take k) ∧ wr = w1) (fun iv _ => 18 - (intOf iv).toNat)
  case atStart => exact ⟨0, Nat.zero_le _, rfl, Lib.hid (by simp), rfl⟩
  case round =>
    obtain ⟨k, hk, rfl, HT, rfl⟩ := hrel
    by_cases hlt : k < 18
    · obtain ⟨x, hx, htk, hmem⟩ := nth verbsS k (by rw [HLN.out]; exact hlt)
      have c0 := HCS.out k x hx
      have q1 : (k : Int) < 18 := by omega
      by_cases hxv : x = v
      · have t1 : (x == v) = true := by rw [beq_iff_eq]; exact hxv
        have hs := Lib.hid (show leastOf v = 0 from least_in v (hxv ▸ hmem) H0.out HN.out H5.out)
        clear hxv hmem htk hx
        go_wp2
        go_ret
        exact ⟨by rw [hs.out]; rfl, HB1.out⟩
      · have t1 : (x == v) = false := by rw [beq_eq_false_iff_ne]; exact hxv
        have HT' := Lib.hid (show v ∉ verbsS.take (k + 1) by rw [htk]; simp only [List.mem_append, List.mem_singleton, not_or]; exact ⟨HT.out, fun e => hxv e.symm⟩)
        clear hxv hmem htk hx
        go_wp2
        go_roundw
        case rel => exact ⟨k + 1, by omega, by go_num, HT', trivial⟩
        case measure => simp [intOf]; omega
    · obtain rfl : k = 18 := by omega
      have hs := Lib.hid (show leastOf v = -1 from least_out HT.out H0.out HN.out H5.out)
      go_wp2
      go_ret
      exact ⟨by rw [hs.out]; rfl, HB1.out⟩

theorem most_any (v : List UInt8) (w : World) : Calls Tryz.prog 65 #[.string ⟨v.toArray⟩] w fun x w' => x = .returned (.int .i64 (mostOf v)) ∧ Below w.heap.size w w' := by
  by_cases h : v = [99, 114, 97, 115, 104]
  · have k1 : (v == [99, 114, 97, 115, 104]) = true := by rw [beq_iff_eq]; exact h
    have hs := Lib.hid (show mostOf v = 64 by rw [h]; decide)
    clear h
    go_enter Tryz.func65, Tryz.ntmps65
    go_wp2
    go_ret
    exact ⟨by rw [hs.out]; rfl, Below.refl _ _⟩
  · have k1 : (v == [99, 114, 97, 115, 104]) = false := by rw [beq_eq_false_iff_ne]; exact h
    have hs := Lib.hid (show mostOf v = leastOf v by unfold mostOf; exact if_neg h)
    clear h
    go_enter Tryz.func65, Tryz.ntmps65
    go_wp2_with fail
    refine (least_any _ _).mono ?_
    rintro x w1 ⟨rfl, hb⟩
    have HB := Lib.hid hb
    clear hb
    go_wp2
    go_ret
    exact ⟨by rw [hs.out]; rfl, HB.out⟩

end Go.Proofs.YtecmpmnidlfgnaaGreatDoor
