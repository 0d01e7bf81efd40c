import Derived.Test.YtecmpmnidlfgnaaGreatDoorScriptNums
import Derived.Test.YtecmpmnidlfgnaaGreatDoorLibLaid
import Derived.Test.YtecmpmnidlfgnaaGreatDoorEvent2
namespace Go.Proofs.YtecmpmnidlfgnaaGreatDoor
open Go.RowKit

/-! ## script.Command -/

theorem counted_zero (s : Nat) (w : World) (hs : s ≤ 6) : Calls Tryz.prog 67 #[.int .i64 (s : Int), .int .i64 0] w fun x w' => x = .returned (.bool (countOk s 0)) ∧ w = w' := counted_any s 0 w hs

/-- a command of the call's own, and a number -/
def CmPost (r : Cmd × Int) (w : World) (x : Ending) (w' : World) : Prop :=
  ∃ nv rv, x = .returned (.tuple #[cmV r.1 nv rv, .int .i64 r.2]) ∧ w'.ownsRow w.heap.size 3 1 nv r.1.nums.length (intCells r.1.nums) ∧ w'.ownsRow w.heap.size 5 1 rv r.1.raw.length (Lib.byteCells r.1.raw) ∧ Below w.heap.size w w'

set_option maxRecDepth 100000 in
set_option maxHeartbeats 8000000 in
theorem cmdS_6 (s k0 : List UInt8) (args : List (List UInt8)) (w : World) (hsp : splitOn 32 s = k0 :: args) (hs : s.length ≤ 1048576) (hL : LibV w) (h6 : shapeV k0 = 6) :
    Calls Tryz.prog 33 #[.string ⟨s.toArray⟩] w (CmPost (cmdOf s) w) := by
  have hof : cmdOf s = cmdParts k0 args := by unfold cmdOf; rw [hsp]
  have hfin := Lib.hid (show cmdOf s = (cmdNone, 100) by rw [hof]; unfold cmdParts; rw [if_pos h6])
  have k6 : ((shapeV k0 : Int) == 6) = true := by rw [beq_iff_eq]; omega
  clear hof h6
  have HL := Lib.hid hL
  have hwl : Hid (∀ x ∈ k0 :: args, x.length ≤ 1048576) := Lib.hid fun x hx => by
    have := splitOn_part 32 s x (by rw [hsp]; exact hx)
    omega
  have hcount : args.length ≤ 1048576 := by
    have := splitOn_length 32 s
    rw [hsp] at this
    simp at this
    omega
  have HB0 := Lib.hid (show Below w.heap.size w (w.alloc (.cells #[.string ⟨#[]⟩, .slice none 0 0, .int .i64 0, .int .i64 0, .int .i64 0, .int .i64 0, .int .i64 0, .int .i64 0, .int .i64 0, .string ⟨#[]⟩, .int .i64 0, .string ⟨#[]⟩, .slice none 0 0] 59)) from (Below.refl _ _).alloc (Nat.le_refl _) _)
  have HZ0 := Lib.hid (show CmBlk (w.alloc (.cells #[.string ⟨#[]⟩, .slice none 0 0, .int .i64 0, .int .i64 0, .int .i64 0, .int .i64 0, .int .i64 0, .int .i64 0, .int .i64 0, .string ⟨#[]⟩, .int .i64 0, .string ⟨#[]⟩, .slice none 0 0] 59)) w.heap.size cmdNone (.slice none 0 0) (.slice none 0 0) from heap_alloc_new w _)
  clear hL
  go_enter Tryz.func33, Tryz.ntmps33
  go_wp2_with fail
  generalize w.alloc (.cells #[.string ⟨#[]⟩, .slice none 0 0, .int .i64 0, .int .i64 0, .int .i64 0, .int .i64 0, .int .i64 0, .int .i64 0, .int .i64 0, .string ⟨#[]⟩, .int .i64 0, .string ⟨#[]⟩, .slice none 0 0] 59) = w0 at *
  refine (Split_any s 32 _ (HL.out.below HB0.out) (by omega)).mono ?_
  rintro x w1 ⟨sv, rfl, hown, hb1⟩
  rw [hsp] at hown
  obtain ⟨g, cap, rfl, hg0, hg1, hcap, hcm, hcs⟩ := own_get hown (by simp)
  unfold maxLen at hcm
  simp only [List.length_cons] at hcap
  have HB1 := Lib.hid (Below.next HB0.out hb1)
  have HZ1 := Lib.hid (HZ0.out.below hb1)
  have HCS := Lib.hid (show ∀ (j : Nat) t, (k0 :: args)[j]? = some t → w1.cell? ⟨g, j, none⟩ = some (.string ⟨t.toArray⟩) from fun j t h => hcs j _ (strs_get h))
  have c0 : w1.cell? ⟨g, 0, none⟩ = some (.string ⟨k0.toArray⟩) := HCS.out 0 k0 rfl
  have hbA : Below w1.heap.size w1 (w1.alloc (.cells #[.string ⟨k0.toArray⟩, .slice none 0 0, .int .i64 0, .int .i64 0, .int .i64 0, .int .i64 0, .int .i64 0, .int .i64 0, .int .i64 0, .string ⟨#[]⟩, .int .i64 0, .string ⟨#[]⟩, .slice none 0 0] 59)) := (Below.refl _ _).alloc (Nat.le_refl _) _
  have HB2 := Lib.hid (Below.next HB1.out hbA)
  have HZ2 := Lib.hid (HZ1.out.below hbA)
  have HC2 := Lib.hid (show CmBlk (w1.alloc (.cells #[.string ⟨k0.toArray⟩, .slice none 0 0, .int .i64 0, .int .i64 0, .int .i64 0, .int .i64 0, .int .i64 0, .int .i64 0, .int .i64 0, .string ⟨#[]⟩, .int .i64 0, .string ⟨#[]⟩, .slice none 0 0] 59)) w1.heap.size ⟨k0, [], evNone, []⟩ (.slice none 0 0) (.slice none 0 0) from heap_alloc_new w1 _)
  have HA := Lib.hid (show ∀ (j : Nat) t, (k0 :: args)[j]? = some t → (w1.alloc (.cells #[.string ⟨k0.toArray⟩, .slice none 0 0, .int .i64 0, .int .i64 0, .int .i64 0, .int .i64 0, .int .i64 0, .int .i64 0, .int .i64 0, .string ⟨#[]⟩, .int .i64 0, .string ⟨#[]⟩, .slice none 0 0] 59)).cell? ⟨g, j, none⟩ = some (.string ⟨t.toArray⟩) from fun j t h => cell_later hbA (HCS.out j t h))
  have hZlt := HZ0.out.lt
  clear hown hcs hb1 hbA HB0 HZ0 HB1 HZ1 HCS hsp
  go_wp2_with fail
  generalize hbe : w1.heap.size = be at *
  generalize w1.alloc (.cells #[.string ⟨k0.toArray⟩, .slice none 0 0, .int .i64 0, .int .i64 0, .int .i64 0, .int .i64 0, .int .i64 0, .int .i64 0, .int .i64 0, .string ⟨#[]⟩, .int .i64 0, .string ⟨#[]⟩, .slice none 0 0] 59) = w2 at *
  have hwb : w.heap.size < be := by omega
  have hgb : g ≠ be := by omega
  have hgw : w.heap.size ≠ g := by omega
  clear hbe hZlt hg0 hg1 c0
  have c0 := HA.out 0 k0 rfl
  have d0 : w2.cell? ⟨be, 0, none⟩ = some (.string ⟨k0.toArray⟩) := HC2.out.cell 0
  have d12 : w2.cell? ⟨be, 12, none⟩ = some (.slice none 0 0) := HC2.out.cell 12
  refine (shapeOf_any k0 _).mono ?_
  rintro x w3 ⟨rfl, rfl⟩
  have hHA := HA
  by_cases hc1 : cap = 1
  case' pos =>
    obtain rfl : args = [] := List.eq_nil_of_length_eq_zero (by omega)
    subst hc1
    simp only [List.length_nil] at *
  case' neg =>
    have hc2 : 1 < cap := by omega
    have hc3 : (1 : Int) < (cap : Int) := by omega
  all_goals
    go_wp2_with (with_reducible refine wpList_store_cm rfl (.tmp 2) (.tmp 29) rfl w.heap.size cmdNone cmdNone (.slice none 0 0) (.slice none 0 0) (.slice none 0 0) (.slice none 0 0) rfl rfl rfl rfl HZ2.out ?_)
    exact bodyPost_ret (v := .tuple #[cmV cmdNone (.slice none 0 0) (.slice none 0 0), .int .i64 100]) (results_cm rfl _ _ w.heap.size cmdNone (.slice none 0 0) (.slice none 0 0) _ rfl rfl (HZ2.out.row cmdNone (.slice none 0 0) (.slice none 0 0))) rfl ⟨_, _, by rw [hfin.out], by rw [hfin.out]; exact World.ownsRow_nil _ _ _ _, by rw [hfin.out]; exact World.ownsRow_nil _ _ _ _, Below.row HB2.out (Nat.le_refl _) _⟩

set_option maxRecDepth 100000 in
set_option maxHeartbeats 8000000 in
theorem cmdS_4x (s k0 : List UInt8) (args : List (List UInt8)) (w : World) (hsp : splitOn 32 s = k0 :: args) (hs : s.length ≤ 1048576) (hL : LibV w) (h4 : shapeV k0 = 4) (hl : ¬ 2 ≤ args.length) :
    Calls Tryz.prog 33 #[.string ⟨s.toArray⟩] w (CmPost (cmdOf s) w) := by
  have hof : cmdOf s = cmdParts k0 args := by unfold cmdOf; rw [hsp]
  have hfin := Lib.hid (show cmdOf s = (cmdNone, 100) by rw [hof]; unfold cmdParts; rw [if_neg (by omega), if_pos h4]; unfold cmdApp; match args, hl with | [], _ => rfl | [_], _ => rfl | _ :: _ :: _, h => exact absurd (by simp) h)
  have k6 : ((shapeV k0 : Int) == 6) = false := by rw [beq_eq_false_iff_ne]; omega
  have k4 : ((shapeV k0 : Int) == 4) = true := by rw [beq_iff_eq]; omega
  have k5 : ((shapeV k0 : Int) == 5) = false := by rw [beq_eq_false_iff_ne]; omega
  have kl := hl
  clear hof h4 hl
  have HL := Lib.hid hL
  have hwl : Hid (∀ x ∈ k0 :: args, x.length ≤ 1048576) := Lib.hid fun x hx => by
    have := splitOn_part 32 s x (by rw [hsp]; exact hx)
    omega
  have hcount : args.length ≤ 1048576 := by
    have := splitOn_length 32 s
    rw [hsp] at this
    simp at this
    omega
  have HB0 := Lib.hid (show Below w.heap.size w (w.alloc (.cells #[.string ⟨#[]⟩, .slice none 0 0, .int .i64 0, .int .i64 0, .int .i64 0, .int .i64 0, .int .i64 0, .int .i64 0, .int .i64 0, .string ⟨#[]⟩, .int .i64 0, .string ⟨#[]⟩, .slice none 0 0] 59)) from (Below.refl _ _).alloc (Nat.le_refl _) _)
  have HZ0 := Lib.hid (show CmBlk (w.alloc (.cells #[.string ⟨#[]⟩, .slice none 0 0, .int .i64 0, .int .i64 0, .int .i64 0, .int .i64 0, .int .i64 0, .int .i64 0, .int .i64 0, .string ⟨#[]⟩, .int .i64 0, .string ⟨#[]⟩, .slice none 0 0] 59)) w.heap.size cmdNone (.slice none 0 0) (.slice none 0 0) from heap_alloc_new w _)
  clear hL
  go_enter Tryz.func33, Tryz.ntmps33
  go_wp2_with fail
  generalize w.alloc (.cells #[.string ⟨#[]⟩, .slice none 0 0, .int .i64 0, .int .i64 0, .int .i64 0, .int .i64 0, .int .i64 0, .int .i64 0, .int .i64 0, .string ⟨#[]⟩, .int .i64 0, .string ⟨#[]⟩, .slice none 0 0] 59) = w0 at *
  refine (Split_any s 32 _ (HL.out.below HB0.out) (by omega)).mono ?_
  rintro x w1 ⟨sv, rfl, hown, hb1⟩
  rw [hsp] at hown
  obtain ⟨g, cap, rfl, hg0, hg1, hcap, hcm, hcs⟩ := own_get hown (by simp)
  unfold maxLen at hcm
  simp only [List.length_cons] at hcap
  have HB1 := Lib.hid (Below.next HB0.out hb1)
  have HZ1 := Lib.hid (HZ0.out.below hb1)
  have HCS := Lib.hid (show ∀ (j : Nat) t, (k0 :: args)[j]? = some t → w1.cell? ⟨g, j, none⟩ = some (.string ⟨t.toArray⟩) from fun j t h => hcs j _ (strs_get h))
  have c0 : w1.cell? ⟨g, 0, none⟩ = some (.string ⟨k0.toArray⟩) := HCS.out 0 k0 rfl
  have hbA : Below w1.heap.size w1 (w1.alloc (.cells #[.string ⟨k0.toArray⟩, .slice none 0 0, .int .i64 0, .int .i64 0, .int .i64 0, .int .i64 0, .int .i64 0, .int .i64 0, .int .i64 0, .string ⟨#[]⟩, .int .i64 0, .string ⟨#[]⟩, .slice none 0 0] 59)) := (Below.refl _ _).alloc (Nat.le_refl _) _
  have HB2 := Lib.hid (Below.next HB1.out hbA)
  have HZ2 := Lib.hid (HZ1.out.below hbA)
  have HC2 := Lib.hid (show CmBlk (w1.alloc (.cells #[.string ⟨k0.toArray⟩, .slice none 0 0, .int .i64 0, .int .i64 0, .int .i64 0, .int .i64 0, .int .i64 0, .int .i64 0, .int .i64 0, .string ⟨#[]⟩, .int .i64 0, .string ⟨#[]⟩, .slice none 0 0] 59)) w1.heap.size ⟨k0, [], evNone, []⟩ (.slice none 0 0) (.slice none 0 0) from heap_alloc_new w1 _)
  have HA := Lib.hid (show ∀ (j : Nat) t, (k0 :: args)[j]? = some t → (w1.alloc (.cells #[.string ⟨k0.toArray⟩, .slice none 0 0, .int .i64 0, .int .i64 0, .int .i64 0, .int .i64 0, .int .i64 0, .int .i64 0, .int .i64 0, .string ⟨#[]⟩, .int .i64 0, .string ⟨#[]⟩, .slice none 0 0] 59)).cell? ⟨g, j, none⟩ = some (.string ⟨t.toArray⟩) from fun j t h => cell_later hbA (HCS.out j t h))
  have hZlt := HZ0.out.lt
  clear hown hcs hb1 hbA HB0 HZ0 HB1 HZ1 HCS hsp
  go_wp2_with fail
  generalize hbe : w1.heap.size = be at *
  generalize w1.alloc (.cells #[.string ⟨k0.toArray⟩, .slice none 0 0, .int .i64 0, .int .i64 0, .int .i64 0, .int .i64 0, .int .i64 0, .int .i64 0, .int .i64 0, .string ⟨#[]⟩, .int .i64 0, .string ⟨#[]⟩, .slice none 0 0] 59) = w2 at *
  have hwb : w.heap.size < be := by omega
  have hgb : g ≠ be := by omega
  have hgw : w.heap.size ≠ g := by omega
  clear hbe hZlt hg0 hg1 c0
  have c0 := HA.out 0 k0 rfl
  have d0 : w2.cell? ⟨be, 0, none⟩ = some (.string ⟨k0.toArray⟩) := HC2.out.cell 0
  have d12 : w2.cell? ⟨be, 12, none⟩ = some (.slice none 0 0) := HC2.out.cell 12
  refine (shapeOf_any k0 _).mono ?_
  rintro x w3 ⟨rfl, rfl⟩
  have hHA := HA
  by_cases hc1 : cap = 1
  case' pos =>
    obtain rfl : args = [] := List.eq_nil_of_length_eq_zero (by omega)
    subst hc1
    simp only [List.length_nil] at *
  case' neg =>
    have hc2 : 1 < cap := by omega
    have hc3 : (1 : Int) < (cap : Int) := by omega
  all_goals
    go_wp2_with (first | (go_at_call 67; (with_reducible first | refine (counted_any (shapeV k0) _ _ (shape_le _)).mono ?_ | refine (counted_zero (shapeV k0) _ (shape_le _)).mono ?_); rintro x w4 ⟨rfl, rfl⟩) | (with_reducible refine wpList_store_cm rfl (.tmp 2) (.tmp 97) rfl w.heap.size cmdNone cmdNone (.slice none 0 0) (.slice none 0 0) (.slice none 0 0) (.slice none 0 0) rfl rfl rfl rfl HZ2.out ?_))
    exact bodyPost_ret (v := .tuple #[cmV cmdNone (.slice none 0 0) (.slice none 0 0), .int .i64 100]) (results_cm rfl _ _ w.heap.size cmdNone (.slice none 0 0) (.slice none 0 0) _ rfl rfl (HZ2.out.row cmdNone (.slice none 0 0) (.slice none 0 0))) rfl ⟨_, _, by rw [hfin.out], by rw [hfin.out]; exact World.ownsRow_nil _ _ _ _, by rw [hfin.out]; exact World.ownsRow_nil _ _ _ _, Below.row HB2.out (Nat.le_refl _) _⟩

set_option maxRecDepth 100000 in
set_option maxHeartbeats 8000000 in
theorem cmdS_5x (s k0 : List UInt8) (args : List (List UInt8)) (w : World) (hsp : splitOn 32 s = k0 :: args) (hs : s.length ≤ 1048576) (hL : LibV w) (h5 : shapeV k0 = 5) (hl : args.length ≠ 1) :
    Calls Tryz.prog 33 #[.string ⟨s.toArray⟩] w (CmPost (cmdOf s) w) := by
  have hof : cmdOf s = cmdParts k0 args := by unfold cmdOf; rw [hsp]
  have hfin := Lib.hid (show cmdOf s = (cmdNone, 100) by rw [hof]; unfold cmdParts; rw [if_neg (by omega), if_neg (by omega), if_pos h5]; unfold cmdPut; match args, hl with | [], _ => rfl | [_], h => exact absurd rfl h | _ :: _ :: _, _ => rfl)
  have k6 : ((shapeV k0 : Int) == 6) = false := by rw [beq_eq_false_iff_ne]; omega
  have k4 : ((shapeV k0 : Int) == 4) = false := by rw [beq_eq_false_iff_ne]; omega
  have k5 : ((shapeV k0 : Int) == 5) = true := by rw [beq_iff_eq]; omega
  have kl : ((args.length : Int) == 1) = false := by rw [beq_eq_false_iff_ne]; omega
  clear hof h5 hl
  have HL := Lib.hid hL
  have hwl : Hid (∀ x ∈ k0 :: args, x.length ≤ 1048576) := Lib.hid fun x hx => by
    have := splitOn_part 32 s x (by rw [hsp]; exact hx)
    omega
  have hcount : args.length ≤ 1048576 := by
    have := splitOn_length 32 s
    rw [hsp] at this
    simp at this
    omega
  have HB0 := Lib.hid (show Below w.heap.size w (w.alloc (.cells #[.string ⟨#[]⟩, .slice none 0 0, .int .i64 0, .int .i64 0, .int .i64 0, .int .i64 0, .int .i64 0, .int .i64 0, .int .i64 0, .string ⟨#[]⟩, .int .i64 0, .string ⟨#[]⟩, .slice none 0 0] 59)) from (Below.refl _ _).alloc (Nat.le_refl _) _)
  have HZ0 := Lib.hid (show CmBlk (w.alloc (.cells #[.string ⟨#[]⟩, .slice none 0 0, .int .i64 0, .int .i64 0, .int .i64 0, .int .i64 0, .int .i64 0, .int .i64 0, .int .i64 0, .string ⟨#[]⟩, .int .i64 0, .string ⟨#[]⟩, .slice none 0 0] 59)) w.heap.size cmdNone (.slice none 0 0) (.slice none 0 0) from heap_alloc_new w _)
  clear hL
  go_enter Tryz.func33, Tryz.ntmps33
  go_wp2_with fail
  generalize w.alloc (.cells #[.string ⟨#[]⟩, .slice none 0 0, .int .i64 0, .int .i64 0, .int .i64 0, .int .i64 0, .int .i64 0, .int .i64 0, .int .i64 0, .string ⟨#[]⟩, .int .i64 0, .string ⟨#[]⟩, .slice none 0 0] 59) = w0 at *
  refine (Split_any s 32 _ (HL.out.below HB0.out) (by omega)).mono ?_
  rintro x w1 ⟨sv, rfl, hown, hb1⟩
  rw [hsp] at hown
  obtain ⟨g, cap, rfl, hg0, hg1, hcap, hcm, hcs⟩ := own_get hown (by simp)
  unfold maxLen at hcm
  simp only [List.length_cons] at hcap
  have HB1 := Lib.hid (Below.next HB0.out hb1)
  have HZ1 := Lib.hid (HZ0.out.below hb1)
  have HCS := Lib.hid (show ∀ (j : Nat) t, (k0 :: args)[j]? = some t → w1.cell? ⟨g, j, none⟩ = some (.string ⟨t.toArray⟩) from fun j t h => hcs j _ (strs_get h))
  have c0 : w1.cell? ⟨g, 0, none⟩ = some (.string ⟨k0.toArray⟩) := HCS.out 0 k0 rfl
  have hbA : Below w1.heap.size w1 (w1.alloc (.cells #[.string ⟨k0.toArray⟩, .slice none 0 0, .int .i64 0, .int .i64 0, .int .i64 0, .int .i64 0, .int .i64 0, .int .i64 0, .int .i64 0, .string ⟨#[]⟩, .int .i64 0, .string ⟨#[]⟩, .slice none 0 0] 59)) := (Below.refl _ _).alloc (Nat.le_refl _) _
  have HB2 := Lib.hid (Below.next HB1.out hbA)
  have HZ2 := Lib.hid (HZ1.out.below hbA)
  have HC2 := Lib.hid (show CmBlk (w1.alloc (.cells #[.string ⟨k0.toArray⟩, .slice none 0 0, .int .i64 0, .int .i64 0, .int .i64 0, .int .i64 0, .int .i64 0, .int .i64 0, .int .i64 0, .string ⟨#[]⟩, .int .i64 0, .string ⟨#[]⟩, .slice none 0 0] 59)) w1.heap.size ⟨k0, [], evNone, []⟩ (.slice none 0 0) (.slice none 0 0) from heap_alloc_new w1 _)
  have HA := Lib.hid (show ∀ (j : Nat) t, (k0 :: args)[j]? = some t → (w1.alloc (.cells #[.string ⟨k0.toArray⟩, .slice none 0 0, .int .i64 0, .int .i64 0, .int .i64 0, .int .i64 0, .int .i64 0, .int .i64 0, .int .i64 0, .string ⟨#[]⟩, .int .i64 0, .string ⟨#[]⟩, .slice none 0 0] 59)).cell? ⟨g, j, none⟩ = some (.string ⟨t.toArray⟩) from fun j t h => cell_later hbA (HCS.out j t h))
  have hZlt := HZ0.out.lt
  clear hown hcs hb1 hbA HB0 HZ0 HB1 HZ1 HCS hsp
  go_wp2_with fail
  generalize hbe : w1.heap.size = be at *
  generalize w1.alloc (.cells #[.string ⟨k0.toArray⟩, .slice none 0 0, .int .i64 0, .int .i64 0, .int .i64 0, .int .i64 0, .int .i64 0, .int .i64 0, .int .i64 0, .string ⟨#[]⟩, .int .i64 0, .string ⟨#[]⟩, .slice none 0 0] 59) = w2 at *
  have hwb : w.heap.size < be := by omega
  have hgb : g ≠ be := by omega
  have hgw : w.heap.size ≠ g := by omega
  clear hbe hZlt hg0 hg1 c0
  have c0 := HA.out 0 k0 rfl
  have d0 : w2.cell? ⟨be, 0, none⟩ = some (.string ⟨k0.toArray⟩) := HC2.out.cell 0
  have d12 : w2.cell? ⟨be, 12, none⟩ = some (.slice none 0 0) := HC2.out.cell 12
  refine (shapeOf_any k0 _).mono ?_
  rintro x w3 ⟨rfl, rfl⟩
  have hHA := HA
  by_cases hc1 : cap = 1
  case' pos =>
    obtain rfl : args = [] := List.eq_nil_of_length_eq_zero (by omega)
    subst hc1
    simp only [List.length_nil] at *
  case' neg =>
    have hc2 : 1 < cap := by omega
    have hc3 : (1 : Int) < (cap : Int) := by omega
  all_goals
    go_wp2_with (first | (go_at_call 67; (with_reducible first | refine (counted_any (shapeV k0) _ _ (shape_le _)).mono ?_ | refine (counted_zero (shapeV k0) _ (shape_le _)).mono ?_); rintro x w4 ⟨rfl, rfl⟩) | (with_reducible refine wpList_store_cm rfl (.tmp 2) (.tmp 97) rfl w.heap.size cmdNone cmdNone (.slice none 0 0) (.slice none 0 0) (.slice none 0 0) (.slice none 0 0) rfl rfl rfl rfl HZ2.out ?_))
    exact bodyPost_ret (v := .tuple #[cmV cmdNone (.slice none 0 0) (.slice none 0 0), .int .i64 100]) (results_cm rfl _ _ w.heap.size cmdNone (.slice none 0 0) (.slice none 0 0) _ rfl rfl (HZ2.out.row cmdNone (.slice none 0 0) (.slice none 0 0))) rfl ⟨_, _, by rw [hfin.out], by rw [hfin.out]; exact World.ownsRow_nil _ _ _ _, by rw [hfin.out]; exact World.ownsRow_nil _ _ _ _, Below.row HB2.out (Nat.le_refl _) _⟩

set_option maxRecDepth 100000 in
set_option maxHeartbeats 8000000 in
theorem cmdS_nx (s k0 : List UInt8) (args : List (List UInt8)) (w : World) (hsp : splitOn 32 s = k0 :: args) (hs : s.length ≤ 1048576) (hL : LibV w) (h6 : shapeV k0 ≠ 6) (h4 : shapeV k0 ≠ 4) (h5 : shapeV k0 ≠ 5) (hc : countOk (shapeV k0) args.length = false) :
    Calls Tryz.prog 33 #[.string ⟨s.toArray⟩] w (CmPost (cmdOf s) w) := by
  have hof : cmdOf s = cmdParts k0 args := by unfold cmdOf; rw [hsp]
  have hfin := Lib.hid (show cmdOf s = (cmdNone, 100) by rw [hof]; unfold cmdParts; rw [if_neg h6, if_neg h4, if_neg h5]; unfold cmdNums; rw [if_pos hc])
  have k6 : ((shapeV k0 : Int) == 6) = false := by rw [beq_eq_false_iff_ne]; omega
  have k4 : ((shapeV k0 : Int) == 4) = false := by rw [beq_eq_false_iff_ne]; omega
  have k5 : ((shapeV k0 : Int) == 5) = false := by rw [beq_eq_false_iff_ne]; omega
  clear hof h6 h4 h5
  have HL := Lib.hid hL
  have hwl : Hid (∀ x ∈ k0 :: args, x.length ≤ 1048576) := Lib.hid fun x hx => by
    have := splitOn_part 32 s x (by rw [hsp]; exact hx)
    omega
  have hcount : args.length ≤ 1048576 := by
    have := splitOn_length 32 s
    rw [hsp] at this
    simp at this
    omega
  have HB0 := Lib.hid (show Below w.heap.size w (w.alloc (.cells #[.string ⟨#[]⟩, .slice none 0 0, .int .i64 0, .int .i64 0, .int .i64 0, .int .i64 0, .int .i64 0, .int .i64 0, .int .i64 0, .string ⟨#[]⟩, .int .i64 0, .string ⟨#[]⟩, .slice none 0 0] 59)) from (Below.refl _ _).alloc (Nat.le_refl _) _)
  have HZ0 := Lib.hid (show CmBlk (w.alloc (.cells #[.string ⟨#[]⟩, .slice none 0 0, .int .i64 0, .int .i64 0, .int .i64 0, .int .i64 0, .int .i64 0, .int .i64 0, .int .i64 0, .string ⟨#[]⟩, .int .i64 0, .string ⟨#[]⟩, .slice none 0 0] 59)) w.heap.size cmdNone (.slice none 0 0) (.slice none 0 0) from heap_alloc_new w _)
  clear hL
  go_enter Tryz.func33, Tryz.ntmps33
  go_wp2_with fail
  generalize w.alloc (.cells #[.string ⟨#[]⟩, .slice none 0 0, .int .i64 0, .int .i64 0, .int .i64 0, .int .i64 0, .int .i64 0, .int .i64 0, .int .i64 0, .string ⟨#[]⟩, .int .i64 0, .string ⟨#[]⟩, .slice none 0 0] 59) = w0 at *
  refine (Split_any s 32 _ (HL.out.below HB0.out) (by omega)).mono ?_
  rintro x w1 ⟨sv, rfl, hown, hb1⟩
  rw [hsp] at hown
  obtain ⟨g, cap, rfl, hg0, hg1, hcap, hcm, hcs⟩ := own_get hown (by simp)
  unfold maxLen at hcm
  simp only [List.length_cons] at hcap
  have HB1 := Lib.hid (Below.next HB0.out hb1)
  have HZ1 := Lib.hid (HZ0.out.below hb1)
  have HCS := Lib.hid (show ∀ (j : Nat) t, (k0 :: args)[j]? = some t → w1.cell? ⟨g, j, none⟩ = some (.string ⟨t.toArray⟩) from fun j t h => hcs j _ (strs_get h))
  have c0 : w1.cell? ⟨g, 0, none⟩ = some (.string ⟨k0.toArray⟩) := HCS.out 0 k0 rfl
  have hbA : Below w1.heap.size w1 (w1.alloc (.cells #[.string ⟨k0.toArray⟩, .slice none 0 0, .int .i64 0, .int .i64 0, .int .i64 0, .int .i64 0, .int .i64 0, .int .i64 0, .int .i64 0, .string ⟨#[]⟩, .int .i64 0, .string ⟨#[]⟩, .slice none 0 0] 59)) := (Below.refl _ _).alloc (Nat.le_refl _) _
  have HB2 := Lib.hid (Below.next HB1.out hbA)
  have HZ2 := Lib.hid (HZ1.out.below hbA)
  have HC2 := Lib.hid (show CmBlk (w1.alloc (.cells #[.string ⟨k0.toArray⟩, .slice none 0 0, .int .i64 0, .int .i64 0, .int .i64 0, .int .i64 0, .int .i64 0, .int .i64 0, .int .i64 0, .string ⟨#[]⟩, .int .i64 0, .string ⟨#[]⟩, .slice none 0 0] 59)) w1.heap.size ⟨k0, [], evNone, []⟩ (.slice none 0 0) (.slice none 0 0) from heap_alloc_new w1 _)
  have HA := Lib.hid (show ∀ (j : Nat) t, (k0 :: args)[j]? = some t → (w1.alloc (.cells #[.string ⟨k0.toArray⟩, .slice none 0 0, .int .i64 0, .int .i64 0, .int .i64 0, .int .i64 0, .int .i64 0, .int .i64 0, .int .i64 0, .string ⟨#[]⟩, .int .i64 0, .string ⟨#[]⟩, .slice none 0 0] 59)).cell? ⟨g, j, none⟩ = some (.string ⟨t.toArray⟩) from fun j t h => cell_later hbA (HCS.out j t h))
  have hZlt := HZ0.out.lt
  clear hown hcs hb1 hbA HB0 HZ0 HB1 HZ1 HCS hsp
  go_wp2_with fail
  generalize hbe : w1.heap.size = be at *
  generalize w1.alloc (.cells #[.string ⟨k0.toArray⟩, .slice none 0 0, .int .i64 0, .int .i64 0, .int .i64 0, .int .i64 0, .int .i64 0, .int .i64 0, .int .i64 0, .string ⟨#[]⟩, .int .i64 0, .string ⟨#[]⟩, .slice none 0 0] 59) = w2 at *
  have hwb : w.heap.size < be := by omega
  have hgb : g ≠ be := by omega
  have hgw : w.heap.size ≠ g := by omega
  clear hbe hZlt hg0 hg1 c0
  have c0 := HA.out 0 k0 rfl
  have d0 : w2.cell? ⟨be, 0, none⟩ = some (.string ⟨k0.toArray⟩) := HC2.out.cell 0
  have d12 : w2.cell? ⟨be, 12, none⟩ = some (.slice none 0 0) := HC2.out.cell 12
  refine (shapeOf_any k0 _).mono ?_
  rintro x w3 ⟨rfl, rfl⟩
  have hHA := HA
  by_cases hc1 : cap = 1
  case' pos =>
    obtain rfl : args = [] := List.eq_nil_of_length_eq_zero (by omega)
    subst hc1
    simp only [List.length_nil] at *
  case' neg =>
    have hc2 : 1 < cap := by omega
    have hc3 : (1 : Int) < (cap : Int) := by omega
  all_goals
    go_wp2_with (first | (go_at_call 67; (with_reducible first | refine (counted_any (shapeV k0) _ _ (shape_le _)).mono ?_ | refine (counted_zero (shapeV k0) _ (shape_le _)).mono ?_); rintro x w4 ⟨rfl, rfl⟩) | (with_reducible refine wpList_store_cm rfl (.tmp 2) (.tmp 97) rfl w.heap.size cmdNone cmdNone (.slice none 0 0) (.slice none 0 0) (.slice none 0 0) (.slice none 0 0) rfl rfl rfl rfl HZ2.out ?_))
    exact bodyPost_ret (v := .tuple #[cmV cmdNone (.slice none 0 0) (.slice none 0 0), .int .i64 100]) (results_cm rfl _ _ w.heap.size cmdNone (.slice none 0 0) (.slice none 0 0) _ rfl rfl (HZ2.out.row cmdNone (.slice none 0 0) (.slice none 0 0))) rfl ⟨_, _, by rw [hfin.out], by rw [hfin.out]; exact World.ownsRow_nil _ _ _ _, by rw [hfin.out]; exact World.ownsRow_nil _ _ _ _, Below.row HB2.out (Nat.le_refl _) _⟩

set_option maxRecDepth 100000 in
set_option maxHeartbeats 8000000 in
theorem cmdS_n (s k0 : List UInt8) (args : List (List UInt8)) (w : World) (hsp : splitOn 32 s = k0 :: args) (hs : s.length ≤ 1048576) (hL : LibV w) (h6 : shapeV k0 ≠ 6) (h4 : shapeV k0 ≠ 4) (h5 : shapeV k0 ≠ 5) (hc : countOk (shapeV k0) args.length = true) :
    Calls Tryz.prog 33 #[.string ⟨s.toArray⟩] w (CmPost (cmdOf s) w) := by
  have hof : cmdOf s = cmdParts k0 args := by unfold cmdOf; rw [hsp]
  have hof2 : cmdOf s = match numsOf args with | none => (cmdNone, 101) | some ns => (⟨k0, ns, evNone, []⟩, 0) := by
    rw [hof]; unfold cmdParts; rw [if_neg h6, if_neg h4, if_neg h5]; unfold cmdNums; rw [if_neg (by rw [hc]; decide)]; rfl
  have HOF := Lib.hid hof2
  have k6 : ((shapeV k0 : Int) == 6) = false := by rw [beq_eq_false_iff_ne]; omega
  have k4 : ((shapeV k0 : Int) == 4) = false := by rw [beq_eq_false_iff_ne]; omega
  have k5 : ((shapeV k0 : Int) == 5) = false := by rw [beq_eq_false_iff_ne]; omega
  clear hof hof2 h6 h4 h5
  have HL := Lib.hid hL
  have hwl : Hid (∀ x ∈ k0 :: args, x.length ≤ 1048576) := Lib.hid fun x hx => by
    have := splitOn_part 32 s x (by rw [hsp]; exact hx)
    omega
  have hcount : args.length ≤ 1048576 := by
    have := splitOn_length 32 s
    rw [hsp] at this
    simp at this
    omega
  have HB0 := Lib.hid (show Below w.heap.size w (w.alloc (.cells #[.string ⟨#[]⟩, .slice none 0 0, .int .i64 0, .int .i64 0, .int .i64 0, .int .i64 0, .int .i64 0, .int .i64 0, .int .i64 0, .string ⟨#[]⟩, .int .i64 0, .string ⟨#[]⟩, .slice none 0 0] 59)) from (Below.refl _ _).alloc (Nat.le_refl _) _)
  have HZ0 := Lib.hid (show CmBlk (w.alloc (.cells #[.string ⟨#[]⟩, .slice none 0 0, .int .i64 0, .int .i64 0, .int .i64 0, .int .i64 0, .int .i64 0, .int .i64 0, .int .i64 0, .string ⟨#[]⟩, .int .i64 0, .string ⟨#[]⟩, .slice none 0 0] 59)) w.heap.size cmdNone (.slice none 0 0) (.slice none 0 0) from heap_alloc_new w _)
  clear hL
  go_enter Tryz.func33, Tryz.ntmps33
  go_wp2_with fail
  generalize w.alloc (.cells #[.string ⟨#[]⟩, .slice none 0 0, .int .i64 0, .int .i64 0, .int .i64 0, .int .i64 0, .int .i64 0, .int .i64 0, .int .i64 0, .string ⟨#[]⟩, .int .i64 0, .string ⟨#[]⟩, .slice none 0 0] 59) = w0 at *
  refine (Split_any s 32 _ (HL.out.below HB0.out) (by omega)).mono ?_
  rintro x w1 ⟨sv, rfl, hown, hb1⟩
  rw [hsp] at hown
  obtain ⟨g, cap, rfl, hg0, hg1, hcap, hcm, hcs⟩ := own_get hown (by simp)
  unfold maxLen at hcm
  simp only [List.length_cons] at hcap
  have HB1 := Lib.hid (Below.next HB0.out hb1)
  have HZ1 := Lib.hid (HZ0.out.below hb1)
  have HCS := Lib.hid (show ∀ (j : Nat) t, (k0 :: args)[j]? = some t → w1.cell? ⟨g, j, none⟩ = some (.string ⟨t.toArray⟩) from fun j t h => hcs j _ (strs_get h))
  have c0 : w1.cell? ⟨g, 0, none⟩ = some (.string ⟨k0.toArray⟩) := HCS.out 0 k0 rfl
  have hbA : Below w1.heap.size w1 (w1.alloc (.cells #[.string ⟨k0.toArray⟩, .slice none 0 0, .int .i64 0, .int .i64 0, .int .i64 0, .int .i64 0, .int .i64 0, .int .i64 0, .int .i64 0, .string ⟨#[]⟩, .int .i64 0, .string ⟨#[]⟩, .slice none 0 0] 59)) := (Below.refl _ _).alloc (Nat.le_refl _) _
  have HB2 := Lib.hid (Below.next HB1.out hbA)
  have HZ2 := Lib.hid (HZ1.out.below hbA)
  have HC2 := Lib.hid (show CmBlk (w1.alloc (.cells #[.string ⟨k0.toArray⟩, .slice none 0 0, .int .i64 0, .int .i64 0, .int .i64 0, .int .i64 0, .int .i64 0, .int .i64 0, .int .i64 0, .string ⟨#[]⟩, .int .i64 0, .string ⟨#[]⟩, .slice none 0 0] 59)) w1.heap.size ⟨k0, [], evNone, []⟩ (.slice none 0 0) (.slice none 0 0) from heap_alloc_new w1 _)
  have HA := Lib.hid (show ∀ (j : Nat) t, (k0 :: args)[j]? = some t → (w1.alloc (.cells #[.string ⟨k0.toArray⟩, .slice none 0 0, .int .i64 0, .int .i64 0, .int .i64 0, .int .i64 0, .int .i64 0, .int .i64 0, .int .i64 0, .string ⟨#[]⟩, .int .i64 0, .string ⟨#[]⟩, .slice none 0 0] 59)).cell? ⟨g, j, none⟩ = some (.string ⟨t.toArray⟩) from fun j t h => cell_later hbA (HCS.out j t h))
  have hZlt := HZ0.out.lt
  clear hown hcs hb1 hbA HB0 HZ0 HB1 HZ1 HCS hsp
  go_wp2_with fail
  generalize hbe : w1.heap.size = be at *
  generalize w1.alloc (.cells #[.string ⟨k0.toArray⟩, .slice none 0 0, .int .i64 0, .int .i64 0, .int .i64 0, .int .i64 0, .int .i64 0, .int .i64 0, .int .i64 0, .string ⟨#[]⟩, .int .i64 0, .string ⟨#[]⟩, .slice none 0 0] 59) = w2 at *
  have hwb : w.heap.size < be := by omega
  have hgb : g ≠ be := by omega
  have hgw : w.heap.size ≠ g := by omega
  clear hbe hZlt hg0 hg1 c0
  have c0 := HA.out 0 k0 rfl
  have d0 : w2.cell? ⟨be, 0, none⟩ = some (.string ⟨k0.toArray⟩) := HC2.out.cell 0
  have d12 : w2.cell? ⟨be, 12, none⟩ = some (.slice none 0 0) := HC2.out.cell 12
  refine (shapeOf_any k0 _).mono ?_
  rintro x w3 ⟨rfl, rfl⟩
  have HCAP := Lib.hid hcap
  have hcap2 := hcap
  by_cases hc1 : cap = 1
  case' pos =>
    have hnil : args = [] := List.eq_nil_of_length_eq_zero (by omega)
    have HSR := Lib.hid (show SRow w2 (.slice (some ⟨g, 0, none⟩) 0 0) args from by rw [hnil]; exact ⟨_, _, rfl, Nat.le_refl _, by decide, fun h => absurd rfl h⟩)
    have hlen : args.length = 0 := by rw [hnil]; rfl
    subst hc1
    rw [hlen] at hc
    clear hnil
  case' neg =>
    have hc2 : 1 < cap := by omega
    have hc3 : (1 : Int) < (cap : Int) := by omega
    have HSR := Lib.hid (show SRow w2 (.slice (some ⟨g, 1, none⟩) args.length (cap - 1)) args from ⟨_, _, rfl, by omega, by omega, fun _ => ⟨g, 1, rfl, fun i t h => by rw [Nat.add_comm 1 i]; exact HA.out (i + 1) t (by simpa using h)⟩⟩)
  all_goals
    go_wp2_with (go_at_call 67; (with_reducible first | refine (counted_any (shapeV k0) _ _ (shape_le _)).mono ?_ | refine (counted_zero (shapeV k0) _ (shape_le _)).mono ?_); rintro x w4 ⟨rfl, rfl⟩)
    refine (numbers_any args _ _ HSR.out (fun x hx => by have := hwl.out x (by simp [hx]); omega) (by omega) (HL.out.below HB2.out)).mono ?_
    rintro x w5 ⟨nv, rfl, hn, hb5⟩
    have HZ5 := Lib.hid (HZ2.out.below hb5)
    have HC5 := Lib.hid (HC2.out.below hb5)
    have HB5 := Lib.hid (Below.next HB2.out hb5)
    have hs2 := HC2.out.lt
    have d1 : w5.cell? ⟨be, 1, none⟩ = some (.slice none 0 0) := HC5.out.cell 1
    have e1 : w5.frozen? ⟨be, 1, none⟩ = false := HC5.out.free 1
    clear hb5 HZ2 HC2 HB2 HSR d0 d12 c0 hc
    cases hnum : numsOf args with
    | none =>
      have hfin := Lib.hid (show cmdOf s = (cmdNone, 101) by rw [HOF.out, hnum])
      obtain ⟨hnv, he⟩ := nums_bad hnum
      rw [he]
      rw [hnv] at hn
      obtain ⟨oa5, oc5, rfl, _, _⟩ := own_shape hn
      clear hnum he hnv hn
      have hB6 := But.set (But.refl be w5) 1 (.slice oa5 (List.length ([] : List Int)) oc5)
      have HZ6 := Lib.hid (HZ5.out.but hB6 (by omega))
      have HB6 := Lib.hid (But.below HB5.out hB6 (by omega))
      simp only [List.length_nil] at HZ6 HB6 ⊢
      clear hB6 HZ5 HC5 HB5
      go_wp2_with (with_reducible refine wpList_store_cm rfl (.tmp 2) (.tmp 100) rfl w.heap.size cmdNone cmdNone (.slice none 0 0) (.slice none 0 0) (.slice none 0 0) (.slice none 0 0) rfl rfl rfl rfl HZ6.out ?_)
      exact bodyPost_ret (v := .tuple #[cmV cmdNone (.slice none 0 0) (.slice none 0 0), .int .i64 101]) (results_cm rfl _ _ w.heap.size cmdNone (.slice none 0 0) (.slice none 0 0) _ rfl rfl (HZ6.out.row cmdNone (.slice none 0 0) (.slice none 0 0))) rfl ⟨_, _, by rw [hfin.out], by rw [hfin.out]; exact World.ownsRow_nil _ _ _ _, by rw [hfin.out]; exact World.ownsRow_nil _ _ _ _, Below.row HB6.out (Nat.le_refl _) _⟩
    | some ns =>
      have hfin := Lib.hid (show cmdOf s = (⟨k0, ns, evNone, []⟩, 0) by rw [HOF.out, hnum])
      obtain ⟨hnv, he⟩ := nums_good hnum
      rw [he]
      rw [hnv] at hn
      obtain ⟨oa5, oc5, rfl, _, _⟩ := own_shape hn
      have HN := Lib.hid hn
      have HC6 := Lib.hid (show CmBlk (w5.setCell ⟨be, 1, none⟩ (.slice oa5 ns.length oc5)) be ⟨k0, ns, evNone, []⟩ (.slice oa5 ns.length oc5) (.slice none 0 0) from HC5.out.put 1 _ rfl)
      have hB6 := But.set (But.refl be w5) 1 (.slice oa5 ns.length oc5)
      have HZ6 := Lib.hid (HZ5.out.but hB6 (by omega))
      have HN6 := Lib.hid (own_but' HN.out hB6 (fun e => by have := (HN.out.lt _ e).1; omega))
      have HB6 := Lib.hid (But.below HB5.out hB6 (by omega))
      clear hnum he hnv hn HN hB6 HZ5 HC5 HB5
      go_wp2_with (first
        | (with_reducible refine wpList_load_cm rfl (.tmp 5) rfl be ⟨k0, ns, evNone, []⟩ (.slice oa5 ns.length oc5) (.slice none 0 0) rfl HC6.out ?_)
        | (with_reducible refine wpList_store_cm rfl (.tmp 2) (.tmp 102) rfl w.heap.size cmdNone ⟨k0, ns, evNone, []⟩ (.slice none 0 0) (.slice none 0 0) (.slice oa5 ns.length oc5) (.slice none 0 0) rfl rfl rfl rfl HZ6.out ?_))
      exact bodyPost_ret (v := .tuple #[cmV ⟨k0, ns, evNone, []⟩ (.slice oa5 ns.length oc5) (.slice none 0 0), .int .i64 0]) (results_cm rfl _ _ w.heap.size ⟨k0, ns, evNone, []⟩ (.slice oa5 ns.length oc5) (.slice none 0 0) _ rfl rfl (HZ6.out.row ⟨k0, ns, evNone, []⟩ (.slice oa5 ns.length oc5) (.slice none 0 0))) rfl ⟨_, _, by rw [hfin.out], by rw [hfin.out]; exact own_row (own_mono HN6.out (by omega)) _ _ (fun e => by have := (HN6.out.lt _ e).1; omega), by rw [hfin.out]; exact World.ownsRow_nil _ _ _ _, Below.row HB6.out (Nat.le_refl _) _⟩

/-! ## strings.Join -/

theorem join_eq (ws : List (List UInt8)) : Lib.join ws [32] = joinBy 32 ws := by
  cases ws with
  | nil => rfl
  | cons w ws => rw [joinBy_blanked, Lib.join_cons]; rfl
theorem Join_any (ws : List (List UInt8)) (g o n c : Nat) (w : World) (hn : ws.length = n) (hcells : ∀ (i : Nat) s, ws[i]? = some s → w.cell? ⟨g, o + i, none⟩ = some (.string ⟨s.toArray⟩)) (hne : ws ≠ []) (hc : n ≤ c) (hN : n ≤ 2097153) (hl : (joinBy 32 ws).length ≤ 2097152) :
    Calls Tryz.prog 69 #[.slice (some ⟨g, o, none⟩) n c, .string ⟨#[32]⟩] w fun x w' => x = .returned (.string ⟨(joinBy 32 ws).toArray⟩) ∧ Below w.heap.size w w' := by
  subst hn
  have hd : (ws.map fun s => (⟨s.toArray⟩ : ByteArray)).map (·.data.toList) = ws := by rw [List.map_map]; simp [Function.comp_def]
  have hb : g < w.heap.size := by
    cases ws with
    | nil => exact absurd rfl hne
    | cons x ws => exact World.block_lt_of_cell? w _ (hcells 0 x rfl)
  have h := Tryz.strings_Join g o c (ws.map fun s => (⟨s.toArray⟩ : ByteArray)) ⟨#[32]⟩ w (fun j x hx => by
    rw [List.getElem?_map] at hx
    cases hj : ws[j]? with
    | none => rw [hj] at hx; cases hx
    | some s => rw [hj] at hx; simp at hx; subst hx; exact hcells j s hj) hb (by rw [List.length_map]; omega) (by rw [List.length_map]; exact hc) (by rw [hd, show (#[32] : Array UInt8).toList = [32] from rfl, join_eq]; omega)
  rw [hd, show (⟨#[32]⟩ : ByteArray).data.toList = [32] from rfl, join_eq, List.length_map] at h
  exact h

set_option maxRecDepth 100000 in
set_option maxHeartbeats 8000000 in
theorem cmdS_5 (s k0 : List UInt8) (args : List (List UInt8)) (w : World) (hsp : splitOn 32 s = k0 :: args) (hs : s.length ≤ 1048576) (hL : LibV w) (a : List UInt8) (ha : args = [a]) (h5 : shapeV k0 = 5) :
    Calls Tryz.prog 33 #[.string ⟨s.toArray⟩] w (CmPost (cmdOf s) w) := by
  have hof : cmdOf s = cmdParts k0 args := by unfold cmdOf; rw [hsp]
  have hof2 : cmdOf s = match unhexOf a with | none => (cmdNone, 101) | some b => if b = [] then (cmdNone, 101) else (⟨k0, [], evNone, b⟩, 0) := by
    rw [hof, ha]; unfold cmdParts; rw [if_neg (by omega), if_neg (by omega), if_pos h5]; rfl
  have HOF := Lib.hid hof2
  have k6 : ((shapeV k0 : Int) == 6) = false := by rw [beq_eq_false_iff_ne]; omega
  have k4 : ((shapeV k0 : Int) == 4) = false := by rw [beq_eq_false_iff_ne]; omega
  have k5 : ((shapeV k0 : Int) == 5) = true := by rw [beq_iff_eq]; omega
  subst ha
  clear hof hof2 h5
  have HL := Lib.hid hL
  have hwl : Hid (∀ x ∈ k0 :: [a], x.length ≤ 1048576) := Lib.hid fun x hx => by
    have := splitOn_part 32 s x (by rw [hsp]; exact hx)
    omega
  have hcount : [a].length ≤ 1048576 := by
    simp
  have HB0 := Lib.hid (show Below w.heap.size w (w.alloc (.cells #[.string ⟨#[]⟩, .slice none 0 0, .int .i64 0, .int .i64 0, .int .i64 0, .int .i64 0, .int .i64 0, .int .i64 0, .int .i64 0, .string ⟨#[]⟩, .int .i64 0, .string ⟨#[]⟩, .slice none 0 0] 59)) from (Below.refl _ _).alloc (Nat.le_refl _) _)
  have HZ0 := Lib.hid (show CmBlk (w.alloc (.cells #[.string ⟨#[]⟩, .slice none 0 0, .int .i64 0, .int .i64 0, .int .i64 0, .int .i64 0, .int .i64 0, .int .i64 0, .int .i64 0, .string ⟨#[]⟩, .int .i64 0, .string ⟨#[]⟩, .slice none 0 0] 59)) w.heap.size cmdNone (.slice none 0 0) (.slice none 0 0) from heap_alloc_new w _)
  clear hL
  go_enter Tryz.func33, Tryz.ntmps33
  go_wp2_with fail
  generalize w.alloc (.cells #[.string ⟨#[]⟩, .slice none 0 0, .int .i64 0, .int .i64 0, .int .i64 0, .int .i64 0, .int .i64 0, .int .i64 0, .int .i64 0, .string ⟨#[]⟩, .int .i64 0, .string ⟨#[]⟩, .slice none 0 0] 59) = w0 at *
  refine (Split_any s 32 _ (HL.out.below HB0.out) (by omega)).mono ?_
  rintro x w1 ⟨sv, rfl, hown, hb1⟩
  rw [hsp] at hown
  obtain ⟨g, cap, rfl, hg0, hg1, hcap, hcm, hcs⟩ := own_get hown (by simp)
  unfold maxLen at hcm
  simp only [List.length_cons, List.length_nil] at hcap
  have HB1 := Lib.hid (Below.next HB0.out hb1)
  have HZ1 := Lib.hid (HZ0.out.below hb1)
  have HCS := Lib.hid (show ∀ (j : Nat) t, (k0 :: [a])[j]? = some t → w1.cell? ⟨g, j, none⟩ = some (.string ⟨t.toArray⟩) from fun j t h => hcs j _ (strs_get h))
  have c0 : w1.cell? ⟨g, 0, none⟩ = some (.string ⟨k0.toArray⟩) := HCS.out 0 k0 rfl
  have hbA : Below w1.heap.size w1 (w1.alloc (.cells #[.string ⟨k0.toArray⟩, .slice none 0 0, .int .i64 0, .int .i64 0, .int .i64 0, .int .i64 0, .int .i64 0, .int .i64 0, .int .i64 0, .string ⟨#[]⟩, .int .i64 0, .string ⟨#[]⟩, .slice none 0 0] 59)) := (Below.refl _ _).alloc (Nat.le_refl _) _
  have HB2 := Lib.hid (Below.next HB1.out hbA)
  have HZ2 := Lib.hid (HZ1.out.below hbA)
  have HC2 := Lib.hid (show CmBlk (w1.alloc (.cells #[.string ⟨k0.toArray⟩, .slice none 0 0, .int .i64 0, .int .i64 0, .int .i64 0, .int .i64 0, .int .i64 0, .int .i64 0, .int .i64 0, .string ⟨#[]⟩, .int .i64 0, .string ⟨#[]⟩, .slice none 0 0] 59)) w1.heap.size ⟨k0, [], evNone, []⟩ (.slice none 0 0) (.slice none 0 0) from heap_alloc_new w1 _)
  have HA := Lib.hid (show ∀ (j : Nat) t, (k0 :: [a])[j]? = some t → (w1.alloc (.cells #[.string ⟨k0.toArray⟩, .slice none 0 0, .int .i64 0, .int .i64 0, .int .i64 0, .int .i64 0, .int .i64 0, .int .i64 0, .int .i64 0, .string ⟨#[]⟩, .int .i64 0, .string ⟨#[]⟩, .slice none 0 0] 59)).cell? ⟨g, j, none⟩ = some (.string ⟨t.toArray⟩) from fun j t h => cell_later hbA (HCS.out j t h))
  have hZlt := HZ0.out.lt
  clear hown hcs hb1 hbA HB0 HZ0 HB1 HZ1 HCS hsp
  go_wp2_with fail
  generalize hbe : w1.heap.size = be at *
  generalize w1.alloc (.cells #[.string ⟨k0.toArray⟩, .slice none 0 0, .int .i64 0, .int .i64 0, .int .i64 0, .int .i64 0, .int .i64 0, .int .i64 0, .int .i64 0, .string ⟨#[]⟩, .int .i64 0, .string ⟨#[]⟩, .slice none 0 0] 59) = w2 at *
  have hwb : w.heap.size < be := by omega
  have hgb : g ≠ be := by omega
  have hgw : w.heap.size ≠ g := by omega
  clear hbe hZlt hg0 hg1 c0
  have c0 := HA.out 0 k0 rfl
  have d0 : w2.cell? ⟨be, 0, none⟩ = some (.string ⟨k0.toArray⟩) := HC2.out.cell 0
  have d12 : w2.cell? ⟨be, 12, none⟩ = some (.slice none 0 0) := HC2.out.cell 12
  refine (shapeOf_any k0 _).mono ?_
  rintro x w3 ⟨rfl, rfl⟩
  have hc2 : 1 < cap := by omega
  have hc3 : (1 : Int) < (cap : Int) := by omega
  have c1a : w2.cell? ⟨g, 1, none⟩ = some (.string ⟨a.toArray⟩) := HA.out 1 a rfl
  have hal := hwl.out a (by simp)
  go_wp2_with fail
  refine (dumpUnhex_any a _ (by omega)).mono ?_
  rintro x w5 ⟨nv, rfl, hn, hb5⟩
  have HZ5 := Lib.hid (HZ2.out.below hb5)
  have HC5 := Lib.hid (HC2.out.below hb5)
  have HB5 := Lib.hid (Below.next HB2.out hb5)
  have hs2 := HC2.out.lt
  have d1 : w5.cell? ⟨be, 12, none⟩ = some (.slice none 0 0) := HC5.out.cell 12
  have e1 : w5.frozen? ⟨be, 12, none⟩ = false := HC5.out.free 12
  clear hb5 HZ2 HC2 HB2 d0 d12 c0 c1a
  cases hu : unhexOf a with
  | none =>
    have hfin := Lib.hid (show cmdOf s = (cmdNone, 101) by rw [HOF.out, hu])
    have he : uErr a = 101 := by simp [uErr, hu]
    have hnv : uVal a = [] := by simp [uVal, hu]
    rw [he]
    rw [hnv] at hn
    obtain ⟨oa5, oc5, rfl, _, _⟩ := own_shape hn
    clear hu he hnv hn
    have hB6 := But.set (But.refl be w5) 12 (.slice oa5 (List.length ([] : List UInt8)) oc5)
    have HZ6 := Lib.hid (HZ5.out.but hB6 (by omega))
    have HB6 := Lib.hid (But.below HB5.out hB6 (by omega))
    simp only [List.length_nil] at HZ6 HB6 ⊢
    clear hB6 HZ5 HC5 HB5
    go_wp2_with (with_reducible refine wpList_store_cm rfl (.tmp 2) (.tmp 100) rfl w.heap.size cmdNone cmdNone (.slice none 0 0) (.slice none 0 0) (.slice none 0 0) (.slice none 0 0) rfl rfl rfl rfl HZ6.out ?_)
    exact bodyPost_ret (v := .tuple #[cmV cmdNone (.slice none 0 0) (.slice none 0 0), .int .i64 101]) (results_cm rfl _ _ w.heap.size cmdNone (.slice none 0 0) (.slice none 0 0) _ rfl rfl (HZ6.out.row cmdNone (.slice none 0 0) (.slice none 0 0))) rfl ⟨_, _, by rw [hfin.out], by rw [hfin.out]; exact World.ownsRow_nil _ _ _ _, by rw [hfin.out]; exact World.ownsRow_nil _ _ _ _, Below.row HB6.out (Nat.le_refl _) _⟩
  | some b =>
    have he : uErr a = 0 := by simp [uErr, hu]
    have hnv : uVal a = b := by simp [uVal, hu]
    rw [he]
    rw [hnv] at hn
    obtain ⟨oa5, oc5, rfl, _, _⟩ := own_shape hn
    have HN := Lib.hid hn
    have HC6 := Lib.hid (show CmBlk (w5.setCell ⟨be, 12, none⟩ (.slice oa5 b.length oc5)) be ⟨k0, [], evNone, b⟩ (.slice none 0 0) (.slice oa5 b.length oc5) from HC5.out.put 12 _ rfl)
    have hB6 := But.set (But.refl be w5) 12 (.slice oa5 b.length oc5)
    have HZ6 := Lib.hid (HZ5.out.but hB6 (by omega))
    have HN6 := Lib.hid (own_but' HN.out hB6 (fun e => by have := (HN.out.lt _ e).1; omega))
    have HB6 := Lib.hid (But.below HB5.out hB6 (by omega))
    have f12 : (w5.setCell ⟨be, 12, none⟩ (.slice oa5 b.length oc5)).cell? ⟨be, 12, none⟩ = some (.slice oa5 b.length oc5) := HC6.out.cell 12
    clear he hnv hn HN hB6 HZ5 HC5 HB5
    by_cases hb0 : b = []
    · have hfin := Lib.hid (show cmdOf s = (cmdNone, 101) by rw [HOF.out, hu]; exact if_pos hb0)
      have kb : ((b.length : Int) == 0) = true := by rw [hb0]; rfl
      clear hu hb0
      go_wp2_with (with_reducible refine wpList_store_cm rfl (.tmp 2) (.tmp 100) rfl w.heap.size cmdNone cmdNone (.slice none 0 0) (.slice none 0 0) (.slice none 0 0) (.slice none 0 0) rfl rfl rfl rfl HZ6.out ?_)
      exact bodyPost_ret (v := .tuple #[cmV cmdNone (.slice none 0 0) (.slice none 0 0), .int .i64 101]) (results_cm rfl _ _ w.heap.size cmdNone (.slice none 0 0) (.slice none 0 0) _ rfl rfl (HZ6.out.row cmdNone (.slice none 0 0) (.slice none 0 0))) rfl ⟨_, _, by rw [hfin.out], by rw [hfin.out]; exact World.ownsRow_nil _ _ _ _, by rw [hfin.out]; exact World.ownsRow_nil _ _ _ _, Below.row HB6.out (Nat.le_refl _) _⟩
    · have hfin := Lib.hid (show cmdOf s = (⟨k0, [], evNone, b⟩, 0) by rw [HOF.out, hu]; exact if_neg hb0)
      have kb : ((b.length : Int) == 0) = false := by rw [beq_eq_false_iff_ne]; intro h; exact hb0 (List.length_eq_zero_iff.1 (by omega))
      clear hu hb0
      go_wp2_with (first
        | (with_reducible refine wpList_load_cm rfl (.tmp 5) rfl be ⟨k0, [], evNone, b⟩ (.slice none 0 0) (.slice oa5 b.length oc5) rfl HC6.out ?_)
        | (with_reducible refine wpList_store_cm rfl (.tmp 2) (.tmp 102) rfl w.heap.size cmdNone ⟨k0, [], evNone, b⟩ (.slice none 0 0) (.slice none 0 0) (.slice none 0 0) (.slice oa5 b.length oc5) rfl rfl rfl rfl HZ6.out ?_))
      exact bodyPost_ret (v := .tuple #[cmV ⟨k0, [], evNone, b⟩ (.slice none 0 0) (.slice oa5 b.length oc5), .int .i64 0]) (results_cm rfl _ _ w.heap.size ⟨k0, [], evNone, b⟩ (.slice none 0 0) (.slice oa5 b.length oc5) _ rfl rfl (HZ6.out.row ⟨k0, [], evNone, b⟩ (.slice none 0 0) (.slice oa5 b.length oc5))) rfl ⟨_, _, by rw [hfin.out], by rw [hfin.out]; exact World.ownsRow_nil _ _ _ _, by rw [hfin.out]; exact own_row (own_mono HN6.out (by omega)) _ _ (fun e => by have := (HN6.out.lt _ e).1; omega), Below.row HB6.out (Nat.le_refl _) _⟩

end Go.Proofs.YtecmpmnidlfgnaaGreatDoor
