import Derived.Test.YtecmpmnidlfgnaaGreatDoorScriptNums
import Derived.Test.YtecmpmnidlfgnaaGreatDoorLibLaid
import Derived.Test.YtecmpmnidlfgnaaGreatDoorEvent2
namespace Go.Proofs.YtecmpmnidlfgnaaGreatDoor
open Go.RowKit

/-! ## script.Command -/

theorem counted_zero (s : Nat) (w : World) (hs : s ≤ 6) : Calls Tryz.prog 67 #[.int .i64 (s : Int), .int .i64 0] w fun x w' => x = .returned (.bool (countOk s 0)) ∧ w = w' := counted_any s 0 w hs

/-- a command of the call's own, and a number -/
def CmPost (r : Cmd × Int) (w : World) (x : Ending) (w' : World) : Prop :=
  ∃ nv rv, x = .returned (.tuple #[cmV r.1 nv rv, .int .i64 r.2]) ∧ w'.ownsRow w.heap.size 3 1 nv r.1.nums.length (intCells r.1.nums) ∧ w'.ownsRow w.heap.size 5 1 rv r.1.raw.length (Lib.byteCells r.1.raw) ∧ Below w.heap.size w w'

set_option maxRecDepth 100000 in
set_option maxHeartbeats 8000000 in
theorem cmdS_6 (s k0 : List UInt8) (args : List (List UInt8)) (w : World) (hsp : splitOn 32 s = k0 :: args) (hs : s.length ≤ 1048576) (hL : LibV w) (h6 : shapeV k0 = 6) :
    Calls Tryz.prog 33 #[.string ⟨s.toArray⟩] w (CmPost (cmdOf s) w) := by
  have hof : cmdOf s = cmdParts k0 args := by unfold cmdOf; rw [hsp]
  have hfin := Lib.hid (show cmdOf s = (cmdNone, 100) by rw [hof]; unfold cmdParts; rw [if_pos h6])
  have k6 : ((shapeV k0 : Int) == 6) = true := by rw [beq_iff_eq]; omega
  clear hof h6
  have HL := Lib.hid hL
  have hwl : Hid (∀ x ∈ k0 :: args, x.length ≤ 1048576) := Lib.hid fun x hx => by
    have := splitOn_part 32 s x (by rw [hsp]; exact hx)
    omega
  have hcount : args.length ≤ 1048576 := by
    have := splitOn_length 32 s
    rw [hsp] at this
    simp at this
    omega
  have HB0 := Lib.hid (show Below w.heap.size w (w.alloc (.cells #[.string ⟨#[]⟩, .slice none 0 0, .int .i64 0, .int .i64 0, .int .i64 0, .int .i64 0, .int .i64 0, .int .i64 0, .int .i64 0, .string ⟨#[]⟩, .int .i64 0, .string ⟨#[]⟩, .slice none 0 0] 59)) from (Below.refl _ _).alloc (Nat.le_refl _) _)
  have HZ0 := Lib.hid (show CmBlk (w.alloc (.cells #[.string ⟨#[]⟩, .slice none 0 0, .int .i64 0, .int .i64 0, .int .i64 0, .int .i64 0, .int .i64 0, .int .i64 0, .int .i64 0, .string ⟨#[]⟩, .int .i64 0, .string ⟨#[]⟩, .slice none 0 0] 59)) w.heap.size cmdNone (.slice none 0 0) (.slice none 0 0) from heap_alloc_new w _)
  clear hL
  go_enter Tryz.func33, Tryz.ntmps33
  go_wp2_with fail
  generalize w.alloc (.cells #[.string ⟨#[]⟩, .slice none 0 0, .int .i64 0, .int .i64 0, .int .i64 0, .int .i64 0, .int .i64 0, .int .i64 0, .int .i64 0, .string ⟨#[]⟩, .int .i64 0, .string ⟨#[]⟩, .slice none 0 0] 59) = w0 at *
  refine (Split_any s 32 _ (HL.out.below HB0.out) (by omega)).mono ?_
  rintro x w1 ⟨sv, rfl, hown, hb1⟩
  rw [hsp] at hown
  obtain ⟨g, cap, rfl, hg0, hg1, hcap, hcm, hcs⟩ := own_get hown (by simp)
  unfold maxLen at hcm
  simp only [List.length_cons] at hcap
  have HB1 := Lib.hid (Below.next HB0.out hb1)
  have HZ1 := Lib.hid (HZ0.out.below hb1)
  have HCS := Lib.hid (show ∀ (j : Nat) t, (k0 :: args)[j]? = some t → w1.cell? ⟨g, j, none⟩ = some (.string ⟨t.toArray⟩) from fun j t h => hcs j _ (strs_get h))
  have c0 : w1.cell? ⟨g, 0, none⟩ = some (.string ⟨k0.toArray⟩) := HCS.out 0 k0 rfl
  have hbA : Below w1.heap.size w1 (w1.alloc (.cells #[.string ⟨k0.toArray⟩, .slice none 0 0, .int .i64 0, .int .i64 0, .int .i64 0, .int .i64 0, .int .i64 0, .int .i64 0, .int .i64 0, .string ⟨#[]⟩, .int .i64 0, .string ⟨#[]⟩, .slice none 0 0] 59)) := (Below.refl _ _).alloc (Nat.le_refl _) _
  have HB2 := Lib.hid (Below.next HB1.out hbA)
  have HZ2 := Lib.hid (HZ1.out.below hbA)
  have HC2 := Lib.hid (show CmBlk (w1.alloc (.cells #[.string ⟨k0.toArray⟩, .slice none 0 0, .int .i64 0, .int .i64 0, .int .i64 0, .int .i64 0, .int .i64 0, .int .i64 0, .int .i64 0, .string ⟨#[]⟩, .int .i64 0, .string ⟨#[]⟩, .slice none 0 0] 59)) w1.heap.size ⟨k0, [], evNone, []⟩ (.slice none 0 0) (.slice none 0 0) from heap_alloc_new w1 _)
  have HA := Lib.hid (show ∀ (j : Nat) t, (k0 :: args)[j]? = some t → (w1.alloc (.cells #[.string ⟨k0.toArray⟩, .slice none 0 0, .int .i64 0, .int .i64 0, .int .i64 0, .int .i64 0, .int .i64 0, .int .i64 0, .int .i64 0, .string ⟨#[]⟩, .int .i64 0, .string ⟨#[]⟩, .slice none 0 0] 59)).cell? ⟨g, j, none⟩ = some (.string ⟨t.toArray⟩) from fun j t h => cell_later hbA (HCS.out j t h))
  have hZlt := HZ0.out.lt
  clear hown hcs hb1 hbA HB0 HZ0 HB1 HZ1 HCS hsp
  go_wp2_with fail
  generalize hbe : w1.heap.size = be at *
  generalize w1.alloc (.cells #[.string ⟨k0.toArray⟩, .slice none 0 0, .int .i64 0, .int .i64 0, .int .i64 0, .int .i64 0, .int .i64 0, .int .i64 0, .int .i64 0, .string ⟨#[]⟩, .int .i64 0, .string ⟨#[]⟩, .slice none 0 0] 59) = w2 at *
  have hwb : w.heap.size < be := by omega
  have hgb : g ≠ be := by omega
  have hgw : w.heap.size ≠ g := by omega
  clear hbe hZlt hg0 hg1 c0
  have c0 := HA.out 0 k0 rfl
  have d0 : w2.cell? ⟨be, 0, none⟩ = some (.string ⟨k0.toArray⟩) := HC2.out.cell 0
  have d12 : w2.cell? ⟨be, 12, none⟩ = some (.slice none 0 0) := HC2.out.cell 12
  refine (shapeOf_any k0 _).mono ?_
  rintro x w3 ⟨rfl, rfl⟩
  have hHA := HA
  by_cases hc1 : cap = 1
  case' pos =>
    obtain rfl : args = [] := List.eq_nil_of_length_eq_zero (by omega)
    subst hc1
    simp only [List.length_nil] at *
  case' neg =>
    have hc2 : 1 < cap := by omega
    have hc3 : (1 : Int) < (cap : Int) := by omega
  all_goals
    go_wp2_with (with_reducible refine wpList_store_cm rfl (.tmp 2) (.tmp 29) rfl w.heap.size cmdNone cmdNone (.slice none 0 0) (.slice none 0 0) (.slice none 0 0) (.slice none 0 0) rfl rfl rfl rfl HZ2.out ?_)
    exact bodyPost_ret (v := .tuple #[cmV cmdNone (.slice none 0 0) (.slice none 0 0), .int .i64 100]) (results_cm rfl _ _ w.heap.size cmdNone (.slice none 0 0) (.slice none 0 0) _ rfl rfl (HZ2.out.row cmdNone (.slice none 0 0) (.slice none 0 0))) rfl ⟨_, _, by rw [hfin.out], by rw [hfin.out]; exact World.ownsRow_nil _ _ _ _, by rw [hfin.out]; exact World.ownsRow_nil _ _ _ _, Below.row HB2.out (Nat.le_refl _) _⟩

set_option maxRecDepth 100000 in
set_option maxHeartbeats 8000000 in
theorem cmdS_4x (s k0 : List UInt8) (args : List (List UInt8)) (w : World) (hsp : splitOn 32 s = k0 :: args) (hs : s.length ≤ 1048576) (hL : LibV w) (h4 : shapeV k0 = 4) (hl : ¬ 2 ≤ args.length) :
    Calls Tryz.prog 33 #[.string ⟨s.toArray⟩] w (CmPost (cmdOf s) w) := by
  have hof : cmdOf s = cmdParts k0 args := by unfold cmdOf; rw [hsp]
  have hfin := Lib.hid (show cmdOf s = (cmdNone, 100) by rw [hof]; unfold cmdParts; rw [if_neg (by omega), if_pos h4]; unfold cmdApp; match args, hl with | [], _ => rfl | [_], _ => rfl | _ :: _ :: _, h => exact absurd (by simp) h)
  have k6 : ((shapeV k0 : Int) == 6) = false := by rw [beq_eq_false_iff_ne]; omega
  have k4 : ((shapeV k0 : Int) == 4) = true := by rw [beq_iff_eq]; omega
  have k5 : ((shapeV k0 : Int) == 5) = false := by rw [beq_eq_false_iff_ne]; omega
  have kl := hl
  clear hof h4 hl
  have HL := Lib.hid hL
  have hwl : Hid (∀ x ∈ k0 :: args, x.length ≤ 1048576) := Lib.hid fun x hx => by
    have := splitOn_part 32 s x (by rw [hsp]; exact hx)
    omega
  have hcount : args.length ≤ 1048576 := by
    have := splitOn_length 32 s
    rw [hsp] at this
    simp at this
    omega
  have HB0 := Lib.hid (show Below w.heap.size w (w.alloc (.cells #[.string ⟨#[]⟩, .slice none 0 0, .int .i64 0, .int .i64 0, .int .i64 0, .int .i64 0, .int .i64 0, .int .i64 0, .int .i64 0, .string ⟨#[]⟩, .int .i64 0, .string ⟨#[]⟩, .slice none 0 0] 59)) from (Below.refl _ _).alloc (Nat.le_refl _) _)
  have HZ0 := Lib.hid (show CmBlk (w.alloc (.cells #[.string ⟨#[]⟩, .slice none 0 0, .int .i64 0, .int .i64 0, .int .i64 0, .int .i64 0, .int .i64 0, .int .i64 0, .int .i64 0, .string ⟨#[]⟩, .int .i64 0, .string ⟨#[]⟩, .slice none 0 0] 59)) w.heap.size cmdNone (.slice none 0 0) (.slice none 0 0) from heap_alloc_new w _)
  clear hL
  go_enter Tryz.func33, Tryz.ntmps33
  go_wp2_with fail
  generalize w.alloc (.cells #[.string ⟨#[]⟩, .slice none 0 0, .int .i64 0, .int .i64 0, .int .i64 0, .int .i64 0, .int .i64 0, .int .i64 0, .int .i64 0, .string ⟨#[]⟩, .int .i64 0, .string ⟨#[]⟩, .slice none 0 0] 59) = w0 at *
  refine (Split_any s 32 _ (HL.out.below HB0.out) (by omega)).mono ?_
  rintro x w1 ⟨sv, rfl, hown, hb1⟩
  rw [hsp] at hown
  obtain ⟨g, cap, rfl, hg0, hg1, hcap, hcm, hcs⟩ := own_get hown (by simp)
  unfold maxLen at hcm
  simp only [List.length_cons] at hcap
  have HB1 := Lib.hid (Below.next HB0.out hb1)
  have HZ1 := Lib.hid (HZ0.out.below hb1)
  have HCS := Lib.hid (show ∀ (j : Nat) t, (k0 :: args)[j]? = some t → w1.cell? ⟨g, j, none⟩ = some (.string ⟨t.toArray⟩) from fun j t h => hcs j _ (strs_get h))
  have c0 : w1.cell? ⟨g, 0, none⟩ = some (.string ⟨k0.toArray⟩) := HCS.out 0 k0 rfl
  have hbA : Below w1.heap.size w1 (w1.alloc (.cells #[.string ⟨k0.toArray⟩, .slice none 0 0, .int .i64 0, .int .i64 0, .int .i64 0, .int .i64 0, .int .i64 0, .int .i64 0, .int .i64 0, .string ⟨#[]⟩, .int .i64 0, .string ⟨#[]⟩, .slice none 0 0] 59)) := (Below.refl _ _).alloc (Nat.le_refl _) _
  have HB2 := Lib.hid (Below.next HB1.out hbA)
  have HZ2 := Lib.hid (HZ1.out.below hbA)
  have HC2 := Lib.hid (show CmBlk (w1.alloc (.cells #[.string ⟨k0.toArray⟩, .slice none 0 0, .int .i64 0, .int .i64 0, .int .i64 0, .int .i64 0, .int .i64 0, .int .i64 0, .int .i64 0, .string ⟨#[]⟩, .int .i64 0, .string ⟨#[]⟩, .slice none 0 0] 59)) w1.heap.size ⟨k0, [], evNone, []⟩ (.slice none 0 0) (.slice none 0 0) from heap_alloc_new w1 _)
  have HA := Lib.hid (show ∀ (j : Nat) t, (k0 :: args)[j]? = some t → (w1.alloc (.cells #[.string ⟨k0.toArray⟩, .slice none 0 0, .int .i64 0, .int .i64 0, .int .i64 0, .int .i64 0, .int .i64 0, .int .i64 0, .int .i64 0, .string ⟨#[]⟩, .int .i64 0, .string ⟨#[]⟩, .slice none 0 0] 59)).cell? ⟨g, j, none⟩ = some (.string ⟨t.toArray⟩) from fun j t h => cell_later hbA (HCS.out j t h))
  have hZlt := HZ0.out.lt
  clear hown hcs hb1 hbA HB0 HZ0 HB1 HZ1 HCS hsp
  go_wp2_with fail
  generalize hbe : w1.heap.size = be at *
  generalize w1.alloc (.cells #[.string ⟨k0.toArray⟩, .slice none 0 0, .int .i64 0, .int .i64 0, .int .i64 0, .int .i64 0, .int .i64 0, .int .i64 0, .int .i64 0, .string ⟨#[]⟩, .int .i64 0, .string ⟨#[]⟩, .slice none 0 0] 59) = w2 at *
  have hwb : w.heap.size < be := by omega
  have hgb : g ≠ be := by omega
  have hgw : w.heap.size ≠ g := by omega
  clear hbe hZlt hg0 hg1 c0
  have c0 := HA.out 0 k0 rfl
  have d0 : w2.cell? ⟨be, 0, none⟩ = some (.string ⟨k0.toArray⟩) := HC2.out.cell 0
  have d12 : w2.cell? ⟨be, 12, none⟩ = some (.slice none 0 0) := HC2.out.cell 12
  refine (shapeOf_any k0 _).mono ?_
  rintro x w3 ⟨rfl, rfl⟩
  have hHA := HA
  by_cases hc1 : cap = 1
  case' pos =>
    obtain rfl : args = [] := List.eq_nil_of_length_eq_zero (by omega)
    subst hc1
    simp only [List.length_nil] at *
  case' neg =>
    have hc2 : 1 < cap := by omega
    have hc3 : (1 : Int) < (cap : Int) := by omega
  all_goals
    go_wp2_with (first | (go_at_call 67; (with_reducible first | refine (counted_any (shapeV k0) _ _ (shape_le _)).mono ?_ | refine (counted_zero (shapeV k0) _ (shape_le _)).mono ?_); rintro x w4 ⟨rfl, rfl⟩) | (with_reducible refine wpList_store_cm rfl (.tmp 2) (.tmp 97) rfl w.heap.size cmdNone cmdNone (.slice none 0 0) (.slice none 0 0) (.slice none 0 0) (.slice none 0 0) rfl rfl rfl rfl HZ2.out ?_))
    exact bodyPost_ret (v := .tuple #[cmV cmdNone (.slice none 0 0) (.slice none 0 0), .int .i64 100]) (results_cm rfl _ _ w.heap.size cmdNone (.slice none 0 0) (.slice none 0 0) _ rfl rfl (HZ2.out.row cmdNone (.slice none 0 0) (.slice none 0 0))) rfl ⟨_, _, by rw [hfin.out], by rw [hfin.out]; exact World.ownsRow_nil _ _ _ _, by rw [hfin.out]; exact World.ownsRow_nil _ _ _ _, Below.row HB2.out (Nat.le_refl _) _⟩

set_option maxRecDepth 100000 in
set_option maxHeartbeats 8000000 in
theorem cmdS_5x (s k0 : List UInt8) (args : List (List UInt8)) (w : World) (hsp : splitOn 32 s = k0 :: args) (hs : s.length ≤ 1048576) (hL : LibV w) (h5 : shapeV k0 = 5) (hl : args.length ≠ 1) :
    Calls Tryz.prog 33 #[.string ⟨s.toArray⟩] w (CmPost (cmdOf s) w) := by
  have hof : cmdOf s = cmdParts k0 args := by unfold cmdOf; rw [hsp]
  have hfin := Lib.hid (show cmdOf s = (cmdNone, 100) by rw [hof]; unfold cmdParts; rw [if_neg (by omega), if_neg (by omega), if_pos h5]; unfold cmdPut; match args, hl with | [], _ => rfl | [_], h => exact absurd rfl h | _ :: _ :: _, _ => rfl)
  have k6 : ((shapeV k0 : Int) == 6) = false := by rw [beq_eq_false_iff_ne]; omega
  have k4 : ((shapeV k0 : Int) == 4) = false := by rw [beq_eq_false_iff_ne]; omega
  have k5 : ((shapeV k0 : Int) == 5) = true := by rw [beq_iff_eq]; omega
  have kl : ((args.length : Int) == 1) = false := by rw [beq_eq_false_iff_ne]; omega
  clear hof h5 hl
  have HL := Lib.hid hL
  have hwl : Hid (∀ x ∈ k0 :: args, x.length ≤ 1048576) := Lib.hid fun x hx => by
    have := splitOn_part 32 s x (by rw [hsp]; exact hx)
    omega
  have hcount : args.length ≤ 1048576 := by
    have := splitOn_length 32 s
    rw [hsp] at this
    simp at this
    omega
  have HB0 := Lib.hid (show Below w.heap.size w (w.alloc (.cells #[.string ⟨#[]⟩, .slice none 0 0, .int .i64 0, .int .i64 0, .int .i64 0, .int .i64 0, .int .i64 0, .int .i64 0, .int .i64 0, .string ⟨#[]⟩, .int .i64 0, .string ⟨#[]⟩, .slice none 0 0] 59)) from (Below.refl _ _).alloc (Nat.le_refl _) _)
  have HZ0 := Lib.hid (show CmBlk (w.alloc (.cells #[.string ⟨#[]⟩, .slice none 0 0, .int .i64 0, .int .i64 0, .int .i64 0, .int .i64 0, .int .i64 0, .int .i64 0, .int .i64 0, .string ⟨#[]⟩, .int .i64 0, .string ⟨#[]⟩, .slice none 0 0] 59)) w.heap.size cmdNone (.slice none 0 0) (.slice none 0 0) from heap_alloc_new w _)
  clear hL
  go_enter Tryz.func33, Tryz.ntmps33
  go_wp2_with fail
  generalize w.alloc (.cells #[.string ⟨#[]⟩, .slice none 0 0, .int .i64 0, .int .i64 0, .int .i64 0, .int .i64 0, .int .i64 0, .int .i64 0, .int .i64 0, .string ⟨#[]⟩, .int .i64 0, .string ⟨#[]⟩, .slice none 0 0] 59) = w0 at *
  refine (Split_any s 32 _ (HL.out.below HB0.out) (by omega)).mono ?_
  rintro x w1 ⟨sv, rfl, hown, hb1⟩
  rw [hsp] at hown
  obtain ⟨g, cap, rfl, hg0, hg1, hcap, hcm, hcs⟩ := own_get hown (by simp)
  unfold maxLen at hcm
  simp only [List.length_cons] at hcap
  have HB1 := Lib.hid (Below.next HB0.out hb1)
  have HZ1 := Lib.hid (HZ0.out.below hb1)
  have HCS := Lib.hid (show ∀ (j : Nat) t, (k0 :: args)[j]? = some t → w1.cell? ⟨g, j, none⟩ = some (.string ⟨t.toArray⟩) from fun j t h => hcs j _ (strs_get h))
  have c0 : w1.cell? ⟨g, 0, none⟩ = some (.string ⟨k0.toArray⟩) := HCS.out 0 k0 rfl
  have hbA : Below w1.heap.size w1 (w1.alloc (.cells #[.string ⟨k0.toArray⟩, .slice none 0 0, .int .i64 0, .int .i64 0, .int .i64 0, .int .i64 0, .int .i64 0, .int .i64 0, .int .i64 0, .string ⟨#[]⟩, .int .i64 0, .string ⟨#[]⟩, .slice none 0 0] 59)) := (Below.refl _ _).alloc (Nat.le_refl _) _
  have HB2 := Lib.hid (Below.next HB1.out hbA)
  have HZ2 := Lib.hid (HZ1.out.below hbA)
  have HC2 := Lib.hid (show CmBlk (w1.alloc (.cells #[.string ⟨k0.toArray⟩, .slice none 0 0, .int .i64 0, .int .i64 0, .int .i64 0, .int .i64 0, .int .i64 0, .int .i64 0, .int .i64 0, .string ⟨#[]⟩, .int .i64 0, .string ⟨#[]⟩, .slice none 0 0] 59)) w1.heap.size ⟨k0, [], evNone, []⟩ (.slice none 0 0) (.slice none 0 0) from heap_alloc_new w1 _)
  have HA := Lib.hid (show ∀ (j : Nat) t, (k0 :: args)[j]? = some t → (w1.alloc (.cells #[.string ⟨k0.toArray⟩, .slice none 0 0, .int .i64 0, .int .i64 0, .int .i64 0, .int .i64 0, .int .i64 0, .int .i64 0, .int .i64 0, .string ⟨#[]⟩, .int .i64 0, .string ⟨#[]⟩, .slice none 0 0] 59)).cell? ⟨g, j, none⟩ = some (.string ⟨t.toArray⟩) from fun j t h => cell_later hbA (HCS.out j t h))
  have hZlt := HZ0.out.lt
  clear hown hcs hb1 hbA HB0 HZ0 HB1 HZ1 HCS hsp
  go_wp2_with fail
  generalize hbe : w1.heap.size = be at *
  generalize w1.alloc (.cells #[.string ⟨k0.toArray⟩, .slice none 0 0, .int .i64 0, .int .i64 0, .int .i64 0, .int .i64 0, .int .i64 0, .int .i64 0, .int .i64 0, .string ⟨#[]⟩, .int .i64 0, .string ⟨#[]⟩, .slice none 0 0] 59) = w2 at *
  have hwb : w.heap.size < be := by omega
  have hgb : g ≠ be := by omega
  have hgw : w.heap.size ≠ g := by omega
  clear hbe hZlt hg0 hg1 c0
  have c0 := HA.out 0 k0 rfl
  have d0 : w2.cell? ⟨be, 0, none⟩ = some (.string ⟨k0.toArray⟩) := HC2.out.cell 0
  have d12 : w2.cell? ⟨be, 12, none⟩ = some (.slice none 0 0) := HC2.out.cell 12
  refine (shapeOf_any k0 _).mono ?_
  rintro x w3 ⟨rfl, rfl⟩
  have hHA := HA
  by_cases hc1 : cap = 1
  case' pos =>
    obtain rfl : args = [] := List.eq_nil_of_length_eq_zero (by omega)
    subst hc1
    simp only [List.length_nil] at *
  case' neg =>
    have hc2 : 1 < cap := by omega
    have hc3 : (1 : Int) < (cap : Int) := by omega
  all_goals
    go_wp2_with (first | (go_at_call 67; (with_reducible first | refine (counted_any (shapeV k0) _ _ (shape_le _)).mono ?_ | refine (counted_zero (shapeV k0) _ (shape_le _)).mono ?_); rintro x w4 ⟨rfl, rfl⟩) | (with_reducible refine wpList_store_cm rfl (.tmp 2) (.tmp 97) rfl w.heap.size cmdNone cmdNone (.slice none 0 0) (.slice none 0 0) (.slice none 0 0) (.slice none 0 0) rfl rfl rfl rfl HZ2.out ?_))
    exact bodyPost_ret (v := .tuple #[cmV cmdNone (.slice none 0 0) (.slice none 0 0), .int .i64 100]) (results_cm rfl _ _ w.heap.size cmdNone (.slice none 0 0) (.slice none 0 0) _ rfl rfl (HZ2.out.row cmdNone (.slice none 0 0) (.slice none 0 0))) rfl ⟨_, _, by rw [hfin.out], by rw [hfin.out]; exact World.ownsRow_nil _ _ _ _, by rw [hfin.out]; exact World.ownsRow_nil _ _ _ _, Below.row HB2.out (Nat.le_refl _) _⟩

set_option maxRecDepth 100000 in
set_option maxHeartbeats 8000000 in
theorem cmdS_nx (s k0 : List UInt8) (args : List (List UInt8)) (w : World) (hsp : splitOn 32 s = k0 :: args) (hs : s.length ≤ 1048576) (hL : LibV w) (h6 : shapeV k0 ≠ 6) (h4 : shapeV k0 ≠ 4) (h5 : shapeV k0 ≠ 5) (hc : countOk (shapeV k0) args.length = false) :
    Calls Tryz.prog 33 #[.string ⟨s.toArray⟩] w (CmPost (cmdOf s) w) := by
  have hof : cmdOf s = cmdParts k0 args := by unfold cmdOf; rw [hsp]
  have hfin := Lib.hid (show cmdOf s = (cmdNone, 100) by rw [hof]; unfold cmdParts; rw [if_neg h6, if_neg h4, if_neg h5]; unfold cmdNums; rw [if_pos hc])
  have k6 : ((shapeV k0 : Int) == 6) = false := by rw [beq_eq_false_iff_ne]; omega
  have k4 : ((shapeV k0 : Int) == 4) = false := by rw [beq_eq_false_iff_ne]; omega
  have k5 : ((shapeV k0 : Int) == 5) = false := by rw [beq_eq_false_iff_ne]; omega
  clear hof h6 h4 h5
  have HL := Lib.hid hL
  have hwl : Hid (∀ x ∈ k0 :: args, x.length ≤ 1048576) := Lib.hid fun x hx => by
    have := splitOn_part 32 s x (by rw [hsp]; exact hx)
    omega
  have hcount : args.length ≤ 1048576 := by
    have := splitOn_length 32 s
    rw [hsp] at this
    simp at this
    omega
  have HB0 := Lib.hid (show Below w.heap.size w (w.alloc (.cells #[.string ⟨#[]⟩, .slice none 0 0, .int .i64 0, .int .i64 0, .int .i64 0, .int .i64 0, .int .i64 0, .int .i64 0, .int .i64 0, .string ⟨#[]⟩, .int .i64 0, .string ⟨#[]⟩, .slice none 0 0] 59)) from (Below.refl _ _).alloc (Nat.le_refl _) _)
  have HZ0 := Lib.hid (show CmBlk (w.alloc (.cells #[.string ⟨#[]⟩, .slice none 0 0, .int .i64 0, .int .i64 0, .int .i64 0, .int .i64 0, .int .i64 0, .int .i64 0, .int .i64 0, .string ⟨#[]⟩, .int .i64 0, .string ⟨#[]⟩, .slice none 0 0] 59)) w.heap.size cmdNone (.slice none 0 0) (.slice none 0 0) from heap_alloc_new w _)
  clear hL
  go_enter Tryz.func33, Tryz.ntmps33
  go_wp2_with fail
  generalize w.alloc (.cells #[.string ⟨#[]⟩, .slice none 0 0, .int .i64 0, .int .i64 0, .int .i64 0, .int .i64 0, .int .i64 0, .int .i64 0, .int .i64 0, .string ⟨#[]⟩, .int .i64 0, .string ⟨#[]⟩, .slice none 0 0] 59) = w0 at *
  refine (Split_any s 32 _ (HL.out.below HB0.out) (by omega)).mono ?_
  rintro x w1 ⟨sv, rfl, hown, hb1⟩
  rw [hsp] at hown
  obtain ⟨g, cap, rfl, hg0, hg1, hcap, hcm, hcs⟩ := own_get hown (by simp)
  unfold maxLen at hcm
  simp only [List.length_cons] at hcap
  have HB1 := Lib.hid (Below.next HB0.out hb1)
  have HZ1 := Lib.hid (HZ0.out.below hb1)
  have HCS := Lib.hid (show ∀ (j : Nat) t, (k0 :: args)[j]? = some t → w1.cell? ⟨g, j, none⟩ = some (.string ⟨t.toArray⟩) from fun j t h => hcs j _ (strs_get h))
  have c0 : w1.cell? ⟨g, 0, none⟩ = some (.string ⟨k0.toArray⟩) := HCS.out 0 k0 rfl
  have hbA : Below w1.heap.size w1 (w1.alloc (.cells #[.string ⟨k0.toArray⟩, .slice none 0 0, .int .i64 0, .int .i64 0, .int .i64 0, .int .i64 0, .int .i64 0, .int .i64 0, .int .i64 0, .string ⟨#[]⟩, .int .i64 0, .string ⟨#[]⟩, .slice none 0 0] 59)) := (Below.refl _ _).alloc (Nat.le_refl _) _
  have HB2 := Lib.hid (Below.next HB1.out hbA)
  have HZ2 := Lib.hid (HZ1.out.below hbA)
  have HC2 := Lib.hid (show CmBlk (w1.alloc (.cells #[.string ⟨k0.toArray⟩, .slice none 0 0, .int .i64 0, .int .i64 0, .int .i64 0, .int .i64 0, .int .i64 0, .int .i64 0, .int .i64 0, .string ⟨#[]⟩, .int .i64 0, .string ⟨#[]⟩, .slice none 0 0] 59)) w1.heap.size ⟨k0, [], evNone, []⟩ (.slice none 0 0) (.slice none 0 0) from heap_alloc_new w1 _)
  have HA := Lib.hid (show ∀ (j : Nat) t, (k0 :: args)[j]? = some t → (w1.alloc (.cells #[.string ⟨k0.toArray⟩, .slice none 0 0, .int .i64 0, .int .i64 0, .int .i64 0, .int .i64 0, .int .i64 0, .int .i64 0, .int .i64 0, .string ⟨#[]⟩, .int .i64 0, .string ⟨#[]⟩, .slice none 0 0] 59)).cell? ⟨g, j, none⟩ = some (.string ⟨t.toArray⟩) from fun j t h => cell_later hbA (HCS.out j t h))
  have hZlt := HZ0.out.lt
  clear hown hcs hb1 hbA HB0 HZ0 HB1 HZ1 HCS hsp
  go_wp2_with fail
  generalize hbe : w1.heap.size = be at *
  generalize w1.alloc (.cells #[.string ⟨k0.toArray⟩, .slice none 0 0, .int .i64 0, .int .i64 0, .int .i64 0, .int .i64 0, .int .i64 0, .int .i64 0, .int .i64 0, .string ⟨#[]⟩, .int .i64 0, .string ⟨#[]⟩, .slice none 0 0] 59) = w2 at *
  have hwb : w.heap.size < be := by omega
  have hgb : g ≠ be := by omega
  have hgw : w.heap.size ≠ g := by omega
  clear hbe hZlt hg0 hg1 c0
  have c0 := HA.out 0 k0 rfl
  have d0 : w2.cell? ⟨be, 0, none⟩ = some (.string ⟨k0.toArray⟩) := HC2.out.cell 0
  have d12 : w2.cell? ⟨be, 12, none⟩ = some (.slice none 0 0) := HC2.out.cell 12
  refine (shapeOf_any k0 _).mono ?_
  rintro x w3 ⟨rfl, rfl⟩
  have hHA := HA
  by_cases hc1 : cap = 1
  case' pos =>
    obtain rfl : args = [] := List.eq_nil_of_length_eq_zero (by omega)
    subst hc1
    simp only [List.length_nil] at *
  case' neg =>
    have hc2 : 1 < cap := by omega
    have hc3 : (1 : Int) < (cap : Int) := by omega
  all_goals
    go_wp2_with (first | (go_at_call 67; (with_reducible first | refine (counted_any (shapeV k0) _ _ (shape_le _)).mono ?_ | refine (counted_zero (shapeV k0) _ (shape_le _)).mono ?_); rintro x w4 ⟨rfl, rfl⟩) | (with_reducible refine wpList_store_cm rfl (.tmp 2) (.tmp 97) rfl w.heap.size cmdNone cmdNone (.slice none 0 0) (.slice none 0 0) (.slice none 0 0) (.slice none 0 0) rfl rfl rfl rfl HZ2.out ?_))
    exact bodyPost_ret (v := .tuple #[cmV cmdNone (.slice none 0 0) (.slice none 0 0), .int .i64 100]) (results_cm rfl _ _ w.heap.size cmdNone (.slice none 0 0) (.slice none 0 0) _ rfl rfl (HZ2.out.row cmdNone (.slice none 0 0) (.slice none 0 0))) rfl ⟨_, _, by rw [hfin.out], by rw [hfin.out]; exact World.ownsRow_nil _ _ _ _, by rw [hfin.out]; exact World.ownsRow_nil _ _ _ _, Below.row HB2.out (Nat.le_refl _) _⟩

set_option maxRecDepth 100000 in
set_option maxHeartbeats 8000000 in
theorem cmdS_n (s k0 : List UInt8) (args : List (List UInt8)) (w : World) (hsp : splitOn 32 s = k0 :: args) (hs : s.length ≤ 1048576) (hL : LibV w) (h6 : shapeV k0 ≠ 6) (h4 : shapeV k0 ≠ 4) (h5 : shapeV k0 ≠ 5) (hc : countOk (shapeV k0) args.length = true) :
    Calls Tryz.prog 33 #[.string ⟨s.toArray⟩] w (CmPost (cmdOf s) w) := by
  have hof : cmdOf s = cmdParts k0 args := by unfold cmdOf; rw [hsp]
  have hof2 : cmdOf s = match numsOf args with | none => (cmdNone, 101) | some ns => (⟨k0, ns, evNone, []⟩, 0) := by
    rw [hof]; unfold cmdParts; rw [if_neg h6, if_neg h4, if_neg h5]; unfold cmdNums; rw [if_neg (by rw [hc]; decide)]; rfl
  have HOF := Lib.hid hof2
  have k6 : ((shapeV k0 : Int) == 6) = false := by rw [beq_eq_false_iff_ne]; omega
  have k4 : ((shapeV k0 : Int) == 4) = false := by rw [beq_eq_false_iff_ne]; omega
  have k5 : ((shapeV k0 : Int) == 5) = false := by rw [beq_eq_false_iff_ne]; omega
  clear hof hof2 h6 h4 h5
  have HL := Lib.hid hL
  have hwl : Hid (∀ x ∈ k0 :: args, x.length ≤ 1048576) := Lib.hid fun x hx => by
    have := splitOn_part 32 s x (by rw [hsp]; exact hx)
    omega
  have hcount : args.length ≤ 1048576 := by
    have := splitOn_length 32 s
    rw [hsp] at this
    simp at this
    omega
  have HB0 := Lib.hid (show Below w.heap.size w (w.alloc (.cells #[.string ⟨#[]⟩, .slice none 0 0, .int .i64 0, .int .i64 0, .int .i64 0, .int .i64 0, .int .i64 0, .int .i64 0, .int .i64 0, .string ⟨#[]⟩, .int .i64 0, .string ⟨#[]⟩, .slice none 0 0] 59)) from (Below.refl _ _).alloc (Nat.le_refl _) _)
  have HZ0 := Lib.hid (show CmBlk (w.alloc (.cells #[.string ⟨#[]⟩, .slice none 0 0, .int .i64 0, .int .i64 0, .int .i64 0, .int .i64 0, .int .i64 0, .int .i64 0, .int .i64 0, .string ⟨#[]⟩, .int .i64 0, .string ⟨#[]⟩, .slice none 0 0] 59)) w.heap.size cmdNone (.slice none 0 0) (.slice none 0 0) from heap_alloc_new w _)
  clear hL
  go_enter Tryz.func33, Tryz.ntmps33
  go_wp2_with fail
  generalize w.alloc (.cells #[.string ⟨#[]⟩, .slice none 0 0, .int .i64 0, .int .i64 0, .int .i64 0, .int .i64 0, .int .i64 0, .int .i64 0, .int .i64 0, .string ⟨#[]⟩, .int .i64 0, .string ⟨#[]⟩, .slice none 0 0] 59) = w0 at *
  refine (Split_any s 32 _ (HL.out.below HB0.out) (by omega)).mono ?_
  rintro x w1 ⟨sv, rfl, hown, hb1⟩
  rw [hsp] at hown
  obtain ⟨g, cap, rfl, hg0, hg1, hcap, hcm, hcs⟩ := own_get hown (by simp)
  unfold maxLen at hcm
  simp only [List.length_cons] at hcap
  have HB1 := Lib.hid (Below.next HB0.out hb1)
  have HZ1 := Lib.hid (HZ0.out.below hb1)
  have HCS := Lib.hid (show ∀ (j : Nat) t, (k0 :: args)[j]? = some t → w1.cell? ⟨g, j, none⟩ = some (.string ⟨t.toArray⟩) from fun j t h => hcs j _ (strs_get h))
  have c0 : w1.cell? ⟨g, 0, none⟩ = some (.string ⟨k0.toArray⟩) := HCS.out 0 k0 rfl
  have hbA : Below w1.heap.size w1 (w1.alloc (.cells #[.string ⟨k0.toArray⟩, .slice none 0 0, .int .i64 0, .int .i64 0, .int .i64 0, .int .i64 0, .int .i64 0, .int .i64 0, .int .i64 0, .string ⟨#[]⟩, .int .i64 0, .string ⟨#[]⟩, .slice none 0 0] 59)) := (Below.refl _ _).alloc (Nat.le_refl _) _
  have HB2 := Lib.hid (Below.next HB1.out hbA)
  have HZ2 := Lib.hid (HZ1.out.below hbA)
  have HC2 := Lib.hid (show CmBlk (w1.alloc (.cells #[.string ⟨k0.toArray⟩, .slice none 0 0, .int .i64 0, .int .i64 0, .int .i64 0, .int .i64 0, .int .i64 0, .int .i64 0, .int .i64 0, .string ⟨#[]⟩, .int .i64 0, .string ⟨#[]⟩, .slice none 0 0] 59)) w1.heap.size ⟨k0, [], evNone, []⟩ (.slice none 0 0) (.slice none 0 0) from heap_alloc_new w1 _)
  have HA := Lib.hid (show ∀ (j : Nat) t, (k0 :: args)[j]? = some t → (w1.alloc (.cells #[.string ⟨k0.toArray⟩, .slice none 0 0, .int .i64 0, .int .i64 0, .int .i64 0, .int .i64 0, .int .i64 0, .int .i64 0, .int .i64 0, .string ⟨#[]⟩, .int .i64 0, .string ⟨#[]⟩, .slice none 0 0] 59)).cell? ⟨g, j, none⟩ = some (.string ⟨t.toArray⟩) from fun j t h => cell_later hbA (HCS.out j t h))
  have hZlt := HZ0.out.lt
  clear hown hcs hb1 hbA HB0 HZ0 HB1 HZ1 HCS hsp
  go_wp2_with fail
  generalize hbe : w1.heap.size = be at *
  generalize w1.alloc (.cells #[.string ⟨k0.toArray⟩, .slice none 0 0, .int .i64 0, .int .i64 0, .int .i64 0, .int .i64 0, .int .i64 0, .int .i64 0, .int .i64 0, .string ⟨#[]⟩, .int .i64 0, .string ⟨#[]⟩, .slice none 0 0] 59) = w2 at *
  have hwb : w.heap.size < be := by omega
  have hgb : g ≠ be := by omega
  have hgw : w.heap.size ≠ g := by omega
  clear hbe hZlt hg0 hg1 c0
  have c0 := HA.out 0 k0 rfl
  have d0 : w2.cell? ⟨be, 0, none⟩ = some (.string ⟨k0.toArray⟩) := HC2.out.cell 0
  have d12 : w2.cell? ⟨be, 12, none⟩ = some (.slice none 0 0) := HC2.out.cell 12
  refine (shapeOf_any k0 _).mono ?_
  rintro x w3 ⟨rfl, rfl⟩
  have HCAP := Lib.hid hcap
  have hcap2 := hcap
  by_cases hc1 : cap = 1
  case' pos =>
    have hnil : args = [] := List.eq_nil_of_length_eq_zero (by omega)
    have HSR := Lib.hid (show SRow w2 (.slice (some ⟨g, 0, none⟩) 0 0) args from by rw [hnil]; exact ⟨_, _, rfl, Nat.le_refl _, by decide, fun h => absurd rfl h⟩)
    have hlen : args.length = 0 := by rw [hnil]; rfl
    subst hc1
    rw [hlen] at hc
    clear hnil
  case' neg =>
    have hc2 : 1 < cap := by omega
    have hc3 : (1 : Int) < (cap : Int) := by omega
    have HSR := Lib.hid (show SRow w2 (.slice (some ⟨g, 1, none⟩) args.length (cap - 1)) args from ⟨_, _, rfl, by omega, by omega, fun _ => ⟨g, 1, rfl, fun i t h => by rw [Nat.add_comm 1 i]; exact HA.out (i + 1) t (by simpa using h)⟩⟩)
  all_goals
    go_wp2_with (go_at_call 67; (with_reducible first | refine (counted_any (shapeV k0) _ _ (shape_le _)).mono ?_ | refine (counted_zero (shapeV k0) _ (shape_le _)).mono ?_); rintro x w4 ⟨rfl, rfl⟩)
    refine (numbers_any args _ _ HSR.out (fun x hx => by have := hwl.out x (by simp [hx]); omega) (by omega) (HL.out.below HB2.out)).mono ?_
    rintro x w5 ⟨nv, rfl, hn, hb5⟩
    have HZ5 := Lib.hid (HZ2.out.below hb5)
    have HC5 := Lib.hid (HC2.out.below hb5)
    have HB5 := Lib.hid (Below.next HB2.out hb5)
    have hs2 := HC2.out.lt
    have d1 : w5.cell? ⟨be, 1, none⟩ = some (.slice none 0 0) := HC5.out.cell 1
    have e1 : w5.frozen? ⟨be, 1, none⟩ = false := HC5.out.free 1
    clear hb5 HZ2 HC2 HB2 HSR d0 d12 c0 hc
    cases hnum : numsOf args with
    | none =>
      have hfin := Lib.hid (show cmdOf s = (cmdNone, 101) by rw [HOF.out, hnum])
      obtain ⟨hnv, he⟩ := nums_bad hnum
      rw [he]
      rw [hnv] at hn
      obtain ⟨oa5, oc5, rfl, _, _⟩ := own_shape hn
      clear hnum he hnv hn
      have hB6 := But.set (But.refl be w5) 1 (.slice oa5 (List.length ([] : List Int)) oc5)
      have HZ6 := Lib.hid (HZ5.out.but hB6 (by omega))
      have HB6 := Lib.hid (But.below HB5.out hB6 (by omega))
      simp only [List.length_nil] at HZ6 HB6 ⊢
      clear hB6 HZ5 HC5 HB5
      go_wp2_with (with_reducible refine wpList_store_cm rfl (.tmp 2) (.tmp 100) rfl w.heap.size cmdNone cmdNone (.slice none 0 0) (.slice none 0 0) (.slice none 0 0) (.slice none 0 0) rfl rfl rfl rfl HZ6.out ?_)
      exact bodyPost_ret (v := .tuple #[cmV cmdNone (.slice none 0 0) (.slice none 0 0), .int .i64 101]) (results_cm rfl _ _ w.heap.size cmdNone (.slice none 0 0) (.slice none 0 0) _ rfl rfl (HZ6.out.row cmdNone (.slice none 0 0) (.slice none 0 0))) rfl ⟨_, _, by rw [hfin.out], by rw [hfin.out]; exact World.ownsRow_nil _ _ _ _, by rw [hfin.out]; exact World.ownsRow_nil _ _ _ _, Below.row HB6.out (Nat.le_refl _) _⟩
    | some ns =>
      have hfin := Lib.hid (show cmdOf s = (⟨k0, ns, evNone, []⟩, 0) by rw [HOF.out, hnum])
      obtain ⟨hnv, he⟩ := nums_good hnum
      rw [he]
      rw [hnv] at hn
      obtain ⟨oa5, oc5, rfl, _, _⟩ := own_shape hn
      have HN := Lib.hid hn
      have HC6 := Lib.hid (show CmBlk (w5.setCell ⟨be, 1, none⟩ (.slice oa5 ns.length oc5)) be ⟨k0, ns, evNone, []⟩ (.slice oa5 ns.length oc5) (.slice none 0 0) from HC5.out.put 1 _ rfl)
      have hB6 := But.set (But.refl be w5) 1 (.slice oa5 ns.length oc5)
      have HZ6 := Lib.hid (HZ5.out.but hB6 (by omega))
      have HN6 := Lib.hid (own_but' HN.out hB6 (fun e => by have := (HN.out.lt _ e).1; omega))
      have HB6 := Lib.hid (But.below HB5.out hB6 (by omega))
      clear hnum he hnv hn HN hB6 HZ5 HC5 HB5
      go_wp2_with (first
        | (with_reducible refine wpList_load_cm rfl (.tmp 5) rfl be ⟨k0, ns, evNone, []⟩ (.slice oa5 ns.length oc5) (.slice none 0 0) rfl HC6.out ?_)
        | (with_reducible refine wpList_store_cm rfl (.tmp 2) (.tmp 102) rfl w.heap.size cmdNone ⟨k0, ns, evNone, []⟩ (.slice none 0 0) (.slice none 0 0) (.slice oa5 ns.length oc5) (.slice none 0 0) rfl rfl rfl rfl HZ6.out ?_))
      exact bodyPost_ret (v := .tuple #[cmV ⟨k0, ns, evNone, []⟩ (.slice oa5 ns.length oc5) (.slice none 0 0), .int .i64 0]) (results_cm rfl _ _ w.heap.size ⟨k0, ns, evNone, []⟩ (.slice oa5 ns.length oc5) (.slice none 0 0) _ rfl rfl (HZ6.out.row ⟨k0, ns, evNone, []⟩ (.slice oa5 ns.length oc5) (.slice none 0 0))) rfl ⟨_, _, by rw [hfin.out], by rw [hfin.out]; exact own_row (own_mono HN6.out (by omega)) _ _ (fun e => by have := (HN6.out.lt _ e).1; omega), by rw [hfin.out]; exact World.ownsRow_nil _ _ _ _, Below.row HB6.out (Nat.le_refl _) _⟩

/-! ## strings.Join -/

theorem join_eq (ws : List (List UInt8)) : Lib.join ws [32] = joinBy 32 ws := by
  cases ws with
  | nil => rfl
  | cons w ws => rw [joinBy_blanked, Lib.join_cons]; rfl
theorem Join_any (ws : List (List UInt8)) (g o n c : Nat) (w : World) (hn : ws.length = n) (hcells : ∀ (i : Nat) s, ws[i]? = some s → w.cell? ⟨g, o + i, none⟩ = some (.string ⟨s.toArray⟩)) (hne : ws ≠ []) (hc : n ≤ c) (hN : n ≤ 2097153) (hl : (joinBy 32 ws).length ≤ 2097152) :
    Calls Tryz.prog 69 #[.slice (some ⟨g, o, none⟩) n c, .string ⟨#[32]⟩] w fun x w' => x = .returned (.string ⟨(joinBy 32 ws).toArray⟩) ∧ Below w.heap.size w w' := by
  subst hn
  have hd : (ws.map fun s => (⟨s.toArray⟩ : ByteArray)).map (·.data.toList) = ws := by rw [List.map_map]; simp [Function.comp_def]
  have hb : g < w.heap.size := by
    cases ws with
    | nil => exact absurd rfl hne
    | cons x ws => exact World.block_lt_of_cell? w _ (hcells 0 x rfl)
  have h := Tryz.strings_Join g o c (ws.map fun s => (⟨s.toArray⟩ : ByteArray)) ⟨#[32]⟩ w (fun j x hx => by
    rw [List.getElem?_map] at hx
    cases hj : ws[j]? with
    | none => rw [hj] at hx; cases hx
    | some s => rw [hj] at hx; simp at hx; subst hx; exact hcells j s hj) hb (by rw [List.length_map]; omega) (by rw [List.length_map]; exact hc) (by rw [hd, show (#[32] : Array UInt8).toList = [32] from rfl, join_eq]; omega)
  rw [hd, show (⟨#[32]⟩ : ByteArray).data.toList = [32] from rfl, join_eq, List.length_map] at h
  exact h

set_option maxRecDepth 100000 in
set_option maxHeartbeats 8000000 in
theorem cmdS_5 (s k0 : List UInt8) (args : List (List UInt8)) (w : World) (hsp : splitOn 32 s = k0 :: args) (hs : s.length ≤ 1048576) (hL : LibV w) (a : List UInt8) (ha : args = [a]) (h5 : shapeV k0 = 5) :
    Calls Tryz.prog 33 #[.string ⟨s.toArray⟩] w (CmPost (cmdOf s) w) := by
  have hof : cmdOf s = cmdParts k0 args := by unfold cmdOf; rw [hsp]
  have hof2 : cmdOf s = match unhexOf a with | none => (cmdNone, 101) | some b => if b = [] then (cmdNone, 101) else (⟨k0, [], evNone, b⟩, 0) := by
    rw [hof, ha]; unfold cmdParts; rw [if_neg (by omega), if_neg (by omega), if_pos h5]; rfl
  have HOF := Lib.hid hof2
  have k6 : ((shapeV k0 : Int) == 6) = false := by rw [beq_eq_false_iff_ne]; omega
  have k4 : ((shapeV k0 : Int) == 4) = false := by rw [beq_eq_false_iff_ne]; omega
  have k5 : ((shapeV k0 : Int) == 5) = true := by rw [beq_iff_eq]; omega
  subst ha
  clear hof hof2 h5
  have HL := Lib.hid hL
  have hwl : Hid (∀ x ∈ k0 :: [a], x.length ≤ 1048576) := Lib.hid fun x hx => by
    have := splitOn_part 32 s x (by rw [hsp]; exact hx)
    omega
  have hcount : [a].length ≤ 1048576 := by
    simp
  have HB0 := Lib.hid (show Below w.heap.size w (w.alloc (.cells #[.string ⟨#[]⟩, .slice none 0 0, .int .i64 0, .int .i64 0, .int .i64 0, .int .i64 0, .int .i64 0, .int .i64 0, .int .i64 0, .string ⟨#[]⟩, .int .i64 0, .string ⟨#[]⟩, .slice none 0 0] 59)) from (Below.refl _ _).alloc (Nat.le_refl _) _)
  have HZ0 := Lib.hid (show CmBlk (w.alloc (.cells #[.string ⟨#[]⟩, .slice none 0 0, .int .i64 0, .int .i64 0, .int .i64 0, .int .i64 0, .int .i64 0, .int .i64 0, .int .i64 0, .string ⟨#[]⟩, .int .i64 0, .string ⟨#[]⟩, .slice none 0 0] 59)) w.heap.size cmdNone (.slice none 0 0) (.slice none 0 0) from heap_alloc_new w _)
  clear hL
  go_enter Tryz.func33, Tryz.ntmps33
  go_wp2_with fail
  generalize w.alloc (.cells #[.string ⟨#[]⟩, .slice none 0 0, .int .i64 0, .int .i64 0, .int .i64 0, .int .i64 0, .int .i64 0, .int .i64 0, .int .i64 0, .string ⟨#[]⟩, .int .i64 0, .string ⟨#[]⟩, .slice none 0 0] 59) = w0 at *
  refine (Split_any s 32 _ (HL.out.below HB0.out) (by omega)).mono ?_
  rintro x w1 ⟨sv, rfl, hown, hb1⟩
  rw [hsp] at hown
  obtain ⟨g, cap, rfl, hg0, hg1, hcap, hcm, hcs⟩ := own_get hown (by simp)
  unfold maxLen at hcm
  simp only [List.length_cons, List.length_nil] at hcap
  have HB1 := Lib.hid (Below.next HB0.out hb1)
  have HZ1 := Lib.hid (HZ0.out.below hb1)
  have HCS := Lib.hid (show ∀ (j : Nat) t, (k0 :: [a])[j]? = some t → w1.cell? ⟨g, j, none⟩ = some (.string ⟨t.toArray⟩) from fun j t h => hcs j _ (strs_get h))
  have c0 : w1.cell? ⟨g, 0, none⟩ = some (.string ⟨k0.toArray⟩) := HCS.out 0 k0 rfl
  have hbA : Below w1.heap.size w1 (w1.alloc (.cells #[.string ⟨k0.toArray⟩, .slice none 0 0, .int .i64 0, .int .i64 0, .int .i64 0, .int .i64 0, .int .i64 0, .int .i64 0, .int .i64 0, .string ⟨#[]⟩, .int .i64 0, .string ⟨#[]⟩, .slice none 0 0] 59)) := (Below.refl _ _).alloc (Nat.le_refl _) _
  have HB2 := Lib.hid (Below.next HB1.out hbA)
  have HZ2 := Lib.hid (HZ1.out.below hbA)
  have HC2 := Lib.hid (show CmBlk (w1.alloc (.cells #[.string ⟨k0.toArray⟩, .slice none 0 0, .int .i64 0, .int .i64 0, .int .i64 0, .int .i64 0, .int .i64 0, .int .i64 0, .int .i64 0, .string ⟨#[]⟩, .int .i64 0, .string ⟨#[]⟩, .slice none 0 0] 59)) w1.heap.size ⟨k0, [], evNone, []⟩ (.slice none 0 0) (.slice none 0 0) from heap_alloc_new w1 _)
  have HA := Lib.hid (show ∀ (j : Nat) t, (k0 :: [a])[j]? = some t → (w1.alloc (.cells #[.string ⟨k0.toArray⟩, .slice none 0 0, .int .i64 0, .int .i64 0, .int .i64 0, .int .i64 0, .int .i64 0, .int .i64 0, .int .i64 0, .string ⟨#[]⟩, .int .i64 0, .string ⟨#[]⟩, .slice none 0 0] 59)).cell? ⟨g, j, none⟩ = some (.string ⟨t.toArray⟩) from fun j t h => cell_later hbA (HCS.out j t h))
  have hZlt := HZ0.out.lt
  clear hown hcs hb1 hbA HB0 HZ0 HB1 HZ1 HCS hsp
  go_wp2_with fail
  generalize hbe : w1.heap.size = be at *
  generalize w1.alloc (.cells #[.string ⟨k0.toArray⟩, .slice none 0 0, .int .i64 0, .int .i64 0, .int .i64 0, .int .i64 0, .int .i64 0, .int .i64 0, .int .i64 0, .string ⟨#[]⟩, .int .i64 0, .string ⟨#[]⟩, .slice none 0 0] 59) = w2 at *
  have hwb : w.heap.size < be := by omega
  have hgb : g ≠ be := by omega
  have hgw : w.heap.size ≠ g := by omega
  clear hbe hZlt hg0 hg1 c0
  have c0 := HA.out 0 k0 rfl
  have d0 : w2.cell? ⟨be, 0, none⟩ = some (.string ⟨k0.toArray⟩) := HC2.out.cell 0
  have d12 : w2.cell? ⟨be, 12, none⟩ = some (.slice none 0 0) := HC2.out.cell 12
  refine (shapeOf_any k0 _).mono ?_
  rintro x w3 ⟨rfl, rfl⟩
  have hc2 : 1 < cap := by omega
  have hc3 : (1 : Int) < (cap : Int) := by omega
  have c1a : w2.cell? ⟨g, 1, none⟩ = some (.string ⟨a.toArray⟩) := HA.out 1 a rfl
  have hal := hwl.out a (by simp)
  go_wp2_with fail
  refine (dumpUnhex_any a _ (by omega)).mono ?_
  rintro x w5 ⟨nv, rfl, hn, hb5⟩
  have HZ5 := Lib.hid (HZ2.out.below hb5)
  have HC5 := Lib.hid (HC2.out.below hb5)
  have HB5 := Lib.hid (Below.next HB2.out hb5)
  have hs2 := HC2.out.lt
  have d1 : w5.cell? ⟨be, 12, none⟩ = some (.slice none 0 0) := HC5.out.cell 12
  have e1 : w5.frozen? ⟨be, 12, none⟩ = false := HC5.out.free 12
  clear hb5 HZ2 HC2 HB2 d0 d12 c0 c1a
  cases hu : unhexOf a with
  | none =>
    have hfin := Lib.hid (show cmdOf s = (cmdNone, 101) by rw [HOF.out, hu])
    have he : uErr a = 101 := by simp [uErr, hu]
    have hnv : uVal a = [] := by simp [uVal, hu]
    rw [he]
    rw [hnv] at hn
    obtain ⟨oa5, oc5, rfl, _, _⟩ := own_shape hn
    clear hu he hnv hn
    have hB6 := But.set (But.refl be w5) 12 (.slice oa5 (List.length ([] : List UInt8)) oc5)
    have HZ6 := Lib.hid (HZ5.out.but hB6 (by omega))
    have HB6 := Lib.hid (But.below HB5.out hB6 (by omega))
    simp only [List.length_nil] at HZ6 HB6 ⊢
    clear hB6 HZ5 HC5 HB5
    go_wp2_with (with_reducible refine wpList_store_cm rfl (.tmp 2) (.tmp 100) rfl w.heap.size cmdNone cmdNone (.slice none 0 0) (.slice none 0 0) (.slice none 0 0) (.slice none 0 0) rfl rfl rfl rfl HZ6.out ?_)
    exact bodyPost_ret (v := .tuple #[cmV cmdNone (.slice none 0 0) (.slice none 0 0), .int .i64 101]) (results_cm rfl _ _ w.heap.size cmdNone (.slice none 0 0) (.slice none 0 0) _ rfl rfl (HZ6.out.row cmdNone (.slice none 0 0) (.slice none 0 0))) rfl ⟨_, _, by rw [hfin.out], by rw [hfin.out]; exact World.ownsRow_nil _ _ _ _, by rw [hfin.out]; exact World.ownsRow_nil _ _ _ _, Below.row HB6.out (Nat.le_refl _) _⟩
  | some b =>
    have he : uErr a = 0 := by simp [uErr, hu]
    have hnv : uVal a = b := by simp [uVal, hu]
    rw [he]
    rw [hnv] at hn
    obtain ⟨oa5, oc5, rfl, _, _⟩ := own_shape hn
    have HN := Lib.hid hn
    have HC6 := Lib.hid (show CmBlk (w5.setCell ⟨be, 12, none⟩ (.slice oa5 b.length oc5)) be ⟨k0, [], evNone, b⟩ (.slice none 0 0) (.slice oa5 b.length oc5) from HC5.out.put 12 _ rfl)
    have hB6 := But.set (But.refl be w5) 12 (.slice oa5 b.length oc5)
    have HZ6 := Lib.hid (HZ5.out.but hB6 (by omega))
    have HN6 := Lib.hid (own_but' HN.out hB6 (fun e => by have := (HN.out.lt _ e).1; omega))
    have HB6 := Lib.hid (But.below HB5.out hB6 (by omega))
    have f12 : (w5.setCell ⟨be, 12, none⟩ (.slice oa5 b.length oc5)).cell? ⟨be, 12, none⟩ = some (.slice oa5 b.length oc5) := HC6.out.cell 12
    clear he hnv hn HN hB6 HZ5 HC5 HB5
    by_cases hb0 : b = []
    · have hfin := Lib.hid (show cmdOf s = (cmdNone, 101) by rw [HOF.out, hu]; exact if_pos hb0)
      have kb : ((b.length : Int) == 0) = true := by rw [hb0]; rfl
      clear hu hb0
      go_wp2_with (with_reducible refine wpList_store_cm rfl (.tmp 2) (.tmp 100) rfl w.heap.size cmdNone cmdNone (.slice none 0 0) (.slice none 0 0) (.slice none 0 0) (.slice none 0 0) rfl rfl rfl rfl HZ6.out ?_)
      exact bodyPost_ret (v := .tuple #[cmV cmdNone (.slice none 0 0) (.slice none 0 0), .int .i64 101]) (results_cm rfl _ _ w.heap.size cmdNone (.slice none 0 0) (.slice none 0 0) _ rfl rfl (HZ6.out.row cmdNone (.slice none 0 0) (.slice none 0 0))) rfl ⟨_, _, by rw [hfin.out], by rw [hfin.out]; exact World.ownsRow_nil _ _ _ _, by rw [hfin.out]; exact World.ownsRow_nil _ _ _ _, Below.row HB6.out (Nat.le_refl _) _⟩
    · have hfin := Lib.hid (show cmdOf s = (⟨k0, [], evNone, b⟩, 0) by rw [HOF.out, hu]; exact if_neg hb0)
      have kb : ((b.length : Int) == 0) = false := by rw [beq_eq_false_iff_ne]; intro h; exact hb0 (List.length_eq_zero_iff.1 (by omega))
      clear hu hb0
      go_wp2_with (first
        | (with_reducible refine wpList_load_cm rfl (.tmp 5) rfl be ⟨k0, [], evNone, b⟩ (.slice none 0 0) (.slice oa5 b.length oc5) rfl HC6.out ?_)
        | (with_reducible refine wpList_store_cm rfl (.tmp 2) (.tmp 102) rfl w.heap.size cmdNone ⟨k0, [], evNone, b⟩ (.slice none 0 0) (.slice none 0 0) (.slice none 0 0) (.slice oa5 b.length oc5) rfl rfl rfl rfl HZ6.out ?_))
      exact bodyPost_ret (v := .tuple #[cmV ⟨k0, [], evNone, b⟩ (.slice none 0 0) (.slice oa5 b.length oc5), .int .i64 0]) (results_cm rfl _ _ w.heap.size ⟨k0, [], evNone, b⟩ (.slice none 0 0) (.slice oa5 b.length oc5) _ rfl rfl (HZ6.out.row ⟨k0, [], evNone, b⟩ (.slice none 0 0) (.slice oa5 b.length oc5))) rfl ⟨_, _, by rw [hfin.out], by rw [hfin.out]; exact World.ownsRow_nil _ _ _ _, by rw [hfin.out]; exact own_row (own_mono HN6.out (by omega)) _ _ (fun e => by have := (HN6.out.lt _ e).1; omega), Below.row HB6.out (Nat.le_refl _) _⟩

end Go.Proofs.YtecmpmnidlfgnaaGreatDoor

namespace Go.Proofs.YtecmpmnidlfgnaaGreatDoor
open Go.RowKit

/-! ## script.Command at 'append' -/

theorem raw_put {w : World} {b : Nat} {cs : Array Value} {t : TypeId} (h : w.heap[b]? = some (.cells cs t (0, 0))) (j : Nat) (v : Value) : (w.setCell ⟨b, j, none⟩ v).heap[b]? = some (.cells (cs.setIfInBounds j v) t (0, 0)) := by
  simp only [World.setCell]
  rw [Array.getElem?_modify]
  simp [h]
theorem cm_setEv {w : World} {be : Nat} {c : Cmd} {nv rv : Value} (h : CmBlk w be c nv rv) (E : Ev) : CmBlk ((((((((((w.setCell ⟨be, 2, none⟩ (.int .i64 E.kind)).setCell ⟨be, 3, none⟩ (.int .i64 E.order)).setCell ⟨be, 4, none⟩ (.int .i64 E.item)).setCell ⟨be, 5, none⟩ (.int .i64 E.qty)).setCell ⟨be, 6, none⟩ (.int .i64 E.price)).setCell ⟨be, 7, none⟩ (.int .i64 E.cur)).setCell ⟨be, 8, none⟩ (.int .i64 E.tax)).setCell ⟨be, 9, none⟩ (.string ⟨E.who.toArray⟩)).setCell ⟨be, 10, none⟩ (.int .i64 E.stamp)).setCell ⟨be, 11, none⟩ (.string ⟨E.note.toArray⟩)) be { c with ev := E } nv rv := by
  unfold CmBlk cmCs at *
  have h' := raw_put (raw_put (raw_put (raw_put (raw_put (raw_put (raw_put (raw_put (raw_put (raw_put h 2 (.int .i64 E.kind)) 3 (.int .i64 E.order)) 4 (.int .i64 E.item)) 5 (.int .i64 E.qty)) 6 (.int .i64 E.price)) 7 (.int .i64 E.cur)) 8 (.int .i64 E.tax)) 9 (.string ⟨E.who.toArray⟩)) 10 (.int .i64 E.stamp)) 11 (.string ⟨E.note.toArray⟩)
  simp only [List.setIfInBounds_toArray, List.set_cons_zero, List.set_cons_succ] at h'
  exact h'

set_option maxRecDepth 100000 in
set_option maxHeartbeats 8000000 in
theorem cmdS_4 (s k0 : List UInt8) (args : List (List UInt8)) (w : World) (hsp : splitOn 32 s = k0 :: args) (hs : s.length ≤ 1048576) (hL : LibV w) (a b : List UInt8) (rest : List (List UInt8)) (ha : args = a :: b :: rest) (h4 : shapeV k0 = 4) :
    Calls Tryz.prog 33 #[.string ⟨s.toArray⟩] w (CmPost (cmdOf s) w) := by
  have hof : cmdOf s = cmdParts k0 args := by unfold cmdOf; rw [hsp]
  have hof2 : cmdOf s = cmdApp k0 args := by
    rw [hof]; unfold cmdParts; rw [if_neg (by omega), if_pos h4]
  have HOF := Lib.hid hof2
  have HAR := Lib.hid ha
  have HJ := Lib.hid (show (joinBy 32 (b :: rest)).length ≤ 1048576 by
    have h1 := join_split 32 s
    rw [hsp, ha, join3 _ _ _ (by simp)] at h1
    have h2 := congrArg List.length h1
    simp at h2
    omega)
  have k6 : ((shapeV k0 : Int) == 6) = false := by rw [beq_eq_false_iff_ne]; omega
  have k4 : ((shapeV k0 : Int) == 4) = true := by rw [beq_iff_eq]; omega
  have k5 : ((shapeV k0 : Int) == 5) = false := by rw [beq_eq_false_iff_ne]; omega
  have kl : 2 ≤ args.length := by rw [ha]; simp
  clear hof hof2 h4 ha
  have HL := Lib.hid hL
  have hwl : Hid (∀ x ∈ k0 :: args, x.length ≤ 1048576) := Lib.hid fun x hx => by
    have := splitOn_part 32 s x (by rw [hsp]; exact hx)
    omega
  have hcount : args.length ≤ 1048576 := by
    have := splitOn_length 32 s
    rw [hsp] at this
    simp at this
    omega
  have HB0 := Lib.hid (show Below w.heap.size w (w.alloc (.cells #[.string ⟨#[]⟩, .slice none 0 0, .int .i64 0, .int .i64 0, .int .i64 0, .int .i64 0, .int .i64 0, .int .i64 0, .int .i64 0, .string ⟨#[]⟩, .int .i64 0, .string ⟨#[]⟩, .slice none 0 0] 59)) from (Below.refl _ _).alloc (Nat.le_refl _) _)
  have HZ0 := Lib.hid (show CmBlk (w.alloc (.cells #[.string ⟨#[]⟩, .slice none 0 0, .int .i64 0, .int .i64 0, .int .i64 0, .int .i64 0, .int .i64 0, .int .i64 0, .int .i64 0, .string ⟨#[]⟩, .int .i64 0, .string ⟨#[]⟩, .slice none 0 0] 59)) w.heap.size cmdNone (.slice none 0 0) (.slice none 0 0) from heap_alloc_new w _)
  clear hL
  go_enter Tryz.func33, Tryz.ntmps33
  go_wp2_with fail
  generalize w.alloc (.cells #[.string ⟨#[]⟩, .slice none 0 0, .int .i64 0, .int .i64 0, .int .i64 0, .int .i64 0, .int .i64 0, .int .i64 0, .int .i64 0, .string ⟨#[]⟩, .int .i64 0, .string ⟨#[]⟩, .slice none 0 0] 59) = w0 at *
  refine (Split_any s 32 _ (HL.out.below HB0.out) (by omega)).mono ?_
  rintro x w1 ⟨sv, rfl, hown, hb1⟩
  rw [hsp] at hown
  obtain ⟨g, cap, rfl, hg0, hg1, hcap, hcm, hcs⟩ := own_get hown (by simp)
  unfold maxLen at hcm
  simp only [List.length_cons] at hcap
  have HB1 := Lib.hid (Below.next HB0.out hb1)
  have HZ1 := Lib.hid (HZ0.out.below hb1)
  have HCS := Lib.hid (show ∀ (j : Nat) t, (k0 :: args)[j]? = some t → w1.cell? ⟨g, j, none⟩ = some (.string ⟨t.toArray⟩) from fun j t h => hcs j _ (strs_get h))
  have c0 : w1.cell? ⟨g, 0, none⟩ = some (.string ⟨k0.toArray⟩) := HCS.out 0 k0 rfl
  have hbA : Below w1.heap.size w1 (w1.alloc (.cells #[.string ⟨k0.toArray⟩, .slice none 0 0, .int .i64 0, .int .i64 0, .int .i64 0, .int .i64 0, .int .i64 0, .int .i64 0, .int .i64 0, .string ⟨#[]⟩, .int .i64 0, .string ⟨#[]⟩, .slice none 0 0] 59)) := (Below.refl _ _).alloc (Nat.le_refl _) _
  have HB2 := Lib.hid (Below.next HB1.out hbA)
  have HZ2 := Lib.hid (HZ1.out.below hbA)
  have HC2 := Lib.hid (show CmBlk (w1.alloc (.cells #[.string ⟨k0.toArray⟩, .slice none 0 0, .int .i64 0, .int .i64 0, .int .i64 0, .int .i64 0, .int .i64 0, .int .i64 0, .int .i64 0, .string ⟨#[]⟩, .int .i64 0, .string ⟨#[]⟩, .slice none 0 0] 59)) w1.heap.size ⟨k0, [], evNone, []⟩ (.slice none 0 0) (.slice none 0 0) from heap_alloc_new w1 _)
  have HA := Lib.hid (show ∀ (j : Nat) t, (k0 :: args)[j]? = some t → (w1.alloc (.cells #[.string ⟨k0.toArray⟩, .slice none 0 0, .int .i64 0, .int .i64 0, .int .i64 0, .int .i64 0, .int .i64 0, .int .i64 0, .int .i64 0, .string ⟨#[]⟩, .int .i64 0, .string ⟨#[]⟩, .slice none 0 0] 59)).cell? ⟨g, j, none⟩ = some (.string ⟨t.toArray⟩) from fun j t h => cell_later hbA (HCS.out j t h))
  have hZlt := HZ0.out.lt
  clear hown hcs hb1 hbA HB0 HZ0 HB1 HZ1 HCS hsp
  go_wp2_with fail
  generalize hbe : w1.heap.size = be at *
  generalize w1.alloc (.cells #[.string ⟨k0.toArray⟩, .slice none 0 0, .int .i64 0, .int .i64 0, .int .i64 0, .int .i64 0, .int .i64 0, .int .i64 0, .int .i64 0, .string ⟨#[]⟩, .int .i64 0, .string ⟨#[]⟩, .slice none 0 0] 59) = w2 at *
  have hwb : w.heap.size < be := by omega
  have hgb : g ≠ be := by omega
  have hgw : w.heap.size ≠ g := by omega
  clear hbe hZlt hg0 hg1 c0
  have c0 := HA.out 0 k0 rfl
  have d0 : w2.cell? ⟨be, 0, none⟩ = some (.string ⟨k0.toArray⟩) := HC2.out.cell 0
  have d12 : w2.cell? ⟨be, 12, none⟩ = some (.slice none 0 0) := HC2.out.cell 12
  refine (shapeOf_any k0 _).mono ?_
  rintro x w3 ⟨rfl, rfl⟩
  have hc2 : 1 < cap := by omega
  have hc3 : (1 : Int) < (cap : Int) := by omega
  have hc4 : 1 ≤ cap - 1 := by omega
  have hc5 : (1 : Int) ≤ ((cap - 1 : Nat) : Int) := by omega
  have hal := hwl.out a (by rw [HAR.out]; simp)
  have HSR := Lib.hid (show SRow w2 (.slice (some ⟨g, 1, none⟩) 1 (cap - 1)) [a] from ⟨_, _, rfl, hc4, by omega, fun _ => ⟨g, 1, rfl, fun i t h => by
    match i, h with
    | 0, h => simp at h; subst h; exact HA.out 1 a (by rw [HAR.out]; rfl)⟩⟩)
  go_wp2_with fail
  refine (numbers_any [a] _ _ HSR.out (fun x hx => by simp at hx; subst hx; omega) (by simp) (HL.out.below HB2.out)).mono ?_
  rintro x w5 ⟨nv, rfl, hn, hb5⟩
  have HZ5 := Lib.hid (HZ2.out.below hb5)
  have HC5 := Lib.hid (HC2.out.below hb5)
  have HB5 := Lib.hid (Below.next HB2.out hb5)
  have HA5 := Lib.hid (show ∀ (j : Nat) t, (k0 :: args)[j]? = some t → w5.cell? ⟨g, j, none⟩ = some (.string ⟨t.toArray⟩) from fun j t h => cell_later hb5 (HA.out j t h))
  have hs2 := HC2.out.lt
  have hs5 := hb5.size
  have d1 : w5.cell? ⟨be, 1, none⟩ = some (.slice none 0 0) := HC5.out.cell 1
  have e1 : w5.frozen? ⟨be, 1, none⟩ = false := HC5.out.free 1
  clear hb5 HZ2 HC2 HB2 HSR d0 d12 c0 HA
  cases hnum : numberOf a with
  | none =>
    have hfin := Lib.hid (show cmdOf s = (cmdNone, 101) by rw [HOF.out, HAR.out]; unfold cmdApp; simp only [hnum])
    obtain ⟨hnv, he⟩ := nums_bad (show numsOf [a] = none by rw [numsOf, hnum])
    rw [he]
    rw [hnv] at hn
    obtain ⟨oa5, oc5, rfl, _, _⟩ := own_shape hn
    clear hnum he hnv hn
    have hB6 := But.set (But.refl be w5) 1 (.slice oa5 (List.length ([] : List Int)) oc5)
    have HZ6 := Lib.hid (HZ5.out.but hB6 (by omega))
    have HB6 := Lib.hid (But.below HB5.out hB6 (by omega))
    simp only [List.length_nil] at HZ6 HB6 ⊢
    clear hB6 HZ5 HC5 HB5
    go_wp2_with (with_reducible refine wpList_store_cm rfl (.tmp 2) (.tmp 100) rfl w.heap.size cmdNone cmdNone (.slice none 0 0) (.slice none 0 0) (.slice none 0 0) (.slice none 0 0) rfl rfl rfl rfl HZ6.out ?_)
    exact bodyPost_ret (v := .tuple #[cmV cmdNone (.slice none 0 0) (.slice none 0 0), .int .i64 101]) (results_cm rfl _ _ w.heap.size cmdNone (.slice none 0 0) (.slice none 0 0) _ rfl rfl (HZ6.out.row cmdNone (.slice none 0 0) (.slice none 0 0))) rfl ⟨_, _, by rw [hfin.out], by rw [hfin.out]; exact World.ownsRow_nil _ _ _ _, by rw [hfin.out]; exact World.ownsRow_nil _ _ _ _, Below.row HB6.out (Nat.le_refl _) _⟩
  | some n =>
    have HOF2 := Lib.hid (show cmdOf s = if (eventOf n (joinBy 32 (b :: rest))).2 ≠ 0 then (cmdNone, (eventOf n (joinBy 32 (b :: rest))).2) else (⟨k0, [n], (eventOf n (joinBy 32 (b :: rest))).1, []⟩, 0) by rw [HOF.out, HAR.out]; unfold cmdApp; simp only [hnum])
    obtain ⟨hnv, he⟩ := nums_good (show numsOf [a] = some [n] by rw [numsOf, hnum]; rfl)
    rw [he]
    rw [hnv] at hn
    have HN := Lib.hid hn
    obtain ⟨g2, oc, rfl, hg2, hg2s, hoc, _, hcn⟩ := own_get hn (by simp)
    simp only [List.length_singleton] at hoc HN ⊢
    have cn : w5.cell? ⟨g2, 0, none⟩ = some (.int .i64 n) := hcn 0 _ rfl
    have HC6 := Lib.hid (show CmBlk (w5.setCell ⟨be, 1, none⟩ (.slice (some ⟨g2, 0, none⟩) 1 oc)) be ⟨k0, [n], evNone, []⟩ (.slice (some ⟨g2, 0, none⟩) 1 oc) (.slice none 0 0) from HC5.out.put 1 _ rfl)
    have hB6 := But.set (But.refl be w5) 1 (.slice (some ⟨g2, 0, none⟩) 1 oc)
    have hg2b : g2 ≠ be := by omega
    have HZ6 := Lib.hid (HZ5.out.but hB6 (by omega))
    have HN6 := Lib.hid (own_but' HN.out hB6 (fun e => by have := (HN.out.lt _ e).1; omega))
    have HB6 := Lib.hid (But.below HB5.out hB6 (by omega))
    have HA6 := Lib.hid (show ∀ (j : Nat) t, (k0 :: args)[j]? = some t → (w5.setCell ⟨be, 1, none⟩ (.slice (some ⟨g2, 0, none⟩) 1 oc)).cell? ⟨g, j, none⟩ = some (.string ⟨t.toArray⟩) from fun j t h => hB6.cell (HA5.out j t h) hgb)
    have cn6 := hB6.cell cn hg2b
    have c16 : (w5.setCell ⟨be, 1, none⟩ (.slice (some ⟨g2, 0, none⟩) 1 oc)).cell? ⟨be, 1, none⟩ = some (.slice (some ⟨g2, 0, none⟩) 1 oc) := HC6.out.cell 1
    clear hnum he hnv hn HN hB6 HZ5 HC5 HB5 HA5 cn hcn HOF
    go_wp2_with fail
    clear d1 e1
    generalize w5.setCell ⟨be, 1, none⟩ (.slice (some ⟨g2, 0, none⟩) 1 oc) = w6 at *
    have q7 : (1 : Int) ≤ (args.length : Int) := by omega
    have hc6 : ¬ cap = 2 := by omega
    have HJR := Lib.hid (show ∀ (i : Nat) t, (b :: rest)[i]? = some t → w6.cell? ⟨g, 2 + i, none⟩ = some (.string ⟨t.toArray⟩) from fun i t h => by rw [Nat.add_comm 2 i]; exact HA6.out (i + 2) t (by rw [HAR.out]; simpa using h))
    have hjl : (b :: rest).length = args.length - 1 := by rw [HAR.out]; simp
    have keep0 : Hid (w6.drew.cell? ⟨be, 1, none⟩ = some (.slice (some ⟨g2, 0, none⟩) 1 oc) ∧ w6.drew.cell? ⟨g2, 0, none⟩ = some (.int .i64 n) ∧ But be w6 w6.drew) := Lib.hid ⟨c16, cn6, But.of (Below.refl _ _).drew⟩
    have keepN : Hid (∀ x y : World, Below x.heap.size x y → But be w6 x → x.cell? ⟨be, 1, none⟩ = some (.slice (some ⟨g2, 0, none⟩) 1 oc) → y.cell? ⟨be, 1, none⟩ = some (.slice (some ⟨g2, 0, none⟩) 1 oc) ∧ y.cell? ⟨g2, 0, none⟩ = some (.int .i64 n) ∧ But be w6 y) :=
      Lib.hid fun x y h1 h2 h4 => by
        have h3 := h2.trans (But.of h1)
        exact ⟨cell_later h1 h4, h3.cell cn6 hg2b, h3⟩
    refine wp_region_held_drew (S := fun w' => w'.cell? ⟨be, 1, none⟩ = some (.slice (some ⟨g2, 0, none⟩) 1 oc) ∧ w'.cell? ⟨g2, 0, none⟩ = some (.int .i64 n) ∧ But be w6 w') (by kernel_rfl) ?hS0 (fun hHeld => ?_)
    case hS0 => exact keep0.out
    clear c16 cn6
    refine wpAnyH_take (i := 0) (oi := ⟨_, _, _, _, _, _⟩) (v := ?v0) rfl (by kernel_rfl) (by kernel_rfl) (by kernel_rfl) (fun _ _ _ h => h) (Or.inl ⟨by kernel_rfl, ?hy0⟩) (by assumption) ?rest0
    case hy0 => intro w hSw; (try dsimp only at hSw); go_split_ands; go_simp; try with_reducible rfl
    simp only [Act.put, List.setIfInBounds_toArray, List.set_cons_zero, List.set_cons_succ]
    refine wpAnyH_take (i := 1) (oi := ⟨_, _, _, _, _, _⟩) (v := ?v1) rfl (by kernel_rfl) (by kernel_rfl) (by kernel_rfl) (fun _ _ _ h => h) (Or.inl ⟨by kernel_rfl, ?hy1⟩) (by assumption) ?rest1
    case hy1 => intro w hSw; (try dsimp only at hSw); go_split_ands; go_simp; try with_reducible rfl
    simp only [Act.put, List.setIfInBounds_toArray, List.set_cons_zero, List.set_cons_succ]
    refine wpAnyH_take (i := 2) (oi := ⟨_, _, _, _, _, _⟩) (v := ?v2) rfl (by kernel_rfl) (by kernel_rfl) (by kernel_rfl) (fun _ _ _ h => h) (Or.inl ⟨by kernel_rfl, ?hy2⟩) (by assumption) ?rest2
    case hy2 => intro w hSw; (try dsimp only at hSw); go_split_ands; go_simp; try with_reducible rfl
    simp only [Act.put, List.setIfInBounds_toArray, List.set_cons_zero, List.set_cons_succ]
    refine wpAnyH_take (i := 3) (oi := ⟨_, _, _, _, _, _⟩) (v := ?v3) rfl (by kernel_rfl) (by kernel_rfl) (by kernel_rfl) (fun _ _ _ h => h) (Or.inl ⟨by kernel_rfl, ?hy3⟩) (by assumption) ?rest3
    case hy3 => intro w hSw; (try dsimp only at hSw); go_split_ands; go_simp; try with_reducible rfl
    simp only [Act.put, List.setIfInBounds_toArray, List.set_cons_zero, List.set_cons_succ]
    refine wpAnyH_take (i := 4) (oi := ⟨_, _, _, _, _, _⟩) (v := ?v4) rfl (by kernel_rfl) (by kernel_rfl) (by kernel_rfl) (fun _ _ _ h => h) (Or.inl ⟨by kernel_rfl, ?hy4⟩) (by assumption) ?rest4
    case hy4 => intro w hSw; (try dsimp only at hSw); go_split_ands; go_simp; try with_reducible rfl
    simp only [Act.put, List.setIfInBounds_toArray, List.set_cons_zero, List.set_cons_succ]
    refine wpAnyH_take (i := 5) (oi := ⟨_, _, _, _, _, _⟩) (v := ?v5) rfl (by kernel_rfl) (by kernel_rfl) (by kernel_rfl) (fun _ _ _ h => h) (Or.inl ⟨by kernel_rfl, ?hy5⟩) (by assumption) ?rest5
    case hy5 => intro w hSw; (try dsimp only at hSw); go_split_ands; go_simp; try with_reducible rfl
    simp only [Act.put, List.setIfInBounds_toArray, List.set_cons_zero, List.set_cons_succ]
    obtain ⟨J, hJd⟩ : ∃ J, J = joinBy 32 (b :: rest) := ⟨_, rfl⟩
    have HJD := Lib.hid hJd
    clear hJd
    refine wpAnyH_ready (rs := [6]) (by kernel_rfl) (by simp) ?_
    refine AllReadyH.cons rfl (fun K hK => ?_) AllReadyH.nil
    go_simp
    go_at_call 69
    obtain ⟨_, _, hBut⟩ := hHeld
    refine (Join_any (b :: rest) g 2 _ _ _ hjl (fun i t h => hBut.cell (HJR.out i t h) hgb) (by simp) (by omega) (by omega) (by have := HJ.out; omega)).mono ?_
    rintro x w7 ⟨rfl, hb7⟩
    rw [← HJD.out] at HJ HOF2 ⊢
    go_wp2_with fail
    refine hK.out _ _ ?hS6 (fun hHeld => ?_)
    case hS6 => exact keepN.out _ _ hb7 (by assumption) (by assumption)
    clear hK K hBut
    refine wpAnyH_ready (rs := [7]) (by kernel_rfl) (by simp) ?_
    refine AllReadyH.cons rfl (fun K hK => ?_) AllReadyH.nil
    go_simp
    go_at_call 16
    obtain ⟨_, _, hBut⟩ := hHeld
    have HL7 := Lib.hid (HL.out.below (But.below HB6.out hBut (by omega)))
    refine (dumpEvent_any n J _ HL7.out (by have := HJ.out; omega) HL7.out.lt).mono ?_
    rintro x w8 ⟨rfl, hb8⟩
    obtain ⟨X, hX⟩ : ∃ X, X = eventOf n J := ⟨_, rfl⟩
    rw [← hX] at HOF2 ⊢
    clear hX
    obtain ⟨E, ec⟩ := X
    simp only at HOF2 ⊢
    go_wp2_with fail
    refine hK.out _ _ ?hS7 (fun hHeld => ?_)
    case hS7 => exact keepN.out _ _ hb8 (by assumption) (by assumption)
    clear hK K hBut HL7
    refine wpAnyH_take (i := 8) (oi := ⟨_, _, _, _, _, _⟩) (v := ?v8) rfl (by kernel_rfl) (by kernel_rfl) (by kernel_rfl) (fun _ _ _ h => h) (Or.inl ⟨by kernel_rfl, ?hy8⟩) (by assumption) ?rest8
    case hy8 => intro w hSw; (try dsimp only at hSw); go_split_ands; go_simp; try with_reducible rfl
    simp only [Act.put, List.setIfInBounds_toArray, List.set_cons_zero, List.set_cons_succ]
    refine wpAnyH_take (i := 9) (oi := ⟨_, _, _, _, _, _⟩) (v := ?v9) rfl (by kernel_rfl) (by kernel_rfl) (by kernel_rfl) (fun _ _ _ h => h) (Or.inl ⟨by kernel_rfl, ?hy9⟩) (by assumption) ?rest9
    case hy9 => intro w hSw; (try dsimp only at hSw); go_split_ands; go_simp; try with_reducible rfl
    simp only [Act.put, List.setIfInBounds_toArray, List.set_cons_zero, List.set_cons_succ]
    refine wpAnyH_take (i := 10) (oi := ⟨_, _, _, _, _, _⟩) (v := ?v10) rfl (by kernel_rfl) (by kernel_rfl) (by kernel_rfl) (fun _ _ _ h => h) (Or.inl ⟨by kernel_rfl, ?hy10⟩) (by assumption) ?rest10
    case hy10 => intro w hSw; (try dsimp only at hSw); go_split_ands; go_simp; try with_reducible rfl
    simp only [Act.put, List.setIfInBounds_toArray, List.set_cons_zero, List.set_cons_succ]
    refine wpAnyH_take (i := 11) (oi := ⟨_, _, _, _, _, _⟩) (v := ?v11) rfl (by kernel_rfl) (by kernel_rfl) (by kernel_rfl) (fun _ _ _ h => h) (Or.inl ⟨by kernel_rfl, ?hy11⟩) (by assumption) ?rest11
    case hy11 => intro w hSw; (try dsimp only at hSw); go_split_ands; go_simp; try with_reducible rfl
    simp only [Act.put, List.setIfInBounds_toArray, List.set_cons_zero, List.set_cons_succ]
    have hb9 := Below.next ((Below.refl _ w6).drew) (Below.next hb7 hb8)
    have HC8 := Lib.hid (HC6.out.below hb9)
    have HZ8 := Lib.hid (HZ6.out.below hb9)
    have HN8 := Lib.hid (own_later HN6.out hb9)
    have HB8 := Lib.hid (Below.next HB6.out hb9)
    obtain ⟨d2, d3, d4, d5, d6, d7, d8, d9, d10, d11⟩ := HC8.out.evs
    have e2 := HC8.out.free 2
    have e3 := HC8.out.free 3
    have e4 := HC8.out.free 4
    have e5 := HC8.out.free 5
    have e6 := HC8.out.free 6
    have e7 := HC8.out.free 7
    have e8 := HC8.out.free 8
    have e9 := HC8.out.free 9
    have e10 := HC8.out.free 10
    have e11 := HC8.out.free 11
    refine wpAnyH_ready (rs := [12]) (by kernel_rfl) (by simp) ?_
    refine AllReadyH.cons rfl (fun K hK => ?_) AllReadyH.nil
    go_simp
    obtain ⟨hS1, hS2, hBut⟩ := hHeld
    have hW := (((((((((((But.refl be w8).set 2 (.int .i64 E.kind)).set 3 (.int .i64 E.order)).set 4 (.int .i64 E.item)).set 5 (.int .i64 E.qty)).set 6 (.int .i64 E.price)).set 7 (.int .i64 E.cur)).set 8 (.int .i64 E.tax)).set 9 (.string ⟨E.who.toArray⟩)).set 10 (.int .i64 E.stamp)).set 11 (.string ⟨E.note.toArray⟩))
    have HC9 := Lib.hid (cm_setEv HC8.out E)
    have HZ9 := Lib.hid (HZ8.out.but hW (by omega))
    have HN9 := Lib.hid (own_but' HN8.out hW (fun e => by simp [Value.ownBlock] at e; omega))
    have HB9 := Lib.hid (But.below HB8.out hW (by omega))
    refine hK.out _ _ ?hS12 (fun hHeld => ?_)
    case hS12 => exact ⟨HC9.out.cell 1, hW.cell hS2 hg2b, hBut.trans hW⟩
    clear hK K d2 d3 d4 d5 d6 d7 d8 d9 d10 d11 e2 e3 e4 e5 e6 e7 e8 e9 e10 e11 hS1 hS2 hBut hW HC8 HZ8 HN8 HB8
    refine wpAnyH_take (i := 13) (oi := ⟨_, _, _, _, _, _⟩) (v := ?v13) rfl (by kernel_rfl) (by kernel_rfl) (by kernel_rfl) (fun _ _ _ h => h) (Or.inl ⟨by kernel_rfl, ?hy13⟩) (by assumption) ?rest13
    case hy13 => intro w hSw; (try dsimp only at hSw); go_split_ands; go_simp; try with_reducible rfl
    simp only [Act.put, List.setIfInBounds_toArray, List.set_cons_zero, List.set_cons_succ]
    refine wpAnyH_done (by kernel_rfl) ?_ _
    clear hHeld
    generalize ((((((((((w8.setCell ⟨be, 2, none⟩ (.int .i64 E.kind)).setCell ⟨be, 3, none⟩ (.int .i64 E.order)).setCell ⟨be, 4, none⟩ (.int .i64 E.item)).setCell ⟨be, 5, none⟩ (.int .i64 E.qty)).setCell ⟨be, 6, none⟩ (.int .i64 E.price)).setCell ⟨be, 7, none⟩ (.int .i64 E.cur)).setCell ⟨be, 8, none⟩ (.int .i64 E.tax)).setCell ⟨be, 9, none⟩ (.string ⟨E.who.toArray⟩)).setCell ⟨be, 10, none⟩ (.int .i64 E.stamp)).setCell ⟨be, 11, none⟩ (.string ⟨E.note.toArray⟩)) = w9 at *
    by_cases hec : ec ≠ 0
    · have hfin := Lib.hid (show cmdOf s = (cmdNone, ec) by rw [HOF2.out]; exact if_pos hec)
      have kec : (ec != 0) = true := by rw [bne_iff_ne]; exact hec
      clear hec
      go_wp2_with (with_reducible refine wpList_store_cm rfl (.tmp 2) (.tmp 100) rfl w.heap.size cmdNone cmdNone (.slice none 0 0) (.slice none 0 0) (.slice none 0 0) (.slice none 0 0) rfl rfl rfl rfl HZ9.out ?_)
      exact bodyPost_ret (v := .tuple #[cmV cmdNone (.slice none 0 0) (.slice none 0 0), .int .i64 ec]) (results_cm rfl _ _ w.heap.size cmdNone (.slice none 0 0) (.slice none 0 0) _ rfl rfl (HZ9.out.row cmdNone (.slice none 0 0) (.slice none 0 0))) rfl ⟨_, _, by rw [hfin.out], by rw [hfin.out]; exact World.ownsRow_nil _ _ _ _, by rw [hfin.out]; exact World.ownsRow_nil _ _ _ _, Below.row HB9.out (Nat.le_refl _) _⟩
    · have hfin := Lib.hid (show cmdOf s = (⟨k0, [n], E, []⟩, 0) by rw [HOF2.out]; exact if_neg hec)
      have kec : (ec != 0) = false := by rw [bne_eq_false_iff_eq]; exact Classical.byContradiction hec
      clear hec
      go_wp2_with (first
        | (with_reducible refine wpList_load_cm rfl (.tmp 5) rfl be ⟨k0, [n], E, []⟩ (.slice (some ⟨g2, 0, none⟩) 1 oc) (.slice none 0 0) rfl HC9.out ?_)
        | (with_reducible refine wpList_store_cm rfl (.tmp 2) (.tmp 102) rfl w.heap.size cmdNone ⟨k0, [n], E, []⟩ (.slice none 0 0) (.slice none 0 0) (.slice (some ⟨g2, 0, none⟩) 1 oc) (.slice none 0 0) rfl rfl rfl rfl HZ9.out ?_))
      exact bodyPost_ret (v := .tuple #[cmV ⟨k0, [n], E, []⟩ (.slice (some ⟨g2, 0, none⟩) 1 oc) (.slice none 0 0), .int .i64 0]) (results_cm rfl _ _ w.heap.size ⟨k0, [n], E, []⟩ (.slice (some ⟨g2, 0, none⟩) 1 oc) (.slice none 0 0) _ rfl rfl (HZ9.out.row ⟨k0, [n], E, []⟩ (.slice (some ⟨g2, 0, none⟩) 1 oc) (.slice none 0 0))) rfl ⟨_, _, by rw [hfin.out], by rw [hfin.out]; exact own_row (own_mono HN9.out (by omega)) _ _ (fun e => by have := (HN9.out.lt _ e).1; omega), by rw [hfin.out]; exact World.ownsRow_nil _ _ _ _, Below.row HB9.out (Nat.le_refl _) _⟩

theorem cmdS_any (s : List UInt8) (w : World) (hs : s.length ≤ 1048576) (hL : LibV w) : Calls Tryz.prog 33 #[.string ⟨s.toArray⟩] w (CmPost (cmdOf s) w) := by
  obtain ⟨k0, args, hsp⟩ : ∃ k0 args, splitOn 32 s = k0 :: args := by
    cases h : splitOn 32 s with
    | nil => exact absurd h (splitOn_ne 32 s)
    | cons a b => exact ⟨a, b, rfl⟩
  by_cases h6 : shapeV k0 = 6
  · exact cmdS_6 s k0 args w hsp hs hL h6
  by_cases h4 : shapeV k0 = 4
  · match args, hsp with
    | [], hsp => exact cmdS_4x s k0 [] w hsp hs hL h4 (by simp)
    | [x], hsp => exact cmdS_4x s k0 [x] w hsp hs hL h4 (by simp)
    | a :: b :: rest, hsp => exact cmdS_4 s k0 _ w hsp hs hL a b rest rfl h4
  by_cases h5 : shapeV k0 = 5
  · match args, hsp with
    | [], hsp => exact cmdS_5x s k0 [] w hsp hs hL h5 (by simp)
    | [x], hsp => exact cmdS_5 s k0 _ w hsp hs hL x rfl h5
    | a :: b :: rest, hsp => exact cmdS_5x s k0 _ w hsp hs hL h5 (by simp)
  cases hc : countOk (shapeV k0) args.length with
  | false => exact cmdS_nx s k0 args w hsp hs hL h6 h4 h5 hc
  | true => exact cmdS_n s k0 args w hsp hs hL h6 h4 h5 hc

end Go.Proofs.YtecmpmnidlfgnaaGreatDoor
