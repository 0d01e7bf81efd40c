import Derived.Test.YtecmpmnidlfgnaaGreatDoorScriptRefCmd
namespace Go.Proofs.YtecmpmnidlfgnaaGreatDoor
open Go.RowKit

/-! ## the reference's Command: numbers -/

set_option maxRecDepth 100000 in
set_option maxHeartbeats 8000000 in
theorem cmdR_nxa (s k0 : List UInt8) (args : List (List UInt8)) (w : World) (hsp : splitOn 32 s = k0 :: args) (hs : s.length ≤ 1048576) (h6 : shapeV k0 ≠ 6) (h4 : shapeV k0 ≠ 4) (h5 : shapeV k0 ≠ 5) (hc : countOk (shapeV k0) args.length = false) (hb : (args.length : Int) < leastOf k0) :
    Calls Tryz.prog 32 #[.string ⟨s.toArray⟩] w (CmPost (cmdOf s) w) := by
  have hof : cmdOf s = cmdParts k0 args := by unfold cmdOf; rw [hsp]
  have hfin := Lib.hid (show cmdOf s = (cmdNone, 100) by rw [hof]; unfold cmdParts; rw [if_neg h6, if_neg h4, if_neg h5]; unfold cmdNums; rw [if_pos hc])
  have k6 : decide (leastOf k0 < 0) = false := by
    have h := (least_shape k0).1
    have h2 := shape_le k0
    rw [h]
    generalize shapeV k0 = n at *
    match n, h2, h6 with
    | 0, _, _ => rfl
    | 1, _, _ => rfl
    | 2, _, _ => rfl
    | 3, _, _ => rfl
    | 4, _, _ => rfl
    | 5, _, _ => rfl
    | 6, _, h => exact absurd rfl h
  have kp : (k0 == [112, 117, 116]) = false := by rw [beq_eq_false_iff_ne]; intro h; exact h5 (shape5.2 h)
  have ka : (k0 == [97, 112, 112, 101, 110, 100]) = false := by rw [beq_eq_false_iff_ne]; intro h; exact h4 (shape4.2 h)
  have kb : decide ((args.length : Int) < leastOf k0) = true := by simpa using hb
  clear hof h6 h4 h5 hc hb
  have hwl : Hid (∀ x ∈ k0 :: args, x.length ≤ 1048576) := Lib.hid fun x hx => by
    have := splitOn_part 32 s x (by rw [hsp]; exact hx)
    omega
  have hcount : args.length ≤ 1048576 := by
    have := splitOn_length 32 s
    rw [hsp] at this
    simp at this
    omega
  have hbz := (show Below (w.alloc (.cells #[.string ⟨#[]⟩, .slice none 0 0, .int .i64 0, .int .i64 0, .int .i64 0, .int .i64 0, .int .i64 0, .int .i64 0, .int .i64 0, .string ⟨#[]⟩, .int .i64 0, .string ⟨#[]⟩, .slice none 0 0] 59)).heap.size (w.alloc (.cells #[.string ⟨#[]⟩, .slice none 0 0, .int .i64 0, .int .i64 0, .int .i64 0, .int .i64 0, .int .i64 0, .int .i64 0, .int .i64 0, .string ⟨#[]⟩, .int .i64 0, .string ⟨#[]⟩, .slice none 0 0] 59)) ((w.alloc (.cells #[.string ⟨#[]⟩, .slice none 0 0, .int .i64 0, .int .i64 0, .int .i64 0, .int .i64 0, .int .i64 0, .int .i64 0, .int .i64 0, .string ⟨#[]⟩, .int .i64 0, .string ⟨#[]⟩, .slice none 0 0] 59)).alloc (.cells #[.string ⟨#[]⟩, .slice none 0 0, .int .i64 0, .int .i64 0, .int .i64 0, .int .i64 0, .int .i64 0, .int .i64 0, .int .i64 0, .string ⟨#[]⟩, .int .i64 0, .string ⟨#[]⟩, .slice none 0 0] 59)) from (Below.refl _ _).alloc (Nat.le_refl _) _)
  have HB0 := Lib.hid (Below.next (show Below w.heap.size w (w.alloc (.cells #[.string ⟨#[]⟩, .slice none 0 0, .int .i64 0, .int .i64 0, .int .i64 0, .int .i64 0, .int .i64 0, .int .i64 0, .int .i64 0, .string ⟨#[]⟩, .int .i64 0, .string ⟨#[]⟩, .slice none 0 0] 59)) from (Below.refl _ _).alloc (Nat.le_refl _) _) hbz)
  have HZ0 := Lib.hid ((show CmBlk (w.alloc (.cells #[.string ⟨#[]⟩, .slice none 0 0, .int .i64 0, .int .i64 0, .int .i64 0, .int .i64 0, .int .i64 0, .int .i64 0, .int .i64 0, .string ⟨#[]⟩, .int .i64 0, .string ⟨#[]⟩, .slice none 0 0] 59)) w.heap.size cmdNone (.slice none 0 0) (.slice none 0 0) from heap_alloc_new w _).below hbz)
  have HY0 := Lib.hid (show CmBlk ((w.alloc (.cells #[.string ⟨#[]⟩, .slice none 0 0, .int .i64 0, .int .i64 0, .int .i64 0, .int .i64 0, .int .i64 0, .int .i64 0, .int .i64 0, .string ⟨#[]⟩, .int .i64 0, .string ⟨#[]⟩, .slice none 0 0] 59)).alloc (.cells #[.string ⟨#[]⟩, .slice none 0 0, .int .i64 0, .int .i64 0, .int .i64 0, .int .i64 0, .int .i64 0, .int .i64 0, .int .i64 0, .string ⟨#[]⟩, .int .i64 0, .string ⟨#[]⟩, .slice none 0 0] 59)) (w.heap.size + 1) cmdNone (.slice none 0 0) (.slice none 0 0) from by have h := heap_alloc_new (w.alloc (.cells #[.string ⟨#[]⟩, .slice none 0 0, .int .i64 0, .int .i64 0, .int .i64 0, .int .i64 0, .int .i64 0, .int .i64 0, .int .i64 0, .string ⟨#[]⟩, .int .i64 0, .string ⟨#[]⟩, .slice none 0 0] 59)) (.cells #[.string ⟨#[]⟩, .slice none 0 0, .int .i64 0, .int .i64 0, .int .i64 0, .int .i64 0, .int .i64 0, .int .i64 0, .int .i64 0, .string ⟨#[]⟩, .int .i64 0, .string ⟨#[]⟩, .slice none 0 0] 59); rw [show (w.alloc (.cells #[.string ⟨#[]⟩, .slice none 0 0, .int .i64 0, .int .i64 0, .int .i64 0, .int .i64 0, .int .i64 0, .int .i64 0, .int .i64 0, .string ⟨#[]⟩, .int .i64 0, .string ⟨#[]⟩, .slice none 0 0] 59)).heap.size = w.heap.size + 1 by simp] at h; exact h)
  clear hbz
  go_enter Tryz.func32, Tryz.ntmps32
  go_wp2_with fail
  generalize (w.alloc (.cells #[.string ⟨#[]⟩, .slice none 0 0, .int .i64 0, .int .i64 0, .int .i64 0, .int .i64 0, .int .i64 0, .int .i64 0, .int .i64 0, .string ⟨#[]⟩, .int .i64 0, .string ⟨#[]⟩, .slice none 0 0] 59)).alloc (.cells #[.string ⟨#[]⟩, .slice none 0 0, .int .i64 0, .int .i64 0, .int .i64 0, .int .i64 0, .int .i64 0, .int .i64 0, .int .i64 0, .string ⟨#[]⟩, .int .i64 0, .string ⟨#[]⟩, .slice none 0 0] 59) = w0 at *
  refine (refSplit_any s 32 _ (by omega)).mono ?_
  rintro x w1 ⟨sv, rfl, hown, hb1⟩
  rw [hsp] at hown
  obtain ⟨g, cap, rfl, hg0, hg1, hcap, hcm, hcs⟩ := own_get hown (by simp)
  unfold maxLen at hcm
  simp only [List.length_cons] at hcap
  have HB1 := Lib.hid (Below.next HB0.out hb1)
  have HZ1 := Lib.hid (HZ0.out.below hb1)
  have HY1 := Lib.hid (HY0.out.below hb1)
  have HCS := Lib.hid (show ∀ (j : Nat) t, (k0 :: args)[j]? = some t → w1.cell? ⟨g, j, none⟩ = some (.string ⟨t.toArray⟩) from fun j t h => hcs j _ (strs_get h))
  have c0 : w1.cell? ⟨g, 0, none⟩ = some (.string ⟨k0.toArray⟩) := HCS.out 0 k0 rfl
  have hylt := HY0.out.lt
  have hgw : w.heap.size + 1 < g := by omega
  clear hown hcs hb1 HB0 HZ0 HY0 hsp hg0 hylt
  go_wp2_with fail
  refine (least_any k0 _).mono ?_
  rintro x w2 ⟨rfl, hb2⟩
  have HB2 := Lib.hid (Below.next HB1.out hb2)
  have HZ2 := Lib.hid (HZ1.out.below hb2)
  have HY2 := Lib.hid (HY1.out.below hb2)
  have HA2 := Lib.hid (show ∀ (j : Nat) t, (k0 :: args)[j]? = some t → w2.cell? ⟨g, j, none⟩ = some (.string ⟨t.toArray⟩) from fun j t h => cell_later hb2 (HCS.out j t h))
  have hs2 := hb2.size
  clear hb2 HB1 HZ1 HY1 HCS c0
  have hbA : Below w2.heap.size w2 (w2.alloc (.cells #[.string ⟨k0.toArray⟩, .slice none 0 0, .int .i64 0, .int .i64 0, .int .i64 0, .int .i64 0, .int .i64 0, .int .i64 0, .int .i64 0, .string ⟨#[]⟩, .int .i64 0, .string ⟨#[]⟩, .slice none 0 0] 59)) := (Below.refl _ _).alloc (Nat.le_refl _) _
  have HB3 := Lib.hid (Below.next HB2.out hbA)
  have HZ3 := Lib.hid (HZ2.out.below hbA)
  have HY3 := Lib.hid (HY2.out.below hbA)
  have HC3 := Lib.hid (show CmBlk (w2.alloc (.cells #[.string ⟨k0.toArray⟩, .slice none 0 0, .int .i64 0, .int .i64 0, .int .i64 0, .int .i64 0, .int .i64 0, .int .i64 0, .int .i64 0, .string ⟨#[]⟩, .int .i64 0, .string ⟨#[]⟩, .slice none 0 0] 59)) w2.heap.size ⟨k0, [], evNone, []⟩ (.slice none 0 0) (.slice none 0 0) from heap_alloc_new w2 _)
  have HA3 := Lib.hid (show ∀ (j : Nat) t, (k0 :: args)[j]? = some t → (w2.alloc (.cells #[.string ⟨k0.toArray⟩, .slice none 0 0, .int .i64 0, .int .i64 0, .int .i64 0, .int .i64 0, .int .i64 0, .int .i64 0, .int .i64 0, .string ⟨#[]⟩, .int .i64 0, .string ⟨#[]⟩, .slice none 0 0] 59)).cell? ⟨g, j, none⟩ = some (.string ⟨t.toArray⟩) from fun j t h => cell_later hbA (HA2.out j t h))
  have hylt := HY2.out.lt
  clear hbA HB2 HZ2 HY2 HA2
  · go_wp2_with (first
      | (go_at_call 41; (with_reducible refine (least_any _ _).mono ?_); rintro x w4 ⟨rfl, hb4⟩; have HB4 := Lib.hid (Below.next HB3.out hb4); have HZ4 := Lib.hid (HZ3.out.below hb4); have HY4 := Lib.hid (HY3.out.below hb4); have HC4 := Lib.hid (HC3.out.below hb4); have HA4 := Lib.hid (show ∀ (j : Nat) t, (k0 :: args)[j]? = some t → w4.cell? ⟨g, j, none⟩ = some (.string ⟨t.toArray⟩) from fun j t h => cell_later hb4 (HA3.out j t h)))
      | (with_reducible refine wpList_load_cm rfl (.tmp 4) rfl (w.heap.size + 1) cmdNone (.slice none 0 0) (.slice none 0 0) rfl HY4.out ?_)
      | (with_reducible refine wpList_store_cm rfl (.tmp 2) (.tmp 72) rfl w.heap.size cmdNone cmdNone (.slice none 0 0) (.slice none 0 0) (.slice none 0 0) (.slice none 0 0) rfl rfl rfl rfl HZ4.out ?_))
    exact bodyPost_ret (v := .tuple #[cmV cmdNone (.slice none 0 0) (.slice none 0 0), .int .i64 100]) (results_cm rfl _ _ w.heap.size cmdNone (.slice none 0 0) (.slice none 0 0) _ rfl rfl (HZ4.out.row cmdNone (.slice none 0 0) (.slice none 0 0))) rfl ⟨_, _, by rw [hfin.out], by rw [hfin.out]; exact World.ownsRow_nil _ _ _ _, by rw [hfin.out]; exact World.ownsRow_nil _ _ _ _, Below.row HB4.out (Nat.le_refl _) _⟩

set_option maxRecDepth 100000 in
set_option maxHeartbeats 8000000 in
theorem cmdR_nxb (s k0 : List UInt8) (args : List (List UInt8)) (w : World) (hsp : splitOn 32 s = k0 :: args) (hs : s.length ≤ 1048576) (h6 : shapeV k0 ≠ 6) (h4 : shapeV k0 ≠ 4) (h5 : shapeV k0 ≠ 5) (hc : countOk (shapeV k0) args.length = false) (hb : ¬ (args.length : Int) < leastOf k0) (hm : mostOf k0 < (args.length : Int)) :
    Calls Tryz.prog 32 #[.string ⟨s.toArray⟩] w (CmPost (cmdOf s) w) := by
  have hof : cmdOf s = cmdParts k0 args := by unfold cmdOf; rw [hsp]
  have hfin := Lib.hid (show cmdOf s = (cmdNone, 100) by rw [hof]; unfold cmdParts; rw [if_neg h6, if_neg h4, if_neg h5]; unfold cmdNums; rw [if_pos hc])
  have k6 : decide (leastOf k0 < 0) = false := by
    have h := (least_shape k0).1
    have h2 := shape_le k0
    rw [h]
    generalize shapeV k0 = n at *
    match n, h2, h6 with
    | 0, _, _ => rfl
    | 1, _, _ => rfl
    | 2, _, _ => rfl
    | 3, _, _ => rfl
    | 4, _, _ => rfl
    | 5, _, _ => rfl
    | 6, _, h => exact absurd rfl h
  have kp : (k0 == [112, 117, 116]) = false := by rw [beq_eq_false_iff_ne]; intro h; exact h5 (shape5.2 h)
  have ka : (k0 == [97, 112, 112, 101, 110, 100]) = false := by rw [beq_eq_false_iff_ne]; intro h; exact h4 (shape4.2 h)
  have kb : decide ((args.length : Int) < leastOf k0) = false := by simpa using hb
  have km : decide (mostOf k0 < (args.length : Int)) = true := by simpa using hm
  clear hof h6 h4 h5 hc hb hm
  have hwl : Hid (∀ x ∈ k0 :: args, x.length ≤ 1048576) := Lib.hid fun x hx => by
    have := splitOn_part 32 s x (by rw [hsp]; exact hx)
    omega
  have hcount : args.length ≤ 1048576 := by
    have := splitOn_length 32 s
    rw [hsp] at this
    simp at this
    omega
  have hbz := (show Below (w.alloc (.cells #[.string ⟨#[]⟩, .slice none 0 0, .int .i64 0, .int .i64 0, .int .i64 0, .int .i64 0, .int .i64 0, .int .i64 0, .int .i64 0, .string ⟨#[]⟩, .int .i64 0, .string ⟨#[]⟩, .slice none 0 0] 59)).heap.size (w.alloc (.cells #[.string ⟨#[]⟩, .slice none 0 0, .int .i64 0, .int .i64 0, .int .i64 0, .int .i64 0, .int .i64 0, .int .i64 0, .int .i64 0, .string ⟨#[]⟩, .int .i64 0, .string ⟨#[]⟩, .slice none 0 0] 59)) ((w.alloc (.cells #[.string ⟨#[]⟩, .slice none 0 0, .int .i64 0, .int .i64 0, .int .i64 0, .int .i64 0, .int .i64 0, .int .i64 0, .int .i64 0, .string ⟨#[]⟩, .int .i64 0, .string ⟨#[]⟩, .slice none 0 0] 59)).alloc (.cells #[.string ⟨#[]⟩, .slice none 0 0, .int .i64 0, .int .i64 0, .int .i64 0, .int .i64 0, .int .i64 0, .int .i64 0, .int .i64 0, .string ⟨#[]⟩, .int .i64 0, .string ⟨#[]⟩, .slice none 0 0] 59)) from (Below.refl _ _).alloc (Nat.le_refl _) _)
  have HB0 := Lib.hid (Below.next (show Below w.heap.size w (w.alloc (.cells #[.string ⟨#[]⟩, .slice none 0 0, .int .i64 0, .int .i64 0, .int .i64 0, .int .i64 0, .int .i64 0, .int .i64 0, .int .i64 0, .string ⟨#[]⟩, .int .i64 0, .string ⟨#[]⟩, .slice none 0 0] 59)) from (Below.refl _ _).alloc (Nat.le_refl _) _) hbz)
  have HZ0 := Lib.hid ((show CmBlk (w.alloc (.cells #[.string ⟨#[]⟩, .slice none 0 0, .int .i64 0, .int .i64 0, .int .i64 0, .int .i64 0, .int .i64 0, .int .i64 0, .int .i64 0, .string ⟨#[]⟩, .int .i64 0, .string ⟨#[]⟩, .slice none 0 0] 59)) w.heap.size cmdNone (.slice none 0 0) (.slice none 0 0) from heap_alloc_new w _).below hbz)
  have HY0 := Lib.hid (show CmBlk ((w.alloc (.cells #[.string ⟨#[]⟩, .slice none 0 0, .int .i64 0, .int .i64 0, .int .i64 0, .int .i64 0, .int .i64 0, .int .i64 0, .int .i64 0, .string ⟨#[]⟩, .int .i64 0, .string ⟨#[]⟩, .slice none 0 0] 59)).alloc (.cells #[.string ⟨#[]⟩, .slice none 0 0, .int .i64 0, .int .i64 0, .int .i64 0, .int .i64 0, .int .i64 0, .int .i64 0, .int .i64 0, .string ⟨#[]⟩, .int .i64 0, .string ⟨#[]⟩, .slice none 0 0] 59)) (w.heap.size + 1) cmdNone (.slice none 0 0) (.slice none 0 0) from by have h := heap_alloc_new (w.alloc (.cells #[.string ⟨#[]⟩, .slice none 0 0, .int .i64 0, .int .i64 0, .int .i64 0, .int .i64 0, .int .i64 0, .int .i64 0, .int .i64 0, .string ⟨#[]⟩, .int .i64 0, .string ⟨#[]⟩, .slice none 0 0] 59)) (.cells #[.string ⟨#[]⟩, .slice none 0 0, .int .i64 0, .int .i64 0, .int .i64 0, .int .i64 0, .int .i64 0, .int .i64 0, .int .i64 0, .string ⟨#[]⟩, .int .i64 0, .string ⟨#[]⟩, .slice none 0 0] 59); rw [show (w.alloc (.cells #[.string ⟨#[]⟩, .slice none 0 0, .int .i64 0, .int .i64 0, .int .i64 0, .int .i64 0, .int .i64 0, .int .i64 0, .int .i64 0, .string ⟨#[]⟩, .int .i64 0, .string ⟨#[]⟩, .slice none 0 0] 59)).heap.size = w.heap.size + 1 by simp] at h; exact h)
  clear hbz
  go_enter Tryz.func32, Tryz.ntmps32
  go_wp2_with fail
  generalize (w.alloc (.cells #[.string ⟨#[]⟩, .slice none 0 0, .int .i64 0, .int .i64 0, .int .i64 0, .int .i64 0, .int .i64 0, .int .i64 0, .int .i64 0, .string ⟨#[]⟩, .int .i64 0, .string ⟨#[]⟩, .slice none 0 0] 59)).alloc (.cells #[.string ⟨#[]⟩, .slice none 0 0, .int .i64 0, .int .i64 0, .int .i64 0, .int .i64 0, .int .i64 0, .int .i64 0, .int .i64 0, .string ⟨#[]⟩, .int .i64 0, .string ⟨#[]⟩, .slice none 0 0] 59) = w0 at *
  refine (refSplit_any s 32 _ (by omega)).mono ?_
  rintro x w1 ⟨sv, rfl, hown, hb1⟩
  rw [hsp] at hown
  obtain ⟨g, cap, rfl, hg0, hg1, hcap, hcm, hcs⟩ := own_get hown (by simp)
  unfold maxLen at hcm
  simp only [List.length_cons] at hcap
  have HB1 := Lib.hid (Below.next HB0.out hb1)
  have HZ1 := Lib.hid (HZ0.out.below hb1)
  have HY1 := Lib.hid (HY0.out.below hb1)
  have HCS := Lib.hid (show ∀ (j : Nat) t, (k0 :: args)[j]? = some t → w1.cell? ⟨g, j, none⟩ = some (.string ⟨t.toArray⟩) from fun j t h => hcs j _ (strs_get h))
  have c0 : w1.cell? ⟨g, 0, none⟩ = some (.string ⟨k0.toArray⟩) := HCS.out 0 k0 rfl
  have hylt := HY0.out.lt
  have hgw : w.heap.size + 1 < g := by omega
  clear hown hcs hb1 HB0 HZ0 HY0 hsp hg0 hylt
  go_wp2_with fail
  refine (least_any k0 _).mono ?_
  rintro x w2 ⟨rfl, hb2⟩
  have HB2 := Lib.hid (Below.next HB1.out hb2)
  have HZ2 := Lib.hid (HZ1.out.below hb2)
  have HY2 := Lib.hid (HY1.out.below hb2)
  have HA2 := Lib.hid (show ∀ (j : Nat) t, (k0 :: args)[j]? = some t → w2.cell? ⟨g, j, none⟩ = some (.string ⟨t.toArray⟩) from fun j t h => cell_later hb2 (HCS.out j t h))
  have hs2 := hb2.size
  clear hb2 HB1 HZ1 HY1 HCS c0
  have hbA : Below w2.heap.size w2 (w2.alloc (.cells #[.string ⟨k0.toArray⟩, .slice none 0 0, .int .i64 0, .int .i64 0, .int .i64 0, .int .i64 0, .int .i64 0, .int .i64 0, .int .i64 0, .string ⟨#[]⟩, .int .i64 0, .string ⟨#[]⟩, .slice none 0 0] 59)) := (Below.refl _ _).alloc (Nat.le_refl _) _
  have HB3 := Lib.hid (Below.next HB2.out hbA)
  have HZ3 := Lib.hid (HZ2.out.below hbA)
  have HY3 := Lib.hid (HY2.out.below hbA)
  have HC3 := Lib.hid (show CmBlk (w2.alloc (.cells #[.string ⟨k0.toArray⟩, .slice none 0 0, .int .i64 0, .int .i64 0, .int .i64 0, .int .i64 0, .int .i64 0, .int .i64 0, .int .i64 0, .string ⟨#[]⟩, .int .i64 0, .string ⟨#[]⟩, .slice none 0 0] 59)) w2.heap.size ⟨k0, [], evNone, []⟩ (.slice none 0 0) (.slice none 0 0) from heap_alloc_new w2 _)
  have HA3 := Lib.hid (show ∀ (j : Nat) t, (k0 :: args)[j]? = some t → (w2.alloc (.cells #[.string ⟨k0.toArray⟩, .slice none 0 0, .int .i64 0, .int .i64 0, .int .i64 0, .int .i64 0, .int .i64 0, .int .i64 0, .int .i64 0, .string ⟨#[]⟩, .int .i64 0, .string ⟨#[]⟩, .slice none 0 0] 59)).cell? ⟨g, j, none⟩ = some (.string ⟨t.toArray⟩) from fun j t h => cell_later hbA (HA2.out j t h))
  have hylt := HY2.out.lt
  clear hbA HB2 HZ2 HY2 HA2
  · go_wp2_with (first
      | (go_at_call 41; (with_reducible refine (least_any _ _).mono ?_); rintro x w4 ⟨rfl, hb4⟩; have HB4 := Lib.hid (Below.next HB3.out hb4); have HZ4 := Lib.hid (HZ3.out.below hb4); have HY4 := Lib.hid (HY3.out.below hb4); have HC4 := Lib.hid (HC3.out.below hb4); have HA4 := Lib.hid (show ∀ (j : Nat) t, (k0 :: args)[j]? = some t → w4.cell? ⟨g, j, none⟩ = some (.string ⟨t.toArray⟩) from fun j t h => cell_later hb4 (HA3.out j t h))) | (go_at_call 65; (with_reducible refine (most_any _ _).mono ?_); rintro x w5 ⟨rfl, hb5⟩; have HB5 := Lib.hid (Below.next HB4.out hb5); have HZ5 := Lib.hid (HZ4.out.below hb5); have HY5 := Lib.hid (HY4.out.below hb5); have HC5 := Lib.hid (HC4.out.below hb5); have HA5 := Lib.hid (show ∀ (j : Nat) t, (k0 :: args)[j]? = some t → w5.cell? ⟨g, j, none⟩ = some (.string ⟨t.toArray⟩) from fun j t h => cell_later hb5 (HA4.out j t h)))
      | (with_reducible refine wpList_load_cm rfl (.tmp 4) rfl (w.heap.size + 1) cmdNone (.slice none 0 0) (.slice none 0 0) rfl HY5.out ?_)
      | (with_reducible refine wpList_store_cm rfl (.tmp 2) (.tmp 72) rfl w.heap.size cmdNone cmdNone (.slice none 0 0) (.slice none 0 0) (.slice none 0 0) (.slice none 0 0) rfl rfl rfl rfl HZ5.out ?_))
    exact bodyPost_ret (v := .tuple #[cmV cmdNone (.slice none 0 0) (.slice none 0 0), .int .i64 100]) (results_cm rfl _ _ w.heap.size cmdNone (.slice none 0 0) (.slice none 0 0) _ rfl rfl (HZ5.out.row cmdNone (.slice none 0 0) (.slice none 0 0))) rfl ⟨_, _, by rw [hfin.out], by rw [hfin.out]; exact World.ownsRow_nil _ _ _ _, by rw [hfin.out]; exact World.ownsRow_nil _ _ _ _, Below.row HB5.out (Nat.le_refl _) _⟩

set_option maxRecDepth 100000 in
set_option maxHeartbeats 8000000 in
theorem cmdR_n (s k0 : List UInt8) (args : List (List UInt8)) (w : World) (hsp : splitOn 32 s = k0 :: args) (hs : s.length ≤ 1048576) (h6 : shapeV k0 ≠ 6) (h4 : shapeV k0 ≠ 4) (h5 : shapeV k0 ≠ 5) (hc : countOk (shapeV k0) args.length = true) :
    Calls Tryz.prog 32 #[.string ⟨s.toArray⟩] w (CmPost (cmdOf s) w) := by
  have hof : cmdOf s = cmdParts k0 args := by unfold cmdOf; rw [hsp]
  have hof2 : cmdOf s = match numsOf args with | none => (cmdNone, 101) | some ns => (⟨k0, ns, evNone, []⟩, 0) := by
    rw [hof]; unfold cmdParts; rw [if_neg h6, if_neg h4, if_neg h5]; unfold cmdNums; rw [if_neg (by rw [hc]; decide)]; rfl
  have HOF := Lib.hid hof2
  have HTL := Lib.hid (show (joinBy 32 (k0 :: args)).length ≤ 1048576 by rw [← hsp, join_split]; exact hs)
  obtain ⟨i0, hi, hz0, hz1, hz2⟩ := info_parts infoInt
  have hcnt : ¬ (shapeV k0 = 6 ∨ countOk (shapeV k0) args.length = false) := by rintro (h | h); exact h6 h; rw [hc] at h; exact absurd h (by decide)
  rw [count_iff] at hcnt
  have kb : decide ((args.length : Int) < leastOf k0) = false := by simpa using fun h => hcnt (.inr (.inl h))
  have km : decide (mostOf k0 < (args.length : Int)) = false := by simpa using fun h => hcnt (.inr (.inr h))
  have k6 : decide (leastOf k0 < 0) = false := by
    have h := (least_shape k0).1
    have h2 := shape_le k0
    rw [h]
    generalize shapeV k0 = n at *
    match n, h2, h6 with
    | 0, _, _ => rfl
    | 1, _, _ => rfl
    | 2, _, _ => rfl
    | 3, _, _ => rfl
    | 4, _, _ => rfl
    | 5, _, _ => rfl
    | 6, _, h => exact absurd rfl h
  have kp : (k0 == [112, 117, 116]) = false := by rw [beq_eq_false_iff_ne]; intro h; exact h5 (shape5.2 h)
  have ka : (k0 == [97, 112, 112, 101, 110, 100]) = false := by rw [beq_eq_false_iff_ne]; intro h; exact h4 (shape4.2 h)
  clear hof hof2 h6 h4 h5 hc hcnt
  have hwl : Hid (∀ x ∈ k0 :: args, x.length ≤ 1048576) := Lib.hid fun x hx => by
    have := splitOn_part 32 s x (by rw [hsp]; exact hx)
    omega
  have hcount : args.length ≤ 1048576 := by
    have := splitOn_length 32 s
    rw [hsp] at this
    simp at this
    omega
  have hbz := (show Below (w.alloc (.cells #[.string ⟨#[]⟩, .slice none 0 0, .int .i64 0, .int .i64 0, .int .i64 0, .int .i64 0, .int .i64 0, .int .i64 0, .int .i64 0, .string ⟨#[]⟩, .int .i64 0, .string ⟨#[]⟩, .slice none 0 0] 59)).heap.size (w.alloc (.cells #[.string ⟨#[]⟩, .slice none 0 0, .int .i64 0, .int .i64 0, .int .i64 0, .int .i64 0, .int .i64 0, .int .i64 0, .int .i64 0, .string ⟨#[]⟩, .int .i64 0, .string ⟨#[]⟩, .slice none 0 0] 59)) ((w.alloc (.cells #[.string ⟨#[]⟩, .slice none 0 0, .int .i64 0, .int .i64 0, .int .i64 0, .int .i64 0, .int .i64 0, .int .i64 0, .int .i64 0, .string ⟨#[]⟩, .int .i64 0, .string ⟨#[]⟩, .slice none 0 0] 59)).alloc (.cells #[.string ⟨#[]⟩, .slice none 0 0, .int .i64 0, .int .i64 0, .int .i64 0, .int .i64 0, .int .i64 0, .int .i64 0, .int .i64 0, .string ⟨#[]⟩, .int .i64 0, .string ⟨#[]⟩, .slice none 0 0] 59)) from (Below.refl _ _).alloc (Nat.le_refl _) _)
  have HB0 := Lib.hid (Below.next (show Below w.heap.size w (w.alloc (.cells #[.string ⟨#[]⟩, .slice none 0 0, .int .i64 0, .int .i64 0, .int .i64 0, .int .i64 0, .int .i64 0, .int .i64 0, .int .i64 0, .string ⟨#[]⟩, .int .i64 0, .string ⟨#[]⟩, .slice none 0 0] 59)) from (Below.refl _ _).alloc (Nat.le_refl _) _) hbz)
  have HZ0 := Lib.hid ((show CmBlk (w.alloc (.cells #[.string ⟨#[]⟩, .slice none 0 0, .int .i64 0, .int .i64 0, .int .i64 0, .int .i64 0, .int .i64 0, .int .i64 0, .int .i64 0, .string ⟨#[]⟩, .int .i64 0, .string ⟨#[]⟩, .slice none 0 0] 59)) w.heap.size cmdNone (.slice none 0 0) (.slice none 0 0) from heap_alloc_new w _).below hbz)
  have HY0 := Lib.hid (show CmBlk ((w.alloc (.cells #[.string ⟨#[]⟩, .slice none 0 0, .int .i64 0, .int .i64 0, .int .i64 0, .int .i64 0, .int .i64 0, .int .i64 0, .int .i64 0, .string ⟨#[]⟩, .int .i64 0, .string ⟨#[]⟩, .slice none 0 0] 59)).alloc (.cells #[.string ⟨#[]⟩, .slice none 0 0, .int .i64 0, .int .i64 0, .int .i64 0, .int .i64 0, .int .i64 0, .int .i64 0, .int .i64 0, .string ⟨#[]⟩, .int .i64 0, .string ⟨#[]⟩, .slice none 0 0] 59)) (w.heap.size + 1) cmdNone (.slice none 0 0) (.slice none 0 0) from by have h := heap_alloc_new (w.alloc (.cells #[.string ⟨#[]⟩, .slice none 0 0, .int .i64 0, .int .i64 0, .int .i64 0, .int .i64 0, .int .i64 0, .int .i64 0, .int .i64 0, .string ⟨#[]⟩, .int .i64 0, .string ⟨#[]⟩, .slice none 0 0] 59)) (.cells #[.string ⟨#[]⟩, .slice none 0 0, .int .i64 0, .int .i64 0, .int .i64 0, .int .i64 0, .int .i64 0, .int .i64 0, .int .i64 0, .string ⟨#[]⟩, .int .i64 0, .string ⟨#[]⟩, .slice none 0 0] 59); rw [show (w.alloc (.cells #[.string ⟨#[]⟩, .slice none 0 0, .int .i64 0, .int .i64 0, .int .i64 0, .int .i64 0, .int .i64 0, .int .i64 0, .int .i64 0, .string ⟨#[]⟩, .int .i64 0, .string ⟨#[]⟩, .slice none 0 0] 59)).heap.size = w.heap.size + 1 by simp] at h; exact h)
  clear hbz
  go_enter Tryz.func32, Tryz.ntmps32
  go_wp2_with fail
  generalize (w.alloc (.cells #[.string ⟨#[]⟩, .slice none 0 0, .int .i64 0, .int .i64 0, .int .i64 0, .int .i64 0, .int .i64 0, .int .i64 0, .int .i64 0, .string ⟨#[]⟩, .int .i64 0, .string ⟨#[]⟩, .slice none 0 0] 59)).alloc (.cells #[.string ⟨#[]⟩, .slice none 0 0, .int .i64 0, .int .i64 0, .int .i64 0, .int .i64 0, .int .i64 0, .int .i64 0, .int .i64 0, .string ⟨#[]⟩, .int .i64 0, .string ⟨#[]⟩, .slice none 0 0] 59) = w0 at *
  refine (refSplit_any s 32 _ (by omega)).mono ?_
  rintro x w1 ⟨sv, rfl, hown, hb1⟩
  rw [hsp] at hown
  obtain ⟨g, cap, rfl, hg0, hg1, hcap, hcm, hcs⟩ := own_get hown (by simp)
  unfold maxLen at hcm
  simp only [List.length_cons] at hcap
  have HB1 := Lib.hid (Below.next HB0.out hb1)
  have HZ1 := Lib.hid (HZ0.out.below hb1)
  have HY1 := Lib.hid (HY0.out.below hb1)
  have HCS := Lib.hid (show ∀ (j : Nat) t, (k0 :: args)[j]? = some t → w1.cell? ⟨g, j, none⟩ = some (.string ⟨t.toArray⟩) from fun j t h => hcs j _ (strs_get h))
  have c0 : w1.cell? ⟨g, 0, none⟩ = some (.string ⟨k0.toArray⟩) := HCS.out 0 k0 rfl
  have hylt := HY0.out.lt
  have hgw : w.heap.size + 1 < g := by omega
  clear hown hcs hb1 HB0 HZ0 HY0 hsp hg0 hylt
  go_wp2_with fail
  refine (least_any k0 _).mono ?_
  rintro x w2 ⟨rfl, hb2⟩
  have HB2 := Lib.hid (Below.next HB1.out hb2)
  have HZ2 := Lib.hid (HZ1.out.below hb2)
  have HY2 := Lib.hid (HY1.out.below hb2)
  have HA2 := Lib.hid (show ∀ (j : Nat) t, (k0 :: args)[j]? = some t → w2.cell? ⟨g, j, none⟩ = some (.string ⟨t.toArray⟩) from fun j t h => cell_later hb2 (HCS.out j t h))
  have hs2 := hb2.size
  clear hb2 HB1 HZ1 HY1 HCS c0
  have hbA : Below w2.heap.size w2 (w2.alloc (.cells #[.string ⟨k0.toArray⟩, .slice none 0 0, .int .i64 0, .int .i64 0, .int .i64 0, .int .i64 0, .int .i64 0, .int .i64 0, .int .i64 0, .string ⟨#[]⟩, .int .i64 0, .string ⟨#[]⟩, .slice none 0 0] 59)) := (Below.refl _ _).alloc (Nat.le_refl _) _
  have HB3 := Lib.hid (Below.next HB2.out hbA)
  have HZ3 := Lib.hid (HZ2.out.below hbA)
  have HY3 := Lib.hid (HY2.out.below hbA)
  have HC3 := Lib.hid (show CmBlk (w2.alloc (.cells #[.string ⟨k0.toArray⟩, .slice none 0 0, .int .i64 0, .int .i64 0, .int .i64 0, .int .i64 0, .int .i64 0, .int .i64 0, .int .i64 0, .string ⟨#[]⟩, .int .i64 0, .string ⟨#[]⟩, .slice none 0 0] 59)) w2.heap.size ⟨k0, [], evNone, []⟩ (.slice none 0 0) (.slice none 0 0) from heap_alloc_new w2 _)
  have HA3 := Lib.hid (show ∀ (j : Nat) t, (k0 :: args)[j]? = some t → (w2.alloc (.cells #[.string ⟨k0.toArray⟩, .slice none 0 0, .int .i64 0, .int .i64 0, .int .i64 0, .int .i64 0, .int .i64 0, .int .i64 0, .int .i64 0, .string ⟨#[]⟩, .int .i64 0, .string ⟨#[]⟩, .slice none 0 0] 59)).cell? ⟨g, j, none⟩ = some (.string ⟨t.toArray⟩) from fun j t h => cell_later hbA (HA2.out j t h))
  have hylt := HY2.out.lt
  clear hbA HB2 HZ2 HY2 HA2
  go_wp2_with (first
    | (go_at_call 41; (with_reducible refine (least_any _ _).mono ?_); rintro x w4 ⟨rfl, hb4⟩; have HB4 := Lib.hid (Below.next HB3.out hb4); have HZ4 := Lib.hid (HZ3.out.below hb4); have HY4 := Lib.hid (HY3.out.below hb4); have HC4 := Lib.hid (HC3.out.below hb4); have HA4 := Lib.hid (show ∀ (j : Nat) t, (k0 :: args)[j]? = some t → w4.cell? ⟨g, j, none⟩ = some (.string ⟨t.toArray⟩) from fun j t h => cell_later hb4 (HA3.out j t h)))
    | (go_at_call 65; (with_reducible refine (most_any _ _).mono ?_); rintro x w5 ⟨rfl, hb5⟩; have HB5 := Lib.hid (Below.next HB4.out hb5); have HZ5 := Lib.hid (HZ4.out.below hb5); have HY5 := Lib.hid (HY4.out.below hb5); have HC5 := Lib.hid (HC4.out.below hb5); have HA5 := Lib.hid (show ∀ (j : Nat) t, (k0 :: args)[j]? = some t → w5.cell? ⟨g, j, none⟩ = some (.string ⟨t.toArray⟩) from fun j t h => cell_later hb5 (HA4.out j t h))))
  generalize hbe : w2.heap.size = be at *
  generalize w2.alloc (.cells #[.string ⟨k0.toArray⟩, .slice none 0 0, .int .i64 0, .int .i64 0, .int .i64 0, .int .i64 0, .int .i64 0, .int .i64 0, .int .i64 0, .string ⟨#[]⟩, .int .i64 0, .string ⟨#[]⟩, .slice none 0 0] 59) = w3 at *
  have hwb : w.heap.size + 1 < be := by omega
  have hgb : g ≠ be := by omega
  have HBB := HB5
  have HZB := HZ5
  have HYB := HY5
  have HCB := HC5
  have HAB := HA5
  have hbl := HC5.out.lt
  clear hbe hylt hs2 hg1 HB3 HZ3 HY3 HC3 HA3 HB4 HZ4 HY4 HC4 HA4 HB5 HZ5 HY5 HC5 HA5 hb4 hb5
  generalize w5 = wB at *
  go_loopw [12, 13] (fun av iv wr => ∃ (k : Nat) (acc : List Int) (oa : Option Addr) (oc : Nat), k ≤ args.length ∧ acc.length = k ∧ iv = .int .i64 (k + 1 : Nat) ∧ av = .int .i64 ((joinBy 32 (k0 :: args.take k)).length : Nat) ∧ CmBlk wr be ⟨k0, acc, evNone, []⟩ (.slice oa acc.length oc) (.slice none 0 0) ∧ wr.ownsRow wB.heap.size 3 1 (.slice oa acc.length oc) acc.length (intCells acc) ∧ But be wB wr ∧ Hid (numsOf args = addN acc (numsOf (args.drop k)))) (fun _ iv _ => args.length + 1 - (intOf iv).toNat)
  case atStart => exact ⟨0, [], none, 0, Nat.zero_le _, rfl, rfl, by simp [joinBy], HCB.out, World.ownsRow_nil _ _ _ _, But.refl _ _, Lib.hid (by rw [List.drop_zero]; exact addN_nil _)⟩
  case round =>
    obtain ⟨k, acc, oa, oc, hk, hacc, rfl, rfl, hC, hO, hB, HT⟩ := hrel
    have HC := Lib.hid hC
    have HO := Lib.hid hO
    have HB := Lib.hid hB
    have hszB := hB.size
    have HACC := Lib.hid hacc
    have hal : acc.length ≤ k := by omega
    clear hC hO hB hacc
    by_cases hlt : k < args.length
    · obtain ⟨x, hx, htk, hmem⟩ := nth args k (by exact hlt)
      have hx1 : (k0 :: args)[k + 1]? = some x := by simpa using hx
      have c0 : wr.cell? ⟨g, k + 1, none⟩ = some (.string ⟨x.toArray⟩) := HB.out.cell (HAB.out (k + 1) x hx1) hgb
      have hxl := hwl.out x (List.mem_of_getElem? hx1)
      have HAT := Lib.hid (tot_len k0 x args k htk)
      have hat := tot_le k0 args (k + 1)
      have htl := HTL.out
      rw [HAT.out] at hat
      obtain ⟨A, hA⟩ : ∃ A, A = (joinBy 32 (k0 :: args.take k)).length := ⟨_, rfl⟩
      rw [← hA] at hat HAT ⊢
      have q0 : ((k + 1 : Nat) : Int) ≤ (args.length : Int) := by omega
      have q1 : ((k + 1 : Nat) : Int) < ((args.length + 1 : Nat) : Int) := by omega
      have HD := Lib.hid (drop_cons hx)
      have hargs := hcount
      have HX1 := Lib.hid hx1
      clear hx htk hmem hx1 hA
      go_wp2_with fail
      refine (refNumber_any x _ (by omega)).mono ?_
      rintro y w6 ⟨rfl, rfl⟩
      cases hnum : numberOf x with
      | none =>
        have hfin := Lib.hid (show cmdOf s = (cmdNone, 101) by rw [HOF.out, show numsOf args = none by rw [HT.out, HD.out]; exact addN_bad hnum])
        rw [show numOk x = false by simp [numOk, hnum], show numVal x = 0 by simp [numVal, hnum]]
        have HZr := Lib.hid (HZB.out.but HB.out (by omega))
        have HYr := Lib.hid (HYB.out.but HB.out (by omega))
        have HBr := Lib.hid (But.below HBB.out HB.out (by omega))
        clear hnum
        go_wp2_with (first
          | (with_reducible refine wpList_load_cm rfl (.tmp 4) rfl (w.heap.size + 1) cmdNone (.slice none 0 0) (.slice none 0 0) rfl HYr.out ?_)
          | (with_reducible refine wpList_store_cm rfl (.tmp 2) (.tmp 90) rfl w.heap.size cmdNone cmdNone (.slice none 0 0) (.slice none 0 0) (.slice none 0 0) (.slice none 0 0) rfl rfl rfl rfl HZr.out ?_))
        exact bodyPost_ret (v := .tuple #[cmV cmdNone (.slice none 0 0) (.slice none 0 0), .int .i64 101]) (results_cm rfl _ _ w.heap.size cmdNone (.slice none 0 0) (.slice none 0 0) _ rfl rfl (HZr.out.row cmdNone (.slice none 0 0) (.slice none 0 0))) rfl ⟨_, _, by rw [hfin.out], by rw [hfin.out]; exact World.ownsRow_nil _ _ _ _, by rw [hfin.out]; exact World.ownsRow_nil _ _ _ _, Below.row HBr.out (Nat.le_refl _) _⟩
      | some n =>
        have HN := Lib.hid (show numsOf args = addN (acc ++ [n]) (numsOf (args.drop (k + 1))) by rw [HT.out, HD.out]; exact addN_good hnum)
        rw [show numOk x = true by simp [numOk, hnum], show numVal x = n by simp [numVal, hnum]]
        clear hnum
        have HLT := Lib.hid HO.out.lt
        have d1 : wr.cell? ⟨be, 1, none⟩ = some (.slice oa acc.length oc) := HC.out.cell 1
        go_wp2_with (at_builtin; refine wpList_append_own _ rfl _ _ 56 rfl wB.heap.size 3 i0 (.int .i64 0) 1 8 Tryz.underlying56 hi hz0 hz1 hz2 rfl (by decide) _ _ _ rfl (HO.out.alloc _) ⟨wr.heap.size, 0, none⟩ 1 1 [.int .i64 n] rfl rfl ?c1 ?c2 ?c3 ?c4 ?c5 ?_)
        case c1 =>
          intro j u hj
          match j, hj with
          | 0, hj => simp at hj; subst hj; simp [Addr.add]
        case c2 => intro u hu; simp at hu; subst hu; rfl
        case c3 => unfold maxLen; omega
        case c4 => omega
        case c5 => simp; omega
        intro v' w7 hown' hgrow _
        have hrow : ∀ k, (Value.slice oa acc.length oc).ownBlock = some k → wB.heap.size ≤ k := fun k e => (HLT.out k e).1
        have HB7 := Lib.hid ((HB.out.trans (But.of ((Below.refl _ _).alloc (Nat.le_refl _) _))).grown hgrow hrow)
        have HC7 := Lib.hid ((HC.out.below ((Below.refl _ _).alloc (Nat.le_refl _) _)).grown hgrow (fun e => by have := hrow _ e; have := HCB.out.lt; omega))
        obtain ⟨oa', oc', rfl, _, _⟩ := own_shape hown'
        have HO7 := Lib.hid (show w7.ownsRow wB.heap.size 3 1 (.slice oa' (acc.length + 1) oc') (acc.length + 1) (intCells (acc ++ [n])) by have h := hown'; rw [intCells_snoc] at h; exact h)
        have d7 : w7.cell? ⟨be, 1, none⟩ = some (.slice oa acc.length oc) := HC7.out.cell 1
        have e7 : w7.frozen? ⟨be, 1, none⟩ = false := HC7.out.free 1
        have HB8 := Lib.hid (HB7.out.set 1 (.slice oa' (acc.length + 1) oc'))
        have HC8 := Lib.hid (show CmBlk (w7.setCell ⟨be, 1, none⟩ (.slice oa' (acc.length + 1) oc')) be ⟨k0, acc ++ [n], evNone, []⟩ (.slice oa' (acc.length + 1) oc') (.slice none 0 0) from HC7.out.put 1 _ rfl)
        have HO8 := Lib.hid (own_but' HO7.out (But.set (But.refl be w7) 1 (.slice oa' (acc.length + 1) oc')) (fun e => by have := (HO7.out.lt _ e).1; have := HCB.out.lt; omega))
        have c8 : (w7.setCell ⟨be, 1, none⟩ (.slice oa' (acc.length + 1) oc')).cell? ⟨g, k + 1, none⟩ = some (.string ⟨x.toArray⟩) := HB8.out.cell (HAB.out (k + 1) x HX1.out) hgb
        clear hown' hgrow hrow d1 c0 HB7 HC7 HO7
        go_wp2
        go_roundw
        case rel => exact ⟨k + 1, acc ++ [n], oa', oc', by omega, by have := HACC.out; simp; omega, by go_num, by rw [HAT.out]; go_num, by rw [show (acc ++ [n]).length = acc.length + 1 by simp]; exact HC8.out, by rw [show (acc ++ [n]).length = acc.length + 1 by simp]; exact HO8.out, HB8.out, HN⟩
        case measure => simp [intOf]; omega
    · obtain rfl : k = args.length := by omega
      have hns : numsOf args = some acc := by rw [HT.out, List.drop_length]; exact addN_end
      have hfin := Lib.hid (show cmdOf s = (⟨k0, acc, evNone, []⟩, 0) by rw [HOF.out, hns])
      have HZr := Lib.hid (HZB.out.but HB.out (by omega))
      have HBr := Lib.hid (But.below HBB.out HB.out (by omega))
      clear hns
      go_wp2_with (first
        | (with_reducible refine wpList_load_cm rfl (.tmp 8) rfl be ⟨k0, acc, evNone, []⟩ (.slice oa acc.length oc) (.slice none 0 0) rfl HC.out ?_)
        | (with_reducible refine wpList_store_cm rfl (.tmp 2) (.tmp 125) rfl w.heap.size cmdNone ⟨k0, acc, evNone, []⟩ (.slice none 0 0) (.slice none 0 0) (.slice oa acc.length oc) (.slice none 0 0) rfl rfl rfl rfl HZr.out ?_))
      exact bodyPost_ret (v := .tuple #[cmV ⟨k0, acc, evNone, []⟩ (.slice oa acc.length oc) (.slice none 0 0), .int .i64 0]) (results_cm rfl _ _ w.heap.size ⟨k0, acc, evNone, []⟩ (.slice oa acc.length oc) (.slice none 0 0) _ rfl rfl (HZr.out.row ⟨k0, acc, evNone, []⟩ (.slice oa acc.length oc) (.slice none 0 0))) rfl ⟨_, _, by rw [hfin.out], by rw [hfin.out]; exact own_row (own_mono HO.out (by omega)) _ _ (fun e => by have := (HO.out.lt _ e).1; omega), by rw [hfin.out]; exact World.ownsRow_nil _ _ _ _, Below.row HBr.out (Nat.le_refl _) _⟩

end Go.Proofs.YtecmpmnidlfgnaaGreatDoor
