import Derived.Test.YtecmpmnidlfgnaaGreatDoorScriptCommand2
import Derived.Test.YtecmpmnidlfgnaaGreatDoorRefEvent
namespace Go.Proofs.YtecmpmnidlfgnaaGreatDoor
open Go.RowKit

/-! ## the reference's Command -/

theorem But.grown {b : Nat} {a w w' : World} {row : Option Nat} (h : But b a w) (hg : w.grownBy w' row) (ho : ∀ k, row = some k → a.heap.size ≤ k) : But b a w' :=
  ⟨hg.os.trans h.os, hg.tape.trans h.tape, hg.output.trans h.output, Nat.le_trans h.size hg.size, fun i hi hn => (hg.block i (by have := h.size; omega) (fun e => by have := ho i e.symm; omega)).trans (h.block i hi hn)⟩
theorem CmBlk.grown {w w' : World} {b : Nat} {c : Cmd} {nv rv : Value} {row : Option Nat} (h : CmBlk w b c nv rv) (hg : w.grownBy w' row) (hr : row ≠ some b) : CmBlk w' b c nv rv := by
  unfold CmBlk
  rw [hg.block b h.lt (fun e => hr e.symm)]
  exact h

theorem tot_len (k0 x : List UInt8) (ws : List (List UInt8)) (k : Nat) (h : ws.take (k + 1) = ws.take k ++ [x]) : (joinBy 32 (k0 :: ws.take (k + 1))).length = (joinBy 32 (k0 :: ws.take k)).length + (1 + x.length) := by
  rw [h, joinBy_blanked, joinBy_blanked, blanked_append]
  simp [blanked]
  omega
theorem tot_le (k0 : List UInt8) (ws : List (List UInt8)) (k : Nat) : (joinBy 32 (k0 :: ws.take k)).length ≤ (joinBy 32 (k0 :: ws)).length := by
  rw [joinBy_blanked, joinBy_blanked]
  have h : blanked ws = blanked (ws.take k) ++ blanked (ws.drop k) := by rw [← blanked_append, List.take_append_drop]
  rw [h]
  simp

set_option maxRecDepth 100000 in
set_option maxHeartbeats 8000000 in
theorem cmdR_6 (s k0 : List UInt8) (args : List (List UInt8)) (w : World) (hsp : splitOn 32 s = k0 :: args) (hs : s.length ≤ 1048576) (h6 : leastOf k0 < 0) :
    Calls Tryz.prog 32 #[.string ⟨s.toArray⟩] w (CmPost (cmdOf s) w) := by
  have hof : cmdOf s = cmdParts k0 args := by unfold cmdOf; rw [hsp]
  have hfin := Lib.hid (show cmdOf s = (cmdNone, 100) by
    rw [hof]; unfold cmdParts; rw [if_pos]
    have h := (least_shape k0).1
    have h2 := shape_le k0
    rw [h] at h6
    generalize shapeV k0 = n at *
    match n, h2 with
    | 0, _ => simp at h6
    | 1, _ => simp at h6
    | 2, _ => simp at h6
    | 3, _ => simp at h6
    | 4, _ => simp at h6
    | 5, _ => simp at h6
    | 6, _ => rfl)
  have k6 : decide (leastOf k0 < 0) = true := by simpa using h6
  clear hof h6
  have hwl : Hid (∀ x ∈ k0 :: args, x.length ≤ 1048576) := Lib.hid fun x hx => by
    have := splitOn_part 32 s x (by rw [hsp]; exact hx)
    omega
  have hcount : args.length ≤ 1048576 := by
    have := splitOn_length 32 s
    rw [hsp] at this
    simp at this
    omega
  have hbz := (show Below (w.alloc (.cells #[.string ⟨#[]⟩, .slice none 0 0, .int .i64 0, .int .i64 0, .int .i64 0, .int .i64 0, .int .i64 0, .int .i64 0, .int .i64 0, .string ⟨#[]⟩, .int .i64 0, .string ⟨#[]⟩, .slice none 0 0] 59)).heap.size (w.alloc (.cells #[.string ⟨#[]⟩, .slice none 0 0, .int .i64 0, .int .i64 0, .int .i64 0, .int .i64 0, .int .i64 0, .int .i64 0, .int .i64 0, .string ⟨#[]⟩, .int .i64 0, .string ⟨#[]⟩, .slice none 0 0] 59)) ((w.alloc (.cells #[.string ⟨#[]⟩, .slice none 0 0, .int .i64 0, .int .i64 0, .int .i64 0, .int .i64 0, .int .i64 0, .int .i64 0, .int .i64 0, .string ⟨#[]⟩, .int .i64 0, .string ⟨#[]⟩, .slice none 0 0] 59)).alloc (.cells #[.string ⟨#[]⟩, .slice none 0 0, .int .i64 0, .int .i64 0, .int .i64 0, .int .i64 0, .int .i64 0, .int .i64 0, .int .i64 0, .string ⟨#[]⟩, .int .i64 0, .string ⟨#[]⟩, .slice none 0 0] 59)) from (Below.refl _ _).alloc (Nat.le_refl _) _)
  have HB0 := Lib.hid (Below.next (show Below w.heap.size w (w.alloc (.cells #[.string ⟨#[]⟩, .slice none 0 0, .int .i64 0, .int .i64 0, .int .i64 0, .int .i64 0, .int .i64 0, .int .i64 0, .int .i64 0, .string ⟨#[]⟩, .int .i64 0, .string ⟨#[]⟩, .slice none 0 0] 59)) from (Below.refl _ _).alloc (Nat.le_refl _) _) hbz)
  have HZ0 := Lib.hid ((show CmBlk (w.alloc (.cells #[.string ⟨#[]⟩, .slice none 0 0, .int .i64 0, .int .i64 0, .int .i64 0, .int .i64 0, .int .i64 0, .int .i64 0, .int .i64 0, .string ⟨#[]⟩, .int .i64 0, .string ⟨#[]⟩, .slice none 0 0] 59)) w.heap.size cmdNone (.slice none 0 0) (.slice none 0 0) from heap_alloc_new w _).below hbz)
  have HY0 := Lib.hid (show CmBlk ((w.alloc (.cells #[.string ⟨#[]⟩, .slice none 0 0, .int .i64 0, .int .i64 0, .int .i64 0, .int .i64 0, .int .i64 0, .int .i64 0, .int .i64 0, .string ⟨#[]⟩, .int .i64 0, .string ⟨#[]⟩, .slice none 0 0] 59)).alloc (.cells #[.string ⟨#[]⟩, .slice none 0 0, .int .i64 0, .int .i64 0, .int .i64 0, .int .i64 0, .int .i64 0, .int .i64 0, .int .i64 0, .string ⟨#[]⟩, .int .i64 0, .string ⟨#[]⟩, .slice none 0 0] 59)) (w.heap.size + 1) cmdNone (.slice none 0 0) (.slice none 0 0) from by have h := heap_alloc_new (w.alloc (.cells #[.string ⟨#[]⟩, .slice none 0 0, .int .i64 0, .int .i64 0, .int .i64 0, .int .i64 0, .int .i64 0, .int .i64 0, .int .i64 0, .string ⟨#[]⟩, .int .i64 0, .string ⟨#[]⟩, .slice none 0 0] 59)) (.cells #[.string ⟨#[]⟩, .slice none 0 0, .int .i64 0, .int .i64 0, .int .i64 0, .int .i64 0, .int .i64 0, .int .i64 0, .int .i64 0, .string ⟨#[]⟩, .int .i64 0, .string ⟨#[]⟩, .slice none 0 0] 59); rw [show (w.alloc (.cells #[.string ⟨#[]⟩, .slice none 0 0, .int .i64 0, .int .i64 0, .int .i64 0, .int .i64 0, .int .i64 0, .int .i64 0, .int .i64 0, .string ⟨#[]⟩, .int .i64 0, .string ⟨#[]⟩, .slice none 0 0] 59)).heap.size = w.heap.size + 1 by simp] at h; exact h)
  clear hbz
  go_enter Tryz.func32, Tryz.ntmps32
  go_wp2_with fail
  generalize (w.alloc (.cells #[.string ⟨#[]⟩, .slice none 0 0, .int .i64 0, .int .i64 0, .int .i64 0, .int .i64 0, .int .i64 0, .int .i64 0, .int .i64 0, .string ⟨#[]⟩, .int .i64 0, .string ⟨#[]⟩, .slice none 0 0] 59)).alloc (.cells #[.string ⟨#[]⟩, .slice none 0 0, .int .i64 0, .int .i64 0, .int .i64 0, .int .i64 0, .int .i64 0, .int .i64 0, .int .i64 0, .string ⟨#[]⟩, .int .i64 0, .string ⟨#[]⟩, .slice none 0 0] 59) = w0 at *
  refine (refSplit_any s 32 _ (by omega)).mono ?_
  rintro x w1 ⟨sv, rfl, hown, hb1⟩
  rw [hsp] at hown
  obtain ⟨g, cap, rfl, hg0, hg1, hcap, hcm, hcs⟩ := own_get hown (by simp)
  unfold maxLen at hcm
  simp only [List.length_cons] at hcap
  have HB1 := Lib.hid (Below.next HB0.out hb1)
  have HZ1 := Lib.hid (HZ0.out.below hb1)
  have HY1 := Lib.hid (HY0.out.below hb1)
  have HCS := Lib.hid (show ∀ (j : Nat) t, (k0 :: args)[j]? = some t → w1.cell? ⟨g, j, none⟩ = some (.string ⟨t.toArray⟩) from fun j t h => hcs j _ (strs_get h))
  have c0 : w1.cell? ⟨g, 0, none⟩ = some (.string ⟨k0.toArray⟩) := HCS.out 0 k0 rfl
  have hylt := HY0.out.lt
  have hgw : w.heap.size + 1 < g := by omega
  clear hown hcs hb1 HB0 HZ0 HY0 hsp hg0 hylt
  go_wp2_with fail
  refine (least_any k0 _).mono ?_
  rintro x w2 ⟨rfl, hb2⟩
  have HB2 := Lib.hid (Below.next HB1.out hb2)
  have HZ2 := Lib.hid (HZ1.out.below hb2)
  have HY2 := Lib.hid (HY1.out.below hb2)
  have HA2 := Lib.hid (show ∀ (j : Nat) t, (k0 :: args)[j]? = some t → w2.cell? ⟨g, j, none⟩ = some (.string ⟨t.toArray⟩) from fun j t h => cell_later hb2 (HCS.out j t h))
  have hs2 := hb2.size
  clear hb2 HB1 HZ1 HY1 HCS c0
  · go_wp2_with (first
      | (with_reducible refine wpList_load_cm rfl (.tmp 4) rfl (w.heap.size + 1) cmdNone (.slice none 0 0) (.slice none 0 0) rfl HY2.out ?_)
      | (with_reducible refine wpList_store_cm rfl (.tmp 2) (.tmp 30) rfl w.heap.size cmdNone cmdNone (.slice none 0 0) (.slice none 0 0) (.slice none 0 0) (.slice none 0 0) rfl rfl rfl rfl HZ2.out ?_))
    exact bodyPost_ret (v := .tuple #[cmV cmdNone (.slice none 0 0) (.slice none 0 0), .int .i64 100]) (results_cm rfl _ _ w.heap.size cmdNone (.slice none 0 0) (.slice none 0 0) _ rfl rfl (HZ2.out.row cmdNone (.slice none 0 0) (.slice none 0 0))) rfl ⟨_, _, by rw [hfin.out], by rw [hfin.out]; exact World.ownsRow_nil _ _ _ _, by rw [hfin.out]; exact World.ownsRow_nil _ _ _ _, Below.row HB2.out (Nat.le_refl _) _⟩

set_option maxRecDepth 100000 in
set_option maxHeartbeats 8000000 in
theorem cmdR_5x (s k0 : List UInt8) (args : List (List UInt8)) (w : World) (hsp : splitOn 32 s = k0 :: args) (hs : s.length ≤ 1048576) (h5 : shapeV k0 = 5) (hl : args.length ≠ 1) :
    Calls Tryz.prog 32 #[.string ⟨s.toArray⟩] w (CmPost (cmdOf s) w) := by
  have hof : cmdOf s = cmdParts k0 args := by unfold cmdOf; rw [hsp]
  have hfin := Lib.hid (show cmdOf s = (cmdNone, 100) by rw [hof]; unfold cmdParts; rw [if_neg (by omega), if_neg (by omega), if_pos h5]; unfold cmdPut; match args, hl with | [], _ => rfl | [_], h => exact absurd rfl h | _ :: _ :: _, _ => rfl)
  have k6 : decide (leastOf k0 < 0) = false := by
    have h := (least_shape k0).1
    rw [h5] at h
    rw [h]
    decide
  have kp : (k0 == [112, 117, 116]) = true := by rw [beq_iff_eq]; exact shape5.1 h5
  have kl : ((args.length : Int) != 1) = true := by rw [bne_iff_ne]; omega
  clear hof h5 hl
  have hwl : Hid (∀ x ∈ k0 :: args, x.length ≤ 1048576) := Lib.hid fun x hx => by
    have := splitOn_part 32 s x (by rw [hsp]; exact hx)
    omega
  have hcount : args.length ≤ 1048576 := by
    have := splitOn_length 32 s
    rw [hsp] at this
    simp at this
    omega
  have hbz := (show Below (w.alloc (.cells #[.string ⟨#[]⟩, .slice none 0 0, .int .i64 0, .int .i64 0, .int .i64 0, .int .i64 0, .int .i64 0, .int .i64 0, .int .i64 0, .string ⟨#[]⟩, .int .i64 0, .string ⟨#[]⟩, .slice none 0 0] 59)).heap.size (w.alloc (.cells #[.string ⟨#[]⟩, .slice none 0 0, .int .i64 0, .int .i64 0, .int .i64 0, .int .i64 0, .int .i64 0, .int .i64 0, .int .i64 0, .string ⟨#[]⟩, .int .i64 0, .string ⟨#[]⟩, .slice none 0 0] 59)) ((w.alloc (.cells #[.string ⟨#[]⟩, .slice none 0 0, .int .i64 0, .int .i64 0, .int .i64 0, .int .i64 0, .int .i64 0, .int .i64 0, .int .i64 0, .string ⟨#[]⟩, .int .i64 0, .string ⟨#[]⟩, .slice none 0 0] 59)).alloc (.cells #[.string ⟨#[]⟩, .slice none 0 0, .int .i64 0, .int .i64 0, .int .i64 0, .int .i64 0, .int .i64 0, .int .i64 0, .int .i64 0, .string ⟨#[]⟩, .int .i64 0, .string ⟨#[]⟩, .slice none 0 0] 59)) from (Below.refl _ _).alloc (Nat.le_refl _) _)
  have HB0 := Lib.hid (Below.next (show Below w.heap.size w (w.alloc (.cells #[.string ⟨#[]⟩, .slice none 0 0, .int .i64 0, .int .i64 0, .int .i64 0, .int .i64 0, .int .i64 0, .int .i64 0, .int .i64 0, .string ⟨#[]⟩, .int .i64 0, .string ⟨#[]⟩, .slice none 0 0] 59)) from (Below.refl _ _).alloc (Nat.le_refl _) _) hbz)
  have HZ0 := Lib.hid ((show CmBlk (w.alloc (.cells #[.string ⟨#[]⟩, .slice none 0 0, .int .i64 0, .int .i64 0, .int .i64 0, .int .i64 0, .int .i64 0, .int .i64 0, .int .i64 0, .string ⟨#[]⟩, .int .i64 0, .string ⟨#[]⟩, .slice none 0 0] 59)) w.heap.size cmdNone (.slice none 0 0) (.slice none 0 0) from heap_alloc_new w _).below hbz)
  have HY0 := Lib.hid (show CmBlk ((w.alloc (.cells #[.string ⟨#[]⟩, .slice none 0 0, .int .i64 0, .int .i64 0, .int .i64 0, .int .i64 0, .int .i64 0, .int .i64 0, .int .i64 0, .string ⟨#[]⟩, .int .i64 0, .string ⟨#[]⟩, .slice none 0 0] 59)).alloc (.cells #[.string ⟨#[]⟩, .slice none 0 0, .int .i64 0, .int .i64 0, .int .i64 0, .int .i64 0, .int .i64 0, .int .i64 0, .int .i64 0, .string ⟨#[]⟩, .int .i64 0, .string ⟨#[]⟩, .slice none 0 0] 59)) (w.heap.size + 1) cmdNone (.slice none 0 0) (.slice none 0 0) from by have h := heap_alloc_new (w.alloc (.cells #[.string ⟨#[]⟩, .slice none 0 0, .int .i64 0, .int .i64 0, .int .i64 0, .int .i64 0, .int .i64 0, .int .i64 0, .int .i64 0, .string ⟨#[]⟩, .int .i64 0, .string ⟨#[]⟩, .slice none 0 0] 59)) (.cells #[.string ⟨#[]⟩, .slice none 0 0, .int .i64 0, .int .i64 0, .int .i64 0, .int .i64 0, .int .i64 0, .int .i64 0, .int .i64 0, .string ⟨#[]⟩, .int .i64 0, .string ⟨#[]⟩, .slice none 0 0] 59); rw [show (w.alloc (.cells #[.string ⟨#[]⟩, .slice none 0 0, .int .i64 0, .int .i64 0, .int .i64 0, .int .i64 0, .int .i64 0, .int .i64 0, .int .i64 0, .string ⟨#[]⟩, .int .i64 0, .string ⟨#[]⟩, .slice none 0 0] 59)).heap.size = w.heap.size + 1 by simp] at h; exact h)
  clear hbz
  go_enter Tryz.func32, Tryz.ntmps32
  go_wp2_with fail
  generalize (w.alloc (.cells #[.string ⟨#[]⟩, .slice none 0 0, .int .i64 0, .int .i64 0, .int .i64 0, .int .i64 0, .int .i64 0, .int .i64 0, .int .i64 0, .string ⟨#[]⟩, .int .i64 0, .string ⟨#[]⟩, .slice none 0 0] 59)).alloc (.cells #[.string ⟨#[]⟩, .slice none 0 0, .int .i64 0, .int .i64 0, .int .i64 0, .int .i64 0, .int .i64 0, .int .i64 0, .int .i64 0, .string ⟨#[]⟩, .int .i64 0, .string ⟨#[]⟩, .slice none 0 0] 59) = w0 at *
  refine (refSplit_any s 32 _ (by omega)).mono ?_
  rintro x w1 ⟨sv, rfl, hown, hb1⟩
  rw [hsp] at hown
  obtain ⟨g, cap, rfl, hg0, hg1, hcap, hcm, hcs⟩ := own_get hown (by simp)
  unfold maxLen at hcm
  simp only [List.length_cons] at hcap
  have HB1 := Lib.hid (Below.next HB0.out hb1)
  have HZ1 := Lib.hid (HZ0.out.below hb1)
  have HY1 := Lib.hid (HY0.out.below hb1)
  have HCS := Lib.hid (show ∀ (j : Nat) t, (k0 :: args)[j]? = some t → w1.cell? ⟨g, j, none⟩ = some (.string ⟨t.toArray⟩) from fun j t h => hcs j _ (strs_get h))
  have c0 : w1.cell? ⟨g, 0, none⟩ = some (.string ⟨k0.toArray⟩) := HCS.out 0 k0 rfl
  have hylt := HY0.out.lt
  have hgw : w.heap.size + 1 < g := by omega
  clear hown hcs hb1 HB0 HZ0 HY0 hsp hg0 hylt
  go_wp2_with fail
  refine (least_any k0 _).mono ?_
  rintro x w2 ⟨rfl, hb2⟩
  have HB2 := Lib.hid (Below.next HB1.out hb2)
  have HZ2 := Lib.hid (HZ1.out.below hb2)
  have HY2 := Lib.hid (HY1.out.below hb2)
  have HA2 := Lib.hid (show ∀ (j : Nat) t, (k0 :: args)[j]? = some t → w2.cell? ⟨g, j, none⟩ = some (.string ⟨t.toArray⟩) from fun j t h => cell_later hb2 (HCS.out j t h))
  have hs2 := hb2.size
  clear hb2 HB1 HZ1 HY1 HCS c0
  have hbA : Below w2.heap.size w2 (w2.alloc (.cells #[.string ⟨k0.toArray⟩, .slice none 0 0, .int .i64 0, .int .i64 0, .int .i64 0, .int .i64 0, .int .i64 0, .int .i64 0, .int .i64 0, .string ⟨#[]⟩, .int .i64 0, .string ⟨#[]⟩, .slice none 0 0] 59)) := (Below.refl _ _).alloc (Nat.le_refl _) _
  have HB3 := Lib.hid (Below.next HB2.out hbA)
  have HZ3 := Lib.hid (HZ2.out.below hbA)
  have HY3 := Lib.hid (HY2.out.below hbA)
  have HC3 := Lib.hid (show CmBlk (w2.alloc (.cells #[.string ⟨k0.toArray⟩, .slice none 0 0, .int .i64 0, .int .i64 0, .int .i64 0, .int .i64 0, .int .i64 0, .int .i64 0, .int .i64 0, .string ⟨#[]⟩, .int .i64 0, .string ⟨#[]⟩, .slice none 0 0] 59)) w2.heap.size ⟨k0, [], evNone, []⟩ (.slice none 0 0) (.slice none 0 0) from heap_alloc_new w2 _)
  have HA3 := Lib.hid (show ∀ (j : Nat) t, (k0 :: args)[j]? = some t → (w2.alloc (.cells #[.string ⟨k0.toArray⟩, .slice none 0 0, .int .i64 0, .int .i64 0, .int .i64 0, .int .i64 0, .int .i64 0, .int .i64 0, .int .i64 0, .string ⟨#[]⟩, .int .i64 0, .string ⟨#[]⟩, .slice none 0 0] 59)).cell? ⟨g, j, none⟩ = some (.string ⟨t.toArray⟩) from fun j t h => cell_later hbA (HA2.out j t h))
  have hylt := HY2.out.lt
  clear hbA HB2 HZ2 HY2 HA2
  · go_wp2_with (first
      | (with_reducible refine wpList_load_cm rfl (.tmp 4) rfl (w.heap.size + 1) cmdNone (.slice none 0 0) (.slice none 0 0) rfl HY3.out ?_)
      | (with_reducible refine wpList_store_cm rfl (.tmp 2) (.tmp 37) rfl w.heap.size cmdNone cmdNone (.slice none 0 0) (.slice none 0 0) (.slice none 0 0) (.slice none 0 0) rfl rfl rfl rfl HZ3.out ?_))
    exact bodyPost_ret (v := .tuple #[cmV cmdNone (.slice none 0 0) (.slice none 0 0), .int .i64 100]) (results_cm rfl _ _ w.heap.size cmdNone (.slice none 0 0) (.slice none 0 0) _ rfl rfl (HZ3.out.row cmdNone (.slice none 0 0) (.slice none 0 0))) rfl ⟨_, _, by rw [hfin.out], by rw [hfin.out]; exact World.ownsRow_nil _ _ _ _, by rw [hfin.out]; exact World.ownsRow_nil _ _ _ _, Below.row HB3.out (Nat.le_refl _) _⟩

set_option maxRecDepth 100000 in
set_option maxHeartbeats 8000000 in
theorem cmdR_4x (s k0 : List UInt8) (args : List (List UInt8)) (w : World) (hsp : splitOn 32 s = k0 :: args) (hs : s.length ≤ 1048576) (h4 : shapeV k0 = 4) (hl : ¬ 2 ≤ args.length) :
    Calls Tryz.prog 32 #[.string ⟨s.toArray⟩] w (CmPost (cmdOf s) w) := by
  have hof : cmdOf s = cmdParts k0 args := by unfold cmdOf; rw [hsp]
  have h5 : shapeV k0 ≠ 5 := by omega
  have hfin := Lib.hid (show cmdOf s = (cmdNone, 100) by rw [hof]; unfold cmdParts; rw [if_neg (by omega), if_pos h4]; unfold cmdApp; match args, hl with | [], _ => rfl | [_], _ => rfl | _ :: _ :: _, h => exact absurd (by simp) h)
  have k6 : decide (leastOf k0 < 0) = false := by
    have h := (least_shape k0).1
    rw [h4] at h
    rw [h]
    decide
  have kp : (k0 == [112, 117, 116]) = false := by rw [beq_eq_false_iff_ne]; intro h; exact h5 (shape5.2 h)
  have ka : (k0 == [97, 112, 112, 101, 110, 100]) = true := by rw [beq_iff_eq]; exact shape4.1 h4
  have kl : args.length < 2 := by omega
  clear hof h5 h4 hl
  have hwl : Hid (∀ x ∈ k0 :: args, x.length ≤ 1048576) := Lib.hid fun x hx => by
    have := splitOn_part 32 s x (by rw [hsp]; exact hx)
    omega
  have hcount : args.length ≤ 1048576 := by
    have := splitOn_length 32 s
    rw [hsp] at this
    simp at this
    omega
  have hbz := (show Below (w.alloc (.cells #[.string ⟨#[]⟩, .slice none 0 0, .int .i64 0, .int .i64 0, .int .i64 0, .int .i64 0, .int .i64 0, .int .i64 0, .int .i64 0, .string ⟨#[]⟩, .int .i64 0, .string ⟨#[]⟩, .slice none 0 0] 59)).heap.size (w.alloc (.cells #[.string ⟨#[]⟩, .slice none 0 0, .int .i64 0, .int .i64 0, .int .i64 0, .int .i64 0, .int .i64 0, .int .i64 0, .int .i64 0, .string ⟨#[]⟩, .int .i64 0, .string ⟨#[]⟩, .slice none 0 0] 59)) ((w.alloc (.cells #[.string ⟨#[]⟩, .slice none 0 0, .int .i64 0, .int .i64 0, .int .i64 0, .int .i64 0, .int .i64 0, .int .i64 0, .int .i64 0, .string ⟨#[]⟩, .int .i64 0, .string ⟨#[]⟩, .slice none 0 0] 59)).alloc (.cells #[.string ⟨#[]⟩, .slice none 0 0, .int .i64 0, .int .i64 0, .int .i64 0, .int .i64 0, .int .i64 0, .int .i64 0, .int .i64 0, .string ⟨#[]⟩, .int .i64 0, .string ⟨#[]⟩, .slice none 0 0] 59)) from (Below.refl _ _).alloc (Nat.le_refl _) _)
  have HB0 := Lib.hid (Below.next (show Below w.heap.size w (w.alloc (.cells #[.string ⟨#[]⟩, .slice none 0 0, .int .i64 0, .int .i64 0, .int .i64 0, .int .i64 0, .int .i64 0, .int .i64 0, .int .i64 0, .string ⟨#[]⟩, .int .i64 0, .string ⟨#[]⟩, .slice none 0 0] 59)) from (Below.refl _ _).alloc (Nat.le_refl _) _) hbz)
  have HZ0 := Lib.hid ((show CmBlk (w.alloc (.cells #[.string ⟨#[]⟩, .slice none 0 0, .int .i64 0, .int .i64 0, .int .i64 0, .int .i64 0, .int .i64 0, .int .i64 0, .int .i64 0, .string ⟨#[]⟩, .int .i64 0, .string ⟨#[]⟩, .slice none 0 0] 59)) w.heap.size cmdNone (.slice none 0 0) (.slice none 0 0) from heap_alloc_new w _).below hbz)
  have HY0 := Lib.hid (show CmBlk ((w.alloc (.cells #[.string ⟨#[]⟩, .slice none 0 0, .int .i64 0, .int .i64 0, .int .i64 0, .int .i64 0, .int .i64 0, .int .i64 0, .int .i64 0, .string ⟨#[]⟩, .int .i64 0, .string ⟨#[]⟩, .slice none 0 0] 59)).alloc (.cells #[.string ⟨#[]⟩, .slice none 0 0, .int .i64 0, .int .i64 0, .int .i64 0, .int .i64 0, .int .i64 0, .int .i64 0, .int .i64 0, .string ⟨#[]⟩, .int .i64 0, .string ⟨#[]⟩, .slice none 0 0] 59)) (w.heap.size + 1) cmdNone (.slice none 0 0) (.slice none 0 0) from by have h := heap_alloc_new (w.alloc (.cells #[.string ⟨#[]⟩, .slice none 0 0, .int .i64 0, .int .i64 0, .int .i64 0, .int .i64 0, .int .i64 0, .int .i64 0, .int .i64 0, .string ⟨#[]⟩, .int .i64 0, .string ⟨#[]⟩, .slice none 0 0] 59)) (.cells #[.string ⟨#[]⟩, .slice none 0 0, .int .i64 0, .int .i64 0, .int .i64 0, .int .i64 0, .int .i64 0, .int .i64 0, .int .i64 0, .string ⟨#[]⟩, .int .i64 0, .string ⟨#[]⟩, .slice none 0 0] 59); rw [show (w.alloc (.cells #[.string ⟨#[]⟩, .slice none 0 0, .int .i64 0, .int .i64 0, .int .i64 0, .int .i64 0, .int .i64 0, .int .i64 0, .int .i64 0, .string ⟨#[]⟩, .int .i64 0, .string ⟨#[]⟩, .slice none 0 0] 59)).heap.size = w.heap.size + 1 by simp] at h; exact h)
  clear hbz
  go_enter Tryz.func32, Tryz.ntmps32
  go_wp2_with fail
  generalize (w.alloc (.cells #[.string ⟨#[]⟩, .slice none 0 0, .int .i64 0, .int .i64 0, .int .i64 0, .int .i64 0, .int .i64 0, .int .i64 0, .int .i64 0, .string ⟨#[]⟩, .int .i64 0, .string ⟨#[]⟩, .slice none 0 0] 59)).alloc (.cells #[.string ⟨#[]⟩, .slice none 0 0, .int .i64 0, .int .i64 0, .int .i64 0, .int .i64 0, .int .i64 0, .int .i64 0, .int .i64 0, .string ⟨#[]⟩, .int .i64 0, .string ⟨#[]⟩, .slice none 0 0] 59) = w0 at *
  refine (refSplit_any s 32 _ (by omega)).mono ?_
  rintro x w1 ⟨sv, rfl, hown, hb1⟩
  rw [hsp] at hown
  obtain ⟨g, cap, rfl, hg0, hg1, hcap, hcm, hcs⟩ := own_get hown (by simp)
  unfold maxLen at hcm
  simp only [List.length_cons] at hcap
  have HB1 := Lib.hid (Below.next HB0.out hb1)
  have HZ1 := Lib.hid (HZ0.out.below hb1)
  have HY1 := Lib.hid (HY0.out.below hb1)
  have HCS := Lib.hid (show ∀ (j : Nat) t, (k0 :: args)[j]? = some t → w1.cell? ⟨g, j, none⟩ = some (.string ⟨t.toArray⟩) from fun j t h => hcs j _ (strs_get h))
  have c0 : w1.cell? ⟨g, 0, none⟩ = some (.string ⟨k0.toArray⟩) := HCS.out 0 k0 rfl
  have hylt := HY0.out.lt
  have hgw : w.heap.size + 1 < g := by omega
  clear hown hcs hb1 HB0 HZ0 HY0 hsp hg0 hylt
  go_wp2_with fail
  refine (least_any k0 _).mono ?_
  rintro x w2 ⟨rfl, hb2⟩
  have HB2 := Lib.hid (Below.next HB1.out hb2)
  have HZ2 := Lib.hid (HZ1.out.below hb2)
  have HY2 := Lib.hid (HY1.out.below hb2)
  have HA2 := Lib.hid (show ∀ (j : Nat) t, (k0 :: args)[j]? = some t → w2.cell? ⟨g, j, none⟩ = some (.string ⟨t.toArray⟩) from fun j t h => cell_later hb2 (HCS.out j t h))
  have hs2 := hb2.size
  clear hb2 HB1 HZ1 HY1 HCS c0
  have hbA : Below w2.heap.size w2 (w2.alloc (.cells #[.string ⟨k0.toArray⟩, .slice none 0 0, .int .i64 0, .int .i64 0, .int .i64 0, .int .i64 0, .int .i64 0, .int .i64 0, .int .i64 0, .string ⟨#[]⟩, .int .i64 0, .string ⟨#[]⟩, .slice none 0 0] 59)) := (Below.refl _ _).alloc (Nat.le_refl _) _
  have HB3 := Lib.hid (Below.next HB2.out hbA)
  have HZ3 := Lib.hid (HZ2.out.below hbA)
  have HY3 := Lib.hid (HY2.out.below hbA)
  have HC3 := Lib.hid (show CmBlk (w2.alloc (.cells #[.string ⟨k0.toArray⟩, .slice none 0 0, .int .i64 0, .int .i64 0, .int .i64 0, .int .i64 0, .int .i64 0, .int .i64 0, .int .i64 0, .string ⟨#[]⟩, .int .i64 0, .string ⟨#[]⟩, .slice none 0 0] 59)) w2.heap.size ⟨k0, [], evNone, []⟩ (.slice none 0 0) (.slice none 0 0) from heap_alloc_new w2 _)
  have HA3 := Lib.hid (show ∀ (j : Nat) t, (k0 :: args)[j]? = some t → (w2.alloc (.cells #[.string ⟨k0.toArray⟩, .slice none 0 0, .int .i64 0, .int .i64 0, .int .i64 0, .int .i64 0, .int .i64 0, .int .i64 0, .int .i64 0, .string ⟨#[]⟩, .int .i64 0, .string ⟨#[]⟩, .slice none 0 0] 59)).cell? ⟨g, j, none⟩ = some (.string ⟨t.toArray⟩) from fun j t h => cell_later hbA (HA2.out j t h))
  have hylt := HY2.out.lt
  clear hbA HB2 HZ2 HY2 HA2
  · go_wp2_with (first
      | (with_reducible refine wpList_load_cm rfl (.tmp 4) rfl (w.heap.size + 1) cmdNone (.slice none 0 0) (.slice none 0 0) rfl HY3.out ?_)
      | (with_reducible refine wpList_store_cm rfl (.tmp 2) (.tmp 61) rfl w.heap.size cmdNone cmdNone (.slice none 0 0) (.slice none 0 0) (.slice none 0 0) (.slice none 0 0) rfl rfl rfl rfl HZ3.out ?_))
    exact bodyPost_ret (v := .tuple #[cmV cmdNone (.slice none 0 0) (.slice none 0 0), .int .i64 100]) (results_cm rfl _ _ w.heap.size cmdNone (.slice none 0 0) (.slice none 0 0) _ rfl rfl (HZ3.out.row cmdNone (.slice none 0 0) (.slice none 0 0))) rfl ⟨_, _, by rw [hfin.out], by rw [hfin.out]; exact World.ownsRow_nil _ _ _ _, by rw [hfin.out]; exact World.ownsRow_nil _ _ _ _, Below.row HB3.out (Nat.le_refl _) _⟩

set_option maxRecDepth 100000 in
set_option maxHeartbeats 8000000 in
theorem cmdR_5 (s k0 : List UInt8) (args : List (List UInt8)) (w : World) (hsp : splitOn 32 s = k0 :: args) (hs : s.length ≤ 1048576) (a : List UInt8) (ha : args = [a]) (h5 : shapeV k0 = 5) :
    Calls Tryz.prog 32 #[.string ⟨s.toArray⟩] w (CmPost (cmdOf s) w) := by
  have hof : cmdOf s = cmdParts k0 args := by unfold cmdOf; rw [hsp]
  have hof2 : cmdOf s = match unhexOf a with | none => (cmdNone, 101) | some b => if b = [] then (cmdNone, 101) else (⟨k0, [], evNone, b⟩, 0) := by
    rw [hof, ha]; unfold cmdParts; rw [if_neg (by omega), if_neg (by omega), if_pos h5]; rfl
  have HOF := Lib.hid hof2
  have k6 : decide (leastOf k0 < 0) = false := by
    have h := (least_shape k0).1
    rw [h5] at h
    rw [h]
    decide
  have kp : (k0 == [112, 117, 116]) = true := by rw [beq_iff_eq]; exact shape5.1 h5
  subst ha
  clear hof hof2 h5
  have hwl : Hid (∀ x ∈ k0 :: [a], x.length ≤ 1048576) := Lib.hid fun x hx => by
    have := splitOn_part 32 s x (by rw [hsp]; exact hx)
    omega
  have hcount : [a].length ≤ 1048576 := by
    simp
  have hbz := (show Below (w.alloc (.cells #[.string ⟨#[]⟩, .slice none 0 0, .int .i64 0, .int .i64 0, .int .i64 0, .int .i64 0, .int .i64 0, .int .i64 0, .int .i64 0, .string ⟨#[]⟩, .int .i64 0, .string ⟨#[]⟩, .slice none 0 0] 59)).heap.size (w.alloc (.cells #[.string ⟨#[]⟩, .slice none 0 0, .int .i64 0, .int .i64 0, .int .i64 0, .int .i64 0, .int .i64 0, .int .i64 0, .int .i64 0, .string ⟨#[]⟩, .int .i64 0, .string ⟨#[]⟩, .slice none 0 0] 59)) ((w.alloc (.cells #[.string ⟨#[]⟩, .slice none 0 0, .int .i64 0, .int .i64 0, .int .i64 0, .int .i64 0, .int .i64 0, .int .i64 0, .int .i64 0, .string ⟨#[]⟩, .int .i64 0, .string ⟨#[]⟩, .slice none 0 0] 59)).alloc (.cells #[.string ⟨#[]⟩, .slice none 0 0, .int .i64 0, .int .i64 0, .int .i64 0, .int .i64 0, .int .i64 0, .int .i64 0, .int .i64 0, .string ⟨#[]⟩, .int .i64 0, .string ⟨#[]⟩, .slice none 0 0] 59)) from (Below.refl _ _).alloc (Nat.le_refl _) _)
  have HB0 := Lib.hid (Below.next (show Below w.heap.size w (w.alloc (.cells #[.string ⟨#[]⟩, .slice none 0 0, .int .i64 0, .int .i64 0, .int .i64 0, .int .i64 0, .int .i64 0, .int .i64 0, .int .i64 0, .string ⟨#[]⟩, .int .i64 0, .string ⟨#[]⟩, .slice none 0 0] 59)) from (Below.refl _ _).alloc (Nat.le_refl _) _) hbz)
  have HZ0 := Lib.hid ((show CmBlk (w.alloc (.cells #[.string ⟨#[]⟩, .slice none 0 0, .int .i64 0, .int .i64 0, .int .i64 0, .int .i64 0, .int .i64 0, .int .i64 0, .int .i64 0, .string ⟨#[]⟩, .int .i64 0, .string ⟨#[]⟩, .slice none 0 0] 59)) w.heap.size cmdNone (.slice none 0 0) (.slice none 0 0) from heap_alloc_new w _).below hbz)
  have HY0 := Lib.hid (show CmBlk ((w.alloc (.cells #[.string ⟨#[]⟩, .slice none 0 0, .int .i64 0, .int .i64 0, .int .i64 0, .int .i64 0, .int .i64 0, .int .i64 0, .int .i64 0, .string ⟨#[]⟩, .int .i64 0, .string ⟨#[]⟩, .slice none 0 0] 59)).alloc (.cells #[.string ⟨#[]⟩, .slice none 0 0, .int .i64 0, .int .i64 0, .int .i64 0, .int .i64 0, .int .i64 0, .int .i64 0, .int .i64 0, .string ⟨#[]⟩, .int .i64 0, .string ⟨#[]⟩, .slice none 0 0] 59)) (w.heap.size + 1) cmdNone (.slice none 0 0) (.slice none 0 0) from by have h := heap_alloc_new (w.alloc (.cells #[.string ⟨#[]⟩, .slice none 0 0, .int .i64 0, .int .i64 0, .int .i64 0, .int .i64 0, .int .i64 0, .int .i64 0, .int .i64 0, .string ⟨#[]⟩, .int .i64 0, .string ⟨#[]⟩, .slice none 0 0] 59)) (.cells #[.string ⟨#[]⟩, .slice none 0 0, .int .i64 0, .int .i64 0, .int .i64 0, .int .i64 0, .int .i64 0, .int .i64 0, .int .i64 0, .string ⟨#[]⟩, .int .i64 0, .string ⟨#[]⟩, .slice none 0 0] 59); rw [show (w.alloc (.cells #[.string ⟨#[]⟩, .slice none 0 0, .int .i64 0, .int .i64 0, .int .i64 0, .int .i64 0, .int .i64 0, .int .i64 0, .int .i64 0, .string ⟨#[]⟩, .int .i64 0, .string ⟨#[]⟩, .slice none 0 0] 59)).heap.size = w.heap.size + 1 by simp] at h; exact h)
  clear hbz
  go_enter Tryz.func32, Tryz.ntmps32
  go_wp2_with fail
  generalize (w.alloc (.cells #[.string ⟨#[]⟩, .slice none 0 0, .int .i64 0, .int .i64 0, .int .i64 0, .int .i64 0, .int .i64 0, .int .i64 0, .int .i64 0, .string ⟨#[]⟩, .int .i64 0, .string ⟨#[]⟩, .slice none 0 0] 59)).alloc (.cells #[.string ⟨#[]⟩, .slice none 0 0, .int .i64 0, .int .i64 0, .int .i64 0, .int .i64 0, .int .i64 0, .int .i64 0, .int .i64 0, .string ⟨#[]⟩, .int .i64 0, .string ⟨#[]⟩, .slice none 0 0] 59) = w0 at *
  refine (refSplit_any s 32 _ (by omega)).mono ?_
  rintro x w1 ⟨sv, rfl, hown, hb1⟩
  rw [hsp] at hown
  obtain ⟨g, cap, rfl, hg0, hg1, hcap, hcm, hcs⟩ := own_get hown (by simp)
  unfold maxLen at hcm
  simp only [List.length_cons, List.length_nil] at hcap
  have HB1 := Lib.hid (Below.next HB0.out hb1)
  have HZ1 := Lib.hid (HZ0.out.below hb1)
  have HY1 := Lib.hid (HY0.out.below hb1)
  have HCS := Lib.hid (show ∀ (j : Nat) t, (k0 :: [a])[j]? = some t → w1.cell? ⟨g, j, none⟩ = some (.string ⟨t.toArray⟩) from fun j t h => hcs j _ (strs_get h))
  have c0 : w1.cell? ⟨g, 0, none⟩ = some (.string ⟨k0.toArray⟩) := HCS.out 0 k0 rfl
  have hylt := HY0.out.lt
  have hgw : w.heap.size + 1 < g := by omega
  clear hown hcs hb1 HB0 HZ0 HY0 hsp hg0 hylt
  go_wp2_with fail
  refine (least_any k0 _).mono ?_
  rintro x w2 ⟨rfl, hb2⟩
  have HB2 := Lib.hid (Below.next HB1.out hb2)
  have HZ2 := Lib.hid (HZ1.out.below hb2)
  have HY2 := Lib.hid (HY1.out.below hb2)
  have HA2 := Lib.hid (show ∀ (j : Nat) t, (k0 :: [a])[j]? = some t → w2.cell? ⟨g, j, none⟩ = some (.string ⟨t.toArray⟩) from fun j t h => cell_later hb2 (HCS.out j t h))
  have hs2 := hb2.size
  clear hb2 HB1 HZ1 HY1 HCS c0
  have hbA : Below w2.heap.size w2 (w2.alloc (.cells #[.string ⟨k0.toArray⟩, .slice none 0 0, .int .i64 0, .int .i64 0, .int .i64 0, .int .i64 0, .int .i64 0, .int .i64 0, .int .i64 0, .string ⟨#[]⟩, .int .i64 0, .string ⟨#[]⟩, .slice none 0 0] 59)) := (Below.refl _ _).alloc (Nat.le_refl _) _
  have HB3 := Lib.hid (Below.next HB2.out hbA)
  have HZ3 := Lib.hid (HZ2.out.below hbA)
  have HY3 := Lib.hid (HY2.out.below hbA)
  have HC3 := Lib.hid (show CmBlk (w2.alloc (.cells #[.string ⟨k0.toArray⟩, .slice none 0 0, .int .i64 0, .int .i64 0, .int .i64 0, .int .i64 0, .int .i64 0, .int .i64 0, .int .i64 0, .string ⟨#[]⟩, .int .i64 0, .string ⟨#[]⟩, .slice none 0 0] 59)) w2.heap.size ⟨k0, [], evNone, []⟩ (.slice none 0 0) (.slice none 0 0) from heap_alloc_new w2 _)
  have HA3 := Lib.hid (show ∀ (j : Nat) t, (k0 :: [a])[j]? = some t → (w2.alloc (.cells #[.string ⟨k0.toArray⟩, .slice none 0 0, .int .i64 0, .int .i64 0, .int .i64 0, .int .i64 0, .int .i64 0, .int .i64 0, .int .i64 0, .string ⟨#[]⟩, .int .i64 0, .string ⟨#[]⟩, .slice none 0 0] 59)).cell? ⟨g, j, none⟩ = some (.string ⟨t.toArray⟩) from fun j t h => cell_later hbA (HA2.out j t h))
  have hylt := HY2.out.lt
  clear hbA HB2 HZ2 HY2 HA2
  have c1a : (w2.alloc (.cells #[.string ⟨k0.toArray⟩, .slice none 0 0, .int .i64 0, .int .i64 0, .int .i64 0, .int .i64 0, .int .i64 0, .int .i64 0, .int .i64 0, .string ⟨#[]⟩, .int .i64 0, .string ⟨#[]⟩, .slice none 0 0] 59)).cell? ⟨g, 1, none⟩ = some (.string ⟨a.toArray⟩) := HA3.out 1 a rfl
  have hal := hwl.out a (by simp)
  go_wp2_with fail
  generalize hbe : w2.heap.size = be at *
  generalize w2.alloc (.cells #[.string ⟨k0.toArray⟩, .slice none 0 0, .int .i64 0, .int .i64 0, .int .i64 0, .int .i64 0, .int .i64 0, .int .i64 0, .int .i64 0, .string ⟨#[]⟩, .int .i64 0, .string ⟨#[]⟩, .slice none 0 0] 59) = w3 at *
  have hwb : w.heap.size + 1 < be := by omega
  have hgb : g ≠ be := by omega
  have hgw2 : w.heap.size ≠ g := by omega
  clear hbe hylt hs2 hg1
  refine (refUnhex_any a _ (by omega)).mono ?_
  rintro x w5 ⟨nv, rfl, hn, hb5⟩
  have HZ5 := Lib.hid (HZ3.out.below hb5)
  have HY5 := Lib.hid (HY3.out.below hb5)
  have HC5 := Lib.hid (HC3.out.below hb5)
  have HB5 := Lib.hid (Below.next HB3.out hb5)
  have hs3 := HC3.out.lt
  have d1 : w5.cell? ⟨be, 12, none⟩ = some (.slice none 0 0) := HC5.out.cell 12
  have e1 : w5.frozen? ⟨be, 12, none⟩ = false := HC5.out.free 12
  clear hb5 HZ3 HC3 HB3 HY3 c1a
  cases hu : unhexOf a with
  | none =>
    have hfin := Lib.hid (show cmdOf s = (cmdNone, 101) by rw [HOF.out, hu])
    have he : uErr a = 101 := by simp [uErr, hu]
    have hnv : uVal a = [] := by simp [uVal, hu]
    rw [he]
    rw [hnv] at hn
    obtain ⟨oa5, oc5, rfl, _, _⟩ := own_shape hn
    clear hu he hnv hn
    go_wp2_with (first
      | (with_reducible refine wpList_load_cm rfl (.tmp 4) rfl (w.heap.size + 1) cmdNone (.slice none 0 0) (.slice none 0 0) rfl HY5.out ?_)
      | (with_reducible refine wpList_store_cm rfl (.tmp 2) (.tmp 52) rfl w.heap.size cmdNone cmdNone (.slice none 0 0) (.slice none 0 0) (.slice none 0 0) (.slice none 0 0) rfl rfl rfl rfl HZ5.out ?_))
    exact bodyPost_ret (v := .tuple #[cmV cmdNone (.slice none 0 0) (.slice none 0 0), .int .i64 101]) (results_cm rfl _ _ w.heap.size cmdNone (.slice none 0 0) (.slice none 0 0) _ rfl rfl (HZ5.out.row cmdNone (.slice none 0 0) (.slice none 0 0))) rfl ⟨_, _, by rw [hfin.out], by rw [hfin.out]; exact World.ownsRow_nil _ _ _ _, by rw [hfin.out]; exact World.ownsRow_nil _ _ _ _, Below.row HB5.out (Nat.le_refl _) _⟩
  | some b =>
    have he : uErr a = 0 := by simp [uErr, hu]
    have hnv : uVal a = b := by simp [uVal, hu]
    rw [he]
    rw [hnv] at hn
    obtain ⟨oa5, oc5, rfl, _, _⟩ := own_shape hn
    have HN := Lib.hid hn
    clear he hnv hn
    by_cases hb0 : b = []
    · have hfin := Lib.hid (show cmdOf s = (cmdNone, 101) by rw [HOF.out, hu]; exact if_pos hb0)
      have kb : ((b.length : Int) == 0) = true := by rw [hb0]; rfl
      clear hu hb0
      go_wp2_with (first
        | (with_reducible refine wpList_load_cm rfl (.tmp 4) rfl (w.heap.size + 1) cmdNone (.slice none 0 0) (.slice none 0 0) rfl HY5.out ?_)
        | (with_reducible refine wpList_store_cm rfl (.tmp 2) (.tmp 52) rfl w.heap.size cmdNone cmdNone (.slice none 0 0) (.slice none 0 0) (.slice none 0 0) (.slice none 0 0) rfl rfl rfl rfl HZ5.out ?_))
      exact bodyPost_ret (v := .tuple #[cmV cmdNone (.slice none 0 0) (.slice none 0 0), .int .i64 101]) (results_cm rfl _ _ w.heap.size cmdNone (.slice none 0 0) (.slice none 0 0) _ rfl rfl (HZ5.out.row cmdNone (.slice none 0 0) (.slice none 0 0))) rfl ⟨_, _, by rw [hfin.out], by rw [hfin.out]; exact World.ownsRow_nil _ _ _ _, by rw [hfin.out]; exact World.ownsRow_nil _ _ _ _, Below.row HB5.out (Nat.le_refl _) _⟩
    · have hfin := Lib.hid (show cmdOf s = (⟨k0, [], evNone, b⟩, 0) by rw [HOF.out, hu]; exact if_neg hb0)
      have kb : ((b.length : Int) == 0) = false := by rw [beq_eq_false_iff_ne]; intro h; exact hb0 (List.length_eq_zero_iff.1 (by omega))
      have HC6 := Lib.hid (show CmBlk (w5.setCell ⟨be, 12, none⟩ (.slice oa5 b.length oc5)) be ⟨k0, [], evNone, b⟩ (.slice none 0 0) (.slice oa5 b.length oc5) from HC5.out.put 12 _ rfl)
      have hB6 := But.set (But.refl be w5) 12 (.slice oa5 b.length oc5)
      have HZ6 := Lib.hid (HZ5.out.but hB6 (by omega))
      have HN6 := Lib.hid (own_but' HN.out hB6 (fun e => by have := (HN.out.lt _ e).1; omega))
      have HB6 := Lib.hid (But.below HB5.out hB6 (by omega))
      clear hu hb0 HN hB6 HZ5 HC5 HB5
      go_wp2_with (first
        | (with_reducible refine wpList_load_cm rfl (.tmp 8) rfl be ⟨k0, [], evNone, b⟩ (.slice none 0 0) (.slice oa5 b.length oc5) rfl HC6.out ?_)
        | (with_reducible refine wpList_store_cm rfl (.tmp 2) (.tmp 55) rfl w.heap.size cmdNone ⟨k0, [], evNone, b⟩ (.slice none 0 0) (.slice none 0 0) (.slice none 0 0) (.slice oa5 b.length oc5) rfl rfl rfl rfl HZ6.out ?_))
      exact bodyPost_ret (v := .tuple #[cmV ⟨k0, [], evNone, b⟩ (.slice none 0 0) (.slice oa5 b.length oc5), .int .i64 0]) (results_cm rfl _ _ w.heap.size ⟨k0, [], evNone, b⟩ (.slice none 0 0) (.slice oa5 b.length oc5) _ rfl rfl (HZ6.out.row ⟨k0, [], evNone, b⟩ (.slice none 0 0) (.slice oa5 b.length oc5))) rfl ⟨_, _, by rw [hfin.out], by rw [hfin.out]; exact World.ownsRow_nil _ _ _ _, by rw [hfin.out]; exact own_row (own_mono HN6.out (by omega)) _ _ (fun e => by have := (HN6.out.lt _ e).1; omega), Below.row HB6.out (Nat.le_refl _) _⟩

end Go.Proofs.YtecmpmnidlfgnaaGreatDoor
