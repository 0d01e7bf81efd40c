import Derived.Test.YtecmpmnidlfgnaaGreatDoorScriptCommand2
import Derived.Test.YtecmpmnidlfgnaaGreatDoorRefEvent
namespace Go.Proofs.YtecmpmnidlfgnaaGreatDoor
open Go.RowKit

/-! ## the reference's Command -/

theorem But.grown {b : Nat} {a w w' : World} {row : Option Nat} (h : But b a w) (hg : w.grownBy w' row) (ho : ∀ k, row = some k → a.heap.size ≤ k) : But b a w' :=
  ⟨hg.os.trans h.os, hg.tape.trans h.tape, hg.output.trans h.output, Nat.le_trans h.size hg.size, fun i hi hn => (hg.block i (by have := h.size; omega) (fun e => by have := ho i e.symm; omega)).trans (h.block i hi hn)⟩
theorem CmBlk.grown {w w' : World} {b : Nat} {c : Cmd} {nv rv : Value} {row : Option Nat} (h : CmBlk w b c nv rv) (hg : w.grownBy w' row) (hr : row ≠ some b) : CmBlk w' b c nv rv := by
  unfold CmBlk
  rw [hg.block b h.lt (fun e => hr e.symm)]
  exact h

theorem tot_len (k0 x : List UInt8) (ws : List (List UInt8)) (k : Nat) (h : ws.take (k + 1) = ws.take k ++ [x]) : (joinBy 32 (k0 :: ws.take (k + 1))).length = (joinBy 32 (k0 :: ws.take k)).length + (1 + x.length) := by
  rw [h, joinBy_blanked, joinBy_blanked, blanked_append]
  simp [blanked]
  omega
theorem tot_le (k0 : List UInt8) (ws : List (List UInt8)) (k : Nat) : (joinBy 32 (k0 :: ws.take k)).length ≤ (joinBy 32 (k0 :: ws)).length := by
  rw [joinBy_blanked, joinBy_blanked]
  have h : blanked ws = blanked (ws.take k) ++ blanked (ws.drop k) := by rw [← blanked_append, List.take_append_drop]
  rw [h]
  simp

set_option maxRecDepth 100000 in
set_option maxHeartbeats 8000000 in
theorem cmdR_6 (s k0 : List UInt8) (args : List (List UInt8)) (w : World) (hsp : splitOn 32 s = k0 :: args) (hs : s.length ≤ 1048576) (h6 : leastOf k0 < 0) :
    Calls Tryz.prog 32 #[.string ⟨s.toArray⟩] w (CmPost (cmdOf s) w) := by
  have hof : cmdOf s = cmdParts k0 args := by unfold cmdOf; rw [hsp]
  have hfin := Lib.hid (show cmdOf s = (cmdNone, 100) by
    rw [hof]; unfold cmdParts; rw [if_pos]
    have h := (least_shape k0).1
    have h2 := shape_le k0
    rw [h] at h6
    generalize shapeV k0 = n at *
    match n, h2 with
    | 0, _ => simp at h6
    | 1, _ => simp at h6
    | 2, _ => simp at h6
    | 3, _ => simp at h6
    | 4, _ => simp at h6
    | 5, _ => simp at h6
    | 6, _ => rfl)
  have k6 : decide (leastOf k0 < 0) = true := by simpa using h6
  clear hof h6
  have hwl : Hid (∀ x ∈ k0 :: args, x.length ≤ 1048576) := Lib.hid fun x hx => by
    have := splitOn_part 32 s x (by rw [hsp]; exact hx)
    omega
  have hcount : args.length ≤ 1048576 := by
    have := splitOn_length 32 s
    rw [hsp] at this
    simp at this
    omega
  have hbz := (show Below (w.alloc (.cells #[.string ⟨#[]⟩, .slice none 0 0, .int .i64 0, .int .i64 0, .int .i64 0, .int .i64 0, .int .i64 0, .int .i64 0, .int .i64 0, .string ⟨#[]⟩, .int .i64 0, .string ⟨#[]⟩, .slice none 0 0] 59)).heap.size (w.alloc (.cells #[.string ⟨#[]⟩, .slice none 0 0, .int .i64 0, .int .i64 0, .int .i64 0, .int .i64 0, .int .i64 0, .int .i64 0, .int .i64 0, .string ⟨#[]⟩, .int .i64 0, .string ⟨#[]⟩, .slice none 0 0] 59)) ((w.alloc (.cells #[.string ⟨#[]⟩, .slice none 0 0, .int .i64 0, .int .i64 0, .int .i64 0, .int .i64 0, .int .i64 0, .int .i64 0, .int .i64 0, .string ⟨#[]⟩, .int .i64 0, .string ⟨#[]⟩, .slice none 0 0] 59)).alloc (.cells #[.string ⟨#[]⟩, .slice none 0 0, .int .i64 0, .int .i64 0, .int .i64 0, .int .i64 0, .int .i64 0, .int .i64 0, .int .i64 0, .string ⟨#[]⟩, .int .i64 0, .string ⟨#[]⟩, .slice none 0 0] 59)) from (Below.refl _ _).alloc (Nat.le_refl _) _)
  have HB0 := Lib.hid (Below.next (show Below w.heap.size w (w.alloc (.cells #[.string ⟨#[]⟩, .slice none 0 0, .int .i64 0, .int .i64 0, .int .i64 0, .int .i64 0, .int .i64 0, .int .i64 0, .int .i64 0, .string ⟨#[]⟩, .int .i64 0, .string ⟨#[]⟩, .slice none 0 0] 59)) from (Below.refl _ _).alloc (Nat.le_refl _) _) hbz)
  have HZ0 := Lib.hid ((show CmBlk (w.alloc (.cells #[.string ⟨#[]⟩, .slice none 0 0, .int .i64 0, .int .i64 0, .int .i64 0, .int .i64 0, .int .i64 0, .int .i64 0, .int .i64 0, .string ⟨#[]⟩, .int .i64 0, .string ⟨#[]⟩, .slice none 0 0] 59)) w.heap.size cmdNone (.slice none 0 0) (.slice none 0 0) from heap_alloc_new w _).below hbz)
  have HY0 := Lib.hid (show CmBlk ((w.alloc (.cells #[.string ⟨#[]⟩, .slice none 0 0, .int .i64 0, .int .i64 0, .int .i64 0, .int .i64 0, .int .i64 0, .int .i64 0, .int .i64 0, .string ⟨#[]⟩, .int .i64 0, .string ⟨#[]⟩, .slice none 0 0] 59)).alloc (.cells #[.string ⟨#[]⟩, .slice none 0 0, .int .i64 0, .int .i64 0, .int .i64 0, .int .i64 0, .int .i64 0, .int .i64 0, .int .i64 0, .string ⟨#[]⟩, .int .i64 0, .string ⟨#[]⟩, .slice none 0 0] 59)) (w.heap.size + 1) cmdNone (.slice none 0 0) (.slice none 0 0) from by have h := heap_alloc_new (w.alloc (.cells #[.string ⟨#[]⟩, .slice none 0 0, .int .i64 0, .int .i64 0, .int .i64 0, .int .i64 0, .int .i64 0, .int .i64 0, .int .i64 0, .string ⟨#[]⟩, .int .i64 0, .string ⟨#[]⟩, .slice none 0 0] 59)) (.cells #[.string ⟨#[]⟩, .slice none 0 0, .int .i64 0, .int .i64 0, .int .i64 0, .int .i64 0, .int .i64 0, .int .i64 0, .int .i64 0, .string ⟨#[]⟩, .int .i64 0, .string ⟨#[]⟩, .slice none 0 0] 59); rw [show (w.alloc (.cells #[.string ⟨#[]⟩, .slice none 0 0, .int .i64 0, .int .i64 0, .int .i64 0, .int .i64 0, .int .i64 0, .int .i64 0, .int .i64 0, .string ⟨#[]⟩, .int .i64 0, .string ⟨#[]⟩, .slice none 0 0] 59)).heap.size = w.heap.size + 1 by simp] at h; exact h)
  clear hbz
  go_enter Tryz.func32, Tryz.ntmps32
  go_wp2_with fail
  generalize (w.alloc (.cells #[.string ⟨#[]⟩, .slice none 0 0, .int .i64 0, .int .i64 0, .int .i64 0, .int .i64 0, .int .i64 0, .int .i64 0, .int .i64 0, .string ⟨#[]⟩, .int .i64 0, .string ⟨#[]⟩, .slice none 0 0] 59)).alloc (.cells #[.string ⟨#[]⟩, .slice none 0 0, .int .i64 0, .int .i64 0, .int .i64 0, .int .i64 0, .int .i64 0, .int .i64 0, .int .i64 0, .string ⟨#[]⟩, .int .i64 0, .string ⟨#[]⟩, .slice none 0 0] 59) = w0 at *
  refine (refSplit_any s 32 _ (by omega)).mono ?_
  rintro x w1 ⟨sv, rfl, hown, hb1⟩
  rw [hsp] at hown
  obtain ⟨g, cap, rfl, hg0, hg1, hcap, hcm, hcs⟩ := own_get hown (by simp)
  unfold maxLen at hcm
  simp only [List.length_cons] at hcap
  have HB1 := Lib.hid (Below.next HB0.out hb1)
  have HZ1 := Lib.hid (HZ0.out.below hb1)
  have HY1 := Lib.hid (HY0.out.below hb1)
  have HCS := Lib.hid (show ∀ (j : Nat) t, (k0 :: args)[j]? = some t → w1.cell? ⟨g, j, none⟩ = some (.string ⟨t.toArray⟩) from fun j t h => hcs j _ (strs_get h))
  have c0 : w1.cell? ⟨g, 0, none⟩ = some (.string ⟨k0.toArray⟩) := HCS.out 0 k0 rfl
  have hylt := HY0.out.lt
  have hgw : w.heap.size + 1 < g := by omega
  clear hown hcs hb1 HB0 HZ0 HY0 hsp hg0 hylt
  go_wp2_with fail
  refine (least_any k0 _).mono ?_
  rintro x w2 ⟨rfl, hb2⟩
  have HB2 := Lib.hid (Below.next HB1.out hb2)
  have HZ2 := Lib.hid (HZ1.out.below hb2)
  have HY2 := Lib.hid (HY1.out.below hb2)
  have HA2 := Lib.hid (show ∀ (j : Nat) t, (k0 :: args)[j]? = some t → w2.cell? ⟨g, j, none⟩ = some (.string ⟨t.toArray⟩) from fun j t h => cell_later hb2 (HCS.out j t h))
  have hs2 := hb2.size
  clear hb2 HB1 HZ1 HY1 HCS c0
  · go_wp2_with (first
      | (with_reducible refine wpList_load_cm rfl (.tmp 4) rfl (w.heap.size + 1) cmdNone (.slice none 0 0) (.slice none 0 0) rfl HY2.out ?_)
      | (with_reducible refine wpList_store_cm rfl (.tmp 2) (.tmp 30) rfl w.heap.size cmdNone cmdNone (.slice none 0 0) (.slice none 0 0) (.slice none 0 0) (.slice none 0 0) rfl rfl rfl rfl HZ2.out ?_))
    exact bodyPost_ret (v := .tuple #[cmV cmdNone (.slice none 0 0) (.slice none 0 0), .int .i64 100]) (results_cm rfl _ _ w.heap.size cmdNone (.slice none 0 0) (.slice none 0 0) _ rfl rfl (HZ2.out.row cmdNone (.slice none 0 0) (.slice none 0 0))) rfl ⟨_, _, by rw [hfin.out], by rw [hfin.out]; exact World.ownsRow_nil _ _ _ _, by rw [hfin.out]; exact World.ownsRow_nil _ _ _ _, Below.row HB2.out (Nat.le_refl _) _⟩

set_option maxRecDepth 100000 in
set_option maxHeartbeats 8000000 in
theorem cmdR_5x (s k0 : List UInt8) (args : List (List UInt8)) (w : World) (hsp : splitOn 32 s = k0 :: args) (hs : s.length ≤ 1048576) (h5 : shapeV k0 = 5) (hl : args.length ≠ 1) :
    Calls Tryz.prog 32 #[.string ⟨s.toArray⟩] w (CmPost (cmdOf s) w) := by
  have hof : cmdOf s = cmdParts k0 args := by unfold cmdOf; rw [hsp]
  have hfin := Lib.hid (show cmdOf s = (cmdNone, 100) by rw [hof]; unfold cmdParts; rw [if_neg (by omega), if_neg (by omega), if_pos h5]; unfold cmdPut; match args, hl with | [], _ => rfl | [_], h => exact absurd rfl h | _ :: _ :: _, _ => rfl)
  have k6 : decide (leastOf k0 < 0) = false := by
    have h := (least_shape k0).1
    rw [h5] at h
    rw [h]
    decide
  have kp : (k0 == [112, 117, 116]) = true := by rw [beq_iff_eq]; exact shape5.1 h5
  have kl : ((args.length : Int) != 1) = true := by rw [bne_iff_ne]; omega
  clear hof h5 hl
  have hwl : Hid (∀ x ∈ k0 :: args, x.length ≤ 1048576) := Lib.hid fun x hx => by
    have := splitOn_part 32 s x (by rw [hsp]; exact hx)
    omega
  have hcount : args.length ≤ 1048576 := by
    have := splitOn_length 32 s
    rw [hsp] at this
    simp at this
    omega
  have hbz := (show Below (w.alloc (.cells #[.string ⟨#[]⟩, .slice none 0 0, .int .i64 0, .int .i64 0, .int .i64 0, .int .i64 0, .int .i64 0, .int .i64 0, .int .i64 0, .string ⟨#[]⟩, .int .i64 0, .string ⟨#[]⟩, .slice none 0 0] 59)).heap.size (w.alloc (.cells #[.string ⟨#[]⟩, .slice none 0 0, .int .i64 0, .int .i64 0, .int .i64 0, .int .i64 0, .int .i64 0, .int .i64 0, .int .i64 0, .string ⟨#[]⟩, .int .i64 0, .string ⟨#[]⟩, .slice none 0 0] 59)) ((w.alloc (.cells #[.string ⟨#[]⟩, .slice none 0 0, .int .i64 0, .int .i64 0, .int .i64 0, .int .i64 0, .int .i64 0, .int .i64 0, .int .i64 0, .string ⟨#[]⟩, .int .i64 0, .string ⟨#[]⟩, .slice none 0 0] 59)).alloc (.cells #[.string ⟨#[]⟩, .slice none 0 0, .int .i64 0, .int .i64 0, .int .i64 0, .int .i64 0, .int .i64 0, .int .i64 0, .int .i64 0, .string ⟨#[]⟩, .int .i64 0, .string ⟨#[]⟩, .slice none 0 0] 59)) from (Below.refl _ _).alloc (Nat.le_refl _) _)
  have HB0 := Lib.hid (Below.next (show Below w.heap.size w (w.alloc (.cells #[.string ⟨#[]⟩, .slice none 0 0, .int .i64 0, .int .i64 0, .int .i64 0, .int .i64 0, .int .i64 0, .int .i64 0, .int .i64 0, .string ⟨#[]⟩, .int .i64 0, .string ⟨#[]⟩, .slice none 0 0] 59)) from (Below.refl _ _).alloc (Nat.le_refl _) _) hbz)
  have HZ0 := Lib.hid ((show CmBlk (w.alloc (.cells #[.string ⟨#[]⟩, .slice none 0 0, .int .i64 0, .int .i64 0, .int .i64 0, .int .i64 0, .int .i64 0, .int .i64 0, .int .i64 0, .string ⟨#[]⟩, .int .i64 0, .string ⟨#[]⟩, .slice none 0 0] 59)) w.heap.size cmdNone (.slice none 0 0) (.slice none 0 0) from heap_alloc_new w _).below hbz)
  have HY0 := Lib.hid (show CmBlk ((w.alloc (.cells #[.string ⟨#[]⟩, .slice none 0 0, .int .i64 0, .int .i64 0, .int .i64 0, .int .i64 0, .int .i64 0, .int .i64 0, .int .i64 0, .string ⟨#[]⟩, .int .i64 0, .string ⟨#[]⟩, .slice none 0 0] 59)).alloc (.cells #[.string ⟨#[]⟩, .slice none 0 0, .int .i64 0, .int .i64 0, .int .i64 0, .int .i64 0, .int .i64 0, .int .i64 0, .int .i64 0, .string ⟨#[]⟩, .int .i64 0, .string ⟨#[]⟩, .slice none 0 0] 59)) (w.heap.size + 1) cmdNone (.slice none 0 0) (.slice none 0 0) from by have h := heap_alloc_new (w.alloc (.cells #[.string ⟨#[]⟩, .slice none 0 0, .int .i64 0, .int .i64 0, .int .i64 0, .int .i64 0, .int .i64 0, .int .i64 0, .int .i64 0, .string ⟨#[]⟩, .int .i64 0, .string ⟨#[]⟩, .slice none 0 0] 59)) (.cells #[.string ⟨#[]⟩, .slice none 0 0, .int .i64 0, .int .i64 0, .int .i64 0, .int .i64 0, .int .i64 0, .int .i64 0, .int .i64 0, .string ⟨#[]⟩, .int .i64 0, .string ⟨#[]⟩, .slice none 0 0] 59); rw [show (w.alloc (.cells #[.string ⟨#[]⟩, .slice none 0 0, .int .i64 0, .int .i64 0, .int .i64 0, .int .i64 0, .int .i64 0, .int .i64 0, .int .i64 0, .string ⟨#[]⟩, .int .i64 0, .string ⟨#[]⟩, .slice none 0 0] 59)).heap.size = w.heap.size + 1 by simp] at h; exact h)
  clear hbz
  go_enter Tryz.func32, Tryz.ntmps32
  go_wp2_with fail
  generalize (w.alloc (.cells #[.string ⟨#[]⟩, .slice none 0 0, .int .i64 0, .int .i64 0, .int .i64 0, .int .i64 0, .int .i64 0, .int .i64 0, .int .i64 0, .string ⟨#[]⟩, .int .i64 0, .string ⟨#[]⟩, .slice none 0 0] 59)).alloc (.cells #[.string ⟨#[]⟩, .slice none 0 0, .int .i64 0, .int .i64 0, .int .i64 0, .int .i64 0, .int .i64 0, .int .i64 0, .int .i64 0, .string ⟨#[]⟩, .int .i64 0, .string ⟨#[]⟩, .slice none 0 0] 59) = w0 at *
  refine (refSplit_any s 32 _ (by omega)).mono ?_
  rintro x w1 ⟨sv, rfl, hown, hb1⟩
  rw [hsp] at hown
  obtain ⟨g, cap, rfl, hg0, hg1, hcap, hcm, hcs⟩ := own_get hown (by simp)
  unfold maxLen at hcm
  simp only [List.length_cons] at hcap
  have HB1 := Lib.hid (Below.next HB0.out hb1)
  have HZ1 := Lib.hid (HZ0.out.below hb1)
  have HY1 := Lib.hid (HY0.out.below hb1)
  have HCS := Lib.hid (show ∀ (j : Nat) t, (k0 :: args)[j]? = some t → w1.cell? ⟨g, j, none⟩ = some (.string ⟨t.toArray⟩) from fun j t h => hcs j _ (strs_get h))
  have c0 : w1.cell? ⟨g, 0, none⟩ = some (.string ⟨k0.toArray⟩) := HCS.out 0 k0 rfl
  have hylt := HY0.out.lt
  have hgw : w.heap.size + 1 < g := by omega
  clear hown hcs hb1 HB0 HZ0 HY0 hsp hg0 hylt
  go_wp2_with fail
  refine (least_any k0 _).mono ?_
  rintro x w2 ⟨rfl, hb2⟩
  have HB2 := Lib.hid (Below.next HB1.out hb2)
  have HZ2 := Lib.hid (HZ1.out.below hb2)
  have HY2 := Lib.hid (HY1.out.below hb2)
  have HA2 := Lib.hid (show ∀ (j : Nat) t, (k0 :: args)[j]? = some t → w2.cell? ⟨g, j, none⟩ = some (.string ⟨t.toArray⟩) from fun j t h => cell_later hb2 (HCS.out j t h))
  have hs2 := hb2.size
  clear hb2 HB1 HZ1 HY1 HCS c0
  have hbA : Below w2.heap.size w2 (w2.alloc (.cells #[.string ⟨k0.toArray⟩, .slice none 0 0, .int .i64 0, .int .i64 0, .int .i64 0, .int .i64 0, .int .i64 0, .int .i64 0, .int .i64 0, .string ⟨#[]⟩, .int .i64 0, .string ⟨#[]⟩, .slice none 0 0] 59)) := (Below.refl _ _).alloc (Nat.le_refl _) _
  have HB3 := Lib.hid (Below.next HB2.out hbA)
  have HZ3 := Lib.hid (HZ2.out.below hbA)
  have HY3 := Lib.hid (HY2.out.below hbA)
  have HC3 := Lib.hid (show CmBlk (w2.alloc (.cells #[.string ⟨k0.toArray⟩, .slice none 0 0, .int .i64 0, .int .i64 0, .int .i64 0, .int .i64 0, .int .i64 0, .int .i64 0, .int .i64 0, .string ⟨#[]⟩, .int .i64 0, .string ⟨#[]⟩, .slice none 0 0] 59)) w2.heap.size ⟨k0, [], evNone, []⟩ (.slice none 0 0) (.slice none 0 0) from heap_alloc_new w2 _)
  have HA3 := Lib.hid (show ∀ (j : Nat) t, (k0 :: args)[j]? = some t → (w2.alloc (.cells #[.string ⟨k0.toArray⟩, .slice none 0 0, .int .i64 0, .int .i64 0, .int .i64 0, .int .i64 0, .int .i64 0, .int .i64 0, .int .i64 0, .string ⟨#[]⟩, .int .i64 0, .string ⟨#[]⟩, .slice none 0 0] 59)).cell? ⟨g, j, none⟩ = some (.string ⟨t.toArray⟩) from fun j t h => cell_later hbA (HA2.out j t h))
  have hylt := HY2.out.lt
  clear hbA HB2 HZ2 HY2 HA2
  · go_wp2_with (first
      | (with_reducible refine wpList_load_cm rfl (.tmp 4) rfl (w.heap.size + 1) cmdNone (.slice none 0 0) (.slice none 0 0) rfl HY3.out ?_)
      | (with_reducible refine wpList_store_cm rfl (.tmp 2) (.tmp 37) rfl w.heap.size cmdNone cmdNone (.slice none 0 0) (.slice none 0 0) (.slice none 0 0) (.slice none 0 0) rfl rfl rfl rfl HZ3.out ?_))
    exact bodyPost_ret (v := .tuple #[cmV cmdNone (.slice none 0 0) (.slice none 0 0), .int .i64 100]) (results_cm rfl _ _ w.heap.size cmdNone (.slice none 0 0) (.slice none 0 0) _ rfl rfl (HZ3.out.row cmdNone (.slice none 0 0) (.slice none 0 0))) rfl ⟨_, _, by rw [hfin.out], by rw [hfin.out]; exact World.ownsRow_nil _ _ _ _, by rw [hfin.out]; exact World.ownsRow_nil _ _ _ _, Below.row HB3.out (Nat.le_refl _) _⟩

set_option maxRecDepth 100000 in
set_option maxHeartbeats 8000000 in
theorem cmdR_4x (s k0 : List UInt8) (args : List (List UInt8)) (w : World) (hsp : splitOn 32 s = k0 :: args) (hs : s.length ≤ 1048576) (h4 : shapeV k0 = 4) (hl : ¬ 2 ≤ args.length) :
    Calls Tryz.prog 32 #[.string ⟨s.toArray⟩] w (CmPost (cmdOf s) w) := by
  have hof : cmdOf s = cmdParts k0 args := by unfold cmdOf; rw [hsp]
  have h5 : shapeV k0 ≠ 5 := by omega
  have hfin := Lib.hid (show cmdOf s = (cmdNone, 100) by rw [hof]; unfold cmdParts; rw [if_neg (by omega), if_pos h4]; unfold cmdApp; match args, hl with | [], _ => rfl | [_], _ => rfl | _ :: _ :: _, h => exact absurd (by simp) h)
  have k6 : decide (leastOf k0 < 0) = false := by
    have h := (least_shape k0).1
    rw [h4] at h
    rw [h]
    decide
  have kp : (k0 == [112, 117, 116]) = false := by rw [beq_eq_false_iff_ne]; intro h; exact h5 (shape5.2 h)
  have ka : (k0 == [97, 112, 112, 101, 110, 100]) = true := by rw [beq_iff_eq]; exact shape4.1 h4
  have kl : args.length < 2 := by omega
  clear hof h5 h4 hl
  have hwl : Hid (∀ x ∈ k0 :: args, x.length ≤ 1048576) := Lib.hid fun x hx => by
    have := splitOn_part 32 s x (by rw [hsp]; exact hx)
    omega
  have hcount : args.length ≤ 1048576 := by
    have := splitOn_length 32 s
    rw [hsp] at this
    simp at this
    omega
  have hbz := (show Below (w.alloc (.cells #[.string ⟨#[]⟩, .slice none 0 0, .int .i64 0, .int .i64 0, .int .i64 0, .int .i64 0, .int .i64 0, .int .i64 0, .int .i64 0, .string ⟨#[]⟩, .int .i64 0, .string ⟨#[]⟩, .slice none 0 0] 59)).heap.size (w.alloc (.cells #[.string ⟨#[]⟩, .slice none 0 0, .int .i64 0, .int .i64 0, .int .i64 0, .int .i64 0, .int .i64 0, .int .i64 0, .int .i64 0, .string ⟨#[]⟩, .int .i64 0, .string ⟨#[]⟩, .slice none 0 0] 59)) ((w.alloc (.cells #[.string ⟨#[]⟩, .slice none 0 0, .int .i64 0, .int .i64 0, .int .i64 0, .int .i64 0, .int .i64 0, .int .i64 0, .int .i64 0, .string ⟨#[]⟩, .int .i64 0, .string ⟨#[]⟩, .slice none 0 0] 59)).alloc (.cells #[.string ⟨#[]⟩, .slice none 0 0, .int .i64 0, .int .i64 0, .int .i64 0, .int .i64 0, .int .i64 0, .int .i64 0, .int .i64 0, .string ⟨#[]⟩, .int .i64 0, .string ⟨#[]⟩, .slice none 0 0] 59)) from (Below.refl _ _).alloc (Nat.le_refl _) _)
  have HB0 := Lib.hid (Below.next (show Below w.heap.size w (w.alloc (.cells #[.string ⟨#[]⟩, .slice none 0 0, .int .i64 0, .int .i64 0, .int .i64 0, .int .i64 0, .int .i64 0, .int .i64 0, .int .i64 0, .string ⟨#[]⟩, .int .i64 0, .string ⟨#[]⟩, .slice none 0 0] 59)) from (Below.refl _ _).alloc (Nat.le_refl _) _) hbz)
  have HZ0 := Lib.hid ((show CmBlk (w.alloc (.cells #[.string ⟨#[]⟩, .slice none 0 0, .int .i64 0, .int .i64 0, .int .i64 0, .int .i64 0, .int .i64 0, .int .i64 0, .int .i64 0, .string ⟨#[]⟩, .int .i64 0, .string ⟨#[]⟩, .slice none 0 0] 59)) w.heap.size cmdNone (.slice none 0 0) (.slice none 0 0) from heap_alloc_new w _).below hbz)
  have HY0 := Lib.hid (show CmBlk ((w.alloc (.cells #[.string ⟨#[]⟩, .slice none 0 0, .int .i64 0, .int .i64 0, .int .i64 0, .int .i64 0, .int .i64 0, .int .i64 0, .int .i64 0, .string ⟨#[]⟩, .int .i64 0, .string ⟨#[]⟩, .slice none 0 0] 59)).alloc (.cells #[.string ⟨#[]⟩, .slice none 0 0, .int .i64 0, .int .i64 0, .int .i64 0, .int .i64 0, .int .i64 0, .int .i64 0, .int .i64 0, .string ⟨#[]⟩, .int .i64 0, .string ⟨#[]⟩, .slice none 0 0] 59)) (w.heap.size + 1) cmdNone (.slice none 0 0) (.slice none 0 0) from by have h := heap_alloc_new (w.alloc (.cells #[.string ⟨#[]⟩, .slice none 0 0, .int .i64 0, .int .i64 0, .int .i64 0, .int .i64 0, .int .i64 0, .int .i64 0, .int .i64 0, .string ⟨#[]⟩, .int .i64 0, .string ⟨#[]⟩, .slice none 0 0] 59)) (.cells #[.string ⟨#[]⟩, .slice none 0 0, .int .i64 0, .int .i64 0, .int .i64 0, .int .i64 0, .int .i64 0, .int .i64 0, .int .i64 0, .string ⟨#[]⟩, .int .i64 0, .string ⟨#[]⟩, .slice none 0 0] 59); rw [show (w.alloc (.cells #[.string ⟨#[]⟩, .slice none 0 0, .int .i64 0, .int .i64 0, .int .i64 0, .int .i64 0, .int .i64 0, .int .i64 0, .int .i64 0, .string ⟨#[]⟩, .int .i64 0, .string ⟨#[]⟩, .slice none 0 0] 59)).heap.size = w.heap.size + 1 by simp] at h; exact h)
  clear hbz
  go_enter Tryz.func32, Tryz.ntmps32
  go_wp2_with fail
  generalize (w.alloc (.cells #[.string ⟨#[]⟩, .slice none 0 0, .int .i64 0, .int .i64 0, .int .i64 0, .int .i64 0, .int .i64 0, .int .i64 0, .int .i64 0, .string ⟨#[]⟩, .int .i64 0, .string ⟨#[]⟩, .slice none 0 0] 59)).alloc (.cells #[.string ⟨#[]⟩, .slice none 0 0, .int .i64 0, .int .i64 0, .int .i64 0, .int .i64 0, .int .i64 0, .int .i64 0, .int .i64 0, .string ⟨#[]⟩, .int .i64 0, .string ⟨#[]⟩, .slice none 0 0] 59) = w0 at *
  refine (refSplit_any s 32 _ (by omega)).mono ?_
  rintro x w1 ⟨sv, rfl, hown, hb1⟩
  rw [hsp] at hown
  obtain ⟨g, cap, rfl, hg0, hg1, hcap, hcm, hcs⟩ := own_get hown (by simp)
  unfold maxLen at hcm
  simp only [List.length_cons] at hcap
  have HB1 := Lib.hid (Below.next HB0.out hb1)
  have HZ1 := Lib.hid (HZ0.out.below hb1)
  have HY1 := Lib.hid (HY0.out.below hb1)
  have HCS := Lib.hid (show ∀ (j : Nat) t, (k0 :: args)[j]? = some t → w1.cell? ⟨g, j, none⟩ = some (.string ⟨t.toArray⟩) from fun j t h => hcs j _ (strs_get h))
  have c0 : w1.cell? ⟨g, 0, none⟩ = some (.string ⟨k0.toArray⟩) := HCS.out 0 k0 rfl
  have hylt := HY0.out.lt
  have hgw : w.heap.size + 1 < g := by omega
  clear hown hcs hb1 HB0 HZ0 HY0 hsp hg0 hylt
  go_wp2_with fail
  refine (least_any k0 _).mono ?_
  rintro x w2 ⟨rfl, hb2⟩
  have HB2 := Lib.hid (Below.next HB1.out hb2)
  have HZ2 := Lib.hid (HZ1.out.below hb2)
  have HY2 := Lib.hid (HY1.out.below hb2)
  have HA2 := Lib.hid (show ∀ (j : Nat) t, (k0 :: args)[j]? = some t → w2.cell? ⟨g, j, none⟩ = some (.string ⟨t.toArray⟩) from fun j t h => cell_later hb2 (HCS.out j t h))
  have hs2 := hb2.size
  clear hb2 HB1 HZ1 HY1 HCS c0
  have hbA : Below w2.heap.size w2 (w2.alloc (.cells #[.string ⟨k0.toArray⟩, .slice none 0 0, .int .i64 0, .int .i64 0, .int .i64 0, .int .i64 0, .int .i64 0, .int .i64 0, .int .i64 0, .string ⟨#[]⟩, .int .i64 0, .string ⟨#[]⟩, .slice none 0 0] 59)) := (Below.refl _ _).alloc (Nat.le_refl _) _
  have HB3 := Lib.hid (Below.next HB2.out hbA)
  have HZ3 := Lib.hid (HZ2.out.below hbA)
  have HY3 := Lib.hid (HY2.out.below hbA)
  have HC3 := Lib.hid (show CmBlk (w2.alloc (.cells #[.string ⟨k0.toArray⟩, .slice none 0 0, .int .i64 0, .int .i64 0, .int .i64 0, .int .i64 0, .int .i64 0, .int .i64 0, .int .i64 0, .string ⟨#[]⟩, .int .i64 0, .string ⟨#[]⟩, .slice none 0 0] 59)) w2.heap.size ⟨k0, [], evNone, []⟩ (.slice none 0 0) (.slice none 0 0) from heap_alloc_new w2 _)
  have HA3 := Lib.hid (show ∀ (j : Nat) t, (k0 :: args)[j]? = some t → (w2.alloc (.cells #[.string ⟨k0.toArray⟩, .slice none 0 0, .int .i64 0, .int .i64 0, .int .i64 0, .int .i64 0, .int .i64 0, .int .i64 0, .int .i64 0, .string ⟨#[]⟩, .int .i64 0, .string ⟨#[]⟩, .slice none 0 0] 59)).cell? ⟨g, j, none⟩ = some (.string ⟨t.toArray⟩) from fun j t h => cell_later hbA (HA2.out j t h))
  have hylt := HY2.out.lt
  clear hbA HB2 HZ2 HY2 HA2
  · go_wp2_with (first
      | (with_reducible refine wpList_load_cm rfl (.tmp 4) rfl (w.heap.size + 1) cmdNone (.slice none 0 0) (.slice none 0 0) rfl HY3.out ?_)
      | (with_reducible refine wpList_store_cm rfl (.tmp 2) (.tmp 61) rfl w.heap.size cmdNone cmdNone (.slice none 0 0) (.slice none 0 0) (.slice none 0 0) (.slice none 0 0) rfl rfl rfl rfl HZ3.out ?_))
    exact bodyPost_ret (v := .tuple #[cmV cmdNone (.slice none 0 0) (.slice none 0 0), .int .i64 100]) (results_cm rfl _ _ w.heap.size cmdNone (.slice none 0 0) (.slice none 0 0) _ rfl rfl (HZ3.out.row cmdNone (.slice none 0 0) (.slice none 0 0))) rfl ⟨_, _, by rw [hfin.out], by rw [hfin.out]; exact World.ownsRow_nil _ _ _ _, by rw [hfin.out]; exact World.ownsRow_nil _ _ _ _, Below.row HB3.out (Nat.le_refl _) _⟩

set_option maxRecDepth 100000 in
set_option maxHeartbeats 8000000 in
theorem cmdR_5 (s k0 : List UInt8) (args : List (List UInt8)) (w : World) (hsp : splitOn 32 s = k0 :: args) (hs : s.length ≤ 1048576) (a : List UInt8) (ha : args = [a]) (h5 : shapeV k0 = 5) :
    Calls Tryz.prog 32 #[.string ⟨s.toArray⟩] w (CmPost (cmdOf s) w) := by
  have hof : cmdOf s = cmdParts k0 args := by unfold cmdOf; rw [hsp]
  have hof2 : cmdOf s = match unhexOf a with | none => (cmdNone, 101) | some b => if b = [] then (cmdNone, 101) else (⟨k0, [], evNone, b⟩, 0) := by
    rw [hof, ha]; unfold cmdParts; rw [if_neg (by omega), if_neg (by omega), if_pos h5]; rfl
  have HOF := Lib.hid hof2
  have k6 : decide (leastOf k0 < 0) = false := by
    have h := (least_shape k0).1
    rw [h5] at h
    rw [h]
    decide
  have kp : (k0 == [112, 117, 116]) = true := by rw [beq_iff_eq]; exact shape5.1 h5
  subst ha
  clear hof hof2 h5
  have hwl : Hid (∀ x ∈ k0 :: [a], x.length ≤ 1048576) := Lib.hid fun x hx => by
    have := splitOn_part 32 s x (by rw [hsp]; exact hx)
    omega
  have hcount : [a].length ≤ 1048576 := by
    simp
  have hbz := (show Below (w.alloc (.cells #[.string ⟨#[]⟩, .slice none 0 0, .int .i64 0, .int .i64 0, .int .i64 0, .int .i64 0, .int .i64 0, .int .i64 0, .int .i64 0, .string ⟨#[]⟩, .int .i64 0, .string ⟨#[]⟩, .slice none 0 0] 59)).heap.size (w.alloc (.cells #[.string ⟨#[]⟩, .slice none 0 0, .int .i64 0, .int .i64 0, .int .i64 0, .int .i64 0, .int .i64 0, .int .i64 0, .int .i64 0, .string ⟨#[]⟩, .int .i64 0, .string ⟨#[]⟩, .slice none 0 0] 59)) ((w.alloc (.cells #[.string ⟨#[]⟩, .slice none 0 0, .int .i64 0, .int .i64 0, .int .i64 0, .int .i64 0, .int .i64 0, .int .i64 0, .int .i64 0, .string ⟨#[]⟩, .int .i64 0, .string ⟨#[]⟩, .slice none 0 0] 59)).alloc (.cells #[.string ⟨#[]⟩, .slice none 0 0, .int .i64 0, .int .i64 0, .int .i64 0, .int .i64 0, .int .i64 0, .int .i64 0, .int .i64 0, .string ⟨#[]⟩, .int .i64 0, .string ⟨#[]⟩, .slice none 0 0] 59)) from (Below.refl _ _).alloc (Nat.le_refl _) _)
  have HB0 := Lib.hid (Below.next (show Below w.heap.size w (w.alloc (.cells #[.string ⟨#[]⟩, .slice none 0 0, .int .i64 0, .int .i64 0, .int .i64 0, .int .i64 0, .int .i64 0, .int .i64 0, .int .i64 0, .string ⟨#[]⟩, .int .i64 0, .string ⟨#[]⟩, .slice none 0 0] 59)) from (Below.refl _ _).alloc (Nat.le_refl _) _) hbz)
  have HZ0 := Lib.hid ((show CmBlk (w.alloc (.cells #[.string ⟨#[]⟩, .slice none 0 0, .int .i64 0, .int .i64 0, .int .i64 0, .int .i64 0, .int .i64 0, .int .i64 0, .int .i64 0, .string ⟨#[]⟩, .int .i64 0, .string ⟨#[]⟩, .slice none 0 0] 59)) w.heap.size cmdNone (.slice none 0 0) (.slice none 0 0) from heap_alloc_new w _).below hbz)
  have HY0 := Lib.hid (show CmBlk ((w.alloc (.cells #[.string ⟨#[]⟩, .slice none 0 0, .int .i64 0, .int .i64 0, .int .i64 0, .int .i64 0, .int .i64 0, .int .i64 0, .int .i64 0, .string ⟨#[]⟩, .int .i64 0, .string ⟨#[]⟩, .slice none 0 0] 59)).alloc (.cells #[.string ⟨#[]⟩, .slice none 0 0, .int .i64 0, .int .i64 0, .int .i64 0, .int .i64 0, .int .i64 0, .int .i64 0, .int .i64 0, .string ⟨#[]⟩, .int .i64 0, .string ⟨#[]⟩, .slice none 0 0] 59)) (w.heap.size + 1) cmdNone (.slice none 0 0) (.slice none 0 0) from by have h := heap_alloc_new (w.alloc (.cells #[.string ⟨#[]⟩, .slice none 0 0, .int .i64 0, .int .i64 0, .int .i64 0, .int .i64 0, .int .i64 0, .int .i64 0, .int .i64 0, .string ⟨#[]⟩, .int .i64 0, .string ⟨#[]⟩, .slice none 0 0] 59)) (.cells #[.string ⟨#[]⟩, .slice none 0 0, .int .i64 0, .int .i64 0, .int .i64 0, .int .i64 0, .int .i64 0, .int .i64 0, .int .i64 0, .string ⟨#[]⟩, .int .i64 0, .string ⟨#[]⟩, .slice none 0 0] 59); rw [show (w.alloc (.cells #[.string ⟨#[]⟩, .slice none 0 0, .int .i64 0, .int .i64 0, .int .i64 0, .int .i64 0, .int .i64 0, .int .i64 0, .int .i64 0, .string ⟨#[]⟩, .int .i64 0, .string ⟨#[]⟩, .slice none 0 0] 59)).heap.size = w.heap.size + 1 by simp] at h; exact h)
  clear hbz
  go_enter Tryz.func32, Tryz.ntmps32
  go_wp2_with fail
  generalize (w.alloc (.cells #[.string ⟨#[]⟩, .slice none 0 0, .int .i64 0, .int .i64 0, .int .i64 0, .int .i64 0, .int .i64 0, .int .i64 0, .int .i64 0, .string ⟨#[]⟩, .int .i64 0, .string ⟨#[]⟩, .slice none 0 0] 59)).alloc (.cells #[.string ⟨#[]⟩, .slice none 0 0, .int .i64 0, .int .i64 0, .int .i64 0, .int .i64 0, .int .i64 0, .int .i64 0, .int .i64 0, .string ⟨#[]⟩, .int .i64 0, .string ⟨#[]⟩, .slice none 0 0] 59) = w0 at *
  refine (refSplit_any s 32 _ (by omega)).mono ?_
  rintro x w1 ⟨sv, rfl, hown, hb1⟩
  rw [hsp] at hown
  obtain ⟨g, cap, rfl, hg0, hg1, hcap, hcm, hcs⟩ := own_get hown (by simp)
  unfold maxLen at hcm
  simp only [List.length_cons, List.length_nil] at hcap
  have HB1 := Lib.hid (Below.next HB0.out hb1)
  have HZ1 := Lib.hid (HZ0.out.below hb1)
  have HY1 := Lib.hid (HY0.out.below hb1)
  have HCS := Lib.hid (show ∀ (j : Nat) t, (k0 :: [a])[j]? = some t → w1.cell? ⟨g, j, none⟩ = some (.string ⟨t.toArray⟩) from fun j t h => hcs j _ (strs_get h))
  have c0 : w1.cell? ⟨g, 0, none⟩ = some (.string ⟨k0.toArray⟩) := HCS.out 0 k0 rfl
  have hylt := HY0.out.lt
  have hgw : w.heap.size + 1 < g := by omega
  clear hown hcs hb1 HB0 HZ0 HY0 hsp hg0 hylt
  go_wp2_with fail
  refine (least_any k0 _).mono ?_
  rintro x w2 ⟨rfl, hb2⟩
  have HB2 := Lib.hid (Below.next HB1.out hb2)
  have HZ2 := Lib.hid (HZ1.out.below hb2)
  have HY2 := Lib.hid (HY1.out.below hb2)
  have HA2 := Lib.hid (show ∀ (j : Nat) t, (k0 :: [a])[j]? = some t → w2.cell? ⟨g, j, none⟩ = some (.string ⟨t.toArray⟩) from fun j t h => cell_later hb2 (HCS.out j t h))
  have hs2 := hb2.size
  clear hb2 HB1 HZ1 HY1 HCS c0
  have hbA : Below w2.heap.size w2 (w2.alloc (.cells #[.string ⟨k0.toArray⟩, .slice none 0 0, .int .i64 0, .int .i64 0, .int .i64 0, .int .i64 0, .int .i64 0, .int .i64 0, .int .i64 0, .string ⟨#[]⟩, .int .i64 0, .string ⟨#[]⟩, .slice none 0 0] 59)) := (Below.refl _ _).alloc (Nat.le_refl _) _
  have HB3 := Lib.hid (Below.next HB2.out hbA)
  have HZ3 := Lib.hid (HZ2.out.below hbA)
  have HY3 := Lib.hid (HY2.out.below hbA)
  have HC3 := Lib.hid (show CmBlk (w2.alloc (.cells #[.string ⟨k0.toArray⟩, .slice none 0 0, .int .i64 0, .int .i64 0, .int .i64 0, .int .i64 0, .int .i64 0, .int .i64 0, .int .i64 0, .string ⟨#[]⟩, .int .i64 0, .string ⟨#[]⟩, .slice none 0 0] 59)) w2.heap.size ⟨k0, [], evNone, []⟩ (.slice none 0 0) (.slice none 0 0) from heap_alloc_new w2 _)
  have HA3 := Lib.hid (show ∀ (j : Nat) t, (k0 :: [a])[j]? = some t → (w2.alloc (.cells #[.string ⟨k0.toArray⟩, .slice none 0 0, .int .i64 0, .int .i64 0, .int .i64 0, .int .i64 0, .int .i64 0, .int .i64 0, .int .i64 0, .string ⟨#[]⟩, .int .i64 0, .string ⟨#[]⟩, .slice none 0 0] 59)).cell? ⟨g, j, none⟩ = some (.string ⟨t.toArray⟩) from fun j t h => cell_later hbA (HA2.out j t h))
  have hylt := HY2.out.lt
  clear hbA HB2 HZ2 HY2 HA2
  have c1a : (w2.alloc (.cells #[.string ⟨k0.toArray⟩, .slice none 0 0, .int .i64 0, .int .i64 0, .int .i64 0, .int .i64 0, .int .i64 0, .int .i64 0, .int .i64 0, .string ⟨#[]⟩, .int .i64 0, .string ⟨#[]⟩, .slice none 0 0] 59)).cell? ⟨g, 1, none⟩ = some (.string ⟨a.toArray⟩) := HA3.out 1 a rfl
  have hal := hwl.out a (by simp)
  go_wp2_with fail
  generalize hbe : w2.heap.size = be at *
  generalize w2.alloc (.cells #[.string ⟨k0.toArray⟩, .slice none 0 0, .int .i64 0, .int .i64 0, .int .i64 0, .int .i64 0, .int .i64 0, .int .i64 0, .int .i64 0, .string ⟨#[]⟩, .int .i64 0, .string ⟨#[]⟩, .slice none 0 0] 59) = w3 at *
  have hwb : w.heap.size + 1 < be := by omega
  have hgb : g ≠ be := by omega
  have hgw2 : w.heap.size ≠ g := by omega
  clear hbe hylt hs2 hg1
  refine (refUnhex_any a _ (by omega)).mono ?_
  rintro x w5 ⟨nv, rfl, hn, hb5⟩
  have HZ5 := Lib.hid (HZ3.out.below hb5)
  have HY5 := Lib.hid (HY3.out.below hb5)
  have HC5 := Lib.hid (HC3.out.below hb5)
  have HB5 := Lib.hid (Below.next HB3.out hb5)
  have hs3 := HC3.out.lt
  have d1 : w5.cell? ⟨be, 12, none⟩ = some (.slice none 0 0) := HC5.out.cell 12
  have e1 : w5.frozen? ⟨be, 12, none⟩ = false := HC5.out.free 12
  clear hb5 HZ3 HC3 HB3 HY3 c1a
  cases hu : unhexOf a with
  | none =>
    have hfin := Lib.hid (show cmdOf s = (cmdNone, 101) by rw [HOF.out, hu])
    have he : uErr a = 101 := by simp [uErr, hu]
    have hnv : uVal a = [] := by simp [uVal, hu]
    rw [he]
    rw [hnv] at hn
    obtain ⟨oa5, oc5, rfl, _, _⟩ := own_shape hn
    clear hu he hnv hn
    go_wp2_with (first
      | (with_reducible refine wpList_load_cm rfl (.tmp 4) rfl (w.heap.size + 1) cmdNone (.slice none 0 0) (.slice none 0 0) rfl HY5.out ?_)
      | (with_reducible refine wpList_store_cm rfl (.tmp 2) (.tmp 52) rfl w.heap.size cmdNone cmdNone (.slice none 0 0) (.slice none 0 0) (.slice none 0 0) (.slice none 0 0) rfl rfl rfl rfl HZ5.out ?_))
    exact bodyPost_ret (v := .tuple #[cmV cmdNone (.slice none 0 0) (.slice none 0 0), .int .i64 101]) (results_cm rfl _ _ w.heap.size cmdNone (.slice none 0 0) (.slice none 0 0) _ rfl rfl (HZ5.out.row cmdNone (.slice none 0 0) (.slice none 0 0))) rfl ⟨_, _, by rw [hfin.out], by rw [hfin.out]; exact World.ownsRow_nil _ _ _ _, by rw [hfin.out]; exact World.ownsRow_nil _ _ _ _, Below.row HB5.out (Nat.le_refl _) _⟩
  | some b =>
    have he : uErr a = 0 := by simp [uErr, hu]
    have hnv : uVal a = b := by simp [uVal, hu]
    rw [he]
    rw [hnv] at hn
    obtain ⟨oa5, oc5, rfl, _, _⟩ := own_shape hn
    have HN := Lib.hid hn
    clear he hnv hn
    by_cases hb0 : b = []
    · have hfin := Lib.hid (show cmdOf s = (cmdNone, 101) by rw [HOF.out, hu]; exact if_pos hb0)
      have kb : ((b.length : Int) == 0) = true := by rw [hb0]; rfl
      clear hu hb0
      go_wp2_with (first
        | (with_reducible refine wpList_load_cm rfl (.tmp 4) rfl (w.heap.size + 1) cmdNone (.slice none 0 0) (.slice none 0 0) rfl HY5.out ?_)
        | (with_reducible refine wpList_store_cm rfl (.tmp 2) (.tmp 52) rfl w.heap.size cmdNone cmdNone (.slice none 0 0) (.slice none 0 0) (.slice none 0 0) (.slice none 0 0) rfl rfl rfl rfl HZ5.out ?_))
      exact bodyPost_ret (v := .tuple #[cmV cmdNone (.slice none 0 0) (.slice none 0 0), .int .i64 101]) (results_cm rfl _ _ w.heap.size cmdNone (.slice none 0 0) (.slice none 0 0) _ rfl rfl (HZ5.out.row cmdNone (.slice none 0 0) (.slice none 0 0))) rfl ⟨_, _, by rw [hfin.out], by rw [hfin.out]; exact World.ownsRow_nil _ _ _ _, by rw [hfin.out]; exact World.ownsRow_nil _ _ _ _, Below.row HB5.out (Nat.le_refl _) _⟩
    · have hfin := Lib.hid (show cmdOf s = (⟨k0, [], evNone, b⟩, 0) by rw [HOF.out, hu]; exact if_neg hb0)
      have kb : ((b.length : Int) == 0) = false := by rw [beq_eq_false_iff_ne]; intro h; exact hb0 (List.length_eq_zero_iff.1 (by omega))
      have HC6 := Lib.hid (show CmBlk (w5.setCell ⟨be, 12, none⟩ (.slice oa5 b.length oc5)) be ⟨k0, [], evNone, b⟩ (.slice none 0 0) (.slice oa5 b.length oc5) from HC5.out.put 12 _ rfl)
      have hB6 := But.set (But.refl be w5) 12 (.slice oa5 b.length oc5)
      have HZ6 := Lib.hid (HZ5.out.but hB6 (by omega))
      have HN6 := Lib.hid (own_but' HN.out hB6 (fun e => by have := (HN.out.lt _ e).1; omega))
      have HB6 := Lib.hid (But.below HB5.out hB6 (by omega))
      clear hu hb0 HN hB6 HZ5 HC5 HB5
      go_wp2_with (first
        | (with_reducible refine wpList_load_cm rfl (.tmp 8) rfl be ⟨k0, [], evNone, b⟩ (.slice none 0 0) (.slice oa5 b.length oc5) rfl HC6.out ?_)
        | (with_reducible refine wpList_store_cm rfl (.tmp 2) (.tmp 55) rfl w.heap.size cmdNone ⟨k0, [], evNone, b⟩ (.slice none 0 0) (.slice none 0 0) (.slice none 0 0) (.slice oa5 b.length oc5) rfl rfl rfl rfl HZ6.out ?_))
      exact bodyPost_ret (v := .tuple #[cmV ⟨k0, [], evNone, b⟩ (.slice none 0 0) (.slice oa5 b.length oc5), .int .i64 0]) (results_cm rfl _ _ w.heap.size ⟨k0, [], evNone, b⟩ (.slice none 0 0) (.slice oa5 b.length oc5) _ rfl rfl (HZ6.out.row ⟨k0, [], evNone, b⟩ (.slice none 0 0) (.slice oa5 b.length oc5))) rfl ⟨_, _, by rw [hfin.out], by rw [hfin.out]; exact World.ownsRow_nil _ _ _ _, by rw [hfin.out]; exact own_row (own_mono HN6.out (by omega)) _ _ (fun e => by have := (HN6.out.lt _ e).1; omega), Below.row HB6.out (Nat.le_refl _) _⟩

end Go.Proofs.YtecmpmnidlfgnaaGreatDoor

namespace Go.Proofs.YtecmpmnidlfgnaaGreatDoor
open Go.RowKit

/-! ## the reference's Command: numbers -/

set_option maxRecDepth 100000 in
set_option maxHeartbeats 8000000 in
theorem cmdR_nxa (s k0 : List UInt8) (args : List (List UInt8)) (w : World) (hsp : splitOn 32 s = k0 :: args) (hs : s.length ≤ 1048576) (h6 : shapeV k0 ≠ 6) (h4 : shapeV k0 ≠ 4) (h5 : shapeV k0 ≠ 5) (hc : countOk (shapeV k0) args.length = false) (hb : (args.length : Int) < leastOf k0) :
    Calls Tryz.prog 32 #[.string ⟨s.toArray⟩] w (CmPost (cmdOf s) w) := by
  have hof : cmdOf s = cmdParts k0 args := by unfold cmdOf; rw [hsp]
  have hfin := Lib.hid (show cmdOf s = (cmdNone, 100) by rw [hof]; unfold cmdParts; rw [if_neg h6, if_neg h4, if_neg h5]; unfold cmdNums; rw [if_pos hc])
  have k6 : decide (leastOf k0 < 0) = false := by
    have h := (least_shape k0).1
    have h2 := shape_le k0
    rw [h]
    generalize shapeV k0 = n at *
    match n, h2, h6 with
    | 0, _, _ => rfl
    | 1, _, _ => rfl
    | 2, _, _ => rfl
    | 3, _, _ => rfl
    | 4, _, _ => rfl
    | 5, _, _ => rfl
    | 6, _, h => exact absurd rfl h
  have kp : (k0 == [112, 117, 116]) = false := by rw [beq_eq_false_iff_ne]; intro h; exact h5 (shape5.2 h)
  have ka : (k0 == [97, 112, 112, 101, 110, 100]) = false := by rw [beq_eq_false_iff_ne]; intro h; exact h4 (shape4.2 h)
  have kb : decide ((args.length : Int) < leastOf k0) = true := by simpa using hb
  clear hof h6 h4 h5 hc hb
  have hwl : Hid (∀ x ∈ k0 :: args, x.length ≤ 1048576) := Lib.hid fun x hx => by
    have := splitOn_part 32 s x (by rw [hsp]; exact hx)
    omega
  have hcount : args.length ≤ 1048576 := by
    have := splitOn_length 32 s
    rw [hsp] at this
    simp at this
    omega
  have hbz := (show Below (w.alloc (.cells #[.string ⟨#[]⟩, .slice none 0 0, .int .i64 0, .int .i64 0, .int .i64 0, .int .i64 0, .int .i64 0, .int .i64 0, .int .i64 0, .string ⟨#[]⟩, .int .i64 0, .string ⟨#[]⟩, .slice none 0 0] 59)).heap.size (w.alloc (.cells #[.string ⟨#[]⟩, .slice none 0 0, .int .i64 0, .int .i64 0, .int .i64 0, .int .i64 0, .int .i64 0, .int .i64 0, .int .i64 0, .string ⟨#[]⟩, .int .i64 0, .string ⟨#[]⟩, .slice none 0 0] 59)) ((w.alloc (.cells #[.string ⟨#[]⟩, .slice none 0 0, .int .i64 0, .int .i64 0, .int .i64 0, .int .i64 0, .int .i64 0, .int .i64 0, .int .i64 0, .string ⟨#[]⟩, .int .i64 0, .string ⟨#[]⟩, .slice none 0 0] 59)).alloc (.cells #[.string ⟨#[]⟩, .slice none 0 0, .int .i64 0, .int .i64 0, .int .i64 0, .int .i64 0, .int .i64 0, .int .i64 0, .int .i64 0, .string ⟨#[]⟩, .int .i64 0, .string ⟨#[]⟩, .slice none 0 0] 59)) from (Below.refl _ _).alloc (Nat.le_refl _) _)
  have HB0 := Lib.hid (Below.next (show Below w.heap.size w (w.alloc (.cells #[.string ⟨#[]⟩, .slice none 0 0, .int .i64 0, .int .i64 0, .int .i64 0, .int .i64 0, .int .i64 0, .int .i64 0, .int .i64 0, .string ⟨#[]⟩, .int .i64 0, .string ⟨#[]⟩, .slice none 0 0] 59)) from (Below.refl _ _).alloc (Nat.le_refl _) _) hbz)
  have HZ0 := Lib.hid ((show CmBlk (w.alloc (.cells #[.string ⟨#[]⟩, .slice none 0 0, .int .i64 0, .int .i64 0, .int .i64 0, .int .i64 0, .int .i64 0, .int .i64 0, .int .i64 0, .string ⟨#[]⟩, .int .i64 0, .string ⟨#[]⟩, .slice none 0 0] 59)) w.heap.size cmdNone (.slice none 0 0) (.slice none 0 0) from heap_alloc_new w _).below hbz)
  have HY0 := Lib.hid (show CmBlk ((w.alloc (.cells #[.string ⟨#[]⟩, .slice none 0 0, .int .i64 0, .int .i64 0, .int .i64 0, .int .i64 0, .int .i64 0, .int .i64 0, .int .i64 0, .string ⟨#[]⟩, .int .i64 0, .string ⟨#[]⟩, .slice none 0 0] 59)).alloc (.cells #[.string ⟨#[]⟩, .slice none 0 0, .int .i64 0, .int .i64 0, .int .i64 0, .int .i64 0, .int .i64 0, .int .i64 0, .int .i64 0, .string ⟨#[]⟩, .int .i64 0, .string ⟨#[]⟩, .slice none 0 0] 59)) (w.heap.size + 1) cmdNone (.slice none 0 0) (.slice none 0 0) from by have h := heap_alloc_new (w.alloc (.cells #[.string ⟨#[]⟩, .slice none 0 0, .int .i64 0, .int .i64 0, .int .i64 0, .int .i64 0, .int .i64 0, .int .i64 0, .int .i64 0, .string ⟨#[]⟩, .int .i64 0, .string ⟨#[]⟩, .slice none 0 0] 59)) (.cells #[.string ⟨#[]⟩, .slice none 0 0, .int .i64 0, .int .i64 0, .int .i64 0, .int .i64 0, .int .i64 0, .int .i64 0, .int .i64 0, .string ⟨#[]⟩, .int .i64 0, .string ⟨#[]⟩, .slice none 0 0] 59); rw [show (w.alloc (.cells #[.string ⟨#[]⟩, .slice none 0 0, .int .i64 0, .int .i64 0, .int .i64 0, .int .i64 0, .int .i64 0, .int .i64 0, .int .i64 0, .string ⟨#[]⟩, .int .i64 0, .string ⟨#[]⟩, .slice none 0 0] 59)).heap.size = w.heap.size + 1 by simp] at h; exact h)
  clear hbz
  go_enter Tryz.func32, Tryz.ntmps32
  go_wp2_with fail
  generalize (w.alloc (.cells #[.string ⟨#[]⟩, .slice none 0 0, .int .i64 0, .int .i64 0, .int .i64 0, .int .i64 0, .int .i64 0, .int .i64 0, .int .i64 0, .string ⟨#[]⟩, .int .i64 0, .string ⟨#[]⟩, .slice none 0 0] 59)).alloc (.cells #[.string ⟨#[]⟩, .slice none 0 0, .int .i64 0, .int .i64 0, .int .i64 0, .int .i64 0, .int .i64 0, .int .i64 0, .int .i64 0, .string ⟨#[]⟩, .int .i64 0, .string ⟨#[]⟩, .slice none 0 0] 59) = w0 at *
  refine (refSplit_any s 32 _ (by omega)).mono ?_
  rintro x w1 ⟨sv, rfl, hown, hb1⟩
  rw [hsp] at hown
  obtain ⟨g, cap, rfl, hg0, hg1, hcap, hcm, hcs⟩ := own_get hown (by simp)
  unfold maxLen at hcm
  simp only [List.length_cons] at hcap
  have HB1 := Lib.hid (Below.next HB0.out hb1)
  have HZ1 := Lib.hid (HZ0.out.below hb1)
  have HY1 := Lib.hid (HY0.out.below hb1)
  have HCS := Lib.hid (show ∀ (j : Nat) t, (k0 :: args)[j]? = some t → w1.cell? ⟨g, j, none⟩ = some (.string ⟨t.toArray⟩) from fun j t h => hcs j _ (strs_get h))
  have c0 : w1.cell? ⟨g, 0, none⟩ = some (.string ⟨k0.toArray⟩) := HCS.out 0 k0 rfl
  have hylt := HY0.out.lt
  have hgw : w.heap.size + 1 < g := by omega
  clear hown hcs hb1 HB0 HZ0 HY0 hsp hg0 hylt
  go_wp2_with fail
  refine (least_any k0 _).mono ?_
  rintro x w2 ⟨rfl, hb2⟩
  have HB2 := Lib.hid (Below.next HB1.out hb2)
  have HZ2 := Lib.hid (HZ1.out.below hb2)
  have HY2 := Lib.hid (HY1.out.below hb2)
  have HA2 := Lib.hid (show ∀ (j : Nat) t, (k0 :: args)[j]? = some t → w2.cell? ⟨g, j, none⟩ = some (.string ⟨t.toArray⟩) from fun j t h => cell_later hb2 (HCS.out j t h))
  have hs2 := hb2.size
  clear hb2 HB1 HZ1 HY1 HCS c0
  have hbA : Below w2.heap.size w2 (w2.alloc (.cells #[.string ⟨k0.toArray⟩, .slice none 0 0, .int .i64 0, .int .i64 0, .int .i64 0, .int .i64 0, .int .i64 0, .int .i64 0, .int .i64 0, .string ⟨#[]⟩, .int .i64 0, .string ⟨#[]⟩, .slice none 0 0] 59)) := (Below.refl _ _).alloc (Nat.le_refl _) _
  have HB3 := Lib.hid (Below.next HB2.out hbA)
  have HZ3 := Lib.hid (HZ2.out.below hbA)
  have HY3 := Lib.hid (HY2.out.below hbA)
  have HC3 := Lib.hid (show CmBlk (w2.alloc (.cells #[.string ⟨k0.toArray⟩, .slice none 0 0, .int .i64 0, .int .i64 0, .int .i64 0, .int .i64 0, .int .i64 0, .int .i64 0, .int .i64 0, .string ⟨#[]⟩, .int .i64 0, .string ⟨#[]⟩, .slice none 0 0] 59)) w2.heap.size ⟨k0, [], evNone, []⟩ (.slice none 0 0) (.slice none 0 0) from heap_alloc_new w2 _)
  have HA3 := Lib.hid (show ∀ (j : Nat) t, (k0 :: args)[j]? = some t → (w2.alloc (.cells #[.string ⟨k0.toArray⟩, .slice none 0 0, .int .i64 0, .int .i64 0, .int .i64 0, .int .i64 0, .int .i64 0, .int .i64 0, .int .i64 0, .string ⟨#[]⟩, .int .i64 0, .string ⟨#[]⟩, .slice none 0 0] 59)).cell? ⟨g, j, none⟩ = some (.string ⟨t.toArray⟩) from fun j t h => cell_later hbA (HA2.out j t h))
  have hylt := HY2.out.lt
  clear hbA HB2 HZ2 HY2 HA2
  · go_wp2_with (first
      | (go_at_call 41; (with_reducible refine (least_any _ _).mono ?_); rintro x w4 ⟨rfl, hb4⟩; have HB4 := Lib.hid (Below.next HB3.out hb4); have HZ4 := Lib.hid (HZ3.out.below hb4); have HY4 := Lib.hid (HY3.out.below hb4); have HC4 := Lib.hid (HC3.out.below hb4); have HA4 := Lib.hid (show ∀ (j : Nat) t, (k0 :: args)[j]? = some t → w4.cell? ⟨g, j, none⟩ = some (.string ⟨t.toArray⟩) from fun j t h => cell_later hb4 (HA3.out j t h)))
      | (with_reducible refine wpList_load_cm rfl (.tmp 4) rfl (w.heap.size + 1) cmdNone (.slice none 0 0) (.slice none 0 0) rfl HY4.out ?_)
      | (with_reducible refine wpList_store_cm rfl (.tmp 2) (.tmp 72) rfl w.heap.size cmdNone cmdNone (.slice none 0 0) (.slice none 0 0) (.slice none 0 0) (.slice none 0 0) rfl rfl rfl rfl HZ4.out ?_))
    exact bodyPost_ret (v := .tuple #[cmV cmdNone (.slice none 0 0) (.slice none 0 0), .int .i64 100]) (results_cm rfl _ _ w.heap.size cmdNone (.slice none 0 0) (.slice none 0 0) _ rfl rfl (HZ4.out.row cmdNone (.slice none 0 0) (.slice none 0 0))) rfl ⟨_, _, by rw [hfin.out], by rw [hfin.out]; exact World.ownsRow_nil _ _ _ _, by rw [hfin.out]; exact World.ownsRow_nil _ _ _ _, Below.row HB4.out (Nat.le_refl _) _⟩

set_option maxRecDepth 100000 in
set_option maxHeartbeats 8000000 in
theorem cmdR_nxb (s k0 : List UInt8) (args : List (List UInt8)) (w : World) (hsp : splitOn 32 s = k0 :: args) (hs : s.length ≤ 1048576) (h6 : shapeV k0 ≠ 6) (h4 : shapeV k0 ≠ 4) (h5 : shapeV k0 ≠ 5) (hc : countOk (shapeV k0) args.length = false) (hb : ¬ (args.length : Int) < leastOf k0) (hm : mostOf k0 < (args.length : Int)) :
    Calls Tryz.prog 32 #[.string ⟨s.toArray⟩] w (CmPost (cmdOf s) w) := by
  have hof : cmdOf s = cmdParts k0 args := by unfold cmdOf; rw [hsp]
  have hfin := Lib.hid (show cmdOf s = (cmdNone, 100) by rw [hof]; unfold cmdParts; rw [if_neg h6, if_neg h4, if_neg h5]; unfold cmdNums; rw [if_pos hc])
  have k6 : decide (leastOf k0 < 0) = false := by
    have h := (least_shape k0).1
    have h2 := shape_le k0
    rw [h]
    generalize shapeV k0 = n at *
    match n, h2, h6 with
    | 0, _, _ => rfl
    | 1, _, _ => rfl
    | 2, _, _ => rfl
    | 3, _, _ => rfl
    | 4, _, _ => rfl
    | 5, _, _ => rfl
    | 6, _, h => exact absurd rfl h
  have kp : (k0 == [112, 117, 116]) = false := by rw [beq_eq_false_iff_ne]; intro h; exact h5 (shape5.2 h)
  have ka : (k0 == [97, 112, 112, 101, 110, 100]) = false := by rw [beq_eq_false_iff_ne]; intro h; exact h4 (shape4.2 h)
  have kb : decide ((args.length : Int) < leastOf k0) = false := by simpa using hb
  have km : decide (mostOf k0 < (args.length : Int)) = true := by simpa using hm
  clear hof h6 h4 h5 hc hb hm
  have hwl : Hid (∀ x ∈ k0 :: args, x.length ≤ 1048576) := Lib.hid fun x hx => by
    have := splitOn_part 32 s x (by rw [hsp]; exact hx)
    omega
  have hcount : args.length ≤ 1048576 := by
    have := splitOn_length 32 s
    rw [hsp] at this
    simp at this
    omega
  have hbz := (show Below (w.alloc (.cells #[.string ⟨#[]⟩, .slice none 0 0, .int .i64 0, .int .i64 0, .int .i64 0, .int .i64 0, .int .i64 0, .int .i64 0, .int .i64 0, .string ⟨#[]⟩, .int .i64 0, .string ⟨#[]⟩, .slice none 0 0] 59)).heap.size (w.alloc (.cells #[.string ⟨#[]⟩, .slice none 0 0, .int .i64 0, .int .i64 0, .int .i64 0, .int .i64 0, .int .i64 0, .int .i64 0, .int .i64 0, .string ⟨#[]⟩, .int .i64 0, .string ⟨#[]⟩, .slice none 0 0] 59)) ((w.alloc (.cells #[.string ⟨#[]⟩, .slice none 0 0, .int .i64 0, .int .i64 0, .int .i64 0, .int .i64 0, .int .i64 0, .int .i64 0, .int .i64 0, .string ⟨#[]⟩, .int .i64 0, .string ⟨#[]⟩, .slice none 0 0] 59)).alloc (.cells #[.string ⟨#[]⟩, .slice none 0 0, .int .i64 0, .int .i64 0, .int .i64 0, .int .i64 0, .int .i64 0, .int .i64 0, .int .i64 0, .string ⟨#[]⟩, .int .i64 0, .string ⟨#[]⟩, .slice none 0 0] 59)) from (Below.refl _ _).alloc (Nat.le_refl _) _)
  have HB0 := Lib.hid (Below.next (show Below w.heap.size w (w.alloc (.cells #[.string ⟨#[]⟩, .slice none 0 0, .int .i64 0, .int .i64 0, .int .i64 0, .int .i64 0, .int .i64 0, .int .i64 0, .int .i64 0, .string ⟨#[]⟩, .int .i64 0, .string ⟨#[]⟩, .slice none 0 0] 59)) from (Below.refl _ _).alloc (Nat.le_refl _) _) hbz)
  have HZ0 := Lib.hid ((show CmBlk (w.alloc (.cells #[.string ⟨#[]⟩, .slice none 0 0, .int .i64 0, .int .i64 0, .int .i64 0, .int .i64 0, .int .i64 0, .int .i64 0, .int .i64 0, .string ⟨#[]⟩, .int .i64 0, .string ⟨#[]⟩, .slice none 0 0] 59)) w.heap.size cmdNone (.slice none 0 0) (.slice none 0 0) from heap_alloc_new w _).below hbz)
  have HY0 := Lib.hid (show CmBlk ((w.alloc (.cells #[.string ⟨#[]⟩, .slice none 0 0, .int .i64 0, .int .i64 0, .int .i64 0, .int .i64 0, .int .i64 0, .int .i64 0, .int .i64 0, .string ⟨#[]⟩, .int .i64 0, .string ⟨#[]⟩, .slice none 0 0] 59)).alloc (.cells #[.string ⟨#[]⟩, .slice none 0 0, .int .i64 0, .int .i64 0, .int .i64 0, .int .i64 0, .int .i64 0, .int .i64 0, .int .i64 0, .string ⟨#[]⟩, .int .i64 0, .string ⟨#[]⟩, .slice none 0 0] 59)) (w.heap.size + 1) cmdNone (.slice none 0 0) (.slice none 0 0) from by have h := heap_alloc_new (w.alloc (.cells #[.string ⟨#[]⟩, .slice none 0 0, .int .i64 0, .int .i64 0, .int .i64 0, .int .i64 0, .int .i64 0, .int .i64 0, .int .i64 0, .string ⟨#[]⟩, .int .i64 0, .string ⟨#[]⟩, .slice none 0 0] 59)) (.cells #[.string ⟨#[]⟩, .slice none 0 0, .int .i64 0, .int .i64 0, .int .i64 0, .int .i64 0, .int .i64 0, .int .i64 0, .int .i64 0, .string ⟨#[]⟩, .int .i64 0, .string ⟨#[]⟩, .slice none 0 0] 59); rw [show (w.alloc (.cells #[.string ⟨#[]⟩, .slice none 0 0, .int .i64 0, .int .i64 0, .int .i64 0, .int .i64 0, .int .i64 0, .int .i64 0, .int .i64 0, .string ⟨#[]⟩, .int .i64 0, .string ⟨#[]⟩, .slice none 0 0] 59)).heap.size = w.heap.size + 1 by simp] at h; exact h)
  clear hbz
  go_enter Tryz.func32, Tryz.ntmps32
  go_wp2_with fail
  generalize (w.alloc (.cells #[.string ⟨#[]⟩, .slice none 0 0, .int .i64 0, .int .i64 0, .int .i64 0, .int .i64 0, .int .i64 0, .int .i64 0, .int .i64 0, .string ⟨#[]⟩, .int .i64 0, .string ⟨#[]⟩, .slice none 0 0] 59)).alloc (.cells #[.string ⟨#[]⟩, .slice none 0 0, .int .i64 0, .int .i64 0, .int .i64 0, .int .i64 0, .int .i64 0, .int .i64 0, .int .i64 0, .string ⟨#[]⟩, .int .i64 0, .string ⟨#[]⟩, .slice none 0 0] 59) = w0 at *
  refine (refSplit_any s 32 _ (by omega)).mono ?_
  rintro x w1 ⟨sv, rfl, hown, hb1⟩
  rw [hsp] at hown
  obtain ⟨g, cap, rfl, hg0, hg1, hcap, hcm, hcs⟩ := own_get hown (by simp)
  unfold maxLen at hcm
  simp only [List.length_cons] at hcap
  have HB1 := Lib.hid (Below.next HB0.out hb1)
  have HZ1 := Lib.hid (HZ0.out.below hb1)
  have HY1 := Lib.hid (HY0.out.below hb1)
  have HCS := Lib.hid (show ∀ (j : Nat) t, (k0 :: args)[j]? = some t → w1.cell? ⟨g, j, none⟩ = some (.string ⟨t.toArray⟩) from fun j t h => hcs j _ (strs_get h))
  have c0 : w1.cell? ⟨g, 0, none⟩ = some (.string ⟨k0.toArray⟩) := HCS.out 0 k0 rfl
  have hylt := HY0.out.lt
  have hgw : w.heap.size + 1 < g := by omega
  clear hown hcs hb1 HB0 HZ0 HY0 hsp hg0 hylt
  go_wp2_with fail
  refine (least_any k0 _).mono ?_
  rintro x w2 ⟨rfl, hb2⟩
  have HB2 := Lib.hid (Below.next HB1.out hb2)
  have HZ2 := Lib.hid (HZ1.out.below hb2)
  have HY2 := Lib.hid (HY1.out.below hb2)
  have HA2 := Lib.hid (show ∀ (j : Nat) t, (k0 :: args)[j]? = some t → w2.cell? ⟨g, j, none⟩ = some (.string ⟨t.toArray⟩) from fun j t h => cell_later hb2 (HCS.out j t h))
  have hs2 := hb2.size
  clear hb2 HB1 HZ1 HY1 HCS c0
  have hbA : Below w2.heap.size w2 (w2.alloc (.cells #[.string ⟨k0.toArray⟩, .slice none 0 0, .int .i64 0, .int .i64 0, .int .i64 0, .int .i64 0, .int .i64 0, .int .i64 0, .int .i64 0, .string ⟨#[]⟩, .int .i64 0, .string ⟨#[]⟩, .slice none 0 0] 59)) := (Below.refl _ _).alloc (Nat.le_refl _) _
  have HB3 := Lib.hid (Below.next HB2.out hbA)
  have HZ3 := Lib.hid (HZ2.out.below hbA)
  have HY3 := Lib.hid (HY2.out.below hbA)
  have HC3 := Lib.hid (show CmBlk (w2.alloc (.cells #[.string ⟨k0.toArray⟩, .slice none 0 0, .int .i64 0, .int .i64 0, .int .i64 0, .int .i64 0, .int .i64 0, .int .i64 0, .int .i64 0, .string ⟨#[]⟩, .int .i64 0, .string ⟨#[]⟩, .slice none 0 0] 59)) w2.heap.size ⟨k0, [], evNone, []⟩ (.slice none 0 0) (.slice none 0 0) from heap_alloc_new w2 _)
  have HA3 := Lib.hid (show ∀ (j : Nat) t, (k0 :: args)[j]? = some t → (w2.alloc (.cells #[.string ⟨k0.toArray⟩, .slice none 0 0, .int .i64 0, .int .i64 0, .int .i64 0, .int .i64 0, .int .i64 0, .int .i64 0, .int .i64 0, .string ⟨#[]⟩, .int .i64 0, .string ⟨#[]⟩, .slice none 0 0] 59)).cell? ⟨g, j, none⟩ = some (.string ⟨t.toArray⟩) from fun j t h => cell_later hbA (HA2.out j t h))
  have hylt := HY2.out.lt
  clear hbA HB2 HZ2 HY2 HA2
  · go_wp2_with (first
      | (go_at_call 41; (with_reducible refine (least_any _ _).mono ?_); rintro x w4 ⟨rfl, hb4⟩; have HB4 := Lib.hid (Below.next HB3.out hb4); have HZ4 := Lib.hid (HZ3.out.below hb4); have HY4 := Lib.hid (HY3.out.below hb4); have HC4 := Lib.hid (HC3.out.below hb4); have HA4 := Lib.hid (show ∀ (j : Nat) t, (k0 :: args)[j]? = some t → w4.cell? ⟨g, j, none⟩ = some (.string ⟨t.toArray⟩) from fun j t h => cell_later hb4 (HA3.out j t h))) | (go_at_call 65; (with_reducible refine (most_any _ _).mono ?_); rintro x w5 ⟨rfl, hb5⟩; have HB5 := Lib.hid (Below.next HB4.out hb5); have HZ5 := Lib.hid (HZ4.out.below hb5); have HY5 := Lib.hid (HY4.out.below hb5); have HC5 := Lib.hid (HC4.out.below hb5); have HA5 := Lib.hid (show ∀ (j : Nat) t, (k0 :: args)[j]? = some t → w5.cell? ⟨g, j, none⟩ = some (.string ⟨t.toArray⟩) from fun j t h => cell_later hb5 (HA4.out j t h)))
      | (with_reducible refine wpList_load_cm rfl (.tmp 4) rfl (w.heap.size + 1) cmdNone (.slice none 0 0) (.slice none 0 0) rfl HY5.out ?_)
      | (with_reducible refine wpList_store_cm rfl (.tmp 2) (.tmp 72) rfl w.heap.size cmdNone cmdNone (.slice none 0 0) (.slice none 0 0) (.slice none 0 0) (.slice none 0 0) rfl rfl rfl rfl HZ5.out ?_))
    exact bodyPost_ret (v := .tuple #[cmV cmdNone (.slice none 0 0) (.slice none 0 0), .int .i64 100]) (results_cm rfl _ _ w.heap.size cmdNone (.slice none 0 0) (.slice none 0 0) _ rfl rfl (HZ5.out.row cmdNone (.slice none 0 0) (.slice none 0 0))) rfl ⟨_, _, by rw [hfin.out], by rw [hfin.out]; exact World.ownsRow_nil _ _ _ _, by rw [hfin.out]; exact World.ownsRow_nil _ _ _ _, Below.row HB5.out (Nat.le_refl _) _⟩

set_option maxRecDepth 100000 in
set_option maxHeartbeats 8000000 in
theorem cmdR_n (s k0 : List UInt8) (args : List (List UInt8)) (w : World) (hsp : splitOn 32 s = k0 :: args) (hs : s.length ≤ 1048576) (h6 : shapeV k0 ≠ 6) (h4 : shapeV k0 ≠ 4) (h5 : shapeV k0 ≠ 5) (hc : countOk (shapeV k0) args.length = true) :
    Calls Tryz.prog 32 #[.string ⟨s.toArray⟩] w (CmPost (cmdOf s) w) := by
  have hof : cmdOf s = cmdParts k0 args := by unfold cmdOf; rw [hsp]
  have hof2 : cmdOf s = match numsOf args with | none => (cmdNone, 101) | some ns => (⟨k0, ns, evNone, []⟩, 0) := by
    rw [hof]; unfold cmdParts; rw [if_neg h6, if_neg h4, if_neg h5]; unfold cmdNums; rw [if_neg (by rw [hc]; decide)]; rfl
  have HOF := Lib.hid hof2
  have HTL := Lib.hid (show (joinBy 32 (k0 :: args)).length ≤ 1048576 by rw [← hsp, join_split]; exact hs)
  obtain ⟨i0, hi, hz0, hz1, hz2⟩ := info_parts infoInt
  have hcnt : ¬ (shapeV k0 = 6 ∨ countOk (shapeV k0) args.length = false) := by rintro (h | h); exact h6 h; rw [hc] at h; exact absurd h (by decide)
  rw [count_iff] at hcnt
  have kb : decide ((args.length : Int) < leastOf k0) = false := by simpa using fun h => hcnt (.inr (.inl h))
  have km : decide (mostOf k0 < (args.length : Int)) = false := by simpa using fun h => hcnt (.inr (.inr h))
  have k6 : decide (leastOf k0 < 0) = false := by
    have h := (least_shape k0).1
    have h2 := shape_le k0
    rw [h]
    generalize shapeV k0 = n at *
    match n, h2, h6 with
    | 0, _, _ => rfl
    | 1, _, _ => rfl
    | 2, _, _ => rfl
    | 3, _, _ => rfl
    | 4, _, _ => rfl
    | 5, _, _ => rfl
    | 6, _, h => exact absurd rfl h
  have kp : (k0 == [112, 117, 116]) = false := by rw [beq_eq_false_iff_ne]; intro h; exact h5 (shape5.2 h)
  have ka : (k0 == [97, 112, 112, 101, 110, 100]) = false := by rw [beq_eq_false_iff_ne]; intro h; exact h4 (shape4.2 h)
  clear hof hof2 h6 h4 h5 hc hcnt
  have hwl : Hid (∀ x ∈ k0 :: args, x.length ≤ 1048576) := Lib.hid fun x hx => by
    have := splitOn_part 32 s x (by rw [hsp]; exact hx)
    omega
  have hcount : args.length ≤ 1048576 := by
    have := splitOn_length 32 s
    rw [hsp] at this
    simp at this
    omega
  have hbz := (show Below (w.alloc (.cells #[.string ⟨#[]⟩, .slice none 0 0, .int .i64 0, .int .i64 0, .int .i64 0, .int .i64 0, .int .i64 0, .int .i64 0, .int .i64 0, .string ⟨#[]⟩, .int .i64 0, .string ⟨#[]⟩, .slice none 0 0] 59)).heap.size (w.alloc (.cells #[.string ⟨#[]⟩, .slice none 0 0, .int .i64 0, .int .i64 0, .int .i64 0, .int .i64 0, .int .i64 0, .int .i64 0, .int .i64 0, .string ⟨#[]⟩, .int .i64 0, .string ⟨#[]⟩, .slice none 0 0] 59)) ((w.alloc (.cells #[.string ⟨#[]⟩, .slice none 0 0, .int .i64 0, .int .i64 0, .int .i64 0, .int .i64 0, .int .i64 0, .int .i64 0, .int .i64 0, .string ⟨#[]⟩, .int .i64 0, .string ⟨#[]⟩, .slice none 0 0] 59)).alloc (.cells #[.string ⟨#[]⟩, .slice none 0 0, .int .i64 0, .int .i64 0, .int .i64 0, .int .i64 0, .int .i64 0, .int .i64 0, .int .i64 0, .string ⟨#[]⟩, .int .i64 0, .string ⟨#[]⟩, .slice none 0 0] 59)) from (Below.refl _ _).alloc (Nat.le_refl _) _)
  have HB0 := Lib.hid (Below.next (show Below w.heap.size w (w.alloc (.cells #[.string ⟨#[]⟩, .slice none 0 0, .int .i64 0, .int .i64 0, .int .i64 0, .int .i64 0, .int .i64 0, .int .i64 0, .int .i64 0, .string ⟨#[]⟩, .int .i64 0, .string ⟨#[]⟩, .slice none 0 0] 59)) from (Below.refl _ _).alloc (Nat.le_refl _) _) hbz)
  have HZ0 := Lib.hid ((show CmBlk (w.alloc (.cells #[.string ⟨#[]⟩, .slice none 0 0, .int .i64 0, .int .i64 0, .int .i64 0, .int .i64 0, .int .i64 0, .int .i64 0, .int .i64 0, .string ⟨#[]⟩, .int .i64 0, .string ⟨#[]⟩, .slice none 0 0] 59)) w.heap.size cmdNone (.slice none 0 0) (.slice none 0 0) from heap_alloc_new w _).below hbz)
  have HY0 := Lib.hid (show CmBlk ((w.alloc (.cells #[.string ⟨#[]⟩, .slice none 0 0, .int .i64 0, .int .i64 0, .int .i64 0, .int .i64 0, .int .i64 0, .int .i64 0, .int .i64 0, .string ⟨#[]⟩, .int .i64 0, .string ⟨#[]⟩, .slice none 0 0] 59)).alloc (.cells #[.string ⟨#[]⟩, .slice none 0 0, .int .i64 0, .int .i64 0, .int .i64 0, .int .i64 0, .int .i64 0, .int .i64 0, .int .i64 0, .string ⟨#[]⟩, .int .i64 0, .string ⟨#[]⟩, .slice none 0 0] 59)) (w.heap.size + 1) cmdNone (.slice none 0 0) (.slice none 0 0) from by have h := heap_alloc_new (w.alloc (.cells #[.string ⟨#[]⟩, .slice none 0 0, .int .i64 0, .int .i64 0, .int .i64 0, .int .i64 0, .int .i64 0, .int .i64 0, .int .i64 0, .string ⟨#[]⟩, .int .i64 0, .string ⟨#[]⟩, .slice none 0 0] 59)) (.cells #[.string ⟨#[]⟩, .slice none 0 0, .int .i64 0, .int .i64 0, .int .i64 0, .int .i64 0, .int .i64 0, .int .i64 0, .int .i64 0, .string ⟨#[]⟩, .int .i64 0, .string ⟨#[]⟩, .slice none 0 0] 59); rw [show (w.alloc (.cells #[.string ⟨#[]⟩, .slice none 0 0, .int .i64 0, .int .i64 0, .int .i64 0, .int .i64 0, .int .i64 0, .int .i64 0, .int .i64 0, .string ⟨#[]⟩, .int .i64 0, .string ⟨#[]⟩, .slice none 0 0] 59)).heap.size = w.heap.size + 1 by simp] at h; exact h)
  clear hbz
  go_enter Tryz.func32, Tryz.ntmps32
  go_wp2_with fail
  generalize (w.alloc (.cells #[.string ⟨#[]⟩, .slice none 0 0, .int .i64 0, .int .i64 0, .int .i64 0, .int .i64 0, .int .i64 0, .int .i64 0, .int .i64 0, .string ⟨#[]⟩, .int .i64 0, .string ⟨#[]⟩, .slice none 0 0] 59)).alloc (.cells #[.string ⟨#[]⟩, .slice none 0 0, .int .i64 0, .int .i64 0, .int .i64 0, .int .i64 0, .int .i64 0, .int .i64 0, .int .i64 0, .string ⟨#[]⟩, .int .i64 0, .string ⟨#[]⟩, .slice none 0 0] 59) = w0 at *
  refine (refSplit_any s 32 _ (by omega)).mono ?_
  rintro x w1 ⟨sv, rfl, hown, hb1⟩
  rw [hsp] at hown
  obtain ⟨g, cap, rfl, hg0, hg1, hcap, hcm, hcs⟩ := own_get hown (by simp)
  unfold maxLen at hcm
  simp only [List.length_cons] at hcap
  have HB1 := Lib.hid (Below.next HB0.out hb1)
  have HZ1 := Lib.hid (HZ0.out.below hb1)
  have HY1 := Lib.hid (HY0.out.below hb1)
  have HCS := Lib.hid (show ∀ (j : Nat) t, (k0 :: args)[j]? = some t → w1.cell? ⟨g, j, none⟩ = some (.string ⟨t.toArray⟩) from fun j t h => hcs j _ (strs_get h))
  have c0 : w1.cell? ⟨g, 0, none⟩ = some (.string ⟨k0.toArray⟩) := HCS.out 0 k0 rfl
  have hylt := HY0.out.lt
  have hgw : w.heap.size + 1 < g := by omega
  clear hown hcs hb1 HB0 HZ0 HY0 hsp hg0 hylt
  go_wp2_with fail
  refine (least_any k0 _).mono ?_
  rintro x w2 ⟨rfl, hb2⟩
  have HB2 := Lib.hid (Below.next HB1.out hb2)
  have HZ2 := Lib.hid (HZ1.out.below hb2)
  have HY2 := Lib.hid (HY1.out.below hb2)
  have HA2 := Lib.hid (show ∀ (j : Nat) t, (k0 :: args)[j]? = some t → w2.cell? ⟨g, j, none⟩ = some (.string ⟨t.toArray⟩) from fun j t h => cell_later hb2 (HCS.out j t h))
  have hs2 := hb2.size
  clear hb2 HB1 HZ1 HY1 HCS c0
  have hbA : Below w2.heap.size w2 (w2.alloc (.cells #[.string ⟨k0.toArray⟩, .slice none 0 0, .int .i64 0, .int .i64 0, .int .i64 0, .int .i64 0, .int .i64 0, .int .i64 0, .int .i64 0, .string ⟨#[]⟩, .int .i64 0, .string ⟨#[]⟩, .slice none 0 0] 59)) := (Below.refl _ _).alloc (Nat.le_refl _) _
  have HB3 := Lib.hid (Below.next HB2.out hbA)
  have HZ3 := Lib.hid (HZ2.out.below hbA)
  have HY3 := Lib.hid (HY2.out.below hbA)
  have HC3 := Lib.hid (show CmBlk (w2.alloc (.cells #[.string ⟨k0.toArray⟩, .slice none 0 0, .int .i64 0, .int .i64 0, .int .i64 0, .int .i64 0, .int .i64 0, .int .i64 0, .int .i64 0, .string ⟨#[]⟩, .int .i64 0, .string ⟨#[]⟩, .slice none 0 0] 59)) w2.heap.size ⟨k0, [], evNone, []⟩ (.slice none 0 0) (.slice none 0 0) from heap_alloc_new w2 _)
  have HA3 := Lib.hid (show ∀ (j : Nat) t, (k0 :: args)[j]? = some t → (w2.alloc (.cells #[.string ⟨k0.toArray⟩, .slice none 0 0, .int .i64 0, .int .i64 0, .int .i64 0, .int .i64 0, .int .i64 0, .int .i64 0, .int .i64 0, .string ⟨#[]⟩, .int .i64 0, .string ⟨#[]⟩, .slice none 0 0] 59)).cell? ⟨g, j, none⟩ = some (.string ⟨t.toArray⟩) from fun j t h => cell_later hbA (HA2.out j t h))
  have hylt := HY2.out.lt
  clear hbA HB2 HZ2 HY2 HA2
  go_wp2_with (first
    | (go_at_call 41; (with_reducible refine (least_any _ _).mono ?_); rintro x w4 ⟨rfl, hb4⟩; have HB4 := Lib.hid (Below.next HB3.out hb4); have HZ4 := Lib.hid (HZ3.out.below hb4); have HY4 := Lib.hid (HY3.out.below hb4); have HC4 := Lib.hid (HC3.out.below hb4); have HA4 := Lib.hid (show ∀ (j : Nat) t, (k0 :: args)[j]? = some t → w4.cell? ⟨g, j, none⟩ = some (.string ⟨t.toArray⟩) from fun j t h => cell_later hb4 (HA3.out j t h)))
    | (go_at_call 65; (with_reducible refine (most_any _ _).mono ?_); rintro x w5 ⟨rfl, hb5⟩; have HB5 := Lib.hid (Below.next HB4.out hb5); have HZ5 := Lib.hid (HZ4.out.below hb5); have HY5 := Lib.hid (HY4.out.below hb5); have HC5 := Lib.hid (HC4.out.below hb5); have HA5 := Lib.hid (show ∀ (j : Nat) t, (k0 :: args)[j]? = some t → w5.cell? ⟨g, j, none⟩ = some (.string ⟨t.toArray⟩) from fun j t h => cell_later hb5 (HA4.out j t h))))
  generalize hbe : w2.heap.size = be at *
  generalize w2.alloc (.cells #[.string ⟨k0.toArray⟩, .slice none 0 0, .int .i64 0, .int .i64 0, .int .i64 0, .int .i64 0, .int .i64 0, .int .i64 0, .int .i64 0, .string ⟨#[]⟩, .int .i64 0, .string ⟨#[]⟩, .slice none 0 0] 59) = w3 at *
  have hwb : w.heap.size + 1 < be := by omega
  have hgb : g ≠ be := by omega
  have HBB := HB5
  have HZB := HZ5
  have HYB := HY5
  have HCB := HC5
  have HAB := HA5
  have hbl := HC5.out.lt
  clear hbe hylt hs2 hg1 HB3 HZ3 HY3 HC3 HA3 HB4 HZ4 HY4 HC4 HA4 HB5 HZ5 HY5 HC5 HA5 hb4 hb5
  generalize w5 = wB at *
  go_loopw [12, 13] (fun av iv wr => ∃ (k : Nat) (acc : List Int) (oa : Option Addr) (oc : Nat), k ≤ args.length ∧ acc.length = k ∧ iv = .int .i64 (k + 1 : Nat) ∧ av = .int .i64 ((joinBy 32 (k0 :: args.take k)).length : Nat) ∧ CmBlk wr be ⟨k0, acc, evNone, []⟩ (.slice oa acc.length oc) (.slice none 0 0) ∧ wr.ownsRow wB.heap.size 3 1 (.slice oa acc.length oc) acc.length (intCells acc) ∧ But be wB wr ∧ Hid (numsOf args = addN acc (numsOf (args.drop k)))) (fun _ iv _ => args.length + 1 - (intOf iv).toNat)
  case atStart => exact ⟨0, [], none, 0, Nat.zero_le _, rfl, rfl, by simp [joinBy], HCB.out, World.ownsRow_nil _ _ _ _, But.refl _ _, Lib.hid (by rw [List.drop_zero]; exact addN_nil _)⟩
  case round =>
    obtain ⟨k, acc, oa, oc, hk, hacc, rfl, rfl, hC, hO, hB, HT⟩ := hrel
    have HC := Lib.hid hC
    have HO := Lib.hid hO
    have HB := Lib.hid hB
    have hszB := hB.size
    have HACC := Lib.hid hacc
    have hal : acc.length ≤ k := by omega
    clear hC hO hB hacc
    by_cases hlt : k < args.length
    · obtain ⟨x, hx, htk, hmem⟩ := nth args k (by exact hlt)
      have hx1 : (k0 :: args)[k + 1]? = some x := by simpa using hx
      have c0 : wr.cell? ⟨g, k + 1, none⟩ = some (.string ⟨x.toArray⟩) := HB.out.cell (HAB.out (k + 1) x hx1) hgb
      have hxl := hwl.out x (List.mem_of_getElem? hx1)
      have HAT := Lib.hid (tot_len k0 x args k htk)
      have hat := tot_le k0 args (k + 1)
      have htl := HTL.out
      rw [HAT.out] at hat
      obtain ⟨A, hA⟩ : ∃ A, A = (joinBy 32 (k0 :: args.take k)).length := ⟨_, rfl⟩
      rw [← hA] at hat HAT ⊢
      have q0 : ((k + 1 : Nat) : Int) ≤ (args.length : Int) := by omega
      have q1 : ((k + 1 : Nat) : Int) < ((args.length + 1 : Nat) : Int) := by omega
      have HD := Lib.hid (drop_cons hx)
      have hargs := hcount
      have HX1 := Lib.hid hx1
      clear hx htk hmem hx1 hA
      go_wp2_with fail
      refine (refNumber_any x _ (by omega)).mono ?_
      rintro y w6 ⟨rfl, rfl⟩
      cases hnum : numberOf x with
      | none =>
        have hfin := Lib.hid (show cmdOf s = (cmdNone, 101) by rw [HOF.out, show numsOf args = none by rw [HT.out, HD.out]; exact addN_bad hnum])
        rw [show numOk x = false by simp [numOk, hnum], show numVal x = 0 by simp [numVal, hnum]]
        have HZr := Lib.hid (HZB.out.but HB.out (by omega))
        have HYr := Lib.hid (HYB.out.but HB.out (by omega))
        have HBr := Lib.hid (But.below HBB.out HB.out (by omega))
        clear hnum
        go_wp2_with (first
          | (with_reducible refine wpList_load_cm rfl (.tmp 4) rfl (w.heap.size + 1) cmdNone (.slice none 0 0) (.slice none 0 0) rfl HYr.out ?_)
          | (with_reducible refine wpList_store_cm rfl (.tmp 2) (.tmp 90) rfl w.heap.size cmdNone cmdNone (.slice none 0 0) (.slice none 0 0) (.slice none 0 0) (.slice none 0 0) rfl rfl rfl rfl HZr.out ?_))
        exact bodyPost_ret (v := .tuple #[cmV cmdNone (.slice none 0 0) (.slice none 0 0), .int .i64 101]) (results_cm rfl _ _ w.heap.size cmdNone (.slice none 0 0) (.slice none 0 0) _ rfl rfl (HZr.out.row cmdNone (.slice none 0 0) (.slice none 0 0))) rfl ⟨_, _, by rw [hfin.out], by rw [hfin.out]; exact World.ownsRow_nil _ _ _ _, by rw [hfin.out]; exact World.ownsRow_nil _ _ _ _, Below.row HBr.out (Nat.le_refl _) _⟩
      | some n =>
        have HN := Lib.hid (show numsOf args = addN (acc ++ [n]) (numsOf (args.drop (k + 1))) by rw [HT.out, HD.out]; exact addN_good hnum)
        rw [show numOk x = true by simp [numOk, hnum], show numVal x = n by simp [numVal, hnum]]
        clear hnum
        have HLT := Lib.hid HO.out.lt
        have d1 : wr.cell? ⟨be, 1, none⟩ = some (.slice oa acc.length oc) := HC.out.cell 1
        go_wp2_with (at_builtin; refine wpList_append_own _ rfl _ _ 56 rfl wB.heap.size 3 i0 (.int .i64 0) 1 8 Tryz.underlying56 hi hz0 hz1 hz2 rfl (by decide) _ _ _ rfl (HO.out.alloc _) ⟨wr.heap.size, 0, none⟩ 1 1 [.int .i64 n] rfl rfl ?c1 ?c2 ?c3 ?c4 ?c5 ?_)
        case c1 =>
          intro j u hj
          match j, hj with
          | 0, hj => simp at hj; subst hj; simp [Addr.add]
        case c2 => intro u hu; simp at hu; subst hu; rfl
        case c3 => unfold maxLen; omega
        case c4 => omega
        case c5 => simp; omega
        intro v' w7 hown' hgrow _
        have hrow : ∀ k, (Value.slice oa acc.length oc).ownBlock = some k → wB.heap.size ≤ k := fun k e => (HLT.out k e).1
        have HB7 := Lib.hid ((HB.out.trans (But.of ((Below.refl _ _).alloc (Nat.le_refl _) _))).grown hgrow hrow)
        have HC7 := Lib.hid ((HC.out.below ((Below.refl _ _).alloc (Nat.le_refl _) _)).grown hgrow (fun e => by have := hrow _ e; have := HCB.out.lt; omega))
        obtain ⟨oa', oc', rfl, _, _⟩ := own_shape hown'
        have HO7 := Lib.hid (show w7.ownsRow wB.heap.size 3 1 (.slice oa' (acc.length + 1) oc') (acc.length + 1) (intCells (acc ++ [n])) by have h := hown'; rw [intCells_snoc] at h; exact h)
        have d7 : w7.cell? ⟨be, 1, none⟩ = some (.slice oa acc.length oc) := HC7.out.cell 1
        have e7 : w7.frozen? ⟨be, 1, none⟩ = false := HC7.out.free 1
        have HB8 := Lib.hid (HB7.out.set 1 (.slice oa' (acc.length + 1) oc'))
        have HC8 := Lib.hid (show CmBlk (w7.setCell ⟨be, 1, none⟩ (.slice oa' (acc.length + 1) oc')) be ⟨k0, acc ++ [n], evNone, []⟩ (.slice oa' (acc.length + 1) oc') (.slice none 0 0) from HC7.out.put 1 _ rfl)
        have HO8 := Lib.hid (own_but' HO7.out (But.set (But.refl be w7) 1 (.slice oa' (acc.length + 1) oc')) (fun e => by have := (HO7.out.lt _ e).1; have := HCB.out.lt; omega))
        have c8 : (w7.setCell ⟨be, 1, none⟩ (.slice oa' (acc.length + 1) oc')).cell? ⟨g, k + 1, none⟩ = some (.string ⟨x.toArray⟩) := HB8.out.cell (HAB.out (k + 1) x HX1.out) hgb
        clear hown' hgrow hrow d1 c0 HB7 HC7 HO7
        go_wp2
        go_roundw
        case rel => exact ⟨k + 1, acc ++ [n], oa', oc', by omega, by have := HACC.out; simp; omega, by go_num, by rw [HAT.out]; go_num, by rw [show (acc ++ [n]).length = acc.length + 1 by simp]; exact HC8.out, by rw [show (acc ++ [n]).length = acc.length + 1 by simp]; exact HO8.out, HB8.out, HN⟩
        case measure => simp [intOf]; omega
    · obtain rfl : k = args.length := by omega
      have hns : numsOf args = some acc := by rw [HT.out, List.drop_length]; exact addN_end
      have hfin := Lib.hid (show cmdOf s = (⟨k0, acc, evNone, []⟩, 0) by rw [HOF.out, hns])
      have HZr := Lib.hid (HZB.out.but HB.out (by omega))
      have HBr := Lib.hid (But.below HBB.out HB.out (by omega))
      clear hns
      go_wp2_with (first
        | (with_reducible refine wpList_load_cm rfl (.tmp 8) rfl be ⟨k0, acc, evNone, []⟩ (.slice oa acc.length oc) (.slice none 0 0) rfl HC.out ?_)
        | (with_reducible refine wpList_store_cm rfl (.tmp 2) (.tmp 125) rfl w.heap.size cmdNone ⟨k0, acc, evNone, []⟩ (.slice none 0 0) (.slice none 0 0) (.slice oa acc.length oc) (.slice none 0 0) rfl rfl rfl rfl HZr.out ?_))
      exact bodyPost_ret (v := .tuple #[cmV ⟨k0, acc, evNone, []⟩ (.slice oa acc.length oc) (.slice none 0 0), .int .i64 0]) (results_cm rfl _ _ w.heap.size ⟨k0, acc, evNone, []⟩ (.slice oa acc.length oc) (.slice none 0 0) _ rfl rfl (HZr.out.row ⟨k0, acc, evNone, []⟩ (.slice oa acc.length oc) (.slice none 0 0))) rfl ⟨_, _, by rw [hfin.out], by rw [hfin.out]; exact own_row (own_mono HO.out (by omega)) _ _ (fun e => by have := (HO.out.lt _ e).1; omega), by rw [hfin.out]; exact World.ownsRow_nil _ _ _ _, Below.row HBr.out (Nat.le_refl _) _⟩

end Go.Proofs.YtecmpmnidlfgnaaGreatDoor

namespace Go.Proofs.YtecmpmnidlfgnaaGreatDoor
open Go.RowKit

/-! ## the reference's Command: append -/

theorem ev_setAll {w : World} {b : Nat} {e : Ev} (h : EvBlk w b e) (E : Ev) : EvBlk ((((((((((w.setCell ⟨b, 0, none⟩ (.int .i64 E.kind)).setCell ⟨b, 1, none⟩ (.int .i64 E.order)).setCell ⟨b, 2, none⟩ (.int .i64 E.item)).setCell ⟨b, 3, none⟩ (.int .i64 E.qty)).setCell ⟨b, 4, none⟩ (.int .i64 E.price)).setCell ⟨b, 5, none⟩ (.int .i64 E.cur)).setCell ⟨b, 6, none⟩ (.int .i64 E.tax)).setCell ⟨b, 7, none⟩ (.string ⟨E.who.toArray⟩)).setCell ⟨b, 8, none⟩ (.int .i64 E.stamp)).setCell ⟨b, 9, none⟩ (.string ⟨E.note.toArray⟩)) b E := by
  unfold EvBlk evCs at *
  have h' := raw_put (raw_put (raw_put (raw_put (raw_put (raw_put (raw_put (raw_put (raw_put (raw_put h 0 (.int .i64 E.kind)) 1 (.int .i64 E.order)) 2 (.int .i64 E.item)) 3 (.int .i64 E.qty)) 4 (.int .i64 E.price)) 5 (.int .i64 E.cur)) 6 (.int .i64 E.tax)) 7 (.string ⟨E.who.toArray⟩)) 8 (.int .i64 E.stamp)) 9 (.string ⟨E.note.toArray⟩)
  simp only [List.setIfInBounds_toArray, List.set_cons_zero, List.set_cons_succ] at h'
  exact h'

set_option maxRecDepth 100000 in
set_option maxHeartbeats 8000000 in
theorem cmdR_4 (s k0 : List UInt8) (args : List (List UInt8)) (w : World) (hsp : splitOn 32 s = k0 :: args) (hs : s.length ≤ 1048576) (a b : List UInt8) (rest : List (List UInt8)) (J : List UInt8) (hJ : J = joinBy 32 (b :: rest)) (ha : args = a :: b :: rest) (h4 : shapeV k0 = 4) :
    Calls Tryz.prog 32 #[.string ⟨s.toArray⟩] w (CmPost (cmdOf s) w) := by
  have hof : cmdOf s = cmdParts k0 args := by unfold cmdOf; rw [hsp]
  have h5 : shapeV k0 ≠ 5 := by omega
  have h6 : shapeV k0 ≠ 6 := by omega
  have hof2 : cmdOf s = match numsOf [a] with | none => (cmdNone, 101) | some ns => if (eventOf (ns.headD 0) J).2 ≠ 0 then (cmdNone, (eventOf (ns.headD 0) J).2) else (⟨k0, ns, (eventOf (ns.headD 0) J).1, []⟩, 0) := by
    rw [hof, ha, hJ]; unfold cmdParts; rw [if_neg h6, if_pos h4]; unfold cmdApp; simp only
    cases hx : numberOf a with
    | none => rw [show numsOf [a] = none by rw [numsOf, hx]]
    | some n => rw [show numsOf [a] = some [n] by rw [numsOf, hx]; rfl]; rfl
  have HOF := Lib.hid hof2
  have HAR := Lib.hid ha
  have HSP := Lib.hid (show s = k0 ++ 32 :: (a ++ 32 :: J) by
    have h1 := join_split 32 s
    rw [hsp, ha, join3 _ _ _ (by simp), ← hJ] at h1
    exact h1.symm)
  have HTL := Lib.hid (show (joinBy 32 (k0 :: [a])).length ≤ 1048576 by
    have h1 := congrArg List.length HSP.out
    simp [joinBy] at h1 ⊢
    omega)
  have HJ := Lib.hid (show J.length ≤ 1048576 by
    have h1 := congrArg List.length HSP.out
    simp at h1
    omega)
  obtain ⟨i0, hi, hz0, hz1, hz2⟩ := info_parts infoInt
  have kl : 2 ≤ args.length := by rw [ha]; simp
  have k6 : decide (leastOf k0 < 0) = false := by
    have h := (least_shape k0).1
    have h2 := shape_le k0
    rw [h]
    generalize shapeV k0 = n at *
    match n, h2, h6 with
    | 0, _, _ => rfl
    | 1, _, _ => rfl
    | 2, _, _ => rfl
    | 3, _, _ => rfl
    | 4, _, _ => rfl
    | 5, _, _ => rfl
    | 6, _, h => exact absurd rfl h
  have kp : (k0 == [112, 117, 116]) = false := by rw [beq_eq_false_iff_ne]; intro h; exact h5 (shape5.2 h)
  have ka : (k0 == [97, 112, 112, 101, 110, 100]) = true := by rw [beq_iff_eq]; exact shape4.1 h4
  clear hof hof2 h6 h4 h5 ha hJ
  have hwl : Hid (∀ x ∈ k0 :: args, x.length ≤ 1048576) := Lib.hid fun x hx => by
    have := splitOn_part 32 s x (by rw [hsp]; exact hx)
    omega
  have hcount : args.length ≤ 1048576 := by
    have := splitOn_length 32 s
    rw [hsp] at this
    simp at this
    omega
  have hbz := (show Below (w.alloc (.cells #[.string ⟨#[]⟩, .slice none 0 0, .int .i64 0, .int .i64 0, .int .i64 0, .int .i64 0, .int .i64 0, .int .i64 0, .int .i64 0, .string ⟨#[]⟩, .int .i64 0, .string ⟨#[]⟩, .slice none 0 0] 59)).heap.size (w.alloc (.cells #[.string ⟨#[]⟩, .slice none 0 0, .int .i64 0, .int .i64 0, .int .i64 0, .int .i64 0, .int .i64 0, .int .i64 0, .int .i64 0, .string ⟨#[]⟩, .int .i64 0, .string ⟨#[]⟩, .slice none 0 0] 59)) ((w.alloc (.cells #[.string ⟨#[]⟩, .slice none 0 0, .int .i64 0, .int .i64 0, .int .i64 0, .int .i64 0, .int .i64 0, .int .i64 0, .int .i64 0, .string ⟨#[]⟩, .int .i64 0, .string ⟨#[]⟩, .slice none 0 0] 59)).alloc (.cells #[.string ⟨#[]⟩, .slice none 0 0, .int .i64 0, .int .i64 0, .int .i64 0, .int .i64 0, .int .i64 0, .int .i64 0, .int .i64 0, .string ⟨#[]⟩, .int .i64 0, .string ⟨#[]⟩, .slice none 0 0] 59)) from (Below.refl _ _).alloc (Nat.le_refl _) _)
  have HB0 := Lib.hid (Below.next (show Below w.heap.size w (w.alloc (.cells #[.string ⟨#[]⟩, .slice none 0 0, .int .i64 0, .int .i64 0, .int .i64 0, .int .i64 0, .int .i64 0, .int .i64 0, .int .i64 0, .string ⟨#[]⟩, .int .i64 0, .string ⟨#[]⟩, .slice none 0 0] 59)) from (Below.refl _ _).alloc (Nat.le_refl _) _) hbz)
  have HZ0 := Lib.hid ((show CmBlk (w.alloc (.cells #[.string ⟨#[]⟩, .slice none 0 0, .int .i64 0, .int .i64 0, .int .i64 0, .int .i64 0, .int .i64 0, .int .i64 0, .int .i64 0, .string ⟨#[]⟩, .int .i64 0, .string ⟨#[]⟩, .slice none 0 0] 59)) w.heap.size cmdNone (.slice none 0 0) (.slice none 0 0) from heap_alloc_new w _).below hbz)
  have HY0 := Lib.hid (show CmBlk ((w.alloc (.cells #[.string ⟨#[]⟩, .slice none 0 0, .int .i64 0, .int .i64 0, .int .i64 0, .int .i64 0, .int .i64 0, .int .i64 0, .int .i64 0, .string ⟨#[]⟩, .int .i64 0, .string ⟨#[]⟩, .slice none 0 0] 59)).alloc (.cells #[.string ⟨#[]⟩, .slice none 0 0, .int .i64 0, .int .i64 0, .int .i64 0, .int .i64 0, .int .i64 0, .int .i64 0, .int .i64 0, .string ⟨#[]⟩, .int .i64 0, .string ⟨#[]⟩, .slice none 0 0] 59)) (w.heap.size + 1) cmdNone (.slice none 0 0) (.slice none 0 0) from by have h := heap_alloc_new (w.alloc (.cells #[.string ⟨#[]⟩, .slice none 0 0, .int .i64 0, .int .i64 0, .int .i64 0, .int .i64 0, .int .i64 0, .int .i64 0, .int .i64 0, .string ⟨#[]⟩, .int .i64 0, .string ⟨#[]⟩, .slice none 0 0] 59)) (.cells #[.string ⟨#[]⟩, .slice none 0 0, .int .i64 0, .int .i64 0, .int .i64 0, .int .i64 0, .int .i64 0, .int .i64 0, .int .i64 0, .string ⟨#[]⟩, .int .i64 0, .string ⟨#[]⟩, .slice none 0 0] 59); rw [show (w.alloc (.cells #[.string ⟨#[]⟩, .slice none 0 0, .int .i64 0, .int .i64 0, .int .i64 0, .int .i64 0, .int .i64 0, .int .i64 0, .int .i64 0, .string ⟨#[]⟩, .int .i64 0, .string ⟨#[]⟩, .slice none 0 0] 59)).heap.size = w.heap.size + 1 by simp] at h; exact h)
  clear hbz
  go_enter Tryz.func32, Tryz.ntmps32
  go_wp2_with fail
  generalize (w.alloc (.cells #[.string ⟨#[]⟩, .slice none 0 0, .int .i64 0, .int .i64 0, .int .i64 0, .int .i64 0, .int .i64 0, .int .i64 0, .int .i64 0, .string ⟨#[]⟩, .int .i64 0, .string ⟨#[]⟩, .slice none 0 0] 59)).alloc (.cells #[.string ⟨#[]⟩, .slice none 0 0, .int .i64 0, .int .i64 0, .int .i64 0, .int .i64 0, .int .i64 0, .int .i64 0, .int .i64 0, .string ⟨#[]⟩, .int .i64 0, .string ⟨#[]⟩, .slice none 0 0] 59) = w0 at *
  refine (refSplit_any s 32 _ (by omega)).mono ?_
  rintro x w1 ⟨sv, rfl, hown, hb1⟩
  rw [hsp] at hown
  obtain ⟨g, cap, rfl, hg0, hg1, hcap, hcm, hcs⟩ := own_get hown (by simp)
  unfold maxLen at hcm
  simp only [List.length_cons] at hcap
  have HB1 := Lib.hid (Below.next HB0.out hb1)
  have HZ1 := Lib.hid (HZ0.out.below hb1)
  have HY1 := Lib.hid (HY0.out.below hb1)
  have HCS := Lib.hid (show ∀ (j : Nat) t, (k0 :: args)[j]? = some t → w1.cell? ⟨g, j, none⟩ = some (.string ⟨t.toArray⟩) from fun j t h => hcs j _ (strs_get h))
  have c0 : w1.cell? ⟨g, 0, none⟩ = some (.string ⟨k0.toArray⟩) := HCS.out 0 k0 rfl
  have hylt := HY0.out.lt
  have hgw : w.heap.size + 1 < g := by omega
  clear hown hcs hb1 HB0 HZ0 HY0 hsp hg0 hylt
  go_wp2_with fail
  refine (least_any k0 _).mono ?_
  rintro x w2 ⟨rfl, hb2⟩
  have HB2 := Lib.hid (Below.next HB1.out hb2)
  have HZ2 := Lib.hid (HZ1.out.below hb2)
  have HY2 := Lib.hid (HY1.out.below hb2)
  have HA2 := Lib.hid (show ∀ (j : Nat) t, (k0 :: args)[j]? = some t → w2.cell? ⟨g, j, none⟩ = some (.string ⟨t.toArray⟩) from fun j t h => cell_later hb2 (HCS.out j t h))
  have hs2 := hb2.size
  clear hb2 HB1 HZ1 HY1 HCS c0
  have hbA : Below w2.heap.size w2 (w2.alloc (.cells #[.string ⟨k0.toArray⟩, .slice none 0 0, .int .i64 0, .int .i64 0, .int .i64 0, .int .i64 0, .int .i64 0, .int .i64 0, .int .i64 0, .string ⟨#[]⟩, .int .i64 0, .string ⟨#[]⟩, .slice none 0 0] 59)) := (Below.refl _ _).alloc (Nat.le_refl _) _
  have HB3 := Lib.hid (Below.next HB2.out hbA)
  have HZ3 := Lib.hid (HZ2.out.below hbA)
  have HY3 := Lib.hid (HY2.out.below hbA)
  have HC3 := Lib.hid (show CmBlk (w2.alloc (.cells #[.string ⟨k0.toArray⟩, .slice none 0 0, .int .i64 0, .int .i64 0, .int .i64 0, .int .i64 0, .int .i64 0, .int .i64 0, .int .i64 0, .string ⟨#[]⟩, .int .i64 0, .string ⟨#[]⟩, .slice none 0 0] 59)) w2.heap.size ⟨k0, [], evNone, []⟩ (.slice none 0 0) (.slice none 0 0) from heap_alloc_new w2 _)
  have HA3 := Lib.hid (show ∀ (j : Nat) t, (k0 :: args)[j]? = some t → (w2.alloc (.cells #[.string ⟨k0.toArray⟩, .slice none 0 0, .int .i64 0, .int .i64 0, .int .i64 0, .int .i64 0, .int .i64 0, .int .i64 0, .int .i64 0, .string ⟨#[]⟩, .int .i64 0, .string ⟨#[]⟩, .slice none 0 0] 59)).cell? ⟨g, j, none⟩ = some (.string ⟨t.toArray⟩) from fun j t h => cell_later hbA (HA2.out j t h))
  have hylt := HY2.out.lt
  clear hbA HB2 HZ2 HY2 HA2
  go_wp2_with fail
  generalize hbe : w2.heap.size = be at *
  generalize w2.alloc (.cells #[.string ⟨k0.toArray⟩, .slice none 0 0, .int .i64 0, .int .i64 0, .int .i64 0, .int .i64 0, .int .i64 0, .int .i64 0, .int .i64 0, .string ⟨#[]⟩, .int .i64 0, .string ⟨#[]⟩, .slice none 0 0] 59) = w3 at *
  have hwb : w.heap.size + 1 < be := by omega
  have hgb : g ≠ be := by omega
  have hgw2 : w.heap.size ≠ g := by omega
  clear hbe hylt hs2 hg1
  have HBB := HB3
  have HZB := HZ3
  have HYB := HY3
  have HCB := HC3
  have HAB := HA3
  have hbl := HC3.out.lt
  clear HB3 HZ3 HY3 HC3 HA3
  generalize w3 = wB at *
  go_loopw [12, 13] (fun av iv wr => ∃ (k : Nat) (acc : List Int) (oa : Option Addr) (oc : Nat), k ≤ 1 ∧ acc.length = k ∧ iv = .int .i64 (k + 1 : Nat) ∧ av = .int .i64 ((joinBy 32 (k0 :: [a].take k)).length : Nat) ∧ CmBlk wr be ⟨k0, acc, evNone, []⟩ (.slice oa acc.length oc) (.slice none 0 0) ∧ wr.ownsRow wB.heap.size 3 1 (.slice oa acc.length oc) acc.length (intCells acc) ∧ But be wB wr ∧ Hid (numsOf [a] = addN acc (numsOf ([a].drop k)))) (fun _ iv _ => 1 + 1 - (intOf iv).toNat)
  case atStart => exact ⟨0, [], none, 0, Nat.zero_le _, rfl, rfl, by simp [joinBy], HCB.out, World.ownsRow_nil _ _ _ _, But.refl _ _, Lib.hid (by rw [List.drop_zero]; exact addN_nil _)⟩
  case round =>
    obtain ⟨k, acc, oa, oc, hk, hacc, rfl, rfl, hC, hO, hB, HT⟩ := hrel
    have HC := Lib.hid hC
    have HO := Lib.hid hO
    have HB := Lib.hid hB
    have hszB := hB.size
    have HACC := Lib.hid hacc
    have hal : acc.length ≤ k := by omega
    clear hC hO hB hacc
    by_cases hlt : k < 1
    · obtain ⟨x, hx, htk, hmem⟩ := nth [a] k (by simpa using hlt)
      have hx1 : (k0 :: args)[k + 1]? = some x := by (have hk0 : k = 0 := by omega); subst hk0; rw [HAR.out]; simpa using hx
      have c0 : wr.cell? ⟨g, k + 1, none⟩ = some (.string ⟨x.toArray⟩) := HB.out.cell (HAB.out (k + 1) x hx1) hgb
      have hxl := hwl.out x (List.mem_of_getElem? hx1)
      have HAT := Lib.hid (tot_len k0 x [a] k htk)
      have hat := tot_le k0 [a] (k + 1)
      have htl := HTL.out
      rw [HAT.out] at hat
      obtain ⟨A, hA⟩ : ∃ A, A = (joinBy 32 (k0 :: [a].take k)).length := ⟨_, rfl⟩
      rw [← hA] at hat HAT ⊢
      have q0 : ((k + 1 : Nat) : Int) ≤ (1 : Int) := by omega
      have q1 : ((k + 1 : Nat) : Int) < ((args.length + 1 : Nat) : Int) := by omega
      have HD := Lib.hid (drop_cons hx)
      have hargs := hcount
      have HX1 := Lib.hid hx1
      clear hx htk hmem hx1 hA
      go_wp2_with fail
      refine (refNumber_any x _ (by omega)).mono ?_
      rintro y w6 ⟨rfl, rfl⟩
      cases hnum : numberOf x with
      | none =>
        have hfin := Lib.hid (show cmdOf s = (cmdNone, 101) by rw [HOF.out, show numsOf [a] = none by rw [HT.out, HD.out]; exact addN_bad hnum])
        rw [show numOk x = false by simp [numOk, hnum], show numVal x = 0 by simp [numVal, hnum]]
        have HZr := Lib.hid (HZB.out.but HB.out (by omega))
        have HYr := Lib.hid (HYB.out.but HB.out (by omega))
        have HBr := Lib.hid (But.below HBB.out HB.out (by omega))
        clear hnum
        go_wp2_with (first
          | (with_reducible refine wpList_load_cm rfl (.tmp 4) rfl (w.heap.size + 1) cmdNone (.slice none 0 0) (.slice none 0 0) rfl HYr.out ?_)
          | (with_reducible refine wpList_store_cm rfl (.tmp 2) (.tmp 90) rfl w.heap.size cmdNone cmdNone (.slice none 0 0) (.slice none 0 0) (.slice none 0 0) (.slice none 0 0) rfl rfl rfl rfl HZr.out ?_))
        exact bodyPost_ret (v := .tuple #[cmV cmdNone (.slice none 0 0) (.slice none 0 0), .int .i64 101]) (results_cm rfl _ _ w.heap.size cmdNone (.slice none 0 0) (.slice none 0 0) _ rfl rfl (HZr.out.row cmdNone (.slice none 0 0) (.slice none 0 0))) rfl ⟨_, _, by rw [hfin.out], by rw [hfin.out]; exact World.ownsRow_nil _ _ _ _, by rw [hfin.out]; exact World.ownsRow_nil _ _ _ _, Below.row HBr.out (Nat.le_refl _) _⟩
      | some n =>
        have HN := Lib.hid (show numsOf [a] = addN (acc ++ [n]) (numsOf ([a].drop (k + 1))) by rw [HT.out, HD.out]; exact addN_good hnum)
        rw [show numOk x = true by simp [numOk, hnum], show numVal x = n by simp [numVal, hnum]]
        clear hnum
        have HLT := Lib.hid HO.out.lt
        have d1 : wr.cell? ⟨be, 1, none⟩ = some (.slice oa acc.length oc) := HC.out.cell 1
        go_wp2_with (at_builtin; refine wpList_append_own _ rfl _ _ 56 rfl wB.heap.size 3 i0 (.int .i64 0) 1 8 Tryz.underlying56 hi hz0 hz1 hz2 rfl (by decide) _ _ _ rfl (HO.out.alloc _) ⟨wr.heap.size, 0, none⟩ 1 1 [.int .i64 n] rfl rfl ?c1 ?c2 ?c3 ?c4 ?c5 ?_)
        case c1 =>
          intro j u hj
          match j, hj with
          | 0, hj => simp at hj; subst hj; simp [Addr.add]
        case c2 => intro u hu; simp at hu; subst hu; rfl
        case c3 => unfold maxLen; omega
        case c4 => omega
        case c5 => simp; omega
        intro v' w7 hown' hgrow _
        have hrow : ∀ k, (Value.slice oa acc.length oc).ownBlock = some k → wB.heap.size ≤ k := fun k e => (HLT.out k e).1
        have HB7 := Lib.hid ((HB.out.trans (But.of ((Below.refl _ _).alloc (Nat.le_refl _) _))).grown hgrow hrow)
        have HC7 := Lib.hid ((HC.out.below ((Below.refl _ _).alloc (Nat.le_refl _) _)).grown hgrow (fun e => by have := hrow _ e; have := HCB.out.lt; omega))
        obtain ⟨oa', oc', rfl, _, _⟩ := own_shape hown'
        have HO7 := Lib.hid (show w7.ownsRow wB.heap.size 3 1 (.slice oa' (acc.length + 1) oc') (acc.length + 1) (intCells (acc ++ [n])) by have h := hown'; rw [intCells_snoc] at h; exact h)
        have d7 : w7.cell? ⟨be, 1, none⟩ = some (.slice oa acc.length oc) := HC7.out.cell 1
        have e7 : w7.frozen? ⟨be, 1, none⟩ = false := HC7.out.free 1
        have HB8 := Lib.hid (HB7.out.set 1 (.slice oa' (acc.length + 1) oc'))
        have HC8 := Lib.hid (show CmBlk (w7.setCell ⟨be, 1, none⟩ (.slice oa' (acc.length + 1) oc')) be ⟨k0, acc ++ [n], evNone, []⟩ (.slice oa' (acc.length + 1) oc') (.slice none 0 0) from HC7.out.put 1 _ rfl)
        have HO8 := Lib.hid (own_but' HO7.out (But.set (But.refl be w7) 1 (.slice oa' (acc.length + 1) oc')) (fun e => by have := (HO7.out.lt _ e).1; have := HCB.out.lt; omega))
        have c8 : (w7.setCell ⟨be, 1, none⟩ (.slice oa' (acc.length + 1) oc')).cell? ⟨g, k + 1, none⟩ = some (.string ⟨x.toArray⟩) := HB8.out.cell (HAB.out (k + 1) x HX1.out) hgb
        clear hown' hgrow hrow d1 c0 HB7 HC7 HO7
        go_wp2
        go_roundw
        case rel => exact ⟨k + 1, acc ++ [n], oa', oc', by omega, by have := HACC.out; simp; omega, by go_num, by rw [HAT.out]; go_num, by rw [show (acc ++ [n]).length = acc.length + 1 by simp]; exact HC8.out, by rw [show (acc ++ [n]).length = acc.length + 1 by simp]; exact HO8.out, HB8.out, HN⟩
        case measure => simp [intOf]; omega
    · obtain rfl : k = 1 := by omega
      have hns : numsOf [a] = some acc := by rw [HT.out]; exact addN_end
      obtain ⟨n, rfl⟩ : ∃ n, acc = [n] := List.length_eq_one_iff.1 HACC.out
      have HOF2 := Lib.hid (show cmdOf s = if (eventOf n J).2 ≠ 0 then (cmdNone, (eventOf n J).2) else (⟨k0, [n], (eventOf n J).1, []⟩, 0) by rw [HOF.out, hns]; rfl)
      obtain ⟨g2, cap2, hv, hg2, hg2s, hcap2, _, hcn⟩ := own_get HO.out (by simp)
      simp only [Value.slice.injEq] at hv
      obtain ⟨rfl, _, rfl⟩ := hv
      simp only [List.length_singleton] at *
      have cn : wr.cell? ⟨g2, 0, none⟩ = some (.int .i64 n) := hcn 0 _ rfl
      have c1r : wr.cell? ⟨be, 1, none⟩ = some (.slice (some ⟨g2, 0, none⟩) 1 oc) := HC.out.cell 1
      obtain ⟨A, hA⟩ : ∃ A, A = (joinBy 32 (k0 :: [a].take 1)).length := ⟨_, rfl⟩
      have hsp2 := HSP.out
      have hAl : A + 1 + J.length = s.length := by rw [hA, hsp2]; simp [joinBy]; omega
      have hext : (⟨s.toArray⟩ : ByteArray).extract (A + 1) s.length = ⟨J.toArray⟩ := by
        rw [extract_mid, List.take_of_length_le (by simp), hA]
        congr 2
        rw [hsp2, show (joinBy 32 (k0 :: List.take 1 [a])).length + 1 = (k0 ++ 32 :: a ++ [32]).length by simp [joinBy]; omega, show k0 ++ 32 :: (a ++ 32 :: J) = (k0 ++ 32 :: a ++ [32]) ++ J by simp, List.drop_left]
      rw [← hA]
      have hHC := HC
      have HZr := Lib.hid (HZB.out.but HB.out (by omega))
      have HYr := Lib.hid (HYB.out.but HB.out (by omega))
      have HBr := Lib.hid (But.below HBB.out HB.out (by omega))
      have hjl := HJ.out
      have q5 : ((A : Int) + 1) ≤ (s.length : Int) := by omega
      have hwrap : IntKind.i64.wrap ((A : Int) + 1) = (A : Int) + 1 := by rw [IntKind.wrap_i64]; omega
      have hext2 : (⟨s.toArray⟩ : ByteArray).extract ((A : Int) + 1).toNat s.length = ⟨J.toArray⟩ := by rw [show ((A : Int) + 1).toNat = A + 1 by omega]; exact hext
      have q6 : (0 : Int) ≤ (A : Int) + 1 := by omega
      have keep0 : Hid (wr.drew.cell? ⟨be, 1, none⟩ = some (.slice (some ⟨g2, 0, none⟩) 1 oc) ∧ wr.drew.cell? ⟨g2, 0, none⟩ = some (.int .i64 n) ∧ Below wr.heap.size wr wr.drew) := Lib.hid ⟨c1r, cn, (Below.refl _ _).drew⟩
      have keepN : Hid (∀ x y : World, Below x.heap.size x y → Below wr.heap.size wr x → y.cell? ⟨be, 1, none⟩ = some (.slice (some ⟨g2, 0, none⟩) 1 oc) ∧ y.cell? ⟨g2, 0, none⟩ = some (.int .i64 n) ∧ Below wr.heap.size wr y) :=
        Lib.hid fun x y h1 h2 => by
          have h3 := Below.next h2 h1
          exact ⟨cell_later h3 c1r, cell_later h3 cn, h3⟩
      have hbl2 := HC.out.lt
      clear hns hA hcn hsp2
      go_wp2_with fail
      clear c1r cn
      refine wp_region_held_drew (S := fun w' => w'.cell? ⟨be, 1, none⟩ = some (.slice (some ⟨g2, 0, none⟩) 1 oc) ∧ w'.cell? ⟨g2, 0, none⟩ = some (.int .i64 n) ∧ Below wr.heap.size wr w') (by kernel_rfl) ?hS0 (fun hHeld => ?_)
      case hS0 => exact keep0.out
      refine wpAnyH_take (i := 0) (oi := ⟨_, _, _, _, _, _⟩) (v := ?v0) rfl (by kernel_rfl) (by kernel_rfl) (by kernel_rfl) (fun _ _ _ h => h) (Or.inl ⟨by kernel_rfl, ?hy0⟩) (by assumption) ?rest0
      case hy0 => intro w hSw; (try dsimp only at hSw); go_split_ands; go_simp; try with_reducible rfl
      simp only [Act.put, List.setIfInBounds_toArray, List.set_cons_zero, List.set_cons_succ]
      refine wpAnyH_take (i := 1) (oi := ⟨_, _, _, _, _, _⟩) (v := ?v1) rfl (by kernel_rfl) (by kernel_rfl) (by kernel_rfl) (fun _ _ _ h => h) (Or.inl ⟨by kernel_rfl, ?hy1⟩) (by assumption) ?rest1
      case hy1 => intro w hSw; (try dsimp only at hSw); go_split_ands; go_simp; try with_reducible rfl
      simp only [Act.put, List.setIfInBounds_toArray, List.set_cons_zero, List.set_cons_succ]
      refine wpAnyH_take (i := 2) (oi := ⟨_, _, _, _, _, _⟩) (v := ?v2) rfl (by kernel_rfl) (by kernel_rfl) (by kernel_rfl) (fun _ _ _ h => h) (Or.inl ⟨by kernel_rfl, ?hy2⟩) (by assumption) ?rest2
      case hy2 => intro w hSw; (try dsimp only at hSw); go_split_ands; go_simp; try with_reducible rfl
      simp only [Act.put, List.setIfInBounds_toArray, List.set_cons_zero, List.set_cons_succ]
      refine wpAnyH_take (i := 3) (oi := ⟨_, _, _, _, _, _⟩) (v := ?v3) rfl (by kernel_rfl) (by kernel_rfl) (by kernel_rfl) (fun _ _ _ h => h) (Or.inl ⟨by kernel_rfl, ?hy3⟩) (by assumption) ?rest3
      case hy3 => intro w hSw; (try dsimp only at hSw); go_split_ands; go_simp; try with_reducible rfl
      simp only [Act.put, List.setIfInBounds_toArray, List.set_cons_zero, List.set_cons_succ]
      refine wpAnyH_take (i := 4) (oi := ⟨_, _, _, _, _, _⟩) (v := ?v4) rfl (by kernel_rfl) (by kernel_rfl) (by kernel_rfl) (fun _ _ _ h => h) (Or.inl ⟨by kernel_rfl, ?hy4⟩) (by assumption) ?rest4
      case hy4 => intro w hSw; (try dsimp only at hSw); go_split_ands; go_simp; try with_reducible rfl
      simp only [Act.put, List.setIfInBounds_toArray, List.set_cons_zero, List.set_cons_succ]
      refine wpAnyH_take (i := 5) (oi := ⟨_, _, _, _, _, _⟩) (v := ?v5) rfl (by kernel_rfl) (by kernel_rfl) (by kernel_rfl) (fun _ _ _ h => h) (Or.inl ⟨by kernel_rfl, ?hy5⟩) (by assumption) ?rest5
      case hy5 => intro w hSw; (try dsimp only at hSw); go_split_ands; go_simp; try with_reducible rfl
      simp only [Act.put, List.setIfInBounds_toArray, List.set_cons_zero, List.set_cons_succ]
      refine wpAnyH_take (i := 6) (oi := ⟨_, _, _, _, _, _⟩) (v := ?v6) rfl (by kernel_rfl) (by kernel_rfl) (by kernel_rfl) (fun _ _ _ h => h) (Or.inl ⟨by kernel_rfl, ?hy6⟩) (by assumption) ?rest6
      case hy6 => intro w hSw; (try dsimp only at hSw); go_split_ands; go_simp; try with_reducible rfl
      simp only [Act.put, List.setIfInBounds_toArray, List.set_cons_zero, List.set_cons_succ]
      refine wpAnyH_take (i := 7) (oi := ⟨_, _, _, _, _, _⟩) (v := ?v7) rfl (by kernel_rfl) (by kernel_rfl) (by kernel_rfl) (fun _ _ _ h => h) (Or.inl ⟨by kernel_rfl, ?hy7⟩) (by assumption) ?rest7
      case hy7 => intro w hSw; (try dsimp only at hSw); go_split_ands; go_simp; try with_reducible rfl
      simp only [Act.put, List.setIfInBounds_toArray, List.set_cons_zero, List.set_cons_succ]
      refine wpAnyH_ready (rs := [8, 12]) (by kernel_rfl) (by simp) ?_
      refine AllReadyH.cons rfl (fun K hK => ?callFirst) (AllReadyH.cons rfl (fun K hK => ?allocFirst) AllReadyH.nil)
      case' callFirst =>
        go_simp
        go_at_call 15
        obtain ⟨_, _, hBl⟩ := hHeld
        refine (refEvent_any n J _ (by omega)).mono ?_
        rintro x w8 ⟨rfl, hb8⟩
        obtain ⟨X, hX⟩ : ∃ X, X = eventOf n J := ⟨_, rfl⟩
        rw [← hX] at HOF2 ⊢
        clear hX
        obtain ⟨E, ec⟩ := X
        simp only at HOF2 ⊢
        go_wp2_with fail
        refine hK.out _ _ ?hS8 (fun hHeld => ?_)
        case hS8 => exact keepN.out _ _ hb8 hBl
        clear hK K hBl
        refine wpAnyH_take (i := 9) (oi := ⟨_, _, _, _, _, _⟩) (v := ?v9) rfl (by kernel_rfl) (by kernel_rfl) (by kernel_rfl) (fun _ _ _ h => h) (Or.inl ⟨by kernel_rfl, ?hy9⟩) (by assumption) ?rest9
        case hy9 => intro w hSw; (try dsimp only at hSw); go_split_ands; go_simp; try with_reducible rfl
        simp only [Act.put, List.setIfInBounds_toArray, List.set_cons_zero, List.set_cons_succ]
        refine wpAnyH_take (i := 10) (oi := ⟨_, _, _, _, _, _⟩) (v := ?v10) rfl (by kernel_rfl) (by kernel_rfl) (by kernel_rfl) (fun _ _ _ h => h) (Or.inl ⟨by kernel_rfl, ?hy10⟩) (by assumption) ?rest10
        case hy10 => intro w hSw; (try dsimp only at hSw); go_split_ands; go_simp; try with_reducible rfl
        simp only [Act.put, List.setIfInBounds_toArray, List.set_cons_zero, List.set_cons_succ]
        refine wpAnyH_take (i := 11) (oi := ⟨_, _, _, _, _, _⟩) (v := ?v11) rfl (by kernel_rfl) (by kernel_rfl) (by kernel_rfl) (fun _ _ _ h => h) (Or.inl ⟨by kernel_rfl, ?hy11⟩) (by assumption) ?rest11
        case hy11 => intro w hSw; (try dsimp only at hSw); go_split_ands; go_simp; try with_reducible rfl
        simp only [Act.put, List.setIfInBounds_toArray, List.set_cons_zero, List.set_cons_succ]
        refine wpAnyH_ready (rs := [12]) (by kernel_rfl) (by simp) ?_
        refine AllReadyH.cons rfl (fun K hK => ?_) AllReadyH.nil
        go_simp
        obtain ⟨hS1, hS2, hBl⟩ := hHeld
        refine hK.out _ _ ?hS12 (fun hHeld => ?_)
        case hS12 => exact keepN.out w8 _ ((Below.refl _ _).alloc (Nat.le_refl _) _) hBl
        clear hK K
        refine wpAnyH_ready (rs := [13]) (by kernel_rfl) (by simp) ?_
        refine AllReadyH.cons rfl (fun K hK => ?_) AllReadyH.nil
        go_simp
        clear hHeld
        refine hK.out _ _ ?hS13 (fun hHeld => ?_)
        case hS13 => exact keepN.out w8 _ ((Below.refl _ _).alloc (Nat.le_refl _) _) hBl
        clear hK K
        refine wpAnyH_take (i := 14) (oi := ⟨_, _, _, _, _, _⟩) (v := ?v14) rfl (by kernel_rfl) (by kernel_rfl) (by kernel_rfl) (fun _ _ _ h => h) (Or.inl ⟨by kernel_rfl, ?hy14⟩) (by assumption) ?rest14
        case hy14 => intro w hSw; (try dsimp only at hSw); go_split_ands; go_simp; try with_reducible rfl
        simp only [Act.put, List.setIfInBounds_toArray, List.set_cons_zero, List.set_cons_succ]
        refine wpAnyH_done (by kernel_rfl) ?_ _
        clear hHeld hS1 hS2
        have hb9 := Below.next hBl (show Below w8.heap.size w8 (w8.alloc (.cells (evCs E) 24)) from (Below.refl _ _).alloc (Nat.le_refl _) _)
        have HC9 := Lib.hid (HC.out.below hb9)
        have HZ9 := Lib.hid (HZr.out.below hb9)
        have HY9 := Lib.hid (HYr.out.below hb9)
        have HO9 := Lib.hid (own_later HO.out hb9)
        have HB9 := Lib.hid (Below.next HBr.out hb9)
        have HE9 := Lib.hid (show EvBlk (w8.alloc (.cells (evCs E) 24)) w8.heap.size E from heap_alloc_new w8 _)
        have hs8 := hBl.size
        unfold evCs at HC9 HZ9 HY9 HO9 HB9 HE9
        clear hb9 hb8 hBl HC HO HZr HYr HBr HB keep0 keepN hHC
        generalize hee : w8.heap.size = ee at *
        generalize w8.alloc (.cells #[.int .i64 E.kind, .int .i64 E.order, .int .i64 E.item, .int .i64 E.qty, .int .i64 E.price, .int .i64 E.cur, .int .i64 E.tax, .string ⟨E.who.toArray⟩, .int .i64 E.stamp, .string ⟨E.note.toArray⟩] 24) = w9 at *
        have heb : ee ≠ be := by omega
        clear hee hs8
      case' allocFirst =>
        go_simp
        obtain ⟨hS1, hS2, hBl⟩ := hHeld
        have hHE := Lib.hid (show EvBlk (wr.drew.alloc (.cells #[.int .i64 0, .int .i64 0, .int .i64 0, .int .i64 0, .int .i64 0, .int .i64 0, .int .i64 0, .string ⟨#[]⟩, .int .i64 0, .string ⟨#[]⟩] 24)) wr.heap.size evNone from heap_alloc_new wr.drew _)
        have hb1 := (show Below wr.drew.heap.size wr.drew (wr.drew.alloc (.cells #[.int .i64 0, .int .i64 0, .int .i64 0, .int .i64 0, .int .i64 0, .int .i64 0, .int .i64 0, .string ⟨#[]⟩, .int .i64 0, .string ⟨#[]⟩] 24)) from (Below.refl _ _).alloc (Nat.le_refl _) _)
        refine hK.out _ _ ?hT12 (fun hHeld => ?_)
        case hT12 => exact keepN.out _ _ hb1 hBl
        clear hK K hS1 hS2
        refine wpAnyH_ready (rs := [8]) (by kernel_rfl) (by simp) ?_
        refine AllReadyH.cons rfl (fun K hK => ?_) AllReadyH.nil
        go_simp
        go_at_call 15
        clear hBl
        obtain ⟨_, _, hBl⟩ := hHeld
        refine (refEvent_any n J _ (by omega)).mono ?_
        rintro x w8 ⟨rfl, hb8⟩
        obtain ⟨X, hX⟩ : ∃ X, X = eventOf n J := ⟨_, rfl⟩
        rw [← hX] at HOF2 ⊢
        clear hX
        obtain ⟨E, ec⟩ := X
        simp only at HOF2 ⊢
        go_wp2_with fail
        refine hK.out _ _ ?hT8 (fun hHeld => ?_)
        case hT8 => exact keepN.out _ _ hb8 hBl
        clear hK K
        refine wpAnyH_take (i := 9) (oi := ⟨_, _, _, _, _, _⟩) (v := ?u9) rfl (by kernel_rfl) (by kernel_rfl) (by kernel_rfl) (fun _ _ _ h => h) (Or.inl ⟨by kernel_rfl, ?hz9⟩) (by assumption) ?rert9
        case hz9 => intro w hSw; (try dsimp only at hSw); go_split_ands; go_simp; try with_reducible rfl
        simp only [Act.put, List.setIfInBounds_toArray, List.set_cons_zero, List.set_cons_succ]
        refine wpAnyH_take (i := 10) (oi := ⟨_, _, _, _, _, _⟩) (v := ?u10) rfl (by kernel_rfl) (by kernel_rfl) (by kernel_rfl) (fun _ _ _ h => h) (Or.inl ⟨by kernel_rfl, ?hz10⟩) (by assumption) ?rert10
        case hz10 => intro w hSw; (try dsimp only at hSw); go_split_ands; go_simp; try with_reducible rfl
        simp only [Act.put, List.setIfInBounds_toArray, List.set_cons_zero, List.set_cons_succ]
        refine wpAnyH_take (i := 11) (oi := ⟨_, _, _, _, _, _⟩) (v := ?u11) rfl (by kernel_rfl) (by kernel_rfl) (by kernel_rfl) (fun _ _ _ h => h) (Or.inl ⟨by kernel_rfl, ?hz11⟩) (by assumption) ?rert11
        case hz11 => intro w hSw; (try dsimp only at hSw); go_split_ands; go_simp; try with_reducible rfl
        simp only [Act.put, List.setIfInBounds_toArray, List.set_cons_zero, List.set_cons_succ]
        have HE8 := Lib.hid (hHE.out.below hb8)
        obtain ⟨b0, b1, b2, b3, b4, b5, b6, b7, b8, b9⟩ := HE8.out.at'
        have f0 := HE8.out.free 0
        have f1 := HE8.out.free 1
        have f2 := HE8.out.free 2
        have f3 := HE8.out.free 3
        have f4 := HE8.out.free 4
        have f5 := HE8.out.free 5
        have f6 := HE8.out.free 6
        have f7 := HE8.out.free 7
        have f8 := HE8.out.free 8
        have f9 := HE8.out.free 9
        refine wpAnyH_ready (rs := [13]) (by kernel_rfl) (by simp) ?_
        refine AllReadyH.cons rfl (fun K hK => ?_) AllReadyH.nil
        go_simp
        clear hHeld b0 b1 b2 b3 b4 b5 b6 b7 b8 b9 f0 f1 f2 f3 f4 f5 f6 f7 f8 f9
        have hb9 := Below.next hBl hb8
        have hW := (((((((((((But.refl wr.heap.size w8).set 0 (.int .i64 E.kind)).set 1 (.int .i64 E.order)).set 2 (.int .i64 E.item)).set 3 (.int .i64 E.qty)).set 4 (.int .i64 E.price)).set 5 (.int .i64 E.cur)).set 6 (.int .i64 E.tax)).set 7 (.string ⟨E.who.toArray⟩)).set 8 (.int .i64 E.stamp)).set 9 (.string ⟨E.note.toArray⟩))
        have HE9 := Lib.hid (ev_setAll HE8.out E)
        have HC9 := Lib.hid ((HC.out.below hb9).but hW (by omega))
        have HZ9 := Lib.hid ((HZr.out.below hb9).but hW (by omega))
        have HY9 := Lib.hid ((HYr.out.below hb9).but hW (by omega))
        have HO9 := Lib.hid (own_but' (own_later HO.out hb9) hW (fun e => by have := (HO.out.lt _ e).2; omega))
        have HB9 := Lib.hid (But.below (Below.next HBr.out hb9) hW (by have := HBr.out.size; omega))
        have hB9 := But.below hb9 hW (Nat.le_refl _)
        refine hK.out _ _ ?hT13 (fun hHeld => ?_)
        case hT13 => exact keepN.out _ _ hB9 (Below.refl _ _)
        clear hK K
        refine wpAnyH_take (i := 14) (oi := ⟨_, _, _, _, _, _⟩) (v := ?u14) rfl (by kernel_rfl) (by kernel_rfl) (by kernel_rfl) (fun _ _ _ h => h) (Or.inl ⟨by kernel_rfl, ?hz14⟩) (by assumption) ?rert14
        case hz14 => intro w hSw; (try dsimp only at hSw); go_split_ands; go_simp; try with_reducible rfl
        simp only [Act.put, List.setIfInBounds_toArray, List.set_cons_zero, List.set_cons_succ]
        refine wpAnyH_done (by kernel_rfl) ?_ _
        clear hHeld hb9 hb8 hBl HC HO HZr HYr HBr HB keep0 keepN hHC hW hB9 HE8 hHE hb1
        generalize hee : wr.heap.size = ee at *
        generalize ((((((((((w8.setCell ⟨ee, 0, none⟩ (.int .i64 E.kind)).setCell ⟨ee, 1, none⟩ (.int .i64 E.order)).setCell ⟨ee, 2, none⟩ (.int .i64 E.item)).setCell ⟨ee, 3, none⟩ (.int .i64 E.qty)).setCell ⟨ee, 4, none⟩ (.int .i64 E.price)).setCell ⟨ee, 5, none⟩ (.int .i64 E.cur)).setCell ⟨ee, 6, none⟩ (.int .i64 E.tax)).setCell ⟨ee, 7, none⟩ (.string ⟨E.who.toArray⟩)).setCell ⟨ee, 8, none⟩ (.int .i64 E.stamp)).setCell ⟨ee, 9, none⟩ (.string ⟨E.note.toArray⟩)) = w9 at *
        have heb : ee ≠ be := by omega
        clear hee
      all_goals
        by_cases hec : ec ≠ 0
        · have hfin := Lib.hid (show cmdOf s = (cmdNone, ec) by rw [HOF2.out]; exact if_pos hec)
          have kec : (ec != 0) = true := by rw [bne_iff_ne]; exact hec
          clear hec
          go_wp2_with (first
            | (with_reducible refine wpList_load_cm rfl (.tmp 4) rfl (w.heap.size + 1) cmdNone (.slice none 0 0) (.slice none 0 0) rfl HY9.out ?_)
            | (with_reducible refine wpList_store_cm rfl (.tmp 2) (.tmp 121) rfl w.heap.size cmdNone cmdNone (.slice none 0 0) (.slice none 0 0) (.slice none 0 0) (.slice none 0 0) rfl rfl rfl rfl HZ9.out ?_))
          exact bodyPost_ret (v := .tuple #[cmV cmdNone (.slice none 0 0) (.slice none 0 0), .int .i64 ec]) (results_cm rfl _ _ w.heap.size cmdNone (.slice none 0 0) (.slice none 0 0) _ rfl rfl (HZ9.out.row cmdNone (.slice none 0 0) (.slice none 0 0))) rfl ⟨_, _, by rw [hfin.out], by rw [hfin.out]; exact World.ownsRow_nil _ _ _ _, by rw [hfin.out]; exact World.ownsRow_nil _ _ _ _, Below.row HB9.out (Nat.le_refl _) _⟩
        · have hfin := Lib.hid (show cmdOf s = (⟨k0, [n], E, []⟩, 0) by rw [HOF2.out]; exact if_neg hec)
          have kec : (ec != 0) = false := by rw [bne_eq_false_iff_eq]; exact Classical.byContradiction hec
          obtain ⟨d2, d3, d4, d5, d6, d7, d8, d9, d10, d11⟩ := HC9.out.evs
          have e2 := HC9.out.free 2
          have e3 := HC9.out.free 3
          have e4 := HC9.out.free 4
          have e5 := HC9.out.free 5
          have e6 := HC9.out.free 6
          have e7 := HC9.out.free 7
          have e8 := HC9.out.free 8
          have e9 := HC9.out.free 9
          have e10 := HC9.out.free 10
          have e11 := HC9.out.free 11
          have hW := (((((((((((But.refl be w9).set 2 (.int .i64 E.kind)).set 3 (.int .i64 E.order)).set 4 (.int .i64 E.item)).set 5 (.int .i64 E.qty)).set 6 (.int .i64 E.price)).set 7 (.int .i64 E.cur)).set 8 (.int .i64 E.tax)).set 9 (.string ⟨E.who.toArray⟩)).set 10 (.int .i64 E.stamp)).set 11 (.string ⟨E.note.toArray⟩))
          have HC10 := Lib.hid (cm_setEv HC9.out E)
          have HZ10 := Lib.hid (HZ9.out.but hW (by omega))
          have HO10 := Lib.hid (own_but' HO9.out hW (fun e => by simp [Value.ownBlock] at e; omega))
          have HB10 := Lib.hid (But.below HB9.out hW (by omega))
          clear hec hW
          go_wp2_with (first
            | (with_reducible refine wpList_load_ev rfl (.tmp 16) rfl ee E rfl HE9.out ?_)
            | (with_reducible refine wpList_load_cm rfl (.tmp 8) rfl be ⟨k0, [n], E, []⟩ (.slice (some ⟨g2, 0, none⟩) 1 oc) (.slice none 0 0) rfl HC10.out ?_)
            | (with_reducible refine wpList_store_cm rfl (.tmp 2) (.tmp 125) rfl w.heap.size cmdNone ⟨k0, [n], E, []⟩ (.slice none 0 0) (.slice none 0 0) (.slice (some ⟨g2, 0, none⟩) 1 oc) (.slice none 0 0) rfl rfl rfl rfl HZ10.out ?_))
          exact bodyPost_ret (v := .tuple #[cmV ⟨k0, [n], E, []⟩ (.slice (some ⟨g2, 0, none⟩) 1 oc) (.slice none 0 0), .int .i64 0]) (results_cm rfl _ _ w.heap.size ⟨k0, [n], E, []⟩ (.slice (some ⟨g2, 0, none⟩) 1 oc) (.slice none 0 0) _ rfl rfl (HZ10.out.row ⟨k0, [n], E, []⟩ (.slice (some ⟨g2, 0, none⟩) 1 oc) (.slice none 0 0))) rfl ⟨_, _, by rw [hfin.out], by rw [hfin.out]; exact own_row (own_mono HO10.out (by omega)) _ _ (fun e => by have := (HO10.out.lt _ e).1; omega), by rw [hfin.out]; exact World.ownsRow_nil _ _ _ _, Below.row HB10.out (Nat.le_refl _) _⟩

theorem cmdR_any (s : List UInt8) (w : World) (hs : s.length ≤ 1048576) : Calls Tryz.prog 32 #[.string ⟨s.toArray⟩] w (CmPost (cmdOf s) w) := by
  obtain ⟨k0, args, hsp⟩ : ∃ k0 args, splitOn 32 s = k0 :: args := by
    cases h : splitOn 32 s with
    | nil => exact absurd h (splitOn_ne 32 s)
    | cons a b => exact ⟨a, b, rfl⟩
  by_cases h6 : shapeV k0 = 6
  · refine cmdR_6 s k0 args w hsp hs ?_
    rw [(least_shape k0).1, h6]; decide
  by_cases h4 : shapeV k0 = 4
  · match args, hsp with
    | [], hsp => exact cmdR_4x s k0 [] w hsp hs h4 (by simp)
    | [x], hsp => exact cmdR_4x s k0 [x] w hsp hs h4 (by simp)
    | a :: b :: rest, hsp => exact cmdR_4 s k0 _ w hsp hs a b rest _ rfl rfl h4
  by_cases h5 : shapeV k0 = 5
  · match args, hsp with
    | [], hsp => exact cmdR_5x s k0 [] w hsp hs h5 (by simp)
    | [x], hsp => exact cmdR_5 s k0 _ w hsp hs x rfl h5
    | a :: b :: rest, hsp => exact cmdR_5x s k0 _ w hsp hs h5 (by simp)
  cases hc : countOk (shapeV k0) args.length with
  | false =>
    by_cases hb : (args.length : Int) < leastOf k0
    · exact cmdR_nxa s k0 args w hsp hs h6 h4 h5 hc hb
    · refine cmdR_nxb s k0 args w hsp hs h6 h4 h5 hc hb ?_
      rcases (count_iff k0 args.length).1 (.inr hc) with h | h | h
      · have := (least_shape k0).1
        have h2 := shape_le k0
        rw [this] at h
        generalize shapeV k0 = m at *
        match m, h2 with
        | 0, _ => simp at h
        | 1, _ => simp at h
        | 2, _ => simp at h
        | 3, _ => simp at h
        | 4, _ => simp at h
        | 5, _ => simp at h
        | 6, _ => exact absurd rfl h6
      · exact absurd h hb
      · exact h
  | true => exact cmdR_n s k0 args w hsp hs h6 h4 h5 hc

end Go.Proofs.YtecmpmnidlfgnaaGreatDoor
