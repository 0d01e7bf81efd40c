import Derived.Test.YtlobohpbgghleaaDoorValid2
import Derived.Test.YtlobohpbgghleaaDoorValid3
import Derived.Test.YtlobohpbgghleaaDoorValid4
import Derived.Test.YtlobohpbgghleaaDoorValid5
namespace Go.Proofs.YtlobohpbgghleaaDoor
open Go.RowKit

theorem sixB (b1 b2 b3 b4 b5 b6 : Bool) : b1 = false ∨ (b1 = true ∧ b2 = false) ∨ (b1 = true ∧ b2 = true ∧ b3 = false) ∨ (b1 = true ∧ b2 = true ∧ b3 = true ∧ b4 = false) ∨ (b1 = true ∧ b2 = true ∧ b3 = true ∧ b4 = true ∧ b5 = false) ∨ (b1 = true ∧ b2 = true ∧ b3 = true ∧ b4 = true ∧ b5 = true ∧ b6 = false) ∨ (b1 = true ∧ b2 = true ∧ b3 = true ∧ b4 = true ∧ b5 = true ∧ b6 = true) := by
  cases b1 <;> cases b2 <;> cases b3 <;> cases b4 <;> cases b5 <;> cases b6 <;> decide

set_option maxRecDepth 100000 in
set_option maxHeartbeats 16000000 in
theorem oValid_0_0_0 (s : St) (lv : Value) (w : World) (hr : LnRow w lv s.lines) (hw : s.who.length ≤ 281474976710656) (hf : boundedB s = true) (hm : ¬ dueOf s < s.paid) (hs : s.status = 0) (hp : s.prior = 0) (g1 : (s.paid == dueOf s) = false) :
    Calls Tryd.prog 8 #[stV s lv] w fun e w' => e = .returned (.bool (validB s)) ∧ Below w.heap.size w w' := by
  have HVb := Lib.hid (show validB s = (s.lines.isEmpty && s.cur == 0 && s.tax == 0 && s.events == s.refused && s.stamp == 0 && s.who.isEmpty) by
    have h1 : validB s = standB s 0 := by unfold validB; rw [hf, decide_eq_true (by omega), hs, hp]; rfl
    have h2 : (s.paid == dueOf s && decide (0 < s.paid)) = false := by rw [g1]; rfl
    rw [h1]; unfold standB; rw [h2]; rfl)
  have hbp := bounded_p hf
  have HBO := Lib.hid (show ∀ W : World, LnRow W lv s.lines → Calls Tryd.prog 15 #[stV s lv] W fun e w' => e = .returned (.bool true) ∧ Below W.heap.size W w' from fun W h => hf ▸ obounded s lv W h hw)
  obtain ⟨D, hD⟩ : ∃ D, D = dueOf s := ⟨_, rfl⟩
  have HDU := Lib.hid (show ∀ W : World, LnRow W lv s.lines → Calls Tryd.prog 16 #[stV s lv] W fun e w' => e = .returned (.int .i64 D) ∧ Below W.heap.size W w' from fun W h => hD ▸ odue_any s lv W h hbp.fine hbp.few hbp.tax.1 hbp.tax.2)
  have HH := Lib.hid (show StBlk (w.alloc (.cells (stCs s lv) 25)).drew w.heap.size s lv ∧ LnRow (w.alloc (.cells (stCs s lv) 25)).drew lv s.lines ∧ Below w.heap.size w (w.alloc (.cells (stCs s lv) 25)).drew from by
    have hb : Below w.heap.size w (w.alloc (.cells (stCs s lv) 25)) := (Below.refl _ _).alloc (Nat.le_refl _) _
    exact ⟨stBlk_alloc w s lv, hr.below (Below.next hb (below_drewN' _ 1)), Below.next hb (below_drewN' _ 1)⟩)
  have HSH := Lib.hid (show ∀ W : World, LnRow W lv s.lines → Calls Tryd.prog 17 #[stV s lv] W fun e w' => e = .returned (.tuple #[.bool (noneB s.lines), .bool (wholeB s.lines)]) ∧ Below W.heap.size W w' from fun W h => oshipped_any s lv W h)
  obtain ⟨nB, hnB⟩ : ∃ x, x = noneB s.lines := ⟨_, rfl⟩
  obtain ⟨wB, hwB⟩ : ∃ x, x = wholeB s.lines := ⟨_, rfl⟩
  rw [← hnB, ← hwB] at HSH
  rw [← hD] at hm g1
  have d1 : decide (D < s.paid) = false := decide_eq_false hm
  have hm2 : s.paid ≤ D := by omega
  have HS := Lib.hid hs
  have HP := Lib.hid hp
  obtain ⟨oa, cap, hlv, _, _, _⟩ := hr.shape
  have HLV := Lib.hid hlv
  clear hr hw hf hbp hD hm hs hp hnB hwB hlv
  go_enter Tryd.func8, Tryd.ntmps8
  go_wp2
  refine wp_region_held_drew (S := fun w' => StBlk w' w.heap.size s lv ∧ LnRow w' lv s.lines ∧ Below w.heap.size w w') (by kernel_rfl) HH.out (fun hHeld => ?_)
  refine wpAnyH_take (i := 0) (oi := ⟨_, _, _, _, _, _⟩) (v := stV s lv) rfl (by kernel_rfl) (by kernel_rfl) (by kernel_rfl) (fun _ _ _ h => h) (yieldsIf_load_mid (by kernel_rfl) 25 (.tmp 1) rfl w.heap.size 0 rfl (stCs s lv).toList _ (fun w' h j v hv => by rw [Nat.zero_add, h.1.cell]; simpa using hv) Tryd.underlying25 rfl (by rw [stInfo]; rfl)) (by assumption) ?_
  simp only [pA, pB, pC, pD]
  refine wpAnyH_ready (rs := [1]) (by kernel_rfl) (by simp) ?_
  refine AllReadyH.cons rfl (fun K hK => ?_) AllReadyH.nil
  go_simp
  go_at_call 15
  obtain ⟨hSt, hLn, hBe⟩ := hHeld
  refine (HBO.out _ hLn).mono ?_
  rintro x w1 ⟨rfl, hb⟩
  go_wp2_with fail
  refine hK.out _ _ ⟨hSt.below hb, hLn.below hb, Below.next hBe hb⟩ (fun hHeld => ?_)
  clear hK K hSt hLn hBe hb
  refine tk 2 rfl ?v_2_232 ?hy_2_232 ?r_2_232
  case hy_2_232 => intro w h; have k1 := h.1.c1; have k6 := h.1.c6; go_simp; try with_reducible rfl
  simp only [pA, pB, pC, pD]
  refine tk 3 rfl ?v_3_233 ?hy_3_233 ?r_3_233
  case hy_3_233 => intro w h; have k1 := h.1.c1; have k6 := h.1.c6; go_simp; try with_reducible rfl
  simp only [pA, pB, pC, pD]
  refine tk 4 rfl ?v_4_234 ?hy_4_234 ?r_4_234
  case hy_4_234 => intro w h; have k1 := h.1.c1; have k6 := h.1.c6; go_simp; try with_reducible rfl
  simp only [pA, pB, pC, pD]
  refine tk 5 rfl ?v_5_235 ?hy_5_235 ?r_5_235
  case hy_5_235 => intro w h; have k1 := h.1.c1; have k6 := h.1.c6; go_simp; try with_reducible rfl
  simp only [pA, pB, pC, pD]
  refine wpAnyH_take (i := 6) (oi := ⟨_, _, _, _, _, _⟩) (v := stV s lv) rfl (by kernel_rfl) (by kernel_rfl) (by kernel_rfl) (fun _ _ _ h => h) (yieldsIf_load_mid (by kernel_rfl) 25 (.tmp 1) rfl w.heap.size 0 rfl (stCs s lv).toList _ (fun w' h j v hv => by rw [Nat.zero_add, h.1.cell]; simpa using hv) Tryd.underlying25 rfl (by rw [stInfo]; rfl)) (by assumption) ?_
  simp only [pA, pB, pC, pD]
  refine wpAnyH_ready (rs := [7]) (by kernel_rfl) (by simp) ?_
  refine AllReadyH.cons rfl (fun K hK => ?_) AllReadyH.nil
  go_simp
  go_at_call 16
  obtain ⟨hSt, hLn, hBe⟩ := hHeld
  refine (HDU.out _ hLn).mono ?_
  rintro x w2 ⟨rfl, hb⟩
  go_wp2_with fail
  refine hK.out _ _ ⟨hSt.below hb, hLn.below hb, Below.next hBe hb⟩ (fun hHeld => ?_)
  clear hK K hSt hLn hBe hb
  refine tk 8 rfl ?v_8_236 ?hy_8_236 ?r_8_236
  case hy_8_236 => intro w h; have k1 := h.1.c1; have k6 := h.1.c6; go_simp; try with_reducible rfl
  simp only [pA, pB, pC, pD]
  refine tk 9 rfl ?v_9_237 ?hy_9_237 ?r_9_237
  case hy_9_237 => intro w h; have k1 := h.1.c1; have k6 := h.1.c6; go_simp; try with_reducible rfl
  simp only [pA, pB, pC, pD]
  refine wpAnyH_done (by kernel_rfl) ?_ _
  have c1 : w2.cell? ⟨w.heap.size, 1, none⟩ = some (.int .i64 0) := by rw [hHeld.1.cell 1, stCs, HS.out]; rfl
  have c2 : w2.cell? ⟨w.heap.size, 2, none⟩ = some (.int .i64 0) := by rw [hHeld.1.cell 2, stCs, HP.out]; rfl
  have HE := Lib.hid hHeld
  clear hHeld HBO HH
  go_wp2_with (first
    | (with_reducible refine wpList_load_st rfl (.tmp 1) rfl w.heap.size s lv rfl HE.out.1 ?_)
    | (go_at_call 17; refine (HSH.out _ HE.out.2.1).mono ?_; rintro x w3 ⟨rfl, hb⟩; have HE3 := Lib.hid (show StBlk w3 w.heap.size s lv ∧ LnRow w3 lv s.lines ∧ Below w.heap.size w w3 from ⟨HE.out.1.below hb, HE.out.2.1.below hb, Below.next HE.out.2.2 hb⟩); clear hb))
  clear c1 c2 HE HSH
  refine wp_region_held_drew (S := fun w' => StBlk w' w.heap.size s lv ∧ LnRow w' lv s.lines ∧ Below w.heap.size w w') (by kernel_rfl) ⟨HE3.out.1, HE3.out.2.1, Below.next HE3.out.2.2 (below_drewN' _ 1)⟩ (fun hHeld => ?_)
  refine tk 0 rfl ?v_0_238 ?hy_0_238 ?r_0_238
  case hy_0_238 => intro w h; have k1 := h.1.c1; have k6 := h.1.c6; go_simp; try with_reducible rfl
  simp only [pA, pB, pC, pD]
  refine tk 1 rfl ?v_1_239 ?hy_1_239 ?r_1_239
  case hy_1_239 => intro w h; have k1 := h.1.c1; have k6 := h.1.c6; go_simp; try with_reducible rfl
  simp only [pA, pB, pC, pD]
  refine wpAnyH_take (i := 2) (oi := ⟨_, _, _, _, _, _⟩) (v := stV s lv) rfl (by kernel_rfl) (by kernel_rfl) (by kernel_rfl) (fun _ _ _ h => h) (yieldsIf_load_mid (by kernel_rfl) 25 (.tmp 1) rfl w.heap.size 0 rfl (stCs s lv).toList _ (fun w' h j v hv => by rw [Nat.zero_add, h.1.cell]; simpa using hv) Tryd.underlying25 rfl (by rw [stInfo]; rfl)) (by assumption) ?_
  simp only [pA, pB, pC, pD]
  refine wpAnyH_ready (rs := [3]) (by kernel_rfl) (by simp) ?_
  refine AllReadyH.cons rfl (fun K hK => ?_) AllReadyH.nil
  go_simp
  go_at_call 16
  obtain ⟨hSt, hLn, hBe⟩ := hHeld
  refine (HDU.out _ hLn).mono ?_
  rintro x w4 ⟨rfl, hb⟩
  go_wp2_with fail
  refine hK.out _ _ ⟨hSt.below hb, hLn.below hb, Below.next hBe hb⟩ (fun hHeld => ?_)
  clear hK K hSt hLn hBe hb
  refine tk 4 rfl ?v_4_240 ?hy_4_240 ?r_4_240
  case hy_4_240 => intro w h; have k1 := h.1.c1; have k6 := h.1.c6; go_simp; try with_reducible rfl
  simp only [pA, pB, pC, pD]
  refine tk 5 rfl ?v_5_241 ?hy_5_241 ?r_5_241
  case hy_5_241 => intro w h; have k1 := h.1.c1; have k6 := h.1.c6; go_simp; try with_reducible rfl
  simp only [pA, pB, pC, pD]
  refine tkn 6 rfl ?_
  simp only [pA, pB, pC, pD]
  refine tkn 7 rfl ?_
  simp only [pA, pB, pC, pD]
  refine tkn 8 rfl ?_
  simp only [pA, pB, pC, pD]
  refine tk 9 rfl ?v_9_242 ?hy_9_242 ?r_9_242
  case hy_9_242 => intro w h; have k1 := h.1.c1; have k6 := h.1.c6; go_simp; try with_reducible rfl
  simp only [pA, pB, pC, pD]
  refine tk 10 rfl ?v_10_243 ?hy_10_243 ?r_10_243
  case hy_10_243 => intro w h; have k1 := h.1.c1; have k6 := h.1.c6; go_simp; try with_reducible rfl
  simp only [pA, pB, pC, pD]
  refine wpAnyH_done (by kernel_rfl) ?_ _
  have HB := Lib.hid hHeld.2.2
  have d3 : w4.cell? ⟨w.heap.size, 3, none⟩ = some (.int .i64 s.cur) := hHeld.1.cell 3
  have d4 : w4.cell? ⟨w.heap.size, 4, none⟩ = some (.int .i64 s.tax) := hHeld.1.cell 4
  have d5 : w4.cell? ⟨w.heap.size, 5, none⟩ = some (.slice oa s.lines.length cap) := by rw [hHeld.1.cell 5, stCs, HLV.out]; rfl
  have d7 : w4.cell? ⟨w.heap.size, 7, none⟩ = some (.int .i64 s.refunded) := hHeld.1.cell 7
  have d8 : w4.cell? ⟨w.heap.size, 8, none⟩ = some (.int .i64 s.events) := hHeld.1.cell 8
  have d9 : w4.cell? ⟨w.heap.size, 9, none⟩ = some (.int .i64 s.refused) := hHeld.1.cell 9
  have d10 : w4.cell? ⟨w.heap.size, 10, none⟩ = some (.int .i64 s.stamp) := hHeld.1.cell 10
  have d11 : w4.cell? ⟨w.heap.size, 11, none⟩ = some (.string ⟨s.who.toArray⟩) := hHeld.1.cell 11
  clear hHeld HE3 HDU
  have l1 : ((s.lines.length : Int) == 0) = s.lines.isEmpty := by cases s.lines <;> simp <;> omega
  rcases sixB s.lines.isEmpty (s.cur == 0) (s.tax == 0) (s.events == s.refused) (s.stamp == 0) s.who.isEmpty with k1 | ⟨k1, k2⟩ | ⟨k1, k2, k3⟩ | ⟨k1, k2, k3, k4⟩ | ⟨k1, k2, k3, k4, k5⟩ | ⟨k1, k2, k3, k4, k5, k6⟩ | ⟨k1, k2, k3, k4, k5, k6⟩
  · rw [k1] at l1
    go_wp2
    go_ret
    exact ⟨by rw [HVb.out, k1]; rfl, HB.out⟩
  · rw [k1] at l1
    go_wp2
    go_ret
    exact ⟨by rw [HVb.out, k1, k2]; rfl, HB.out⟩
  · rw [k1] at l1
    go_wp2
    go_ret
    exact ⟨by rw [HVb.out, k1, k2, k3]; rfl, HB.out⟩
  · rw [k1] at l1
    go_wp2
    go_ret
    exact ⟨by rw [HVb.out, k1, k2, k3, k4]; rfl, HB.out⟩
  · rw [k1] at l1
    go_wp2
    go_ret
    exact ⟨by rw [HVb.out, k1, k2, k3, k4, k5]; rfl, HB.out⟩
  · rw [k1] at l1
    go_wp2
    go_ret
    exact ⟨by rw [HVb.out, k1, k2, k3, k4, k5, k6]; rfl, HB.out⟩
  · rw [k1] at l1
    go_wp2
    go_ret
    exact ⟨by rw [HVb.out, k1, k2, k3, k4, k5, k6]; rfl, HB.out⟩

set_option maxRecDepth 100000 in
set_option maxHeartbeats 16000000 in
theorem oValid_0_0_1 (s : St) (lv : Value) (w : World) (hr : LnRow w lv s.lines) (hw : s.who.length ≤ 281474976710656) (hf : boundedB s = true) (hm : ¬ dueOf s < s.paid) (hs : s.status = 0) (hp : s.prior = 0) (g1 : (s.paid == dueOf s) = true) (g3 : decide (0 < s.paid) = false) :
    Calls Tryd.prog 8 #[stV s lv] w fun e w' => e = .returned (.bool (validB s)) ∧ Below w.heap.size w w' := by
  have HVb := Lib.hid (show validB s = (s.lines.isEmpty && s.cur == 0 && s.tax == 0 && s.events == s.refused && s.stamp == 0 && s.who.isEmpty) by
    have h1 : validB s = standB s 0 := by unfold validB; rw [hf, decide_eq_true (by omega), hs, hp]; rfl
    have h2 : (s.paid == dueOf s && decide (0 < s.paid)) = false := by rw [g1, g3]; rfl
    rw [h1]; unfold standB; rw [h2]; rfl)
  have hbp := bounded_p hf
  have HBO := Lib.hid (show ∀ W : World, LnRow W lv s.lines → Calls Tryd.prog 15 #[stV s lv] W fun e w' => e = .returned (.bool true) ∧ Below W.heap.size W w' from fun W h => hf ▸ obounded s lv W h hw)
  obtain ⟨D, hD⟩ : ∃ D, D = dueOf s := ⟨_, rfl⟩
  have HDU := Lib.hid (show ∀ W : World, LnRow W lv s.lines → Calls Tryd.prog 16 #[stV s lv] W fun e w' => e = .returned (.int .i64 D) ∧ Below W.heap.size W w' from fun W h => hD ▸ odue_any s lv W h hbp.fine hbp.few hbp.tax.1 hbp.tax.2)
  have HH := Lib.hid (show StBlk (w.alloc (.cells (stCs s lv) 25)).drew w.heap.size s lv ∧ LnRow (w.alloc (.cells (stCs s lv) 25)).drew lv s.lines ∧ Below w.heap.size w (w.alloc (.cells (stCs s lv) 25)).drew from by
    have hb : Below w.heap.size w (w.alloc (.cells (stCs s lv) 25)) := (Below.refl _ _).alloc (Nat.le_refl _) _
    exact ⟨stBlk_alloc w s lv, hr.below (Below.next hb (below_drewN' _ 1)), Below.next hb (below_drewN' _ 1)⟩)
  have HSH := Lib.hid (show ∀ W : World, LnRow W lv s.lines → Calls Tryd.prog 17 #[stV s lv] W fun e w' => e = .returned (.tuple #[.bool (noneB s.lines), .bool (wholeB s.lines)]) ∧ Below W.heap.size W w' from fun W h => oshipped_any s lv W h)
  obtain ⟨nB, hnB⟩ : ∃ x, x = noneB s.lines := ⟨_, rfl⟩
  obtain ⟨wB, hwB⟩ : ∃ x, x = wholeB s.lines := ⟨_, rfl⟩
  rw [← hnB, ← hwB] at HSH
  rw [← hD] at hm g1
  have d1 : decide (D < s.paid) = false := decide_eq_false hm
  have hm2 : s.paid ≤ D := by omega
  have HS := Lib.hid hs
  have HP := Lib.hid hp
  obtain ⟨oa, cap, hlv, _, _, _⟩ := hr.shape
  have HLV := Lib.hid hlv
  clear hr hw hf hbp hD hm hs hp hnB hwB hlv
  go_enter Tryd.func8, Tryd.ntmps8
  go_wp2
  refine wp_region_held_drew (S := fun w' => StBlk w' w.heap.size s lv ∧ LnRow w' lv s.lines ∧ Below w.heap.size w w') (by kernel_rfl) HH.out (fun hHeld => ?_)
  refine wpAnyH_take (i := 0) (oi := ⟨_, _, _, _, _, _⟩) (v := stV s lv) rfl (by kernel_rfl) (by kernel_rfl) (by kernel_rfl) (fun _ _ _ h => h) (yieldsIf_load_mid (by kernel_rfl) 25 (.tmp 1) rfl w.heap.size 0 rfl (stCs s lv).toList _ (fun w' h j v hv => by rw [Nat.zero_add, h.1.cell]; simpa using hv) Tryd.underlying25 rfl (by rw [stInfo]; rfl)) (by assumption) ?_
  simp only [pA, pB, pC, pD]
  refine wpAnyH_ready (rs := [1]) (by kernel_rfl) (by simp) ?_
  refine AllReadyH.cons rfl (fun K hK => ?_) AllReadyH.nil
  go_simp
  go_at_call 15
  obtain ⟨hSt, hLn, hBe⟩ := hHeld
  refine (HBO.out _ hLn).mono ?_
  rintro x w1 ⟨rfl, hb⟩
  go_wp2_with fail
  refine hK.out _ _ ⟨hSt.below hb, hLn.below hb, Below.next hBe hb⟩ (fun hHeld => ?_)
  clear hK K hSt hLn hBe hb
  refine tk 2 rfl ?v_2_244 ?hy_2_244 ?r_2_244
  case hy_2_244 => intro w h; have k1 := h.1.c1; have k6 := h.1.c6; go_simp; try with_reducible rfl
  simp only [pA, pB, pC, pD]
  refine tk 3 rfl ?v_3_245 ?hy_3_245 ?r_3_245
  case hy_3_245 => intro w h; have k1 := h.1.c1; have k6 := h.1.c6; go_simp; try with_reducible rfl
  simp only [pA, pB, pC, pD]
  refine tk 4 rfl ?v_4_246 ?hy_4_246 ?r_4_246
  case hy_4_246 => intro w h; have k1 := h.1.c1; have k6 := h.1.c6; go_simp; try with_reducible rfl
  simp only [pA, pB, pC, pD]
  refine tk 5 rfl ?v_5_247 ?hy_5_247 ?r_5_247
  case hy_5_247 => intro w h; have k1 := h.1.c1; have k6 := h.1.c6; go_simp; try with_reducible rfl
  simp only [pA, pB, pC, pD]
  refine wpAnyH_take (i := 6) (oi := ⟨_, _, _, _, _, _⟩) (v := stV s lv) rfl (by kernel_rfl) (by kernel_rfl) (by kernel_rfl) (fun _ _ _ h => h) (yieldsIf_load_mid (by kernel_rfl) 25 (.tmp 1) rfl w.heap.size 0 rfl (stCs s lv).toList _ (fun w' h j v hv => by rw [Nat.zero_add, h.1.cell]; simpa using hv) Tryd.underlying25 rfl (by rw [stInfo]; rfl)) (by assumption) ?_
  simp only [pA, pB, pC, pD]
  refine wpAnyH_ready (rs := [7]) (by kernel_rfl) (by simp) ?_
  refine AllReadyH.cons rfl (fun K hK => ?_) AllReadyH.nil
  go_simp
  go_at_call 16
  obtain ⟨hSt, hLn, hBe⟩ := hHeld
  refine (HDU.out _ hLn).mono ?_
  rintro x w2 ⟨rfl, hb⟩
  go_wp2_with fail
  refine hK.out _ _ ⟨hSt.below hb, hLn.below hb, Below.next hBe hb⟩ (fun hHeld => ?_)
  clear hK K hSt hLn hBe hb
  refine tk 8 rfl ?v_8_248 ?hy_8_248 ?r_8_248
  case hy_8_248 => intro w h; have k1 := h.1.c1; have k6 := h.1.c6; go_simp; try with_reducible rfl
  simp only [pA, pB, pC, pD]
  refine tk 9 rfl ?v_9_249 ?hy_9_249 ?r_9_249
  case hy_9_249 => intro w h; have k1 := h.1.c1; have k6 := h.1.c6; go_simp; try with_reducible rfl
  simp only [pA, pB, pC, pD]
  refine wpAnyH_done (by kernel_rfl) ?_ _
  have c1 : w2.cell? ⟨w.heap.size, 1, none⟩ = some (.int .i64 0) := by rw [hHeld.1.cell 1, stCs, HS.out]; rfl
  have c2 : w2.cell? ⟨w.heap.size, 2, none⟩ = some (.int .i64 0) := by rw [hHeld.1.cell 2, stCs, HP.out]; rfl
  have HE := Lib.hid hHeld
  clear hHeld HBO HH
  go_wp2_with (first
    | (with_reducible refine wpList_load_st rfl (.tmp 1) rfl w.heap.size s lv rfl HE.out.1 ?_)
    | (go_at_call 17; refine (HSH.out _ HE.out.2.1).mono ?_; rintro x w3 ⟨rfl, hb⟩; have HE3 := Lib.hid (show StBlk w3 w.heap.size s lv ∧ LnRow w3 lv s.lines ∧ Below w.heap.size w w3 from ⟨HE.out.1.below hb, HE.out.2.1.below hb, Below.next HE.out.2.2 hb⟩); clear hb))
  clear c1 c2 HE HSH
  refine wp_region_held_drew (S := fun w' => StBlk w' w.heap.size s lv ∧ LnRow w' lv s.lines ∧ Below w.heap.size w w') (by kernel_rfl) ⟨HE3.out.1, HE3.out.2.1, Below.next HE3.out.2.2 (below_drewN' _ 1)⟩ (fun hHeld => ?_)
  refine tk 0 rfl ?v_0_250 ?hy_0_250 ?r_0_250
  case hy_0_250 => intro w h; have k1 := h.1.c1; have k6 := h.1.c6; go_simp; try with_reducible rfl
  simp only [pA, pB, pC, pD]
  refine tk 1 rfl ?v_1_251 ?hy_1_251 ?r_1_251
  case hy_1_251 => intro w h; have k1 := h.1.c1; have k6 := h.1.c6; go_simp; try with_reducible rfl
  simp only [pA, pB, pC, pD]
  refine wpAnyH_take (i := 2) (oi := ⟨_, _, _, _, _, _⟩) (v := stV s lv) rfl (by kernel_rfl) (by kernel_rfl) (by kernel_rfl) (fun _ _ _ h => h) (yieldsIf_load_mid (by kernel_rfl) 25 (.tmp 1) rfl w.heap.size 0 rfl (stCs s lv).toList _ (fun w' h j v hv => by rw [Nat.zero_add, h.1.cell]; simpa using hv) Tryd.underlying25 rfl (by rw [stInfo]; rfl)) (by assumption) ?_
  simp only [pA, pB, pC, pD]
  refine wpAnyH_ready (rs := [3]) (by kernel_rfl) (by simp) ?_
  refine AllReadyH.cons rfl (fun K hK => ?_) AllReadyH.nil
  go_simp
  go_at_call 16
  obtain ⟨hSt, hLn, hBe⟩ := hHeld
  refine (HDU.out _ hLn).mono ?_
  rintro x w4 ⟨rfl, hb⟩
  go_wp2_with fail
  refine hK.out _ _ ⟨hSt.below hb, hLn.below hb, Below.next hBe hb⟩ (fun hHeld => ?_)
  clear hK K hSt hLn hBe hb
  refine tk 4 rfl ?v_4_252 ?hy_4_252 ?r_4_252
  case hy_4_252 => intro w h; have k1 := h.1.c1; have k6 := h.1.c6; go_simp; try with_reducible rfl
  simp only [pA, pB, pC, pD]
  refine tk 5 rfl ?v_5_253 ?hy_5_253 ?r_5_253
  case hy_5_253 => intro w h; have k1 := h.1.c1; have k6 := h.1.c6; go_simp; try with_reducible rfl
  simp only [pA, pB, pC, pD]
  refine tk 6 rfl ?v_6_254 ?hy_6_254 ?r_6_254
  case hy_6_254 => intro w h; have k1 := h.1.c1; have k6 := h.1.c6; go_simp; try with_reducible rfl
  simp only [pA, pB, pC, pD]
  refine tk 7 rfl ?v_7_255 ?hy_7_255 ?r_7_255
  case hy_7_255 => intro w h; have k1 := h.1.c1; have k6 := h.1.c6; go_simp; try with_reducible rfl
  simp only [pA, pB, pC, pD]
  refine tk 8 rfl ?v_8_256 ?hy_8_256 ?r_8_256
  case hy_8_256 => intro w h; have k1 := h.1.c1; have k6 := h.1.c6; go_simp; try with_reducible rfl
  simp only [pA, pB, pC, pD]
  refine tk 9 rfl ?v_9_257 ?hy_9_257 ?r_9_257
  case hy_9_257 => intro w h; have k1 := h.1.c1; have k6 := h.1.c6; go_simp; try with_reducible rfl
  simp only [pA, pB, pC, pD]
  refine tk 10 rfl ?v_10_258 ?hy_10_258 ?r_10_258
  case hy_10_258 => intro w h; have k1 := h.1.c1; have k6 := h.1.c6; go_simp; try with_reducible rfl
  simp only [pA, pB, pC, pD]
  refine wpAnyH_done (by kernel_rfl) ?_ _
  have HB := Lib.hid hHeld.2.2
  have d3 : w4.cell? ⟨w.heap.size, 3, none⟩ = some (.int .i64 s.cur) := hHeld.1.cell 3
  have d4 : w4.cell? ⟨w.heap.size, 4, none⟩ = some (.int .i64 s.tax) := hHeld.1.cell 4
  have d5 : w4.cell? ⟨w.heap.size, 5, none⟩ = some (.slice oa s.lines.length cap) := by rw [hHeld.1.cell 5, stCs, HLV.out]; rfl
  have d7 : w4.cell? ⟨w.heap.size, 7, none⟩ = some (.int .i64 s.refunded) := hHeld.1.cell 7
  have d8 : w4.cell? ⟨w.heap.size, 8, none⟩ = some (.int .i64 s.events) := hHeld.1.cell 8
  have d9 : w4.cell? ⟨w.heap.size, 9, none⟩ = some (.int .i64 s.refused) := hHeld.1.cell 9
  have d10 : w4.cell? ⟨w.heap.size, 10, none⟩ = some (.int .i64 s.stamp) := hHeld.1.cell 10
  have d11 : w4.cell? ⟨w.heap.size, 11, none⟩ = some (.string ⟨s.who.toArray⟩) := hHeld.1.cell 11
  clear hHeld HE3 HDU
  have l1 : ((s.lines.length : Int) == 0) = s.lines.isEmpty := by cases s.lines <;> simp <;> omega
  rcases sixB s.lines.isEmpty (s.cur == 0) (s.tax == 0) (s.events == s.refused) (s.stamp == 0) s.who.isEmpty with k1 | ⟨k1, k2⟩ | ⟨k1, k2, k3⟩ | ⟨k1, k2, k3, k4⟩ | ⟨k1, k2, k3, k4, k5⟩ | ⟨k1, k2, k3, k4, k5, k6⟩ | ⟨k1, k2, k3, k4, k5, k6⟩
  · rw [k1] at l1
    go_wp2
    go_ret
    exact ⟨by rw [HVb.out, k1]; rfl, HB.out⟩
  · rw [k1] at l1
    go_wp2
    go_ret
    exact ⟨by rw [HVb.out, k1, k2]; rfl, HB.out⟩
  · rw [k1] at l1
    go_wp2
    go_ret
    exact ⟨by rw [HVb.out, k1, k2, k3]; rfl, HB.out⟩
  · rw [k1] at l1
    go_wp2
    go_ret
    exact ⟨by rw [HVb.out, k1, k2, k3, k4]; rfl, HB.out⟩
  · rw [k1] at l1
    go_wp2
    go_ret
    exact ⟨by rw [HVb.out, k1, k2, k3, k4, k5]; rfl, HB.out⟩
  · rw [k1] at l1
    go_wp2
    go_ret
    exact ⟨by rw [HVb.out, k1, k2, k3, k4, k5, k6]; rfl, HB.out⟩
  · rw [k1] at l1
    go_wp2
    go_ret
    exact ⟨by rw [HVb.out, k1, k2, k3, k4, k5, k6]; rfl, HB.out⟩

set_option maxRecDepth 100000 in
set_option maxHeartbeats 16000000 in
theorem oValid_0_0_2 (s : St) (lv : Value) (w : World) (hr : LnRow w lv s.lines) (hw : s.who.length ≤ 281474976710656) (hf : boundedB s = true) (hm : ¬ dueOf s < s.paid) (hs : s.status = 0) (hp : s.prior = 0) (g1 : (s.paid == dueOf s) = true) (g3 : decide (0 < s.paid) = true) :
    Calls Tryd.prog 8 #[stV s lv] w fun e w' => e = .returned (.bool (validB s)) ∧ Below w.heap.size w w' := by
  have HVb := Lib.hid (show validB s = (s.lines.isEmpty && s.cur == 0 && s.tax == 0 && s.events == s.refused && s.stamp == 0 && s.who.isEmpty) by
    have h1 : validB s = standB s 0 := by unfold validB; rw [hf, decide_eq_true (by omega), hs, hp]; rfl
    have h2 : (s.paid == dueOf s && decide (0 < s.paid)) = true := by rw [g1, g3]; rfl
    rw [h1]; unfold standB; rw [h2]; rfl)
  have hbp := bounded_p hf
  have HBO := Lib.hid (show ∀ W : World, LnRow W lv s.lines → Calls Tryd.prog 15 #[stV s lv] W fun e w' => e = .returned (.bool true) ∧ Below W.heap.size W w' from fun W h => hf ▸ obounded s lv W h hw)
  obtain ⟨D, hD⟩ : ∃ D, D = dueOf s := ⟨_, rfl⟩
  have HDU := Lib.hid (show ∀ W : World, LnRow W lv s.lines → Calls Tryd.prog 16 #[stV s lv] W fun e w' => e = .returned (.int .i64 D) ∧ Below W.heap.size W w' from fun W h => hD ▸ odue_any s lv W h hbp.fine hbp.few hbp.tax.1 hbp.tax.2)
  have HH := Lib.hid (show StBlk (w.alloc (.cells (stCs s lv) 25)).drew w.heap.size s lv ∧ LnRow (w.alloc (.cells (stCs s lv) 25)).drew lv s.lines ∧ Below w.heap.size w (w.alloc (.cells (stCs s lv) 25)).drew from by
    have hb : Below w.heap.size w (w.alloc (.cells (stCs s lv) 25)) := (Below.refl _ _).alloc (Nat.le_refl _) _
    exact ⟨stBlk_alloc w s lv, hr.below (Below.next hb (below_drewN' _ 1)), Below.next hb (below_drewN' _ 1)⟩)
  have HSH := Lib.hid (show ∀ W : World, LnRow W lv s.lines → Calls Tryd.prog 17 #[stV s lv] W fun e w' => e = .returned (.tuple #[.bool (noneB s.lines), .bool (wholeB s.lines)]) ∧ Below W.heap.size W w' from fun W h => oshipped_any s lv W h)
  obtain ⟨nB, hnB⟩ : ∃ x, x = noneB s.lines := ⟨_, rfl⟩
  obtain ⟨wB, hwB⟩ : ∃ x, x = wholeB s.lines := ⟨_, rfl⟩
  rw [← hnB, ← hwB] at HSH
  rw [← hD] at hm g1
  have d1 : decide (D < s.paid) = false := decide_eq_false hm
  have hm2 : s.paid ≤ D := by omega
  have HS := Lib.hid hs
  have HP := Lib.hid hp
  obtain ⟨oa, cap, hlv, _, _, _⟩ := hr.shape
  have HLV := Lib.hid hlv
  clear hr hw hf hbp hD hm hs hp hnB hwB hlv
  go_enter Tryd.func8, Tryd.ntmps8
  go_wp2
  refine wp_region_held_drew (S := fun w' => StBlk w' w.heap.size s lv ∧ LnRow w' lv s.lines ∧ Below w.heap.size w w') (by kernel_rfl) HH.out (fun hHeld => ?_)
  refine wpAnyH_take (i := 0) (oi := ⟨_, _, _, _, _, _⟩) (v := stV s lv) rfl (by kernel_rfl) (by kernel_rfl) (by kernel_rfl) (fun _ _ _ h => h) (yieldsIf_load_mid (by kernel_rfl) 25 (.tmp 1) rfl w.heap.size 0 rfl (stCs s lv).toList _ (fun w' h j v hv => by rw [Nat.zero_add, h.1.cell]; simpa using hv) Tryd.underlying25 rfl (by rw [stInfo]; rfl)) (by assumption) ?_
  simp only [pA, pB, pC, pD]
  refine wpAnyH_ready (rs := [1]) (by kernel_rfl) (by simp) ?_
  refine AllReadyH.cons rfl (fun K hK => ?_) AllReadyH.nil
  go_simp
  go_at_call 15
  obtain ⟨hSt, hLn, hBe⟩ := hHeld
  refine (HBO.out _ hLn).mono ?_
  rintro x w1 ⟨rfl, hb⟩
  go_wp2_with fail
  refine hK.out _ _ ⟨hSt.below hb, hLn.below hb, Below.next hBe hb⟩ (fun hHeld => ?_)
  clear hK K hSt hLn hBe hb
  refine tk 2 rfl ?v_2_259 ?hy_2_259 ?r_2_259
  case hy_2_259 => intro w h; have k1 := h.1.c1; have k6 := h.1.c6; go_simp; try with_reducible rfl
  simp only [pA, pB, pC, pD]
  refine tk 3 rfl ?v_3_260 ?hy_3_260 ?r_3_260
  case hy_3_260 => intro w h; have k1 := h.1.c1; have k6 := h.1.c6; go_simp; try with_reducible rfl
  simp only [pA, pB, pC, pD]
  refine tk 4 rfl ?v_4_261 ?hy_4_261 ?r_4_261
  case hy_4_261 => intro w h; have k1 := h.1.c1; have k6 := h.1.c6; go_simp; try with_reducible rfl
  simp only [pA, pB, pC, pD]
  refine tk 5 rfl ?v_5_262 ?hy_5_262 ?r_5_262
  case hy_5_262 => intro w h; have k1 := h.1.c1; have k6 := h.1.c6; go_simp; try with_reducible rfl
  simp only [pA, pB, pC, pD]
  refine wpAnyH_take (i := 6) (oi := ⟨_, _, _, _, _, _⟩) (v := stV s lv) rfl (by kernel_rfl) (by kernel_rfl) (by kernel_rfl) (fun _ _ _ h => h) (yieldsIf_load_mid (by kernel_rfl) 25 (.tmp 1) rfl w.heap.size 0 rfl (stCs s lv).toList _ (fun w' h j v hv => by rw [Nat.zero_add, h.1.cell]; simpa using hv) Tryd.underlying25 rfl (by rw [stInfo]; rfl)) (by assumption) ?_
  simp only [pA, pB, pC, pD]
  refine wpAnyH_ready (rs := [7]) (by kernel_rfl) (by simp) ?_
  refine AllReadyH.cons rfl (fun K hK => ?_) AllReadyH.nil
  go_simp
  go_at_call 16
  obtain ⟨hSt, hLn, hBe⟩ := hHeld
  refine (HDU.out _ hLn).mono ?_
  rintro x w2 ⟨rfl, hb⟩
  go_wp2_with fail
  refine hK.out _ _ ⟨hSt.below hb, hLn.below hb, Below.next hBe hb⟩ (fun hHeld => ?_)
  clear hK K hSt hLn hBe hb
  refine tk 8 rfl ?v_8_263 ?hy_8_263 ?r_8_263
  case hy_8_263 => intro w h; have k1 := h.1.c1; have k6 := h.1.c6; go_simp; try with_reducible rfl
  simp only [pA, pB, pC, pD]
  refine tk 9 rfl ?v_9_264 ?hy_9_264 ?r_9_264
  case hy_9_264 => intro w h; have k1 := h.1.c1; have k6 := h.1.c6; go_simp; try with_reducible rfl
  simp only [pA, pB, pC, pD]
  refine wpAnyH_done (by kernel_rfl) ?_ _
  have c1 : w2.cell? ⟨w.heap.size, 1, none⟩ = some (.int .i64 0) := by rw [hHeld.1.cell 1, stCs, HS.out]; rfl
  have c2 : w2.cell? ⟨w.heap.size, 2, none⟩ = some (.int .i64 0) := by rw [hHeld.1.cell 2, stCs, HP.out]; rfl
  have HE := Lib.hid hHeld
  clear hHeld HBO HH
  go_wp2_with (first
    | (with_reducible refine wpList_load_st rfl (.tmp 1) rfl w.heap.size s lv rfl HE.out.1 ?_)
    | (go_at_call 17; refine (HSH.out _ HE.out.2.1).mono ?_; rintro x w3 ⟨rfl, hb⟩; have HE3 := Lib.hid (show StBlk w3 w.heap.size s lv ∧ LnRow w3 lv s.lines ∧ Below w.heap.size w w3 from ⟨HE.out.1.below hb, HE.out.2.1.below hb, Below.next HE.out.2.2 hb⟩); clear hb))
  clear c1 c2 HE HSH
  refine wp_region_held_drew (S := fun w' => StBlk w' w.heap.size s lv ∧ LnRow w' lv s.lines ∧ Below w.heap.size w w') (by kernel_rfl) ⟨HE3.out.1, HE3.out.2.1, Below.next HE3.out.2.2 (below_drewN' _ 1)⟩ (fun hHeld => ?_)
  refine tk 0 rfl ?v_0_265 ?hy_0_265 ?r_0_265
  case hy_0_265 => intro w h; have k1 := h.1.c1; have k6 := h.1.c6; go_simp; try with_reducible rfl
  simp only [pA, pB, pC, pD]
  refine tk 1 rfl ?v_1_266 ?hy_1_266 ?r_1_266
  case hy_1_266 => intro w h; have k1 := h.1.c1; have k6 := h.1.c6; go_simp; try with_reducible rfl
  simp only [pA, pB, pC, pD]
  refine wpAnyH_take (i := 2) (oi := ⟨_, _, _, _, _, _⟩) (v := stV s lv) rfl (by kernel_rfl) (by kernel_rfl) (by kernel_rfl) (fun _ _ _ h => h) (yieldsIf_load_mid (by kernel_rfl) 25 (.tmp 1) rfl w.heap.size 0 rfl (stCs s lv).toList _ (fun w' h j v hv => by rw [Nat.zero_add, h.1.cell]; simpa using hv) Tryd.underlying25 rfl (by rw [stInfo]; rfl)) (by assumption) ?_
  simp only [pA, pB, pC, pD]
  refine wpAnyH_ready (rs := [3]) (by kernel_rfl) (by simp) ?_
  refine AllReadyH.cons rfl (fun K hK => ?_) AllReadyH.nil
  go_simp
  go_at_call 16
  obtain ⟨hSt, hLn, hBe⟩ := hHeld
  refine (HDU.out _ hLn).mono ?_
  rintro x w4 ⟨rfl, hb⟩
  go_wp2_with fail
  refine hK.out _ _ ⟨hSt.below hb, hLn.below hb, Below.next hBe hb⟩ (fun hHeld => ?_)
  clear hK K hSt hLn hBe hb
  refine tk 4 rfl ?v_4_267 ?hy_4_267 ?r_4_267
  case hy_4_267 => intro w h; have k1 := h.1.c1; have k6 := h.1.c6; go_simp; try with_reducible rfl
  simp only [pA, pB, pC, pD]
  refine tk 5 rfl ?v_5_268 ?hy_5_268 ?r_5_268
  case hy_5_268 => intro w h; have k1 := h.1.c1; have k6 := h.1.c6; go_simp; try with_reducible rfl
  simp only [pA, pB, pC, pD]
  refine tk 6 rfl ?v_6_269 ?hy_6_269 ?r_6_269
  case hy_6_269 => intro w h; have k1 := h.1.c1; have k6 := h.1.c6; go_simp; try with_reducible rfl
  simp only [pA, pB, pC, pD]
  refine tk 7 rfl ?v_7_270 ?hy_7_270 ?r_7_270
  case hy_7_270 => intro w h; have k1 := h.1.c1; have k6 := h.1.c6; go_simp; try with_reducible rfl
  simp only [pA, pB, pC, pD]
  refine tk 8 rfl ?v_8_271 ?hy_8_271 ?r_8_271
  case hy_8_271 => intro w h; have k1 := h.1.c1; have k6 := h.1.c6; go_simp; try with_reducible rfl
  simp only [pA, pB, pC, pD]
  refine tk 9 rfl ?v_9_272 ?hy_9_272 ?r_9_272
  case hy_9_272 => intro w h; have k1 := h.1.c1; have k6 := h.1.c6; go_simp; try with_reducible rfl
  simp only [pA, pB, pC, pD]
  refine tk 10 rfl ?v_10_273 ?hy_10_273 ?r_10_273
  case hy_10_273 => intro w h; have k1 := h.1.c1; have k6 := h.1.c6; go_simp; try with_reducible rfl
  simp only [pA, pB, pC, pD]
  refine wpAnyH_done (by kernel_rfl) ?_ _
  have HB := Lib.hid hHeld.2.2
  have d3 : w4.cell? ⟨w.heap.size, 3, none⟩ = some (.int .i64 s.cur) := hHeld.1.cell 3
  have d4 : w4.cell? ⟨w.heap.size, 4, none⟩ = some (.int .i64 s.tax) := hHeld.1.cell 4
  have d5 : w4.cell? ⟨w.heap.size, 5, none⟩ = some (.slice oa s.lines.length cap) := by rw [hHeld.1.cell 5, stCs, HLV.out]; rfl
  have d7 : w4.cell? ⟨w.heap.size, 7, none⟩ = some (.int .i64 s.refunded) := hHeld.1.cell 7
  have d8 : w4.cell? ⟨w.heap.size, 8, none⟩ = some (.int .i64 s.events) := hHeld.1.cell 8
  have d9 : w4.cell? ⟨w.heap.size, 9, none⟩ = some (.int .i64 s.refused) := hHeld.1.cell 9
  have d10 : w4.cell? ⟨w.heap.size, 10, none⟩ = some (.int .i64 s.stamp) := hHeld.1.cell 10
  have d11 : w4.cell? ⟨w.heap.size, 11, none⟩ = some (.string ⟨s.who.toArray⟩) := hHeld.1.cell 11
  clear hHeld HE3 HDU
  have l1 : ((s.lines.length : Int) == 0) = s.lines.isEmpty := by cases s.lines <;> simp <;> omega
  rcases sixB s.lines.isEmpty (s.cur == 0) (s.tax == 0) (s.events == s.refused) (s.stamp == 0) s.who.isEmpty with k1 | ⟨k1, k2⟩ | ⟨k1, k2, k3⟩ | ⟨k1, k2, k3, k4⟩ | ⟨k1, k2, k3, k4, k5⟩ | ⟨k1, k2, k3, k4, k5, k6⟩ | ⟨k1, k2, k3, k4, k5, k6⟩
  · rw [k1] at l1
    go_wp2
    go_ret
    exact ⟨by rw [HVb.out, k1]; rfl, HB.out⟩
  · rw [k1] at l1
    go_wp2
    go_ret
    exact ⟨by rw [HVb.out, k1, k2]; rfl, HB.out⟩
  · rw [k1] at l1
    go_wp2
    go_ret
    exact ⟨by rw [HVb.out, k1, k2, k3]; rfl, HB.out⟩
  · rw [k1] at l1
    go_wp2
    go_ret
    exact ⟨by rw [HVb.out, k1, k2, k3, k4]; rfl, HB.out⟩
  · rw [k1] at l1
    go_wp2
    go_ret
    exact ⟨by rw [HVb.out, k1, k2, k3, k4, k5]; rfl, HB.out⟩
  · rw [k1] at l1
    go_wp2
    go_ret
    exact ⟨by rw [HVb.out, k1, k2, k3, k4, k5, k6]; rfl, HB.out⟩
  · rw [k1] at l1
    go_wp2
    go_ret
    exact ⟨by rw [HVb.out, k1, k2, k3, k4, k5, k6]; rfl, HB.out⟩

set_option maxRecDepth 100000 in
set_option maxHeartbeats 16000000 in
theorem oValid_2_3_0 (s : St) (lv : Value) (w : World) (hr : LnRow w lv s.lines) (hw : s.who.length ≤ 281474976710656) (hf : boundedB s = true) (hm : ¬ dueOf s < s.paid) (hs : s.status = 2) (hp : s.prior = 3) (g1 : (s.paid == dueOf s) = false) :
    Calls Tryd.prog 8 #[stV s lv] w fun e w' => e = .returned (.bool (validB s)) ∧ Below w.heap.size w w' := by
  have HVb := Lib.hid (show validB s = (false && !wholeB s.lines) by
    have h1 : validB s = standB s 3 := by unfold validB; rw [hf, decide_eq_true (by omega), hs, hp]; rfl
    have h2 : (s.paid == dueOf s && decide (0 < s.paid)) = false := by rw [g1]; rfl
    rw [h1]; unfold standB; rw [h2]; rfl)
  have hbp := bounded_p hf
  have HBO := Lib.hid (show ∀ W : World, LnRow W lv s.lines → Calls Tryd.prog 15 #[stV s lv] W fun e w' => e = .returned (.bool true) ∧ Below W.heap.size W w' from fun W h => hf ▸ obounded s lv W h hw)
  obtain ⟨D, hD⟩ : ∃ D, D = dueOf s := ⟨_, rfl⟩
  have HDU := Lib.hid (show ∀ W : World, LnRow W lv s.lines → Calls Tryd.prog 16 #[stV s lv] W fun e w' => e = .returned (.int .i64 D) ∧ Below W.heap.size W w' from fun W h => hD ▸ odue_any s lv W h hbp.fine hbp.few hbp.tax.1 hbp.tax.2)
  have HH := Lib.hid (show StBlk (w.alloc (.cells (stCs s lv) 25)).drew w.heap.size s lv ∧ LnRow (w.alloc (.cells (stCs s lv) 25)).drew lv s.lines ∧ Below w.heap.size w (w.alloc (.cells (stCs s lv) 25)).drew from by
    have hb : Below w.heap.size w (w.alloc (.cells (stCs s lv) 25)) := (Below.refl _ _).alloc (Nat.le_refl _) _
    exact ⟨stBlk_alloc w s lv, hr.below (Below.next hb (below_drewN' _ 1)), Below.next hb (below_drewN' _ 1)⟩)
  have HSH := Lib.hid (show ∀ W : World, LnRow W lv s.lines → Calls Tryd.prog 17 #[stV s lv] W fun e w' => e = .returned (.tuple #[.bool (noneB s.lines), .bool (wholeB s.lines)]) ∧ Below W.heap.size W w' from fun W h => oshipped_any s lv W h)
  obtain ⟨nB, hnB⟩ : ∃ x, x = noneB s.lines := ⟨_, rfl⟩
  obtain ⟨wB, hwB⟩ : ∃ x, x = wholeB s.lines := ⟨_, rfl⟩
  rw [← hnB, ← hwB] at HSH
  rw [← hD] at hm g1
  rw [← hwB] at HVb
  have d1 : decide (D < s.paid) = false := decide_eq_false hm
  have hm2 : s.paid ≤ D := by omega
  have HS := Lib.hid hs
  have HP := Lib.hid hp
  obtain ⟨oa, cap, hlv, _, _, _⟩ := hr.shape
  have HLV := Lib.hid hlv
  clear hr hw hf hbp hD hm hs hp hnB hwB hlv
  go_enter Tryd.func8, Tryd.ntmps8
  go_wp2
  refine wp_region_held_drew (S := fun w' => StBlk w' w.heap.size s lv ∧ LnRow w' lv s.lines ∧ Below w.heap.size w w') (by kernel_rfl) HH.out (fun hHeld => ?_)
  refine wpAnyH_take (i := 0) (oi := ⟨_, _, _, _, _, _⟩) (v := stV s lv) rfl (by kernel_rfl) (by kernel_rfl) (by kernel_rfl) (fun _ _ _ h => h) (yieldsIf_load_mid (by kernel_rfl) 25 (.tmp 1) rfl w.heap.size 0 rfl (stCs s lv).toList _ (fun w' h j v hv => by rw [Nat.zero_add, h.1.cell]; simpa using hv) Tryd.underlying25 rfl (by rw [stInfo]; rfl)) (by assumption) ?_
  simp only [pA, pB, pC, pD]
  refine wpAnyH_ready (rs := [1]) (by kernel_rfl) (by simp) ?_
  refine AllReadyH.cons rfl (fun K hK => ?_) AllReadyH.nil
  go_simp
  go_at_call 15
  obtain ⟨hSt, hLn, hBe⟩ := hHeld
  refine (HBO.out _ hLn).mono ?_
  rintro x w1 ⟨rfl, hb⟩
  go_wp2_with fail
  refine hK.out _ _ ⟨hSt.below hb, hLn.below hb, Below.next hBe hb⟩ (fun hHeld => ?_)
  clear hK K hSt hLn hBe hb
  refine tk 2 rfl ?v_2_274 ?hy_2_274 ?r_2_274
  case hy_2_274 => intro w h; have k1 := h.1.c1; have k6 := h.1.c6; go_simp; try with_reducible rfl
  simp only [pA, pB, pC, pD]
  refine tk 3 rfl ?v_3_275 ?hy_3_275 ?r_3_275
  case hy_3_275 => intro w h; have k1 := h.1.c1; have k6 := h.1.c6; go_simp; try with_reducible rfl
  simp only [pA, pB, pC, pD]
  refine tk 4 rfl ?v_4_276 ?hy_4_276 ?r_4_276
  case hy_4_276 => intro w h; have k1 := h.1.c1; have k6 := h.1.c6; go_simp; try with_reducible rfl
  simp only [pA, pB, pC, pD]
  refine tk 5 rfl ?v_5_277 ?hy_5_277 ?r_5_277
  case hy_5_277 => intro w h; have k1 := h.1.c1; have k6 := h.1.c6; go_simp; try with_reducible rfl
  simp only [pA, pB, pC, pD]
  refine wpAnyH_take (i := 6) (oi := ⟨_, _, _, _, _, _⟩) (v := stV s lv) rfl (by kernel_rfl) (by kernel_rfl) (by kernel_rfl) (fun _ _ _ h => h) (yieldsIf_load_mid (by kernel_rfl) 25 (.tmp 1) rfl w.heap.size 0 rfl (stCs s lv).toList _ (fun w' h j v hv => by rw [Nat.zero_add, h.1.cell]; simpa using hv) Tryd.underlying25 rfl (by rw [stInfo]; rfl)) (by assumption) ?_
  simp only [pA, pB, pC, pD]
  refine wpAnyH_ready (rs := [7]) (by kernel_rfl) (by simp) ?_
  refine AllReadyH.cons rfl (fun K hK => ?_) AllReadyH.nil
  go_simp
  go_at_call 16
  obtain ⟨hSt, hLn, hBe⟩ := hHeld
  refine (HDU.out _ hLn).mono ?_
  rintro x w2 ⟨rfl, hb⟩
  go_wp2_with fail
  refine hK.out _ _ ⟨hSt.below hb, hLn.below hb, Below.next hBe hb⟩ (fun hHeld => ?_)
  clear hK K hSt hLn hBe hb
  refine tk 8 rfl ?v_8_278 ?hy_8_278 ?r_8_278
  case hy_8_278 => intro w h; have k1 := h.1.c1; have k6 := h.1.c6; go_simp; try with_reducible rfl
  simp only [pA, pB, pC, pD]
  refine tk 9 rfl ?v_9_279 ?hy_9_279 ?r_9_279
  case hy_9_279 => intro w h; have k1 := h.1.c1; have k6 := h.1.c6; go_simp; try with_reducible rfl
  simp only [pA, pB, pC, pD]
  refine wpAnyH_done (by kernel_rfl) ?_ _
  have c1 : w2.cell? ⟨w.heap.size, 1, none⟩ = some (.int .i64 2) := by rw [hHeld.1.cell 1, stCs, HS.out]; rfl
  have c2 : w2.cell? ⟨w.heap.size, 2, none⟩ = some (.int .i64 3) := by rw [hHeld.1.cell 2, stCs, HP.out]; rfl
  have HE := Lib.hid hHeld
  clear hHeld HBO HH
  go_wp2_with (first
    | (with_reducible refine wpList_load_st rfl (.tmp 1) rfl w.heap.size s lv rfl HE.out.1 ?_)
    | (go_at_call 17; refine (HSH.out _ HE.out.2.1).mono ?_; rintro x w3 ⟨rfl, hb⟩; have HE3 := Lib.hid (show StBlk w3 w.heap.size s lv ∧ LnRow w3 lv s.lines ∧ Below w.heap.size w w3 from ⟨HE.out.1.below hb, HE.out.2.1.below hb, Below.next HE.out.2.2 hb⟩); clear hb))
  clear c1 c2 HE HSH
  refine wp_region_held_drew (S := fun w' => StBlk w' w.heap.size s lv ∧ LnRow w' lv s.lines ∧ Below w.heap.size w w') (by kernel_rfl) ⟨HE3.out.1, HE3.out.2.1, Below.next HE3.out.2.2 (below_drewN' _ 1)⟩ (fun hHeld => ?_)
  refine tk 0 rfl ?v_0_280 ?hy_0_280 ?r_0_280
  case hy_0_280 => intro w h; have k1 := h.1.c1; have k6 := h.1.c6; go_simp; try with_reducible rfl
  simp only [pA, pB, pC, pD]
  refine tk 1 rfl ?v_1_281 ?hy_1_281 ?r_1_281
  case hy_1_281 => intro w h; have k1 := h.1.c1; have k6 := h.1.c6; go_simp; try with_reducible rfl
  simp only [pA, pB, pC, pD]
  refine wpAnyH_take (i := 2) (oi := ⟨_, _, _, _, _, _⟩) (v := stV s lv) rfl (by kernel_rfl) (by kernel_rfl) (by kernel_rfl) (fun _ _ _ h => h) (yieldsIf_load_mid (by kernel_rfl) 25 (.tmp 1) rfl w.heap.size 0 rfl (stCs s lv).toList _ (fun w' h j v hv => by rw [Nat.zero_add, h.1.cell]; simpa using hv) Tryd.underlying25 rfl (by rw [stInfo]; rfl)) (by assumption) ?_
  simp only [pA, pB, pC, pD]
  refine wpAnyH_ready (rs := [3]) (by kernel_rfl) (by simp) ?_
  refine AllReadyH.cons rfl (fun K hK => ?_) AllReadyH.nil
  go_simp
  go_at_call 16
  obtain ⟨hSt, hLn, hBe⟩ := hHeld
  refine (HDU.out _ hLn).mono ?_
  rintro x w4 ⟨rfl, hb⟩
  go_wp2_with fail
  refine hK.out _ _ ⟨hSt.below hb, hLn.below hb, Below.next hBe hb⟩ (fun hHeld => ?_)
  clear hK K hSt hLn hBe hb
  refine tk 4 rfl ?v_4_282 ?hy_4_282 ?r_4_282
  case hy_4_282 => intro w h; have k1 := h.1.c1; have k6 := h.1.c6; go_simp; try with_reducible rfl
  simp only [pA, pB, pC, pD]
  refine tk 5 rfl ?v_5_283 ?hy_5_283 ?r_5_283
  case hy_5_283 => intro w h; have k1 := h.1.c1; have k6 := h.1.c6; go_simp; try with_reducible rfl
  simp only [pA, pB, pC, pD]
  refine tkn 6 rfl ?_
  simp only [pA, pB, pC, pD]
  refine tkn 7 rfl ?_
  simp only [pA, pB, pC, pD]
  refine tkn 8 rfl ?_
  simp only [pA, pB, pC, pD]
  refine tk 9 rfl ?v_9_284 ?hy_9_284 ?r_9_284
  case hy_9_284 => intro w h; have k1 := h.1.c1; have k6 := h.1.c6; go_simp; try with_reducible rfl
  simp only [pA, pB, pC, pD]
  refine tk 10 rfl ?v_10_285 ?hy_10_285 ?r_10_285
  case hy_10_285 => intro w h; have k1 := h.1.c1; have k6 := h.1.c6; go_simp; try with_reducible rfl
  simp only [pA, pB, pC, pD]
  refine wpAnyH_done (by kernel_rfl) ?_ _
  have HB := Lib.hid hHeld.2.2
  have d3 : w4.cell? ⟨w.heap.size, 3, none⟩ = some (.int .i64 s.cur) := hHeld.1.cell 3
  have d4 : w4.cell? ⟨w.heap.size, 4, none⟩ = some (.int .i64 s.tax) := hHeld.1.cell 4
  have d5 : w4.cell? ⟨w.heap.size, 5, none⟩ = some (.slice oa s.lines.length cap) := by rw [hHeld.1.cell 5, stCs, HLV.out]; rfl
  have d7 : w4.cell? ⟨w.heap.size, 7, none⟩ = some (.int .i64 s.refunded) := hHeld.1.cell 7
  have d8 : w4.cell? ⟨w.heap.size, 8, none⟩ = some (.int .i64 s.events) := hHeld.1.cell 8
  have d9 : w4.cell? ⟨w.heap.size, 9, none⟩ = some (.int .i64 s.refused) := hHeld.1.cell 9
  have d10 : w4.cell? ⟨w.heap.size, 10, none⟩ = some (.int .i64 s.stamp) := hHeld.1.cell 10
  have d11 : w4.cell? ⟨w.heap.size, 11, none⟩ = some (.string ⟨s.who.toArray⟩) := hHeld.1.cell 11
  clear hHeld HE3 HDU
  go_wp2
  go_ret
  exact ⟨by rw [HVb.out]; rfl, HB.out⟩

set_option maxRecDepth 100000 in
set_option maxHeartbeats 16000000 in
theorem oValid_2_3_1 (s : St) (lv : Value) (w : World) (hr : LnRow w lv s.lines) (hw : s.who.length ≤ 281474976710656) (hf : boundedB s = true) (hm : ¬ dueOf s < s.paid) (hs : s.status = 2) (hp : s.prior = 3) (g1 : (s.paid == dueOf s) = true) (g3 : decide (0 < s.paid) = false) :
    Calls Tryd.prog 8 #[stV s lv] w fun e w' => e = .returned (.bool (validB s)) ∧ Below w.heap.size w w' := by
  have HVb := Lib.hid (show validB s = (false && !wholeB s.lines) by
    have h1 : validB s = standB s 3 := by unfold validB; rw [hf, decide_eq_true (by omega), hs, hp]; rfl
    have h2 : (s.paid == dueOf s && decide (0 < s.paid)) = false := by rw [g1, g3]; rfl
    rw [h1]; unfold standB; rw [h2]; rfl)
  have hbp := bounded_p hf
  have HBO := Lib.hid (show ∀ W : World, LnRow W lv s.lines → Calls Tryd.prog 15 #[stV s lv] W fun e w' => e = .returned (.bool true) ∧ Below W.heap.size W w' from fun W h => hf ▸ obounded s lv W h hw)
  obtain ⟨D, hD⟩ : ∃ D, D = dueOf s := ⟨_, rfl⟩
  have HDU := Lib.hid (show ∀ W : World, LnRow W lv s.lines → Calls Tryd.prog 16 #[stV s lv] W fun e w' => e = .returned (.int .i64 D) ∧ Below W.heap.size W w' from fun W h => hD ▸ odue_any s lv W h hbp.fine hbp.few hbp.tax.1 hbp.tax.2)
  have HH := Lib.hid (show StBlk (w.alloc (.cells (stCs s lv) 25)).drew w.heap.size s lv ∧ LnRow (w.alloc (.cells (stCs s lv) 25)).drew lv s.lines ∧ Below w.heap.size w (w.alloc (.cells (stCs s lv) 25)).drew from by
    have hb : Below w.heap.size w (w.alloc (.cells (stCs s lv) 25)) := (Below.refl _ _).alloc (Nat.le_refl _) _
    exact ⟨stBlk_alloc w s lv, hr.below (Below.next hb (below_drewN' _ 1)), Below.next hb (below_drewN' _ 1)⟩)
  have HSH := Lib.hid (show ∀ W : World, LnRow W lv s.lines → Calls Tryd.prog 17 #[stV s lv] W fun e w' => e = .returned (.tuple #[.bool (noneB s.lines), .bool (wholeB s.lines)]) ∧ Below W.heap.size W w' from fun W h => oshipped_any s lv W h)
  obtain ⟨nB, hnB⟩ : ∃ x, x = noneB s.lines := ⟨_, rfl⟩
  obtain ⟨wB, hwB⟩ : ∃ x, x = wholeB s.lines := ⟨_, rfl⟩
  rw [← hnB, ← hwB] at HSH
  rw [← hD] at hm g1
  rw [← hwB] at HVb
  have d1 : decide (D < s.paid) = false := decide_eq_false hm
  have hm2 : s.paid ≤ D := by omega
  have HS := Lib.hid hs
  have HP := Lib.hid hp
  obtain ⟨oa, cap, hlv, _, _, _⟩ := hr.shape
  have HLV := Lib.hid hlv
  clear hr hw hf hbp hD hm hs hp hnB hwB hlv
  go_enter Tryd.func8, Tryd.ntmps8
  go_wp2
  refine wp_region_held_drew (S := fun w' => StBlk w' w.heap.size s lv ∧ LnRow w' lv s.lines ∧ Below w.heap.size w w') (by kernel_rfl) HH.out (fun hHeld => ?_)
  refine wpAnyH_take (i := 0) (oi := ⟨_, _, _, _, _, _⟩) (v := stV s lv) rfl (by kernel_rfl) (by kernel_rfl) (by kernel_rfl) (fun _ _ _ h => h) (yieldsIf_load_mid (by kernel_rfl) 25 (.tmp 1) rfl w.heap.size 0 rfl (stCs s lv).toList _ (fun w' h j v hv => by rw [Nat.zero_add, h.1.cell]; simpa using hv) Tryd.underlying25 rfl (by rw [stInfo]; rfl)) (by assumption) ?_
  simp only [pA, pB, pC, pD]
  refine wpAnyH_ready (rs := [1]) (by kernel_rfl) (by simp) ?_
  refine AllReadyH.cons rfl (fun K hK => ?_) AllReadyH.nil
  go_simp
  go_at_call 15
  obtain ⟨hSt, hLn, hBe⟩ := hHeld
  refine (HBO.out _ hLn).mono ?_
  rintro x w1 ⟨rfl, hb⟩
  go_wp2_with fail
  refine hK.out _ _ ⟨hSt.below hb, hLn.below hb, Below.next hBe hb⟩ (fun hHeld => ?_)
  clear hK K hSt hLn hBe hb
  refine tk 2 rfl ?v_2_286 ?hy_2_286 ?r_2_286
  case hy_2_286 => intro w h; have k1 := h.1.c1; have k6 := h.1.c6; go_simp; try with_reducible rfl
  simp only [pA, pB, pC, pD]
  refine tk 3 rfl ?v_3_287 ?hy_3_287 ?r_3_287
  case hy_3_287 => intro w h; have k1 := h.1.c1; have k6 := h.1.c6; go_simp; try with_reducible rfl
  simp only [pA, pB, pC, pD]
  refine tk 4 rfl ?v_4_288 ?hy_4_288 ?r_4_288
  case hy_4_288 => intro w h; have k1 := h.1.c1; have k6 := h.1.c6; go_simp; try with_reducible rfl
  simp only [pA, pB, pC, pD]
  refine tk 5 rfl ?v_5_289 ?hy_5_289 ?r_5_289
  case hy_5_289 => intro w h; have k1 := h.1.c1; have k6 := h.1.c6; go_simp; try with_reducible rfl
  simp only [pA, pB, pC, pD]
  refine wpAnyH_take (i := 6) (oi := ⟨_, _, _, _, _, _⟩) (v := stV s lv) rfl (by kernel_rfl) (by kernel_rfl) (by kernel_rfl) (fun _ _ _ h => h) (yieldsIf_load_mid (by kernel_rfl) 25 (.tmp 1) rfl w.heap.size 0 rfl (stCs s lv).toList _ (fun w' h j v hv => by rw [Nat.zero_add, h.1.cell]; simpa using hv) Tryd.underlying25 rfl (by rw [stInfo]; rfl)) (by assumption) ?_
  simp only [pA, pB, pC, pD]
  refine wpAnyH_ready (rs := [7]) (by kernel_rfl) (by simp) ?_
  refine AllReadyH.cons rfl (fun K hK => ?_) AllReadyH.nil
  go_simp
  go_at_call 16
  obtain ⟨hSt, hLn, hBe⟩ := hHeld
  refine (HDU.out _ hLn).mono ?_
  rintro x w2 ⟨rfl, hb⟩
  go_wp2_with fail
  refine hK.out _ _ ⟨hSt.below hb, hLn.below hb, Below.next hBe hb⟩ (fun hHeld => ?_)
  clear hK K hSt hLn hBe hb
  refine tk 8 rfl ?v_8_290 ?hy_8_290 ?r_8_290
  case hy_8_290 => intro w h; have k1 := h.1.c1; have k6 := h.1.c6; go_simp; try with_reducible rfl
  simp only [pA, pB, pC, pD]
  refine tk 9 rfl ?v_9_291 ?hy_9_291 ?r_9_291
  case hy_9_291 => intro w h; have k1 := h.1.c1; have k6 := h.1.c6; go_simp; try with_reducible rfl
  simp only [pA, pB, pC, pD]
  refine wpAnyH_done (by kernel_rfl) ?_ _
  have c1 : w2.cell? ⟨w.heap.size, 1, none⟩ = some (.int .i64 2) := by rw [hHeld.1.cell 1, stCs, HS.out]; rfl
  have c2 : w2.cell? ⟨w.heap.size, 2, none⟩ = some (.int .i64 3) := by rw [hHeld.1.cell 2, stCs, HP.out]; rfl
  have HE := Lib.hid hHeld
  clear hHeld HBO HH
  go_wp2_with (first
    | (with_reducible refine wpList_load_st rfl (.tmp 1) rfl w.heap.size s lv rfl HE.out.1 ?_)
    | (go_at_call 17; refine (HSH.out _ HE.out.2.1).mono ?_; rintro x w3 ⟨rfl, hb⟩; have HE3 := Lib.hid (show StBlk w3 w.heap.size s lv ∧ LnRow w3 lv s.lines ∧ Below w.heap.size w w3 from ⟨HE.out.1.below hb, HE.out.2.1.below hb, Below.next HE.out.2.2 hb⟩); clear hb))
  clear c1 c2 HE HSH
  refine wp_region_held_drew (S := fun w' => StBlk w' w.heap.size s lv ∧ LnRow w' lv s.lines ∧ Below w.heap.size w w') (by kernel_rfl) ⟨HE3.out.1, HE3.out.2.1, Below.next HE3.out.2.2 (below_drewN' _ 1)⟩ (fun hHeld => ?_)
  refine tk 0 rfl ?v_0_292 ?hy_0_292 ?r_0_292
  case hy_0_292 => intro w h; have k1 := h.1.c1; have k6 := h.1.c6; go_simp; try with_reducible rfl
  simp only [pA, pB, pC, pD]
  refine tk 1 rfl ?v_1_293 ?hy_1_293 ?r_1_293
  case hy_1_293 => intro w h; have k1 := h.1.c1; have k6 := h.1.c6; go_simp; try with_reducible rfl
  simp only [pA, pB, pC, pD]
  refine wpAnyH_take (i := 2) (oi := ⟨_, _, _, _, _, _⟩) (v := stV s lv) rfl (by kernel_rfl) (by kernel_rfl) (by kernel_rfl) (fun _ _ _ h => h) (yieldsIf_load_mid (by kernel_rfl) 25 (.tmp 1) rfl w.heap.size 0 rfl (stCs s lv).toList _ (fun w' h j v hv => by rw [Nat.zero_add, h.1.cell]; simpa using hv) Tryd.underlying25 rfl (by rw [stInfo]; rfl)) (by assumption) ?_
  simp only [pA, pB, pC, pD]
  refine wpAnyH_ready (rs := [3]) (by kernel_rfl) (by simp) ?_
  refine AllReadyH.cons rfl (fun K hK => ?_) AllReadyH.nil
  go_simp
  go_at_call 16
  obtain ⟨hSt, hLn, hBe⟩ := hHeld
  refine (HDU.out _ hLn).mono ?_
  rintro x w4 ⟨rfl, hb⟩
  go_wp2_with fail
  refine hK.out _ _ ⟨hSt.below hb, hLn.below hb, Below.next hBe hb⟩ (fun hHeld => ?_)
  clear hK K hSt hLn hBe hb
  refine tk 4 rfl ?v_4_294 ?hy_4_294 ?r_4_294
  case hy_4_294 => intro w h; have k1 := h.1.c1; have k6 := h.1.c6; go_simp; try with_reducible rfl
  simp only [pA, pB, pC, pD]
  refine tk 5 rfl ?v_5_295 ?hy_5_295 ?r_5_295
  case hy_5_295 => intro w h; have k1 := h.1.c1; have k6 := h.1.c6; go_simp; try with_reducible rfl
  simp only [pA, pB, pC, pD]
  refine tk 6 rfl ?v_6_296 ?hy_6_296 ?r_6_296
  case hy_6_296 => intro w h; have k1 := h.1.c1; have k6 := h.1.c6; go_simp; try with_reducible rfl
  simp only [pA, pB, pC, pD]
  refine tk 7 rfl ?v_7_297 ?hy_7_297 ?r_7_297
  case hy_7_297 => intro w h; have k1 := h.1.c1; have k6 := h.1.c6; go_simp; try with_reducible rfl
  simp only [pA, pB, pC, pD]
  refine tk 8 rfl ?v_8_298 ?hy_8_298 ?r_8_298
  case hy_8_298 => intro w h; have k1 := h.1.c1; have k6 := h.1.c6; go_simp; try with_reducible rfl
  simp only [pA, pB, pC, pD]
  refine tk 9 rfl ?v_9_299 ?hy_9_299 ?r_9_299
  case hy_9_299 => intro w h; have k1 := h.1.c1; have k6 := h.1.c6; go_simp; try with_reducible rfl
  simp only [pA, pB, pC, pD]
  refine tk 10 rfl ?v_10_300 ?hy_10_300 ?r_10_300
  case hy_10_300 => intro w h; have k1 := h.1.c1; have k6 := h.1.c6; go_simp; try with_reducible rfl
  simp only [pA, pB, pC, pD]
  refine wpAnyH_done (by kernel_rfl) ?_ _
  have HB := Lib.hid hHeld.2.2
  have d3 : w4.cell? ⟨w.heap.size, 3, none⟩ = some (.int .i64 s.cur) := hHeld.1.cell 3
  have d4 : w4.cell? ⟨w.heap.size, 4, none⟩ = some (.int .i64 s.tax) := hHeld.1.cell 4
  have d5 : w4.cell? ⟨w.heap.size, 5, none⟩ = some (.slice oa s.lines.length cap) := by rw [hHeld.1.cell 5, stCs, HLV.out]; rfl
  have d7 : w4.cell? ⟨w.heap.size, 7, none⟩ = some (.int .i64 s.refunded) := hHeld.1.cell 7
  have d8 : w4.cell? ⟨w.heap.size, 8, none⟩ = some (.int .i64 s.events) := hHeld.1.cell 8
  have d9 : w4.cell? ⟨w.heap.size, 9, none⟩ = some (.int .i64 s.refused) := hHeld.1.cell 9
  have d10 : w4.cell? ⟨w.heap.size, 10, none⟩ = some (.int .i64 s.stamp) := hHeld.1.cell 10
  have d11 : w4.cell? ⟨w.heap.size, 11, none⟩ = some (.string ⟨s.who.toArray⟩) := hHeld.1.cell 11
  clear hHeld HE3 HDU
  go_wp2
  go_ret
  exact ⟨by rw [HVb.out]; rfl, HB.out⟩

set_option maxRecDepth 100000 in
set_option maxHeartbeats 16000000 in
theorem oValid_2_3_2 (s : St) (lv : Value) (w : World) (hr : LnRow w lv s.lines) (hw : s.who.length ≤ 281474976710656) (hf : boundedB s = true) (hm : ¬ dueOf s < s.paid) (hs : s.status = 2) (hp : s.prior = 3) (g1 : (s.paid == dueOf s) = true) (g3 : decide (0 < s.paid) = true) :
    Calls Tryd.prog 8 #[stV s lv] w fun e w' => e = .returned (.bool (validB s)) ∧ Below w.heap.size w w' := by
  have HVb := Lib.hid (show validB s = (true && !wholeB s.lines) by
    have h1 : validB s = standB s 3 := by unfold validB; rw [hf, decide_eq_true (by omega), hs, hp]; rfl
    have h2 : (s.paid == dueOf s && decide (0 < s.paid)) = true := by rw [g1, g3]; rfl
    rw [h1]; unfold standB; rw [h2]; rfl)
  have hbp := bounded_p hf
  have HBO := Lib.hid (show ∀ W : World, LnRow W lv s.lines → Calls Tryd.prog 15 #[stV s lv] W fun e w' => e = .returned (.bool true) ∧ Below W.heap.size W w' from fun W h => hf ▸ obounded s lv W h hw)
  obtain ⟨D, hD⟩ : ∃ D, D = dueOf s := ⟨_, rfl⟩
  have HDU := Lib.hid (show ∀ W : World, LnRow W lv s.lines → Calls Tryd.prog 16 #[stV s lv] W fun e w' => e = .returned (.int .i64 D) ∧ Below W.heap.size W w' from fun W h => hD ▸ odue_any s lv W h hbp.fine hbp.few hbp.tax.1 hbp.tax.2)
  have HH := Lib.hid (show StBlk (w.alloc (.cells (stCs s lv) 25)).drew w.heap.size s lv ∧ LnRow (w.alloc (.cells (stCs s lv) 25)).drew lv s.lines ∧ Below w.heap.size w (w.alloc (.cells (stCs s lv) 25)).drew from by
    have hb : Below w.heap.size w (w.alloc (.cells (stCs s lv) 25)) := (Below.refl _ _).alloc (Nat.le_refl _) _
    exact ⟨stBlk_alloc w s lv, hr.below (Below.next hb (below_drewN' _ 1)), Below.next hb (below_drewN' _ 1)⟩)
  have HSH := Lib.hid (show ∀ W : World, LnRow W lv s.lines → Calls Tryd.prog 17 #[stV s lv] W fun e w' => e = .returned (.tuple #[.bool (noneB s.lines), .bool (wholeB s.lines)]) ∧ Below W.heap.size W w' from fun W h => oshipped_any s lv W h)
  obtain ⟨nB, hnB⟩ : ∃ x, x = noneB s.lines := ⟨_, rfl⟩
  obtain ⟨wB, hwB⟩ : ∃ x, x = wholeB s.lines := ⟨_, rfl⟩
  rw [← hnB, ← hwB] at HSH
  rw [← hD] at hm g1
  rw [← hwB] at HVb
  have d1 : decide (D < s.paid) = false := decide_eq_false hm
  have hm2 : s.paid ≤ D := by omega
  have HS := Lib.hid hs
  have HP := Lib.hid hp
  obtain ⟨oa, cap, hlv, _, _, _⟩ := hr.shape
  have HLV := Lib.hid hlv
  clear hr hw hf hbp hD hm hs hp hnB hwB hlv
  go_enter Tryd.func8, Tryd.ntmps8
  go_wp2
  refine wp_region_held_drew (S := fun w' => StBlk w' w.heap.size s lv ∧ LnRow w' lv s.lines ∧ Below w.heap.size w w') (by kernel_rfl) HH.out (fun hHeld => ?_)
  refine wpAnyH_take (i := 0) (oi := ⟨_, _, _, _, _, _⟩) (v := stV s lv) rfl (by kernel_rfl) (by kernel_rfl) (by kernel_rfl) (fun _ _ _ h => h) (yieldsIf_load_mid (by kernel_rfl) 25 (.tmp 1) rfl w.heap.size 0 rfl (stCs s lv).toList _ (fun w' h j v hv => by rw [Nat.zero_add, h.1.cell]; simpa using hv) Tryd.underlying25 rfl (by rw [stInfo]; rfl)) (by assumption) ?_
  simp only [pA, pB, pC, pD]
  refine wpAnyH_ready (rs := [1]) (by kernel_rfl) (by simp) ?_
  refine AllReadyH.cons rfl (fun K hK => ?_) AllReadyH.nil
  go_simp
  go_at_call 15
  obtain ⟨hSt, hLn, hBe⟩ := hHeld
  refine (HBO.out _ hLn).mono ?_
  rintro x w1 ⟨rfl, hb⟩
  go_wp2_with fail
  refine hK.out _ _ ⟨hSt.below hb, hLn.below hb, Below.next hBe hb⟩ (fun hHeld => ?_)
  clear hK K hSt hLn hBe hb
  refine tk 2 rfl ?v_2_301 ?hy_2_301 ?r_2_301
  case hy_2_301 => intro w h; have k1 := h.1.c1; have k6 := h.1.c6; go_simp; try with_reducible rfl
  simp only [pA, pB, pC, pD]
  refine tk 3 rfl ?v_3_302 ?hy_3_302 ?r_3_302
  case hy_3_302 => intro w h; have k1 := h.1.c1; have k6 := h.1.c6; go_simp; try with_reducible rfl
  simp only [pA, pB, pC, pD]
  refine tk 4 rfl ?v_4_303 ?hy_4_303 ?r_4_303
  case hy_4_303 => intro w h; have k1 := h.1.c1; have k6 := h.1.c6; go_simp; try with_reducible rfl
  simp only [pA, pB, pC, pD]
  refine tk 5 rfl ?v_5_304 ?hy_5_304 ?r_5_304
  case hy_5_304 => intro w h; have k1 := h.1.c1; have k6 := h.1.c6; go_simp; try with_reducible rfl
  simp only [pA, pB, pC, pD]
  refine wpAnyH_take (i := 6) (oi := ⟨_, _, _, _, _, _⟩) (v := stV s lv) rfl (by kernel_rfl) (by kernel_rfl) (by kernel_rfl) (fun _ _ _ h => h) (yieldsIf_load_mid (by kernel_rfl) 25 (.tmp 1) rfl w.heap.size 0 rfl (stCs s lv).toList _ (fun w' h j v hv => by rw [Nat.zero_add, h.1.cell]; simpa using hv) Tryd.underlying25 rfl (by rw [stInfo]; rfl)) (by assumption) ?_
  simp only [pA, pB, pC, pD]
  refine wpAnyH_ready (rs := [7]) (by kernel_rfl) (by simp) ?_
  refine AllReadyH.cons rfl (fun K hK => ?_) AllReadyH.nil
  go_simp
  go_at_call 16
  obtain ⟨hSt, hLn, hBe⟩ := hHeld
  refine (HDU.out _ hLn).mono ?_
  rintro x w2 ⟨rfl, hb⟩
  go_wp2_with fail
  refine hK.out _ _ ⟨hSt.below hb, hLn.below hb, Below.next hBe hb⟩ (fun hHeld => ?_)
  clear hK K hSt hLn hBe hb
  refine tk 8 rfl ?v_8_305 ?hy_8_305 ?r_8_305
  case hy_8_305 => intro w h; have k1 := h.1.c1; have k6 := h.1.c6; go_simp; try with_reducible rfl
  simp only [pA, pB, pC, pD]
  refine tk 9 rfl ?v_9_306 ?hy_9_306 ?r_9_306
  case hy_9_306 => intro w h; have k1 := h.1.c1; have k6 := h.1.c6; go_simp; try with_reducible rfl
  simp only [pA, pB, pC, pD]
  refine wpAnyH_done (by kernel_rfl) ?_ _
  have c1 : w2.cell? ⟨w.heap.size, 1, none⟩ = some (.int .i64 2) := by rw [hHeld.1.cell 1, stCs, HS.out]; rfl
  have c2 : w2.cell? ⟨w.heap.size, 2, none⟩ = some (.int .i64 3) := by rw [hHeld.1.cell 2, stCs, HP.out]; rfl
  have HE := Lib.hid hHeld
  clear hHeld HBO HH
  go_wp2_with (first
    | (with_reducible refine wpList_load_st rfl (.tmp 1) rfl w.heap.size s lv rfl HE.out.1 ?_)
    | (go_at_call 17; refine (HSH.out _ HE.out.2.1).mono ?_; rintro x w3 ⟨rfl, hb⟩; have HE3 := Lib.hid (show StBlk w3 w.heap.size s lv ∧ LnRow w3 lv s.lines ∧ Below w.heap.size w w3 from ⟨HE.out.1.below hb, HE.out.2.1.below hb, Below.next HE.out.2.2 hb⟩); clear hb))
  clear c1 c2 HE HSH
  refine wp_region_held_drew (S := fun w' => StBlk w' w.heap.size s lv ∧ LnRow w' lv s.lines ∧ Below w.heap.size w w') (by kernel_rfl) ⟨HE3.out.1, HE3.out.2.1, Below.next HE3.out.2.2 (below_drewN' _ 1)⟩ (fun hHeld => ?_)
  refine tk 0 rfl ?v_0_307 ?hy_0_307 ?r_0_307
  case hy_0_307 => intro w h; have k1 := h.1.c1; have k6 := h.1.c6; go_simp; try with_reducible rfl
  simp only [pA, pB, pC, pD]
  refine tk 1 rfl ?v_1_308 ?hy_1_308 ?r_1_308
  case hy_1_308 => intro w h; have k1 := h.1.c1; have k6 := h.1.c6; go_simp; try with_reducible rfl
  simp only [pA, pB, pC, pD]
  refine wpAnyH_take (i := 2) (oi := ⟨_, _, _, _, _, _⟩) (v := stV s lv) rfl (by kernel_rfl) (by kernel_rfl) (by kernel_rfl) (fun _ _ _ h => h) (yieldsIf_load_mid (by kernel_rfl) 25 (.tmp 1) rfl w.heap.size 0 rfl (stCs s lv).toList _ (fun w' h j v hv => by rw [Nat.zero_add, h.1.cell]; simpa using hv) Tryd.underlying25 rfl (by rw [stInfo]; rfl)) (by assumption) ?_
  simp only [pA, pB, pC, pD]
  refine wpAnyH_ready (rs := [3]) (by kernel_rfl) (by simp) ?_
  refine AllReadyH.cons rfl (fun K hK => ?_) AllReadyH.nil
  go_simp
  go_at_call 16
  obtain ⟨hSt, hLn, hBe⟩ := hHeld
  refine (HDU.out _ hLn).mono ?_
  rintro x w4 ⟨rfl, hb⟩
  go_wp2_with fail
  refine hK.out _ _ ⟨hSt.below hb, hLn.below hb, Below.next hBe hb⟩ (fun hHeld => ?_)
  clear hK K hSt hLn hBe hb
  refine tk 4 rfl ?v_4_309 ?hy_4_309 ?r_4_309
  case hy_4_309 => intro w h; have k1 := h.1.c1; have k6 := h.1.c6; go_simp; try with_reducible rfl
  simp only [pA, pB, pC, pD]
  refine tk 5 rfl ?v_5_310 ?hy_5_310 ?r_5_310
  case hy_5_310 => intro w h; have k1 := h.1.c1; have k6 := h.1.c6; go_simp; try with_reducible rfl
  simp only [pA, pB, pC, pD]
  refine tk 6 rfl ?v_6_311 ?hy_6_311 ?r_6_311
  case hy_6_311 => intro w h; have k1 := h.1.c1; have k6 := h.1.c6; go_simp; try with_reducible rfl
  simp only [pA, pB, pC, pD]
  refine tk 7 rfl ?v_7_312 ?hy_7_312 ?r_7_312
  case hy_7_312 => intro w h; have k1 := h.1.c1; have k6 := h.1.c6; go_simp; try with_reducible rfl
  simp only [pA, pB, pC, pD]
  refine tk 8 rfl ?v_8_313 ?hy_8_313 ?r_8_313
  case hy_8_313 => intro w h; have k1 := h.1.c1; have k6 := h.1.c6; go_simp; try with_reducible rfl
  simp only [pA, pB, pC, pD]
  refine tk 9 rfl ?v_9_314 ?hy_9_314 ?r_9_314
  case hy_9_314 => intro w h; have k1 := h.1.c1; have k6 := h.1.c6; go_simp; try with_reducible rfl
  simp only [pA, pB, pC, pD]
  refine tk 10 rfl ?v_10_315 ?hy_10_315 ?r_10_315
  case hy_10_315 => intro w h; have k1 := h.1.c1; have k6 := h.1.c6; go_simp; try with_reducible rfl
  simp only [pA, pB, pC, pD]
  refine wpAnyH_done (by kernel_rfl) ?_ _
  have HB := Lib.hid hHeld.2.2
  have d3 : w4.cell? ⟨w.heap.size, 3, none⟩ = some (.int .i64 s.cur) := hHeld.1.cell 3
  have d4 : w4.cell? ⟨w.heap.size, 4, none⟩ = some (.int .i64 s.tax) := hHeld.1.cell 4
  have d5 : w4.cell? ⟨w.heap.size, 5, none⟩ = some (.slice oa s.lines.length cap) := by rw [hHeld.1.cell 5, stCs, HLV.out]; rfl
  have d7 : w4.cell? ⟨w.heap.size, 7, none⟩ = some (.int .i64 s.refunded) := hHeld.1.cell 7
  have d8 : w4.cell? ⟨w.heap.size, 8, none⟩ = some (.int .i64 s.events) := hHeld.1.cell 8
  have d9 : w4.cell? ⟨w.heap.size, 9, none⟩ = some (.int .i64 s.refused) := hHeld.1.cell 9
  have d10 : w4.cell? ⟨w.heap.size, 10, none⟩ = some (.int .i64 s.stamp) := hHeld.1.cell 10
  have d11 : w4.cell? ⟨w.heap.size, 11, none⟩ = some (.string ⟨s.who.toArray⟩) := hHeld.1.cell 11
  clear hHeld HE3 HDU
  cases wB
  · skip
    go_wp2
    go_ret
    exact ⟨by rw [HVb.out]; rfl, HB.out⟩
  · skip
    go_wp2
    go_ret
    exact ⟨by rw [HVb.out]; rfl, HB.out⟩

end Go.Proofs.YtlobohpbgghleaaDoor

namespace Go.Proofs.YtlobohpbgghleaaDoor
open Go.RowKit

theorem oValid_any (s : St) (lv : Value) (w : World) (hr : LnRow w lv s.lines) (hw : s.who.length ≤ 281474976710656) :
    Calls Tryd.prog 8 #[stV s lv] w fun e w' => e = .returned (.bool (validB s)) ∧ Below w.heap.size w w' := by
  cases hf : boundedB s
  case false => exact oValid_out s lv w hr hw hf
  case true =>
  by_cases hm : dueOf s < s.paid
  · exact oValid_much s lv w hr hw hf hm
  have hst := (bounded_p hf).status
  have h7 : (s.status = 2 ∧ s.prior ≠ 1 ∧ s.prior ≠ 3) ∨ (s.status ≠ 2 ∧ s.prior ≠ 0) ∨ (s.status = 2 ∧ s.prior = 1) ∨ (s.status = 2 ∧ s.prior = 3) ∨ (s.status = 0 ∧ s.prior = 0) ∨ (s.status = 1 ∧ s.prior = 0) ∨ (s.status = 3 ∧ s.prior = 0) ∨ (s.status = 4 ∧ s.prior = 0) ∨ (s.status = 5 ∧ s.prior = 0) := by omega
  rcases h7 with ⟨hs, hp1, hp3⟩ | ⟨hs, hp⟩ | ⟨hs, hp⟩ | ⟨hs, hp⟩ | ⟨hs, hp⟩ | ⟨hs, hp⟩ | ⟨hs, hp⟩ | ⟨hs, hp⟩ | ⟨hs, hp⟩
  · exact oValid_held s lv w hr hw hf hm hs hp1 hp3
  · exact oValid_prior s lv w hr hw hf hm hs hp
  · rcases fullWays s.paid (dueOf s) with ⟨g1, _⟩ | ⟨g1, g3, _⟩ | ⟨g1, g3, _⟩
    · exact oValid_2_1_0 s lv w hr hw hf hm hs hp g1
    · exact oValid_2_1_1 s lv w hr hw hf hm hs hp g1 g3
    · exact oValid_2_1_2 s lv w hr hw hf hm hs hp g1 g3
  · rcases fullWays s.paid (dueOf s) with ⟨g1, _⟩ | ⟨g1, g3, _⟩ | ⟨g1, g3, _⟩
    · exact oValid_2_3_0 s lv w hr hw hf hm hs hp g1
    · exact oValid_2_3_1 s lv w hr hw hf hm hs hp g1 g3
    · exact oValid_2_3_2 s lv w hr hw hf hm hs hp g1 g3
  · rcases fullWays s.paid (dueOf s) with ⟨g1, _⟩ | ⟨g1, g3, _⟩ | ⟨g1, g3, _⟩
    · exact oValid_0_0_0 s lv w hr hw hf hm hs hp g1
    · exact oValid_0_0_1 s lv w hr hw hf hm hs hp g1 g3
    · exact oValid_0_0_2 s lv w hr hw hf hm hs hp g1 g3
  · rcases fullWays s.paid (dueOf s) with ⟨g1, _⟩ | ⟨g1, g3, _⟩ | ⟨g1, g3, _⟩
    · exact oValid_1_0_0 s lv w hr hw hf hm hs hp g1
    · exact oValid_1_0_1 s lv w hr hw hf hm hs hp g1 g3
    · exact oValid_1_0_2 s lv w hr hw hf hm hs hp g1 g3
  · rcases fullWays s.paid (dueOf s) with ⟨g1, _⟩ | ⟨g1, g3, _⟩ | ⟨g1, g3, _⟩
    · exact oValid_3_0_0 s lv w hr hw hf hm hs hp g1
    · exact oValid_3_0_1 s lv w hr hw hf hm hs hp g1 g3
    · exact oValid_3_0_2 s lv w hr hw hf hm hs hp g1 g3
  · rcases fullWays s.paid (dueOf s) with ⟨g1, _⟩ | ⟨g1, g3, _⟩ | ⟨g1, g3, _⟩
    · exact oValid_4_0_0 s lv w hr hw hf hm hs hp g1
    · exact oValid_4_0_1 s lv w hr hw hf hm hs hp g1 g3
    · exact oValid_4_0_2 s lv w hr hw hf hm hs hp g1 g3
  · rcases fullWays s.paid (dueOf s) with ⟨g1, _⟩ | ⟨g1, g3, _⟩ | ⟨g1, g3, _⟩
    · exact oValid_5_0_0 s lv w hr hw hf hm hs hp g1
    · exact oValid_5_0_1 s lv w hr hw hf hm hs hp g1 g3
    · exact oValid_5_0_2 s lv w hr hw hf hm hs hp g1 g3

end Go.Proofs.YtlobohpbgghleaaDoor
