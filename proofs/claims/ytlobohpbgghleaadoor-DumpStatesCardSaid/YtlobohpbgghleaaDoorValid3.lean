import Derived.Test.YtlobohpbgghleaaDoorValid2
namespace Go.Proofs.YtlobohpbgghleaaDoor
open Go.RowKit

set_option maxRecDepth 100000 in
set_option maxHeartbeats 16000000 in
theorem oValid_5_0_0 (s : St) (lv : Value) (w : World) (hr : LnRow w lv s.lines) (hw : s.who.length ≤ 281474976710656) (hf : boundedB s = true) (hm : ¬ dueOf s < s.paid) (hs : s.status = 5) (hp : s.prior = 0) (g1 : (s.paid == dueOf s) = false) :
    Calls Tryd.prog 8 #[stV s lv] w fun e w' => e = .returned (.bool (validB s)) ∧ Below w.heap.size w w' := by
  have HVb := Lib.hid (show validB s = noneB s.lines by
    have h1 : validB s = standB s 5 := by unfold validB; rw [hf, decide_eq_true (by omega), hs, hp]; rfl
    have h2 : (s.paid == dueOf s && decide (0 < s.paid)) = false := by rw [g1]; rfl
    rw [h1]; unfold standB; rw [h2]; rfl)
  have hbp := bounded_p hf
  have HBO := Lib.hid (show ∀ W : World, LnRow W lv s.lines → Calls Tryd.prog 15 #[stV s lv] W fun e w' => e = .returned (.bool true) ∧ Below W.heap.size W w' from fun W h => hf ▸ obounded s lv W h hw)
  obtain ⟨D, hD⟩ : ∃ D, D = dueOf s := ⟨_, rfl⟩
  have HDU := Lib.hid (show ∀ W : World, LnRow W lv s.lines → Calls Tryd.prog 16 #[stV s lv] W fun e w' => e = .returned (.int .i64 D) ∧ Below W.heap.size W w' from fun W h => hD ▸ odue_any s lv W h hbp.fine hbp.few hbp.tax.1 hbp.tax.2)
  have HH := Lib.hid (show StBlk (w.alloc (.cells (stCs s lv) 25)).drew w.heap.size s lv ∧ LnRow (w.alloc (.cells (stCs s lv) 25)).drew lv s.lines ∧ Below w.heap.size w (w.alloc (.cells (stCs s lv) 25)).drew from by
    have hb : Below w.heap.size w (w.alloc (.cells (stCs s lv) 25)) := (Below.refl _ _).alloc (Nat.le_refl _) _
    exact ⟨stBlk_alloc w s lv, hr.below (Below.next hb (below_drewN' _ 1)), Below.next hb (below_drewN' _ 1)⟩)
  have HSH := Lib.hid (show ∀ W : World, LnRow W lv s.lines → Calls Tryd.prog 17 #[stV s lv] W fun e w' => e = .returned (.tuple #[.bool (noneB s.lines), .bool (wholeB s.lines)]) ∧ Below W.heap.size W w' from fun W h => oshipped_any s lv W h)
  obtain ⟨nB, hnB⟩ : ∃ x, x = noneB s.lines := ⟨_, rfl⟩
  obtain ⟨wB, hwB⟩ : ∃ x, x = wholeB s.lines := ⟨_, rfl⟩
  rw [← hnB, ← hwB] at HSH
  rw [← hD] at hm g1
  rw [← hnB] at HVb
  have d1 : decide (D < s.paid) = false := decide_eq_false hm
  have hm2 : s.paid ≤ D := by omega
  have HS := Lib.hid hs
  have HP := Lib.hid hp
  obtain ⟨oa, cap, hlv, _, _, _⟩ := hr.shape
  have HLV := Lib.hid hlv
  clear hr hw hf hbp hD hm hs hp hnB hwB hlv
  go_enter Tryd.func8, Tryd.ntmps8
  go_wp2
  refine wp_region_held_drew (S := fun w' => StBlk w' w.heap.size s lv ∧ LnRow w' lv s.lines ∧ Below w.heap.size w w') (by kernel_rfl) HH.out (fun hHeld => ?_)
  refine wpAnyH_take (i := 0) (oi := ⟨_, _, _, _, _, _⟩) (v := stV s lv) rfl (by kernel_rfl) (by kernel_rfl) (by kernel_rfl) (fun _ _ _ h => h) (yieldsIf_load_mid (by kernel_rfl) 25 (.tmp 1) rfl w.heap.size 0 rfl (stCs s lv).toList _ (fun w' h j v hv => by rw [Nat.zero_add, h.1.cell]; simpa using hv) Tryd.underlying25 rfl (by rw [stInfo]; rfl)) (by assumption) ?_
  simp only [pA, pB, pC, pD]
  refine wpAnyH_ready (rs := [1]) (by kernel_rfl) (by simp) ?_
  refine AllReadyH.cons rfl (fun K hK => ?_) AllReadyH.nil
  go_simp
  go_at_call 15
  obtain ⟨hSt, hLn, hBe⟩ := hHeld
  refine (HBO.out _ hLn).mono ?_
  rintro x w1 ⟨rfl, hb⟩
  go_wp2_with fail
  refine hK.out _ _ ⟨hSt.below hb, hLn.below hb, Below.next hBe hb⟩ (fun hHeld => ?_)
  clear hK K hSt hLn hBe hb
  refine tk 2 rfl ?v_2_22 ?hy_2_22 ?r_2_22
  case hy_2_22 => intro w h; have k1 := h.1.c1; have k6 := h.1.c6; go_simp; try with_reducible rfl
  simp only [pA, pB, pC, pD]
  refine tk 3 rfl ?v_3_23 ?hy_3_23 ?r_3_23
  case hy_3_23 => intro w h; have k1 := h.1.c1; have k6 := h.1.c6; go_simp; try with_reducible rfl
  simp only [pA, pB, pC, pD]
  refine tk 4 rfl ?v_4_24 ?hy_4_24 ?r_4_24
  case hy_4_24 => intro w h; have k1 := h.1.c1; have k6 := h.1.c6; go_simp; try with_reducible rfl
  simp only [pA, pB, pC, pD]
  refine tk 5 rfl ?v_5_25 ?hy_5_25 ?r_5_25
  case hy_5_25 => intro w h; have k1 := h.1.c1; have k6 := h.1.c6; go_simp; try with_reducible rfl
  simp only [pA, pB, pC, pD]
  refine wpAnyH_take (i := 6) (oi := ⟨_, _, _, _, _, _⟩) (v := stV s lv) rfl (by kernel_rfl) (by kernel_rfl) (by kernel_rfl) (fun _ _ _ h => h) (yieldsIf_load_mid (by kernel_rfl) 25 (.tmp 1) rfl w.heap.size 0 rfl (stCs s lv).toList _ (fun w' h j v hv => by rw [Nat.zero_add, h.1.cell]; simpa using hv) Tryd.underlying25 rfl (by rw [stInfo]; rfl)) (by assumption) ?_
  simp only [pA, pB, pC, pD]
  refine wpAnyH_ready (rs := [7]) (by kernel_rfl) (by simp) ?_
  refine AllReadyH.cons rfl (fun K hK => ?_) AllReadyH.nil
  go_simp
  go_at_call 16
  obtain ⟨hSt, hLn, hBe⟩ := hHeld
  refine (HDU.out _ hLn).mono ?_
  rintro x w2 ⟨rfl, hb⟩
  go_wp2_with fail
  refine hK.out _ _ ⟨hSt.below hb, hLn.below hb, Below.next hBe hb⟩ (fun hHeld => ?_)
  clear hK K hSt hLn hBe hb
  refine tk 8 rfl ?v_8_26 ?hy_8_26 ?r_8_26
  case hy_8_26 => intro w h; have k1 := h.1.c1; have k6 := h.1.c6; go_simp; try with_reducible rfl
  simp only [pA, pB, pC, pD]
  refine tk 9 rfl ?v_9_27 ?hy_9_27 ?r_9_27
  case hy_9_27 => intro w h; have k1 := h.1.c1; have k6 := h.1.c6; go_simp; try with_reducible rfl
  simp only [pA, pB, pC, pD]
  refine wpAnyH_done (by kernel_rfl) ?_ _
  have c1 : w2.cell? ⟨w.heap.size, 1, none⟩ = some (.int .i64 5) := by rw [hHeld.1.cell 1, stCs, HS.out]; rfl
  have c2 : w2.cell? ⟨w.heap.size, 2, none⟩ = some (.int .i64 0) := by rw [hHeld.1.cell 2, stCs, HP.out]; rfl
  have HE := Lib.hid hHeld
  clear hHeld HBO HH
  go_wp2_with (first
    | (with_reducible refine wpList_load_st rfl (.tmp 1) rfl w.heap.size s lv rfl HE.out.1 ?_)
    | (go_at_call 17; refine (HSH.out _ HE.out.2.1).mono ?_; rintro x w3 ⟨rfl, hb⟩; have HE3 := Lib.hid (show StBlk w3 w.heap.size s lv ∧ LnRow w3 lv s.lines ∧ Below w.heap.size w w3 from ⟨HE.out.1.below hb, HE.out.2.1.below hb, Below.next HE.out.2.2 hb⟩); clear hb))
  clear c1 c2 HE HSH
  refine wp_region_held_drew (S := fun w' => StBlk w' w.heap.size s lv ∧ LnRow w' lv s.lines ∧ Below w.heap.size w w') (by kernel_rfl) ⟨HE3.out.1, HE3.out.2.1, Below.next HE3.out.2.2 (below_drewN' _ 1)⟩ (fun hHeld => ?_)
  refine tk 0 rfl ?v_0_28 ?hy_0_28 ?r_0_28
  case hy_0_28 => intro w h; have k1 := h.1.c1; have k6 := h.1.c6; go_simp; try with_reducible rfl
  simp only [pA, pB, pC, pD]
  refine tk 1 rfl ?v_1_29 ?hy_1_29 ?r_1_29
  case hy_1_29 => intro w h; have k1 := h.1.c1; have k6 := h.1.c6; go_simp; try with_reducible rfl
  simp only [pA, pB, pC, pD]
  refine wpAnyH_take (i := 2) (oi := ⟨_, _, _, _, _, _⟩) (v := stV s lv) rfl (by kernel_rfl) (by kernel_rfl) (by kernel_rfl) (fun _ _ _ h => h) (yieldsIf_load_mid (by kernel_rfl) 25 (.tmp 1) rfl w.heap.size 0 rfl (stCs s lv).toList _ (fun w' h j v hv => by rw [Nat.zero_add, h.1.cell]; simpa using hv) Tryd.underlying25 rfl (by rw [stInfo]; rfl)) (by assumption) ?_
  simp only [pA, pB, pC, pD]
  refine wpAnyH_ready (rs := [3]) (by kernel_rfl) (by simp) ?_
  refine AllReadyH.cons rfl (fun K hK => ?_) AllReadyH.nil
  go_simp
  go_at_call 16
  obtain ⟨hSt, hLn, hBe⟩ := hHeld
  refine (HDU.out _ hLn).mono ?_
  rintro x w4 ⟨rfl, hb⟩
  go_wp2_with fail
  refine hK.out _ _ ⟨hSt.below hb, hLn.below hb, Below.next hBe hb⟩ (fun hHeld => ?_)
  clear hK K hSt hLn hBe hb
  refine tk 4 rfl ?v_4_30 ?hy_4_30 ?r_4_30
  case hy_4_30 => intro w h; have k1 := h.1.c1; have k6 := h.1.c6; go_simp; try with_reducible rfl
  simp only [pA, pB, pC, pD]
  refine tk 5 rfl ?v_5_31 ?hy_5_31 ?r_5_31
  case hy_5_31 => intro w h; have k1 := h.1.c1; have k6 := h.1.c6; go_simp; try with_reducible rfl
  simp only [pA, pB, pC, pD]
  refine tkn 6 rfl ?_
  simp only [pA, pB, pC, pD]
  refine tkn 7 rfl ?_
  simp only [pA, pB, pC, pD]
  refine tkn 8 rfl ?_
  simp only [pA, pB, pC, pD]
  refine tk 9 rfl ?v_9_32 ?hy_9_32 ?r_9_32
  case hy_9_32 => intro w h; have k1 := h.1.c1; have k6 := h.1.c6; go_simp; try with_reducible rfl
  simp only [pA, pB, pC, pD]
  refine tk 10 rfl ?v_10_33 ?hy_10_33 ?r_10_33
  case hy_10_33 => intro w h; have k1 := h.1.c1; have k6 := h.1.c6; go_simp; try with_reducible rfl
  simp only [pA, pB, pC, pD]
  refine wpAnyH_done (by kernel_rfl) ?_ _
  have HB := Lib.hid hHeld.2.2
  have d3 : w4.cell? ⟨w.heap.size, 3, none⟩ = some (.int .i64 s.cur) := hHeld.1.cell 3
  have d4 : w4.cell? ⟨w.heap.size, 4, none⟩ = some (.int .i64 s.tax) := hHeld.1.cell 4
  have d5 : w4.cell? ⟨w.heap.size, 5, none⟩ = some (.slice oa s.lines.length cap) := by rw [hHeld.1.cell 5, stCs, HLV.out]; rfl
  have d7 : w4.cell? ⟨w.heap.size, 7, none⟩ = some (.int .i64 s.refunded) := hHeld.1.cell 7
  have d8 : w4.cell? ⟨w.heap.size, 8, none⟩ = some (.int .i64 s.events) := hHeld.1.cell 8
  have d9 : w4.cell? ⟨w.heap.size, 9, none⟩ = some (.int .i64 s.refused) := hHeld.1.cell 9
  have d10 : w4.cell? ⟨w.heap.size, 10, none⟩ = some (.int .i64 s.stamp) := hHeld.1.cell 10
  have d11 : w4.cell? ⟨w.heap.size, 11, none⟩ = some (.string ⟨s.who.toArray⟩) := hHeld.1.cell 11
  clear hHeld HE3 HDU
  go_wp2
  go_ret
  exact ⟨by rw [HVb.out]; rfl, HB.out⟩

set_option maxRecDepth 100000 in
set_option maxHeartbeats 16000000 in
theorem oValid_5_0_1 (s : St) (lv : Value) (w : World) (hr : LnRow w lv s.lines) (hw : s.who.length ≤ 281474976710656) (hf : boundedB s = true) (hm : ¬ dueOf s < s.paid) (hs : s.status = 5) (hp : s.prior = 0) (g1 : (s.paid == dueOf s) = true) (g3 : decide (0 < s.paid) = false) :
    Calls Tryd.prog 8 #[stV s lv] w fun e w' => e = .returned (.bool (validB s)) ∧ Below w.heap.size w w' := by
  have HVb := Lib.hid (show validB s = noneB s.lines by
    have h1 : validB s = standB s 5 := by unfold validB; rw [hf, decide_eq_true (by omega), hs, hp]; rfl
    have h2 : (s.paid == dueOf s && decide (0 < s.paid)) = false := by rw [g1, g3]; rfl
    rw [h1]; unfold standB; rw [h2]; rfl)
  have hbp := bounded_p hf
  have HBO := Lib.hid (show ∀ W : World, LnRow W lv s.lines → Calls Tryd.prog 15 #[stV s lv] W fun e w' => e = .returned (.bool true) ∧ Below W.heap.size W w' from fun W h => hf ▸ obounded s lv W h hw)
  obtain ⟨D, hD⟩ : ∃ D, D = dueOf s := ⟨_, rfl⟩
  have HDU := Lib.hid (show ∀ W : World, LnRow W lv s.lines → Calls Tryd.prog 16 #[stV s lv] W fun e w' => e = .returned (.int .i64 D) ∧ Below W.heap.size W w' from fun W h => hD ▸ odue_any s lv W h hbp.fine hbp.few hbp.tax.1 hbp.tax.2)
  have HH := Lib.hid (show StBlk (w.alloc (.cells (stCs s lv) 25)).drew w.heap.size s lv ∧ LnRow (w.alloc (.cells (stCs s lv) 25)).drew lv s.lines ∧ Below w.heap.size w (w.alloc (.cells (stCs s lv) 25)).drew from by
    have hb : Below w.heap.size w (w.alloc (.cells (stCs s lv) 25)) := (Below.refl _ _).alloc (Nat.le_refl _) _
    exact ⟨stBlk_alloc w s lv, hr.below (Below.next hb (below_drewN' _ 1)), Below.next hb (below_drewN' _ 1)⟩)
  have HSH := Lib.hid (show ∀ W : World, LnRow W lv s.lines → Calls Tryd.prog 17 #[stV s lv] W fun e w' => e = .returned (.tuple #[.bool (noneB s.lines), .bool (wholeB s.lines)]) ∧ Below W.heap.size W w' from fun W h => oshipped_any s lv W h)
  obtain ⟨nB, hnB⟩ : ∃ x, x = noneB s.lines := ⟨_, rfl⟩
  obtain ⟨wB, hwB⟩ : ∃ x, x = wholeB s.lines := ⟨_, rfl⟩
  rw [← hnB, ← hwB] at HSH
  rw [← hD] at hm g1
  rw [← hnB] at HVb
  have d1 : decide (D < s.paid) = false := decide_eq_false hm
  have hm2 : s.paid ≤ D := by omega
  have HS := Lib.hid hs
  have HP := Lib.hid hp
  obtain ⟨oa, cap, hlv, _, _, _⟩ := hr.shape
  have HLV := Lib.hid hlv
  clear hr hw hf hbp hD hm hs hp hnB hwB hlv
  go_enter Tryd.func8, Tryd.ntmps8
  go_wp2
  refine wp_region_held_drew (S := fun w' => StBlk w' w.heap.size s lv ∧ LnRow w' lv s.lines ∧ Below w.heap.size w w') (by kernel_rfl) HH.out (fun hHeld => ?_)
  refine wpAnyH_take (i := 0) (oi := ⟨_, _, _, _, _, _⟩) (v := stV s lv) rfl (by kernel_rfl) (by kernel_rfl) (by kernel_rfl) (fun _ _ _ h => h) (yieldsIf_load_mid (by kernel_rfl) 25 (.tmp 1) rfl w.heap.size 0 rfl (stCs s lv).toList _ (fun w' h j v hv => by rw [Nat.zero_add, h.1.cell]; simpa using hv) Tryd.underlying25 rfl (by rw [stInfo]; rfl)) (by assumption) ?_
  simp only [pA, pB, pC, pD]
  refine wpAnyH_ready (rs := [1]) (by kernel_rfl) (by simp) ?_
  refine AllReadyH.cons rfl (fun K hK => ?_) AllReadyH.nil
  go_simp
  go_at_call 15
  obtain ⟨hSt, hLn, hBe⟩ := hHeld
  refine (HBO.out _ hLn).mono ?_
  rintro x w1 ⟨rfl, hb⟩
  go_wp2_with fail
  refine hK.out _ _ ⟨hSt.below hb, hLn.below hb, Below.next hBe hb⟩ (fun hHeld => ?_)
  clear hK K hSt hLn hBe hb
  refine tk 2 rfl ?v_2_34 ?hy_2_34 ?r_2_34
  case hy_2_34 => intro w h; have k1 := h.1.c1; have k6 := h.1.c6; go_simp; try with_reducible rfl
  simp only [pA, pB, pC, pD]
  refine tk 3 rfl ?v_3_35 ?hy_3_35 ?r_3_35
  case hy_3_35 => intro w h; have k1 := h.1.c1; have k6 := h.1.c6; go_simp; try with_reducible rfl
  simp only [pA, pB, pC, pD]
  refine tk 4 rfl ?v_4_36 ?hy_4_36 ?r_4_36
  case hy_4_36 => intro w h; have k1 := h.1.c1; have k6 := h.1.c6; go_simp; try with_reducible rfl
  simp only [pA, pB, pC, pD]
  refine tk 5 rfl ?v_5_37 ?hy_5_37 ?r_5_37
  case hy_5_37 => intro w h; have k1 := h.1.c1; have k6 := h.1.c6; go_simp; try with_reducible rfl
  simp only [pA, pB, pC, pD]
  refine wpAnyH_take (i := 6) (oi := ⟨_, _, _, _, _, _⟩) (v := stV s lv) rfl (by kernel_rfl) (by kernel_rfl) (by kernel_rfl) (fun _ _ _ h => h) (yieldsIf_load_mid (by kernel_rfl) 25 (.tmp 1) rfl w.heap.size 0 rfl (stCs s lv).toList _ (fun w' h j v hv => by rw [Nat.zero_add, h.1.cell]; simpa using hv) Tryd.underlying25 rfl (by rw [stInfo]; rfl)) (by assumption) ?_
  simp only [pA, pB, pC, pD]
  refine wpAnyH_ready (rs := [7]) (by kernel_rfl) (by simp) ?_
  refine AllReadyH.cons rfl (fun K hK => ?_) AllReadyH.nil
  go_simp
  go_at_call 16
  obtain ⟨hSt, hLn, hBe⟩ := hHeld
  refine (HDU.out _ hLn).mono ?_
  rintro x w2 ⟨rfl, hb⟩
  go_wp2_with fail
  refine hK.out _ _ ⟨hSt.below hb, hLn.below hb, Below.next hBe hb⟩ (fun hHeld => ?_)
  clear hK K hSt hLn hBe hb
  refine tk 8 rfl ?v_8_38 ?hy_8_38 ?r_8_38
  case hy_8_38 => intro w h; have k1 := h.1.c1; have k6 := h.1.c6; go_simp; try with_reducible rfl
  simp only [pA, pB, pC, pD]
  refine tk 9 rfl ?v_9_39 ?hy_9_39 ?r_9_39
  case hy_9_39 => intro w h; have k1 := h.1.c1; have k6 := h.1.c6; go_simp; try with_reducible rfl
  simp only [pA, pB, pC, pD]
  refine wpAnyH_done (by kernel_rfl) ?_ _
  have c1 : w2.cell? ⟨w.heap.size, 1, none⟩ = some (.int .i64 5) := by rw [hHeld.1.cell 1, stCs, HS.out]; rfl
  have c2 : w2.cell? ⟨w.heap.size, 2, none⟩ = some (.int .i64 0) := by rw [hHeld.1.cell 2, stCs, HP.out]; rfl
  have HE := Lib.hid hHeld
  clear hHeld HBO HH
  go_wp2_with (first
    | (with_reducible refine wpList_load_st rfl (.tmp 1) rfl w.heap.size s lv rfl HE.out.1 ?_)
    | (go_at_call 17; refine (HSH.out _ HE.out.2.1).mono ?_; rintro x w3 ⟨rfl, hb⟩; have HE3 := Lib.hid (show StBlk w3 w.heap.size s lv ∧ LnRow w3 lv s.lines ∧ Below w.heap.size w w3 from ⟨HE.out.1.below hb, HE.out.2.1.below hb, Below.next HE.out.2.2 hb⟩); clear hb))
  clear c1 c2 HE HSH
  refine wp_region_held_drew (S := fun w' => StBlk w' w.heap.size s lv ∧ LnRow w' lv s.lines ∧ Below w.heap.size w w') (by kernel_rfl) ⟨HE3.out.1, HE3.out.2.1, Below.next HE3.out.2.2 (below_drewN' _ 1)⟩ (fun hHeld => ?_)
  refine tk 0 rfl ?v_0_40 ?hy_0_40 ?r_0_40
  case hy_0_40 => intro w h; have k1 := h.1.c1; have k6 := h.1.c6; go_simp; try with_reducible rfl
  simp only [pA, pB, pC, pD]
  refine tk 1 rfl ?v_1_41 ?hy_1_41 ?r_1_41
  case hy_1_41 => intro w h; have k1 := h.1.c1; have k6 := h.1.c6; go_simp; try with_reducible rfl
  simp only [pA, pB, pC, pD]
  refine wpAnyH_take (i := 2) (oi := ⟨_, _, _, _, _, _⟩) (v := stV s lv) rfl (by kernel_rfl) (by kernel_rfl) (by kernel_rfl) (fun _ _ _ h => h) (yieldsIf_load_mid (by kernel_rfl) 25 (.tmp 1) rfl w.heap.size 0 rfl (stCs s lv).toList _ (fun w' h j v hv => by rw [Nat.zero_add, h.1.cell]; simpa using hv) Tryd.underlying25 rfl (by rw [stInfo]; rfl)) (by assumption) ?_
  simp only [pA, pB, pC, pD]
  refine wpAnyH_ready (rs := [3]) (by kernel_rfl) (by simp) ?_
  refine AllReadyH.cons rfl (fun K hK => ?_) AllReadyH.nil
  go_simp
  go_at_call 16
  obtain ⟨hSt, hLn, hBe⟩ := hHeld
  refine (HDU.out _ hLn).mono ?_
  rintro x w4 ⟨rfl, hb⟩
  go_wp2_with fail
  refine hK.out _ _ ⟨hSt.below hb, hLn.below hb, Below.next hBe hb⟩ (fun hHeld => ?_)
  clear hK K hSt hLn hBe hb
  refine tk 4 rfl ?v_4_42 ?hy_4_42 ?r_4_42
  case hy_4_42 => intro w h; have k1 := h.1.c1; have k6 := h.1.c6; go_simp; try with_reducible rfl
  simp only [pA, pB, pC, pD]
  refine tk 5 rfl ?v_5_43 ?hy_5_43 ?r_5_43
  case hy_5_43 => intro w h; have k1 := h.1.c1; have k6 := h.1.c6; go_simp; try with_reducible rfl
  simp only [pA, pB, pC, pD]
  refine tk 6 rfl ?v_6_44 ?hy_6_44 ?r_6_44
  case hy_6_44 => intro w h; have k1 := h.1.c1; have k6 := h.1.c6; go_simp; try with_reducible rfl
  simp only [pA, pB, pC, pD]
  refine tk 7 rfl ?v_7_45 ?hy_7_45 ?r_7_45
  case hy_7_45 => intro w h; have k1 := h.1.c1; have k6 := h.1.c6; go_simp; try with_reducible rfl
  simp only [pA, pB, pC, pD]
  refine tk 8 rfl ?v_8_46 ?hy_8_46 ?r_8_46
  case hy_8_46 => intro w h; have k1 := h.1.c1; have k6 := h.1.c6; go_simp; try with_reducible rfl
  simp only [pA, pB, pC, pD]
  refine tk 9 rfl ?v_9_47 ?hy_9_47 ?r_9_47
  case hy_9_47 => intro w h; have k1 := h.1.c1; have k6 := h.1.c6; go_simp; try with_reducible rfl
  simp only [pA, pB, pC, pD]
  refine tk 10 rfl ?v_10_48 ?hy_10_48 ?r_10_48
  case hy_10_48 => intro w h; have k1 := h.1.c1; have k6 := h.1.c6; go_simp; try with_reducible rfl
  simp only [pA, pB, pC, pD]
  refine wpAnyH_done (by kernel_rfl) ?_ _
  have HB := Lib.hid hHeld.2.2
  have d3 : w4.cell? ⟨w.heap.size, 3, none⟩ = some (.int .i64 s.cur) := hHeld.1.cell 3
  have d4 : w4.cell? ⟨w.heap.size, 4, none⟩ = some (.int .i64 s.tax) := hHeld.1.cell 4
  have d5 : w4.cell? ⟨w.heap.size, 5, none⟩ = some (.slice oa s.lines.length cap) := by rw [hHeld.1.cell 5, stCs, HLV.out]; rfl
  have d7 : w4.cell? ⟨w.heap.size, 7, none⟩ = some (.int .i64 s.refunded) := hHeld.1.cell 7
  have d8 : w4.cell? ⟨w.heap.size, 8, none⟩ = some (.int .i64 s.events) := hHeld.1.cell 8
  have d9 : w4.cell? ⟨w.heap.size, 9, none⟩ = some (.int .i64 s.refused) := hHeld.1.cell 9
  have d10 : w4.cell? ⟨w.heap.size, 10, none⟩ = some (.int .i64 s.stamp) := hHeld.1.cell 10
  have d11 : w4.cell? ⟨w.heap.size, 11, none⟩ = some (.string ⟨s.who.toArray⟩) := hHeld.1.cell 11
  clear hHeld HE3 HDU
  go_wp2
  go_ret
  exact ⟨by rw [HVb.out]; rfl, HB.out⟩

set_option maxRecDepth 100000 in
set_option maxHeartbeats 16000000 in
theorem oValid_5_0_2 (s : St) (lv : Value) (w : World) (hr : LnRow w lv s.lines) (hw : s.who.length ≤ 281474976710656) (hf : boundedB s = true) (hm : ¬ dueOf s < s.paid) (hs : s.status = 5) (hp : s.prior = 0) (g1 : (s.paid == dueOf s) = true) (g3 : decide (0 < s.paid) = true) :
    Calls Tryd.prog 8 #[stV s lv] w fun e w' => e = .returned (.bool (validB s)) ∧ Below w.heap.size w w' := by
  have HVb := Lib.hid (show validB s = noneB s.lines by
    have h1 : validB s = standB s 5 := by unfold validB; rw [hf, decide_eq_true (by omega), hs, hp]; rfl
    have h2 : (s.paid == dueOf s && decide (0 < s.paid)) = true := by rw [g1, g3]; rfl
    rw [h1]; unfold standB; rw [h2]; rfl)
  have hbp := bounded_p hf
  have HBO := Lib.hid (show ∀ W : World, LnRow W lv s.lines → Calls Tryd.prog 15 #[stV s lv] W fun e w' => e = .returned (.bool true) ∧ Below W.heap.size W w' from fun W h => hf ▸ obounded s lv W h hw)
  obtain ⟨D, hD⟩ : ∃ D, D = dueOf s := ⟨_, rfl⟩
  have HDU := Lib.hid (show ∀ W : World, LnRow W lv s.lines → Calls Tryd.prog 16 #[stV s lv] W fun e w' => e = .returned (.int .i64 D) ∧ Below W.heap.size W w' from fun W h => hD ▸ odue_any s lv W h hbp.fine hbp.few hbp.tax.1 hbp.tax.2)
  have HH := Lib.hid (show StBlk (w.alloc (.cells (stCs s lv) 25)).drew w.heap.size s lv ∧ LnRow (w.alloc (.cells (stCs s lv) 25)).drew lv s.lines ∧ Below w.heap.size w (w.alloc (.cells (stCs s lv) 25)).drew from by
    have hb : Below w.heap.size w (w.alloc (.cells (stCs s lv) 25)) := (Below.refl _ _).alloc (Nat.le_refl _) _
    exact ⟨stBlk_alloc w s lv, hr.below (Below.next hb (below_drewN' _ 1)), Below.next hb (below_drewN' _ 1)⟩)
  have HSH := Lib.hid (show ∀ W : World, LnRow W lv s.lines → Calls Tryd.prog 17 #[stV s lv] W fun e w' => e = .returned (.tuple #[.bool (noneB s.lines), .bool (wholeB s.lines)]) ∧ Below W.heap.size W w' from fun W h => oshipped_any s lv W h)
  obtain ⟨nB, hnB⟩ : ∃ x, x = noneB s.lines := ⟨_, rfl⟩
  obtain ⟨wB, hwB⟩ : ∃ x, x = wholeB s.lines := ⟨_, rfl⟩
  rw [← hnB, ← hwB] at HSH
  rw [← hD] at hm g1
  rw [← hnB] at HVb
  have d1 : decide (D < s.paid) = false := decide_eq_false hm
  have hm2 : s.paid ≤ D := by omega
  have HS := Lib.hid hs
  have HP := Lib.hid hp
  obtain ⟨oa, cap, hlv, _, _, _⟩ := hr.shape
  have HLV := Lib.hid hlv
  clear hr hw hf hbp hD hm hs hp hnB hwB hlv
  go_enter Tryd.func8, Tryd.ntmps8
  go_wp2
  refine wp_region_held_drew (S := fun w' => StBlk w' w.heap.size s lv ∧ LnRow w' lv s.lines ∧ Below w.heap.size w w') (by kernel_rfl) HH.out (fun hHeld => ?_)
  refine wpAnyH_take (i := 0) (oi := ⟨_, _, _, _, _, _⟩) (v := stV s lv) rfl (by kernel_rfl) (by kernel_rfl) (by kernel_rfl) (fun _ _ _ h => h) (yieldsIf_load_mid (by kernel_rfl) 25 (.tmp 1) rfl w.heap.size 0 rfl (stCs s lv).toList _ (fun w' h j v hv => by rw [Nat.zero_add, h.1.cell]; simpa using hv) Tryd.underlying25 rfl (by rw [stInfo]; rfl)) (by assumption) ?_
  simp only [pA, pB, pC, pD]
  refine wpAnyH_ready (rs := [1]) (by kernel_rfl) (by simp) ?_
  refine AllReadyH.cons rfl (fun K hK => ?_) AllReadyH.nil
  go_simp
  go_at_call 15
  obtain ⟨hSt, hLn, hBe⟩ := hHeld
  refine (HBO.out _ hLn).mono ?_
  rintro x w1 ⟨rfl, hb⟩
  go_wp2_with fail
  refine hK.out _ _ ⟨hSt.below hb, hLn.below hb, Below.next hBe hb⟩ (fun hHeld => ?_)
  clear hK K hSt hLn hBe hb
  refine tk 2 rfl ?v_2_49 ?hy_2_49 ?r_2_49
  case hy_2_49 => intro w h; have k1 := h.1.c1; have k6 := h.1.c6; go_simp; try with_reducible rfl
  simp only [pA, pB, pC, pD]
  refine tk 3 rfl ?v_3_50 ?hy_3_50 ?r_3_50
  case hy_3_50 => intro w h; have k1 := h.1.c1; have k6 := h.1.c6; go_simp; try with_reducible rfl
  simp only [pA, pB, pC, pD]
  refine tk 4 rfl ?v_4_51 ?hy_4_51 ?r_4_51
  case hy_4_51 => intro w h; have k1 := h.1.c1; have k6 := h.1.c6; go_simp; try with_reducible rfl
  simp only [pA, pB, pC, pD]
  refine tk 5 rfl ?v_5_52 ?hy_5_52 ?r_5_52
  case hy_5_52 => intro w h; have k1 := h.1.c1; have k6 := h.1.c6; go_simp; try with_reducible rfl
  simp only [pA, pB, pC, pD]
  refine wpAnyH_take (i := 6) (oi := ⟨_, _, _, _, _, _⟩) (v := stV s lv) rfl (by kernel_rfl) (by kernel_rfl) (by kernel_rfl) (fun _ _ _ h => h) (yieldsIf_load_mid (by kernel_rfl) 25 (.tmp 1) rfl w.heap.size 0 rfl (stCs s lv).toList _ (fun w' h j v hv => by rw [Nat.zero_add, h.1.cell]; simpa using hv) Tryd.underlying25 rfl (by rw [stInfo]; rfl)) (by assumption) ?_
  simp only [pA, pB, pC, pD]
  refine wpAnyH_ready (rs := [7]) (by kernel_rfl) (by simp) ?_
  refine AllReadyH.cons rfl (fun K hK => ?_) AllReadyH.nil
  go_simp
  go_at_call 16
  obtain ⟨hSt, hLn, hBe⟩ := hHeld
  refine (HDU.out _ hLn).mono ?_
  rintro x w2 ⟨rfl, hb⟩
  go_wp2_with fail
  refine hK.out _ _ ⟨hSt.below hb, hLn.below hb, Below.next hBe hb⟩ (fun hHeld => ?_)
  clear hK K hSt hLn hBe hb
  refine tk 8 rfl ?v_8_53 ?hy_8_53 ?r_8_53
  case hy_8_53 => intro w h; have k1 := h.1.c1; have k6 := h.1.c6; go_simp; try with_reducible rfl
  simp only [pA, pB, pC, pD]
  refine tk 9 rfl ?v_9_54 ?hy_9_54 ?r_9_54
  case hy_9_54 => intro w h; have k1 := h.1.c1; have k6 := h.1.c6; go_simp; try with_reducible rfl
  simp only [pA, pB, pC, pD]
  refine wpAnyH_done (by kernel_rfl) ?_ _
  have c1 : w2.cell? ⟨w.heap.size, 1, none⟩ = some (.int .i64 5) := by rw [hHeld.1.cell 1, stCs, HS.out]; rfl
  have c2 : w2.cell? ⟨w.heap.size, 2, none⟩ = some (.int .i64 0) := by rw [hHeld.1.cell 2, stCs, HP.out]; rfl
  have HE := Lib.hid hHeld
  clear hHeld HBO HH
  go_wp2_with (first
    | (with_reducible refine wpList_load_st rfl (.tmp 1) rfl w.heap.size s lv rfl HE.out.1 ?_)
    | (go_at_call 17; refine (HSH.out _ HE.out.2.1).mono ?_; rintro x w3 ⟨rfl, hb⟩; have HE3 := Lib.hid (show StBlk w3 w.heap.size s lv ∧ LnRow w3 lv s.lines ∧ Below w.heap.size w w3 from ⟨HE.out.1.below hb, HE.out.2.1.below hb, Below.next HE.out.2.2 hb⟩); clear hb))
  clear c1 c2 HE HSH
  refine wp_region_held_drew (S := fun w' => StBlk w' w.heap.size s lv ∧ LnRow w' lv s.lines ∧ Below w.heap.size w w') (by kernel_rfl) ⟨HE3.out.1, HE3.out.2.1, Below.next HE3.out.2.2 (below_drewN' _ 1)⟩ (fun hHeld => ?_)
  refine tk 0 rfl ?v_0_55 ?hy_0_55 ?r_0_55
  case hy_0_55 => intro w h; have k1 := h.1.c1; have k6 := h.1.c6; go_simp; try with_reducible rfl
  simp only [pA, pB, pC, pD]
  refine tk 1 rfl ?v_1_56 ?hy_1_56 ?r_1_56
  case hy_1_56 => intro w h; have k1 := h.1.c1; have k6 := h.1.c6; go_simp; try with_reducible rfl
  simp only [pA, pB, pC, pD]
  refine wpAnyH_take (i := 2) (oi := ⟨_, _, _, _, _, _⟩) (v := stV s lv) rfl (by kernel_rfl) (by kernel_rfl) (by kernel_rfl) (fun _ _ _ h => h) (yieldsIf_load_mid (by kernel_rfl) 25 (.tmp 1) rfl w.heap.size 0 rfl (stCs s lv).toList _ (fun w' h j v hv => by rw [Nat.zero_add, h.1.cell]; simpa using hv) Tryd.underlying25 rfl (by rw [stInfo]; rfl)) (by assumption) ?_
  simp only [pA, pB, pC, pD]
  refine wpAnyH_ready (rs := [3]) (by kernel_rfl) (by simp) ?_
  refine AllReadyH.cons rfl (fun K hK => ?_) AllReadyH.nil
  go_simp
  go_at_call 16
  obtain ⟨hSt, hLn, hBe⟩ := hHeld
  refine (HDU.out _ hLn).mono ?_
  rintro x w4 ⟨rfl, hb⟩
  go_wp2_with fail
  refine hK.out _ _ ⟨hSt.below hb, hLn.below hb, Below.next hBe hb⟩ (fun hHeld => ?_)
  clear hK K hSt hLn hBe hb
  refine tk 4 rfl ?v_4_57 ?hy_4_57 ?r_4_57
  case hy_4_57 => intro w h; have k1 := h.1.c1; have k6 := h.1.c6; go_simp; try with_reducible rfl
  simp only [pA, pB, pC, pD]
  refine tk 5 rfl ?v_5_58 ?hy_5_58 ?r_5_58
  case hy_5_58 => intro w h; have k1 := h.1.c1; have k6 := h.1.c6; go_simp; try with_reducible rfl
  simp only [pA, pB, pC, pD]
  refine tk 6 rfl ?v_6_59 ?hy_6_59 ?r_6_59
  case hy_6_59 => intro w h; have k1 := h.1.c1; have k6 := h.1.c6; go_simp; try with_reducible rfl
  simp only [pA, pB, pC, pD]
  refine tk 7 rfl ?v_7_60 ?hy_7_60 ?r_7_60
  case hy_7_60 => intro w h; have k1 := h.1.c1; have k6 := h.1.c6; go_simp; try with_reducible rfl
  simp only [pA, pB, pC, pD]
  refine tk 8 rfl ?v_8_61 ?hy_8_61 ?r_8_61
  case hy_8_61 => intro w h; have k1 := h.1.c1; have k6 := h.1.c6; go_simp; try with_reducible rfl
  simp only [pA, pB, pC, pD]
  refine tk 9 rfl ?v_9_62 ?hy_9_62 ?r_9_62
  case hy_9_62 => intro w h; have k1 := h.1.c1; have k6 := h.1.c6; go_simp; try with_reducible rfl
  simp only [pA, pB, pC, pD]
  refine tk 10 rfl ?v_10_63 ?hy_10_63 ?r_10_63
  case hy_10_63 => intro w h; have k1 := h.1.c1; have k6 := h.1.c6; go_simp; try with_reducible rfl
  simp only [pA, pB, pC, pD]
  refine wpAnyH_done (by kernel_rfl) ?_ _
  have HB := Lib.hid hHeld.2.2
  have d3 : w4.cell? ⟨w.heap.size, 3, none⟩ = some (.int .i64 s.cur) := hHeld.1.cell 3
  have d4 : w4.cell? ⟨w.heap.size, 4, none⟩ = some (.int .i64 s.tax) := hHeld.1.cell 4
  have d5 : w4.cell? ⟨w.heap.size, 5, none⟩ = some (.slice oa s.lines.length cap) := by rw [hHeld.1.cell 5, stCs, HLV.out]; rfl
  have d7 : w4.cell? ⟨w.heap.size, 7, none⟩ = some (.int .i64 s.refunded) := hHeld.1.cell 7
  have d8 : w4.cell? ⟨w.heap.size, 8, none⟩ = some (.int .i64 s.events) := hHeld.1.cell 8
  have d9 : w4.cell? ⟨w.heap.size, 9, none⟩ = some (.int .i64 s.refused) := hHeld.1.cell 9
  have d10 : w4.cell? ⟨w.heap.size, 10, none⟩ = some (.int .i64 s.stamp) := hHeld.1.cell 10
  have d11 : w4.cell? ⟨w.heap.size, 11, none⟩ = some (.string ⟨s.who.toArray⟩) := hHeld.1.cell 11
  clear hHeld HE3 HDU
  go_wp2
  go_ret
  exact ⟨by rw [HVb.out]; rfl, HB.out⟩

end Go.Proofs.YtlobohpbgghleaaDoor
