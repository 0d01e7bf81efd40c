import Derived.Test.YtlobohpbgghleaaDoorValid2
namespace Go.Proofs.YtlobohpbgghleaaDoor
open Go.RowKit

set_option maxRecDepth 100000 in
set_option maxHeartbeats 16000000 in
theorem oValid_3_0_0 (s : St) (lv : Value) (w : World) (hr : LnRow w lv s.lines) (hw : s.who.length ≤ 281474976710656) (hf : boundedB s = true) (hm : ¬ dueOf s < s.paid) (hs : s.status = 3) (hp : s.prior = 0) (g1 : (s.paid == dueOf s) = false) :
    Calls Tryd.prog 8 #[stV s lv] w fun e w' => e = .returned (.bool (validB s)) ∧ Below w.heap.size w w' := by
  have HVb := Lib.hid (show validB s = (false && !wholeB s.lines) by
    have h1 : validB s = standB s 3 := by unfold validB; rw [hf, decide_eq_true (by omega), hs, hp]; rfl
    have h2 : (s.paid == dueOf s && decide (0 < s.paid)) = false := by rw [g1]; rfl
    rw [h1]; unfold standB; rw [h2]; rfl)
  have hbp := bounded_p hf
  have HBO := Lib.hid (show ∀ W : World, LnRow W lv s.lines → Calls Tryd.prog 15 #[stV s lv] W fun e w' => e = .returned (.bool true) ∧ Below W.heap.size W w' from fun W h => hf ▸ obounded s lv W h hw)
  obtain ⟨D, hD⟩ : ∃ D, D = dueOf s := ⟨_, rfl⟩
  have HDU := Lib.hid (show ∀ W : World, LnRow W lv s.lines → Calls Tryd.prog 16 #[stV s lv] W fun e w' => e = .returned (.int .i64 D) ∧ Below W.heap.size W w' from fun W h => hD ▸ odue_any s lv W h hbp.fine hbp.few hbp.tax.1 hbp.tax.2)
  have HH := Lib.hid (show StBlk (w.alloc (.cells (stCs s lv) 25)).drew w.heap.size s lv ∧ LnRow (w.alloc (.cells (stCs s lv) 25)).drew lv s.lines ∧ Below w.heap.size w (w.alloc (.cells (stCs s lv) 25)).drew from by
    have hb : Below w.heap.size w (w.alloc (.cells (stCs s lv) 25)) := (Below.refl _ _).alloc (Nat.le_refl _) _
    exact ⟨stBlk_alloc w s lv, hr.below (Below.next hb (below_drewN' _ 1)), Below.next hb (below_drewN' _ 1)⟩)
  have HSH := Lib.hid (show ∀ W : World, LnRow W lv s.lines → Calls Tryd.prog 17 #[stV s lv] W fun e w' => e = .returned (.tuple #[.bool (noneB s.lines), .bool (wholeB s.lines)]) ∧ Below W.heap.size W w' from fun W h => oshipped_any s lv W h)
  obtain ⟨nB, hnB⟩ : ∃ x, x = noneB s.lines := ⟨_, rfl⟩
  obtain ⟨wB, hwB⟩ : ∃ x, x = wholeB s.lines := ⟨_, rfl⟩
  rw [← hnB, ← hwB] at HSH
  rw [← hD] at hm g1
  rw [← hwB] at HVb
  have d1 : decide (D < s.paid) = false := decide_eq_false hm
  have hm2 : s.paid ≤ D := by omega
  have HS := Lib.hid hs
  have HP := Lib.hid hp
  obtain ⟨oa, cap, hlv, _, _, _⟩ := hr.shape
  have HLV := Lib.hid hlv
  clear hr hw hf hbp hD hm hs hp hnB hwB hlv
  go_enter Tryd.func8, Tryd.ntmps8
  go_wp2
  refine wp_region_held_drew (S := fun w' => StBlk w' w.heap.size s lv ∧ LnRow w' lv s.lines ∧ Below w.heap.size w w') (by kernel_rfl) HH.out (fun hHeld => ?_)
  refine wpAnyH_take (i := 0) (oi := ⟨_, _, _, _, _, _⟩) (v := stV s lv) rfl (by kernel_rfl) (by kernel_rfl) (by kernel_rfl) (fun _ _ _ h => h) (yieldsIf_load_mid (by kernel_rfl) 25 (.tmp 1) rfl w.heap.size 0 rfl (stCs s lv).toList _ (fun w' h j v hv => by rw [Nat.zero_add, h.1.cell]; simpa using hv) Tryd.underlying25 rfl (by rw [stInfo]; rfl)) (by assumption) ?_
  simp only [pA, pB, pC, pD]
  refine wpAnyH_ready (rs := [1]) (by kernel_rfl) (by simp) ?_
  refine AllReadyH.cons rfl (fun K hK => ?_) AllReadyH.nil
  go_simp
  go_at_call 15
  obtain ⟨hSt, hLn, hBe⟩ := hHeld
  refine (HBO.out _ hLn).mono ?_
  rintro x w1 ⟨rfl, hb⟩
  go_wp2_with fail
  refine hK.out _ _ ⟨hSt.below hb, hLn.below hb, Below.next hBe hb⟩ (fun hHeld => ?_)
  clear hK K hSt hLn hBe hb
  refine tk 2 rfl ?v_2_64 ?hy_2_64 ?r_2_64
  case hy_2_64 => intro w h; have k1 := h.1.c1; have k6 := h.1.c6; go_simp; try with_reducible rfl
  simp only [pA, pB, pC, pD]
  refine tk 3 rfl ?v_3_65 ?hy_3_65 ?r_3_65
  case hy_3_65 => intro w h; have k1 := h.1.c1; have k6 := h.1.c6; go_simp; try with_reducible rfl
  simp only [pA, pB, pC, pD]
  refine tk 4 rfl ?v_4_66 ?hy_4_66 ?r_4_66
  case hy_4_66 => intro w h; have k1 := h.1.c1; have k6 := h.1.c6; go_simp; try with_reducible rfl
  simp only [pA, pB, pC, pD]
  refine tk 5 rfl ?v_5_67 ?hy_5_67 ?r_5_67
  case hy_5_67 => intro w h; have k1 := h.1.c1; have k6 := h.1.c6; go_simp; try with_reducible rfl
  simp only [pA, pB, pC, pD]
  refine wpAnyH_take (i := 6) (oi := ⟨_, _, _, _, _, _⟩) (v := stV s lv) rfl (by kernel_rfl) (by kernel_rfl) (by kernel_rfl) (fun _ _ _ h => h) (yieldsIf_load_mid (by kernel_rfl) 25 (.tmp 1) rfl w.heap.size 0 rfl (stCs s lv).toList _ (fun w' h j v hv => by rw [Nat.zero_add, h.1.cell]; simpa using hv) Tryd.underlying25 rfl (by rw [stInfo]; rfl)) (by assumption) ?_
  simp only [pA, pB, pC, pD]
  refine wpAnyH_ready (rs := [7]) (by kernel_rfl) (by simp) ?_
  refine AllReadyH.cons rfl (fun K hK => ?_) AllReadyH.nil
  go_simp
  go_at_call 16
  obtain ⟨hSt, hLn, hBe⟩ := hHeld
  refine (HDU.out _ hLn).mono ?_
  rintro x w2 ⟨rfl, hb⟩
  go_wp2_with fail
  refine hK.out _ _ ⟨hSt.below hb, hLn.below hb, Below.next hBe hb⟩ (fun hHeld => ?_)
  clear hK K hSt hLn hBe hb
  refine tk 8 rfl ?v_8_68 ?hy_8_68 ?r_8_68
  case hy_8_68 => intro w h; have k1 := h.1.c1; have k6 := h.1.c6; go_simp; try with_reducible rfl
  simp only [pA, pB, pC, pD]
  refine tk 9 rfl ?v_9_69 ?hy_9_69 ?r_9_69
  case hy_9_69 => intro w h; have k1 := h.1.c1; have k6 := h.1.c6; go_simp; try with_reducible rfl
  simp only [pA, pB, pC, pD]
  refine wpAnyH_done (by kernel_rfl) ?_ _
  have c1 : w2.cell? ⟨w.heap.size, 1, none⟩ = some (.int .i64 3) := by rw [hHeld.1.cell 1, stCs, HS.out]; rfl
  have c2 : w2.cell? ⟨w.heap.size, 2, none⟩ = some (.int .i64 0) := by rw [hHeld.1.cell 2, stCs, HP.out]; rfl
  have HE := Lib.hid hHeld
  clear hHeld HBO HH
  go_wp2_with (first
    | (with_reducible refine wpList_load_st rfl (.tmp 1) rfl w.heap.size s lv rfl HE.out.1 ?_)
    | (go_at_call 17; refine (HSH.out _ HE.out.2.1).mono ?_; rintro x w3 ⟨rfl, hb⟩; have HE3 := Lib.hid (show StBlk w3 w.heap.size s lv ∧ LnRow w3 lv s.lines ∧ Below w.heap.size w w3 from ⟨HE.out.1.below hb, HE.out.2.1.below hb, Below.next HE.out.2.2 hb⟩); clear hb))
  clear c1 c2 HE HSH
  refine wp_region_held_drew (S := fun w' => StBlk w' w.heap.size s lv ∧ LnRow w' lv s.lines ∧ Below w.heap.size w w') (by kernel_rfl) ⟨HE3.out.1, HE3.out.2.1, Below.next HE3.out.2.2 (below_drewN' _ 1)⟩ (fun hHeld => ?_)
  refine tk 0 rfl ?v_0_70 ?hy_0_70 ?r_0_70
  case hy_0_70 => intro w h; have k1 := h.1.c1; have k6 := h.1.c6; go_simp; try with_reducible rfl
  simp only [pA, pB, pC, pD]
  refine tk 1 rfl ?v_1_71 ?hy_1_71 ?r_1_71
  case hy_1_71 => intro w h; have k1 := h.1.c1; have k6 := h.1.c6; go_simp; try with_reducible rfl
  simp only [pA, pB, pC, pD]
  refine wpAnyH_take (i := 2) (oi := ⟨_, _, _, _, _, _⟩) (v := stV s lv) rfl (by kernel_rfl) (by kernel_rfl) (by kernel_rfl) (fun _ _ _ h => h) (yieldsIf_load_mid (by kernel_rfl) 25 (.tmp 1) rfl w.heap.size 0 rfl (stCs s lv).toList _ (fun w' h j v hv => by rw [Nat.zero_add, h.1.cell]; simpa using hv) Tryd.underlying25 rfl (by rw [stInfo]; rfl)) (by assumption) ?_
  simp only [pA, pB, pC, pD]
  refine wpAnyH_ready (rs := [3]) (by kernel_rfl) (by simp) ?_
  refine AllReadyH.cons rfl (fun K hK => ?_) AllReadyH.nil
  go_simp
  go_at_call 16
  obtain ⟨hSt, hLn, hBe⟩ := hHeld
  refine (HDU.out _ hLn).mono ?_
  rintro x w4 ⟨rfl, hb⟩
  go_wp2_with fail
  refine hK.out _ _ ⟨hSt.below hb, hLn.below hb, Below.next hBe hb⟩ (fun hHeld => ?_)
  clear hK K hSt hLn hBe hb
  refine tk 4 rfl ?v_4_72 ?hy_4_72 ?r_4_72
  case hy_4_72 => intro w h; have k1 := h.1.c1; have k6 := h.1.c6; go_simp; try with_reducible rfl
  simp only [pA, pB, pC, pD]
  refine tk 5 rfl ?v_5_73 ?hy_5_73 ?r_5_73
  case hy_5_73 => intro w h; have k1 := h.1.c1; have k6 := h.1.c6; go_simp; try with_reducible rfl
  simp only [pA, pB, pC, pD]
  refine tkn 6 rfl ?_
  simp only [pA, pB, pC, pD]
  refine tkn 7 rfl ?_
  simp only [pA, pB, pC, pD]
  refine tkn 8 rfl ?_
  simp only [pA, pB, pC, pD]
  refine tk 9 rfl ?v_9_74 ?hy_9_74 ?r_9_74
  case hy_9_74 => intro w h; have k1 := h.1.c1; have k6 := h.1.c6; go_simp; try with_reducible rfl
  simp only [pA, pB, pC, pD]
  refine tk 10 rfl ?v_10_75 ?hy_10_75 ?r_10_75
  case hy_10_75 => intro w h; have k1 := h.1.c1; have k6 := h.1.c6; go_simp; try with_reducible rfl
  simp only [pA, pB, pC, pD]
  refine wpAnyH_done (by kernel_rfl) ?_ _
  have HB := Lib.hid hHeld.2.2
  have d3 : w4.cell? ⟨w.heap.size, 3, none⟩ = some (.int .i64 s.cur) := hHeld.1.cell 3
  have d4 : w4.cell? ⟨w.heap.size, 4, none⟩ = some (.int .i64 s.tax) := hHeld.1.cell 4
  have d5 : w4.cell? ⟨w.heap.size, 5, none⟩ = some (.slice oa s.lines.length cap) := by rw [hHeld.1.cell 5, stCs, HLV.out]; rfl
  have d7 : w4.cell? ⟨w.heap.size, 7, none⟩ = some (.int .i64 s.refunded) := hHeld.1.cell 7
  have d8 : w4.cell? ⟨w.heap.size, 8, none⟩ = some (.int .i64 s.events) := hHeld.1.cell 8
  have d9 : w4.cell? ⟨w.heap.size, 9, none⟩ = some (.int .i64 s.refused) := hHeld.1.cell 9
  have d10 : w4.cell? ⟨w.heap.size, 10, none⟩ = some (.int .i64 s.stamp) := hHeld.1.cell 10
  have d11 : w4.cell? ⟨w.heap.size, 11, none⟩ = some (.string ⟨s.who.toArray⟩) := hHeld.1.cell 11
  clear hHeld HE3 HDU
  go_wp2
  go_ret
  exact ⟨by rw [HVb.out]; rfl, HB.out⟩

set_option maxRecDepth 100000 in
set_option maxHeartbeats 16000000 in
theorem oValid_3_0_1 (s : St) (lv : Value) (w : World) (hr : LnRow w lv s.lines) (hw : s.who.length ≤ 281474976710656) (hf : boundedB s = true) (hm : ¬ dueOf s < s.paid) (hs : s.status = 3) (hp : s.prior = 0) (g1 : (s.paid == dueOf s) = true) (g3 : decide (0 < s.paid) = false) :
    Calls Tryd.prog 8 #[stV s lv] w fun e w' => e = .returned (.bool (validB s)) ∧ Below w.heap.size w w' := by
  have HVb := Lib.hid (show validB s = (false && !wholeB s.lines) by
    have h1 : validB s = standB s 3 := by unfold validB; rw [hf, decide_eq_true (by omega), hs, hp]; rfl
    have h2 : (s.paid == dueOf s && decide (0 < s.paid)) = false := by rw [g1, g3]; rfl
    rw [h1]; unfold standB; rw [h2]; rfl)
  have hbp := bounded_p hf
  have HBO := Lib.hid (show ∀ W : World, LnRow W lv s.lines → Calls Tryd.prog 15 #[stV s lv] W fun e w' => e = .returned (.bool true) ∧ Below W.heap.size W w' from fun W h => hf ▸ obounded s lv W h hw)
  obtain ⟨D, hD⟩ : ∃ D, D = dueOf s := ⟨_, rfl⟩
  have HDU := Lib.hid (show ∀ W : World, LnRow W lv s.lines → Calls Tryd.prog 16 #[stV s lv] W fun e w' => e = .returned (.int .i64 D) ∧ Below W.heap.size W w' from fun W h => hD ▸ odue_any s lv W h hbp.fine hbp.few hbp.tax.1 hbp.tax.2)
  have HH := Lib.hid (show StBlk (w.alloc (.cells (stCs s lv) 25)).drew w.heap.size s lv ∧ LnRow (w.alloc (.cells (stCs s lv) 25)).drew lv s.lines ∧ Below w.heap.size w (w.alloc (.cells (stCs s lv) 25)).drew from by
    have hb : Below w.heap.size w (w.alloc (.cells (stCs s lv) 25)) := (Below.refl _ _).alloc (Nat.le_refl _) _
    exact ⟨stBlk_alloc w s lv, hr.below (Below.next hb (below_drewN' _ 1)), Below.next hb (below_drewN' _ 1)⟩)
  have HSH := Lib.hid (show ∀ W : World, LnRow W lv s.lines → Calls Tryd.prog 17 #[stV s lv] W fun e w' => e = .returned (.tuple #[.bool (noneB s.lines), .bool (wholeB s.lines)]) ∧ Below W.heap.size W w' from fun W h => oshipped_any s lv W h)
  obtain ⟨nB, hnB⟩ : ∃ x, x = noneB s.lines := ⟨_, rfl⟩
  obtain ⟨wB, hwB⟩ : ∃ x, x = wholeB s.lines := ⟨_, rfl⟩
  rw [← hnB, ← hwB] at HSH
  rw [← hD] at hm g1
  rw [← hwB] at HVb
  have d1 : decide (D < s.paid) = false := decide_eq_false hm
  have hm2 : s.paid ≤ D := by omega
  have HS := Lib.hid hs
  have HP := Lib.hid hp
  obtain ⟨oa, cap, hlv, _, _, _⟩ := hr.shape
  have HLV := Lib.hid hlv
  clear hr hw hf hbp hD hm hs hp hnB hwB hlv
  go_enter Tryd.func8, Tryd.ntmps8
  go_wp2
  refine wp_region_held_drew (S := fun w' => StBlk w' w.heap.size s lv ∧ LnRow w' lv s.lines ∧ Below w.heap.size w w') (by kernel_rfl) HH.out (fun hHeld => ?_)
  refine wpAnyH_take (i := 0) (oi := ⟨_, _, _, _, _, _⟩) (v := stV s lv) rfl (by kernel_rfl) (by kernel_rfl) (by kernel_rfl) (fun _ _ _ h => h) (yieldsIf_load_mid (by kernel_rfl) 25 (.tmp 1) rfl w.heap.size 0 rfl (stCs s lv).toList _ (fun w' h j v hv => by rw [Nat.zero_add, h.1.cell]; simpa using hv) Tryd.underlying25 rfl (by rw [stInfo]; rfl)) (by assumption) ?_
  simp only [pA, pB, pC, pD]
  refine wpAnyH_ready (rs := [1]) (by kernel_rfl) (by simp) ?_
  refine AllReadyH.cons rfl (fun K hK => ?_) AllReadyH.nil
  go_simp
  go_at_call 15
  obtain ⟨hSt, hLn, hBe⟩ := hHeld
  refine (HBO.out _ hLn).mono ?_
  rintro x w1 ⟨rfl, hb⟩
  go_wp2_with fail
  refine hK.out _ _ ⟨hSt.below hb, hLn.below hb, Below.next hBe hb⟩ (fun hHeld => ?_)
  clear hK K hSt hLn hBe hb
  refine tk 2 rfl ?v_2_76 ?hy_2_76 ?r_2_76
  case hy_2_76 => intro w h; have k1 := h.1.c1; have k6 := h.1.c6; go_simp; try with_reducible rfl
  simp only [pA, pB, pC, pD]
  refine tk 3 rfl ?v_3_77 ?hy_3_77 ?r_3_77
  case hy_3_77 => intro w h; have k1 := h.1.c1; have k6 := h.1.c6; go_simp; try with_reducible rfl
  simp only [pA, pB, pC, pD]
  refine tk 4 rfl ?v_4_78 ?hy_4_78 ?r_4_78
  case hy_4_78 => intro w h; have k1 := h.1.c1; have k6 := h.1.c6; go_simp; try with_reducible rfl
  simp only [pA, pB, pC, pD]
  refine tk 5 rfl ?v_5_79 ?hy_5_79 ?r_5_79
  case hy_5_79 => intro w h; have k1 := h.1.c1; have k6 := h.1.c6; go_simp; try with_reducible rfl
  simp only [pA, pB, pC, pD]
  refine wpAnyH_take (i := 6) (oi := ⟨_, _, _, _, _, _⟩) (v := stV s lv) rfl (by kernel_rfl) (by kernel_rfl) (by kernel_rfl) (fun _ _ _ h => h) (yieldsIf_load_mid (by kernel_rfl) 25 (.tmp 1) rfl w.heap.size 0 rfl (stCs s lv).toList _ (fun w' h j v hv => by rw [Nat.zero_add, h.1.cell]; simpa using hv) Tryd.underlying25 rfl (by rw [stInfo]; rfl)) (by assumption) ?_
  simp only [pA, pB, pC, pD]
  refine wpAnyH_ready (rs := [7]) (by kernel_rfl) (by simp) ?_
  refine AllReadyH.cons rfl (fun K hK => ?_) AllReadyH.nil
  go_simp
  go_at_call 16
  obtain ⟨hSt, hLn, hBe⟩ := hHeld
  refine (HDU.out _ hLn).mono ?_
  rintro x w2 ⟨rfl, hb⟩
  go_wp2_with fail
  refine hK.out _ _ ⟨hSt.below hb, hLn.below hb, Below.next hBe hb⟩ (fun hHeld => ?_)
  clear hK K hSt hLn hBe hb
  refine tk 8 rfl ?v_8_80 ?hy_8_80 ?r_8_80
  case hy_8_80 => intro w h; have k1 := h.1.c1; have k6 := h.1.c6; go_simp; try with_reducible rfl
  simp only [pA, pB, pC, pD]
  refine tk 9 rfl ?v_9_81 ?hy_9_81 ?r_9_81
  case hy_9_81 => intro w h; have k1 := h.1.c1; have k6 := h.1.c6; go_simp; try with_reducible rfl
  simp only [pA, pB, pC, pD]
  refine wpAnyH_done (by kernel_rfl) ?_ _
  have c1 : w2.cell? ⟨w.heap.size, 1, none⟩ = some (.int .i64 3) := by rw [hHeld.1.cell 1, stCs, HS.out]; rfl
  have c2 : w2.cell? ⟨w.heap.size, 2, none⟩ = some (.int .i64 0) := by rw [hHeld.1.cell 2, stCs, HP.out]; rfl
  have HE := Lib.hid hHeld
  clear hHeld HBO HH
  go_wp2_with (first
    | (with_reducible refine wpList_load_st rfl (.tmp 1) rfl w.heap.size s lv rfl HE.out.1 ?_)
    | (go_at_call 17; refine (HSH.out _ HE.out.2.1).mono ?_; rintro x w3 ⟨rfl, hb⟩; have HE3 := Lib.hid (show StBlk w3 w.heap.size s lv ∧ LnRow w3 lv s.lines ∧ Below w.heap.size w w3 from ⟨HE.out.1.below hb, HE.out.2.1.below hb, Below.next HE.out.2.2 hb⟩); clear hb))
  clear c1 c2 HE HSH
  refine wp_region_held_drew (S := fun w' => StBlk w' w.heap.size s lv ∧ LnRow w' lv s.lines ∧ Below w.heap.size w w') (by kernel_rfl) ⟨HE3.out.1, HE3.out.2.1, Below.next HE3.out.2.2 (below_drewN' _ 1)⟩ (fun hHeld => ?_)
  refine tk 0 rfl ?v_0_82 ?hy_0_82 ?r_0_82
  case hy_0_82 => intro w h; have k1 := h.1.c1; have k6 := h.1.c6; go_simp; try with_reducible rfl
  simp only [pA, pB, pC, pD]
  refine tk 1 rfl ?v_1_83 ?hy_1_83 ?r_1_83
  case hy_1_83 => intro w h; have k1 := h.1.c1; have k6 := h.1.c6; go_simp; try with_reducible rfl
  simp only [pA, pB, pC, pD]
  refine wpAnyH_take (i := 2) (oi := ⟨_, _, _, _, _, _⟩) (v := stV s lv) rfl (by kernel_rfl) (by kernel_rfl) (by kernel_rfl) (fun _ _ _ h => h) (yieldsIf_load_mid (by kernel_rfl) 25 (.tmp 1) rfl w.heap.size 0 rfl (stCs s lv).toList _ (fun w' h j v hv => by rw [Nat.zero_add, h.1.cell]; simpa using hv) Tryd.underlying25 rfl (by rw [stInfo]; rfl)) (by assumption) ?_
  simp only [pA, pB, pC, pD]
  refine wpAnyH_ready (rs := [3]) (by kernel_rfl) (by simp) ?_
  refine AllReadyH.cons rfl (fun K hK => ?_) AllReadyH.nil
  go_simp
  go_at_call 16
  obtain ⟨hSt, hLn, hBe⟩ := hHeld
  refine (HDU.out _ hLn).mono ?_
  rintro x w4 ⟨rfl, hb⟩
  go_wp2_with fail
  refine hK.out _ _ ⟨hSt.below hb, hLn.below hb, Below.next hBe hb⟩ (fun hHeld => ?_)
  clear hK K hSt hLn hBe hb
  refine tk 4 rfl ?v_4_84 ?hy_4_84 ?r_4_84
  case hy_4_84 => intro w h; have k1 := h.1.c1; have k6 := h.1.c6; go_simp; try with_reducible rfl
  simp only [pA, pB, pC, pD]
  refine tk 5 rfl ?v_5_85 ?hy_5_85 ?r_5_85
  case hy_5_85 => intro w h; have k1 := h.1.c1; have k6 := h.1.c6; go_simp; try with_reducible rfl
  simp only [pA, pB, pC, pD]
  refine tk 6 rfl ?v_6_86 ?hy_6_86 ?r_6_86
  case hy_6_86 => intro w h; have k1 := h.1.c1; have k6 := h.1.c6; go_simp; try with_reducible rfl
  simp only [pA, pB, pC, pD]
  refine tk 7 rfl ?v_7_87 ?hy_7_87 ?r_7_87
  case hy_7_87 => intro w h; have k1 := h.1.c1; have k6 := h.1.c6; go_simp; try with_reducible rfl
  simp only [pA, pB, pC, pD]
  refine tk 8 rfl ?v_8_88 ?hy_8_88 ?r_8_88
  case hy_8_88 => intro w h; have k1 := h.1.c1; have k6 := h.1.c6; go_simp; try with_reducible rfl
  simp only [pA, pB, pC, pD]
  refine tk 9 rfl ?v_9_89 ?hy_9_89 ?r_9_89
  case hy_9_89 => intro w h; have k1 := h.1.c1; have k6 := h.1.c6; go_simp; try with_reducible rfl
  simp only [pA, pB, pC, pD]
  refine tk 10 rfl ?v_10_90 ?hy_10_90 ?r_10_90
  case hy_10_90 => intro w h; have k1 := h.1.c1; have k6 := h.1.c6; go_simp; try with_reducible rfl
  simp only [pA, pB, pC, pD]
  refine wpAnyH_done (by kernel_rfl) ?_ _
  have HB := Lib.hid hHeld.2.2
  have d3 : w4.cell? ⟨w.heap.size, 3, none⟩ = some (.int .i64 s.cur) := hHeld.1.cell 3
  have d4 : w4.cell? ⟨w.heap.size, 4, none⟩ = some (.int .i64 s.tax) := hHeld.1.cell 4
  have d5 : w4.cell? ⟨w.heap.size, 5, none⟩ = some (.slice oa s.lines.length cap) := by rw [hHeld.1.cell 5, stCs, HLV.out]; rfl
  have d7 : w4.cell? ⟨w.heap.size, 7, none⟩ = some (.int .i64 s.refunded) := hHeld.1.cell 7
  have d8 : w4.cell? ⟨w.heap.size, 8, none⟩ = some (.int .i64 s.events) := hHeld.1.cell 8
  have d9 : w4.cell? ⟨w.heap.size, 9, none⟩ = some (.int .i64 s.refused) := hHeld.1.cell 9
  have d10 : w4.cell? ⟨w.heap.size, 10, none⟩ = some (.int .i64 s.stamp) := hHeld.1.cell 10
  have d11 : w4.cell? ⟨w.heap.size, 11, none⟩ = some (.string ⟨s.who.toArray⟩) := hHeld.1.cell 11
  clear hHeld HE3 HDU
  go_wp2
  go_ret
  exact ⟨by rw [HVb.out]; rfl, HB.out⟩

set_option maxRecDepth 100000 in
set_option maxHeartbeats 16000000 in
theorem oValid_3_0_2 (s : St) (lv : Value) (w : World) (hr : LnRow w lv s.lines) (hw : s.who.length ≤ 281474976710656) (hf : boundedB s = true) (hm : ¬ dueOf s < s.paid) (hs : s.status = 3) (hp : s.prior = 0) (g1 : (s.paid == dueOf s) = true) (g3 : decide (0 < s.paid) = true) :
    Calls Tryd.prog 8 #[stV s lv] w fun e w' => e = .returned (.bool (validB s)) ∧ Below w.heap.size w w' := by
  have HVb := Lib.hid (show validB s = (true && !wholeB s.lines) by
    have h1 : validB s = standB s 3 := by unfold validB; rw [hf, decide_eq_true (by omega), hs, hp]; rfl
    have h2 : (s.paid == dueOf s && decide (0 < s.paid)) = true := by rw [g1, g3]; rfl
    rw [h1]; unfold standB; rw [h2]; rfl)
  have hbp := bounded_p hf
  have HBO := Lib.hid (show ∀ W : World, LnRow W lv s.lines → Calls Tryd.prog 15 #[stV s lv] W fun e w' => e = .returned (.bool true) ∧ Below W.heap.size W w' from fun W h => hf ▸ obounded s lv W h hw)
  obtain ⟨D, hD⟩ : ∃ D, D = dueOf s := ⟨_, rfl⟩
  have HDU := Lib.hid (show ∀ W : World, LnRow W lv s.lines → Calls Tryd.prog 16 #[stV s lv] W fun e w' => e = .returned (.int .i64 D) ∧ Below W.heap.size W w' from fun W h => hD ▸ odue_any s lv W h hbp.fine hbp.few hbp.tax.1 hbp.tax.2)
  have HH := Lib.hid (show StBlk (w.alloc (.cells (stCs s lv) 25)).drew w.heap.size s lv ∧ LnRow (w.alloc (.cells (stCs s lv) 25)).drew lv s.lines ∧ Below w.heap.size w (w.alloc (.cells (stCs s lv) 25)).drew from by
    have hb : Below w.heap.size w (w.alloc (.cells (stCs s lv) 25)) := (Below.refl _ _).alloc (Nat.le_refl _) _
    exact ⟨stBlk_alloc w s lv, hr.below (Below.next hb (below_drewN' _ 1)), Below.next hb (below_drewN' _ 1)⟩)
  have HSH := Lib.hid (show ∀ W : World, LnRow W lv s.lines → Calls Tryd.prog 17 #[stV s lv] W fun e w' => e = .returned (.tuple #[.bool (noneB s.lines), .bool (wholeB s.lines)]) ∧ Below W.heap.size W w' from fun W h => oshipped_any s lv W h)
  obtain ⟨nB, hnB⟩ : ∃ x, x = noneB s.lines := ⟨_, rfl⟩
  obtain ⟨wB, hwB⟩ : ∃ x, x = wholeB s.lines := ⟨_, rfl⟩
  rw [← hnB, ← hwB] at HSH
  rw [← hD] at hm g1
  rw [← hwB] at HVb
  have d1 : decide (D < s.paid) = false := decide_eq_false hm
  have hm2 : s.paid ≤ D := by omega
  have HS := Lib.hid hs
  have HP := Lib.hid hp
  obtain ⟨oa, cap, hlv, _, _, _⟩ := hr.shape
  have HLV := Lib.hid hlv
  clear hr hw hf hbp hD hm hs hp hnB hwB hlv
  go_enter Tryd.func8, Tryd.ntmps8
  go_wp2
  refine wp_region_held_drew (S := fun w' => StBlk w' w.heap.size s lv ∧ LnRow w' lv s.lines ∧ Below w.heap.size w w') (by kernel_rfl) HH.out (fun hHeld => ?_)
  refine wpAnyH_take (i := 0) (oi := ⟨_, _, _, _, _, _⟩) (v := stV s lv) rfl (by kernel_rfl) (by kernel_rfl) (by kernel_rfl) (fun _ _ _ h => h) (yieldsIf_load_mid (by kernel_rfl) 25 (.tmp 1) rfl w.heap.size 0 rfl (stCs s lv).toList _ (fun w' h j v hv => by rw [Nat.zero_add, h.1.cell]; simpa using hv) Tryd.underlying25 rfl (by rw [stInfo]; rfl)) (by assumption) ?_
  simp only [pA, pB, pC, pD]
  refine wpAnyH_ready (rs := [1]) (by kernel_rfl) (by simp) ?_
  refine AllReadyH.cons rfl (fun K hK => ?_) AllReadyH.nil
  go_simp
  go_at_call 15
  obtain ⟨hSt, hLn, hBe⟩ := hHeld
  refine (HBO.out _ hLn).mono ?_
  rintro x w1 ⟨rfl, hb⟩
  go_wp2_with fail
  refine hK.out _ _ ⟨hSt.below hb, hLn.below hb, Below.next hBe hb⟩ (fun hHeld => ?_)
  clear hK K hSt hLn hBe hb
  refine tk 2 rfl ?v_2_91 ?hy_2_91 ?r_2_91
  case hy_2_91 => intro w h; have k1 := h.1.c1; have k6 := h.1.c6; go_simp; try with_reducible rfl
  simp only [pA, pB, pC, pD]
  refine tk 3 rfl ?v_3_92 ?hy_3_92 ?r_3_92
  case hy_3_92 => intro w h; have k1 := h.1.c1; have k6 := h.1.c6; go_simp; try with_reducible rfl
  simp only [pA, pB, pC, pD]
  refine tk 4 rfl ?v_4_93 ?hy_4_93 ?r_4_93
  case hy_4_93 => intro w h; have k1 := h.1.c1; have k6 := h.1.c6; go_simp; try with_reducible rfl
  simp only [pA, pB, pC, pD]
  refine tk 5 rfl ?v_5_94 ?hy_5_94 ?r_5_94
  case hy_5_94 => intro w h; have k1 := h.1.c1; have k6 := h.1.c6; go_simp; try with_reducible rfl
  simp only [pA, pB, pC, pD]
  refine wpAnyH_take (i := 6) (oi := ⟨_, _, _, _, _, _⟩) (v := stV s lv) rfl (by kernel_rfl) (by kernel_rfl) (by kernel_rfl) (fun _ _ _ h => h) (yieldsIf_load_mid (by kernel_rfl) 25 (.tmp 1) rfl w.heap.size 0 rfl (stCs s lv).toList _ (fun w' h j v hv => by rw [Nat.zero_add, h.1.cell]; simpa using hv) Tryd.underlying25 rfl (by rw [stInfo]; rfl)) (by assumption) ?_
  simp only [pA, pB, pC, pD]
  refine wpAnyH_ready (rs := [7]) (by kernel_rfl) (by simp) ?_
  refine AllReadyH.cons rfl (fun K hK => ?_) AllReadyH.nil
  go_simp
  go_at_call 16
  obtain ⟨hSt, hLn, hBe⟩ := hHeld
  refine (HDU.out _ hLn).mono ?_
  rintro x w2 ⟨rfl, hb⟩
  go_wp2_with fail
  refine hK.out _ _ ⟨hSt.below hb, hLn.below hb, Below.next hBe hb⟩ (fun hHeld => ?_)
  clear hK K hSt hLn hBe hb
  refine tk 8 rfl ?v_8_95 ?hy_8_95 ?r_8_95
  case hy_8_95 => intro w h; have k1 := h.1.c1; have k6 := h.1.c6; go_simp; try with_reducible rfl
  simp only [pA, pB, pC, pD]
  refine tk 9 rfl ?v_9_96 ?hy_9_96 ?r_9_96
  case hy_9_96 => intro w h; have k1 := h.1.c1; have k6 := h.1.c6; go_simp; try with_reducible rfl
  simp only [pA, pB, pC, pD]
  refine wpAnyH_done (by kernel_rfl) ?_ _
  have c1 : w2.cell? ⟨w.heap.size, 1, none⟩ = some (.int .i64 3) := by rw [hHeld.1.cell 1, stCs, HS.out]; rfl
  have c2 : w2.cell? ⟨w.heap.size, 2, none⟩ = some (.int .i64 0) := by rw [hHeld.1.cell 2, stCs, HP.out]; rfl
  have HE := Lib.hid hHeld
  clear hHeld HBO HH
  go_wp2_with (first
    | (with_reducible refine wpList_load_st rfl (.tmp 1) rfl w.heap.size s lv rfl HE.out.1 ?_)
    | (go_at_call 17; refine (HSH.out _ HE.out.2.1).mono ?_; rintro x w3 ⟨rfl, hb⟩; have HE3 := Lib.hid (show StBlk w3 w.heap.size s lv ∧ LnRow w3 lv s.lines ∧ Below w.heap.size w w3 from ⟨HE.out.1.below hb, HE.out.2.1.below hb, Below.next HE.out.2.2 hb⟩); clear hb))
  clear c1 c2 HE HSH
  refine wp_region_held_drew (S := fun w' => StBlk w' w.heap.size s lv ∧ LnRow w' lv s.lines ∧ Below w.heap.size w w') (by kernel_rfl) ⟨HE3.out.1, HE3.out.2.1, Below.next HE3.out.2.2 (below_drewN' _ 1)⟩ (fun hHeld => ?_)
  refine tk 0 rfl ?v_0_97 ?hy_0_97 ?r_0_97
  case hy_0_97 => intro w h; have k1 := h.1.c1; have k6 := h.1.c6; go_simp; try with_reducible rfl
  simp only [pA, pB, pC, pD]
  refine tk 1 rfl ?v_1_98 ?hy_1_98 ?r_1_98
  case hy_1_98 => intro w h; have k1 := h.1.c1; have k6 := h.1.c6; go_simp; try with_reducible rfl
  simp only [pA, pB, pC, pD]
  refine wpAnyH_take (i := 2) (oi := ⟨_, _, _, _, _, _⟩) (v := stV s lv) rfl (by kernel_rfl) (by kernel_rfl) (by kernel_rfl) (fun _ _ _ h => h) (yieldsIf_load_mid (by kernel_rfl) 25 (.tmp 1) rfl w.heap.size 0 rfl (stCs s lv).toList _ (fun w' h j v hv => by rw [Nat.zero_add, h.1.cell]; simpa using hv) Tryd.underlying25 rfl (by rw [stInfo]; rfl)) (by assumption) ?_
  simp only [pA, pB, pC, pD]
  refine wpAnyH_ready (rs := [3]) (by kernel_rfl) (by simp) ?_
  refine AllReadyH.cons rfl (fun K hK => ?_) AllReadyH.nil
  go_simp
  go_at_call 16
  obtain ⟨hSt, hLn, hBe⟩ := hHeld
  refine (HDU.out _ hLn).mono ?_
  rintro x w4 ⟨rfl, hb⟩
  go_wp2_with fail
  refine hK.out _ _ ⟨hSt.below hb, hLn.below hb, Below.next hBe hb⟩ (fun hHeld => ?_)
  clear hK K hSt hLn hBe hb
  refine tk 4 rfl ?v_4_99 ?hy_4_99 ?r_4_99
  case hy_4_99 => intro w h; have k1 := h.1.c1; have k6 := h.1.c6; go_simp; try with_reducible rfl
  simp only [pA, pB, pC, pD]
  refine tk 5 rfl ?v_5_100 ?hy_5_100 ?r_5_100
  case hy_5_100 => intro w h; have k1 := h.1.c1; have k6 := h.1.c6; go_simp; try with_reducible rfl
  simp only [pA, pB, pC, pD]
  refine tk 6 rfl ?v_6_101 ?hy_6_101 ?r_6_101
  case hy_6_101 => intro w h; have k1 := h.1.c1; have k6 := h.1.c6; go_simp; try with_reducible rfl
  simp only [pA, pB, pC, pD]
  refine tk 7 rfl ?v_7_102 ?hy_7_102 ?r_7_102
  case hy_7_102 => intro w h; have k1 := h.1.c1; have k6 := h.1.c6; go_simp; try with_reducible rfl
  simp only [pA, pB, pC, pD]
  refine tk 8 rfl ?v_8_103 ?hy_8_103 ?r_8_103
  case hy_8_103 => intro w h; have k1 := h.1.c1; have k6 := h.1.c6; go_simp; try with_reducible rfl
  simp only [pA, pB, pC, pD]
  refine tk 9 rfl ?v_9_104 ?hy_9_104 ?r_9_104
  case hy_9_104 => intro w h; have k1 := h.1.c1; have k6 := h.1.c6; go_simp; try with_reducible rfl
  simp only [pA, pB, pC, pD]
  refine tk 10 rfl ?v_10_105 ?hy_10_105 ?r_10_105
  case hy_10_105 => intro w h; have k1 := h.1.c1; have k6 := h.1.c6; go_simp; try with_reducible rfl
  simp only [pA, pB, pC, pD]
  refine wpAnyH_done (by kernel_rfl) ?_ _
  have HB := Lib.hid hHeld.2.2
  have d3 : w4.cell? ⟨w.heap.size, 3, none⟩ = some (.int .i64 s.cur) := hHeld.1.cell 3
  have d4 : w4.cell? ⟨w.heap.size, 4, none⟩ = some (.int .i64 s.tax) := hHeld.1.cell 4
  have d5 : w4.cell? ⟨w.heap.size, 5, none⟩ = some (.slice oa s.lines.length cap) := by rw [hHeld.1.cell 5, stCs, HLV.out]; rfl
  have d7 : w4.cell? ⟨w.heap.size, 7, none⟩ = some (.int .i64 s.refunded) := hHeld.1.cell 7
  have d8 : w4.cell? ⟨w.heap.size, 8, none⟩ = some (.int .i64 s.events) := hHeld.1.cell 8
  have d9 : w4.cell? ⟨w.heap.size, 9, none⟩ = some (.int .i64 s.refused) := hHeld.1.cell 9
  have d10 : w4.cell? ⟨w.heap.size, 10, none⟩ = some (.int .i64 s.stamp) := hHeld.1.cell 10
  have d11 : w4.cell? ⟨w.heap.size, 11, none⟩ = some (.string ⟨s.who.toArray⟩) := hHeld.1.cell 11
  clear hHeld HE3 HDU
  cases wB
  · skip
    go_wp2
    go_ret
    exact ⟨by rw [HVb.out]; rfl, HB.out⟩
  · skip
    go_wp2
    go_ret
    exact ⟨by rw [HVb.out]; rfl, HB.out⟩

set_option maxRecDepth 100000 in
set_option maxHeartbeats 16000000 in
theorem oValid_4_0_0 (s : St) (lv : Value) (w : World) (hr : LnRow w lv s.lines) (hw : s.who.length ≤ 281474976710656) (hf : boundedB s = true) (hm : ¬ dueOf s < s.paid) (hs : s.status = 4) (hp : s.prior = 0) (g1 : (s.paid == dueOf s) = false) :
    Calls Tryd.prog 8 #[stV s lv] w fun e w' => e = .returned (.bool (validB s)) ∧ Below w.heap.size w w' := by
  have HVb := Lib.hid (show validB s = (false && wholeB s.lines) by
    have h1 : validB s = standB s 4 := by unfold validB; rw [hf, decide_eq_true (by omega), hs, hp]; rfl
    have h2 : (s.paid == dueOf s && decide (0 < s.paid)) = false := by rw [g1]; rfl
    rw [h1]; unfold standB; rw [h2]; rfl)
  have hbp := bounded_p hf
  have HBO := Lib.hid (show ∀ W : World, LnRow W lv s.lines → Calls Tryd.prog 15 #[stV s lv] W fun e w' => e = .returned (.bool true) ∧ Below W.heap.size W w' from fun W h => hf ▸ obounded s lv W h hw)
  obtain ⟨D, hD⟩ : ∃ D, D = dueOf s := ⟨_, rfl⟩
  have HDU := Lib.hid (show ∀ W : World, LnRow W lv s.lines → Calls Tryd.prog 16 #[stV s lv] W fun e w' => e = .returned (.int .i64 D) ∧ Below W.heap.size W w' from fun W h => hD ▸ odue_any s lv W h hbp.fine hbp.few hbp.tax.1 hbp.tax.2)
  have HH := Lib.hid (show StBlk (w.alloc (.cells (stCs s lv) 25)).drew w.heap.size s lv ∧ LnRow (w.alloc (.cells (stCs s lv) 25)).drew lv s.lines ∧ Below w.heap.size w (w.alloc (.cells (stCs s lv) 25)).drew from by
    have hb : Below w.heap.size w (w.alloc (.cells (stCs s lv) 25)) := (Below.refl _ _).alloc (Nat.le_refl _) _
    exact ⟨stBlk_alloc w s lv, hr.below (Below.next hb (below_drewN' _ 1)), Below.next hb (below_drewN' _ 1)⟩)
  have HSH := Lib.hid (show ∀ W : World, LnRow W lv s.lines → Calls Tryd.prog 17 #[stV s lv] W fun e w' => e = .returned (.tuple #[.bool (noneB s.lines), .bool (wholeB s.lines)]) ∧ Below W.heap.size W w' from fun W h => oshipped_any s lv W h)
  obtain ⟨nB, hnB⟩ : ∃ x, x = noneB s.lines := ⟨_, rfl⟩
  obtain ⟨wB, hwB⟩ : ∃ x, x = wholeB s.lines := ⟨_, rfl⟩
  rw [← hnB, ← hwB] at HSH
  rw [← hD] at hm g1
  rw [← hwB] at HVb
  have d1 : decide (D < s.paid) = false := decide_eq_false hm
  have hm2 : s.paid ≤ D := by omega
  have HS := Lib.hid hs
  have HP := Lib.hid hp
  obtain ⟨oa, cap, hlv, _, _, _⟩ := hr.shape
  have HLV := Lib.hid hlv
  clear hr hw hf hbp hD hm hs hp hnB hwB hlv
  go_enter Tryd.func8, Tryd.ntmps8
  go_wp2
  refine wp_region_held_drew (S := fun w' => StBlk w' w.heap.size s lv ∧ LnRow w' lv s.lines ∧ Below w.heap.size w w') (by kernel_rfl) HH.out (fun hHeld => ?_)
  refine wpAnyH_take (i := 0) (oi := ⟨_, _, _, _, _, _⟩) (v := stV s lv) rfl (by kernel_rfl) (by kernel_rfl) (by kernel_rfl) (fun _ _ _ h => h) (yieldsIf_load_mid (by kernel_rfl) 25 (.tmp 1) rfl w.heap.size 0 rfl (stCs s lv).toList _ (fun w' h j v hv => by rw [Nat.zero_add, h.1.cell]; simpa using hv) Tryd.underlying25 rfl (by rw [stInfo]; rfl)) (by assumption) ?_
  simp only [pA, pB, pC, pD]
  refine wpAnyH_ready (rs := [1]) (by kernel_rfl) (by simp) ?_
  refine AllReadyH.cons rfl (fun K hK => ?_) AllReadyH.nil
  go_simp
  go_at_call 15
  obtain ⟨hSt, hLn, hBe⟩ := hHeld
  refine (HBO.out _ hLn).mono ?_
  rintro x w1 ⟨rfl, hb⟩
  go_wp2_with fail
  refine hK.out _ _ ⟨hSt.below hb, hLn.below hb, Below.next hBe hb⟩ (fun hHeld => ?_)
  clear hK K hSt hLn hBe hb
  refine tk 2 rfl ?v_2_106 ?hy_2_106 ?r_2_106
  case hy_2_106 => intro w h; have k1 := h.1.c1; have k6 := h.1.c6; go_simp; try with_reducible rfl
  simp only [pA, pB, pC, pD]
  refine tk 3 rfl ?v_3_107 ?hy_3_107 ?r_3_107
  case hy_3_107 => intro w h; have k1 := h.1.c1; have k6 := h.1.c6; go_simp; try with_reducible rfl
  simp only [pA, pB, pC, pD]
  refine tk 4 rfl ?v_4_108 ?hy_4_108 ?r_4_108
  case hy_4_108 => intro w h; have k1 := h.1.c1; have k6 := h.1.c6; go_simp; try with_reducible rfl
  simp only [pA, pB, pC, pD]
  refine tk 5 rfl ?v_5_109 ?hy_5_109 ?r_5_109
  case hy_5_109 => intro w h; have k1 := h.1.c1; have k6 := h.1.c6; go_simp; try with_reducible rfl
  simp only [pA, pB, pC, pD]
  refine wpAnyH_take (i := 6) (oi := ⟨_, _, _, _, _, _⟩) (v := stV s lv) rfl (by kernel_rfl) (by kernel_rfl) (by kernel_rfl) (fun _ _ _ h => h) (yieldsIf_load_mid (by kernel_rfl) 25 (.tmp 1) rfl w.heap.size 0 rfl (stCs s lv).toList _ (fun w' h j v hv => by rw [Nat.zero_add, h.1.cell]; simpa using hv) Tryd.underlying25 rfl (by rw [stInfo]; rfl)) (by assumption) ?_
  simp only [pA, pB, pC, pD]
  refine wpAnyH_ready (rs := [7]) (by kernel_rfl) (by simp) ?_
  refine AllReadyH.cons rfl (fun K hK => ?_) AllReadyH.nil
  go_simp
  go_at_call 16
  obtain ⟨hSt, hLn, hBe⟩ := hHeld
  refine (HDU.out _ hLn).mono ?_
  rintro x w2 ⟨rfl, hb⟩
  go_wp2_with fail
  refine hK.out _ _ ⟨hSt.below hb, hLn.below hb, Below.next hBe hb⟩ (fun hHeld => ?_)
  clear hK K hSt hLn hBe hb
  refine tk 8 rfl ?v_8_110 ?hy_8_110 ?r_8_110
  case hy_8_110 => intro w h; have k1 := h.1.c1; have k6 := h.1.c6; go_simp; try with_reducible rfl
  simp only [pA, pB, pC, pD]
  refine tk 9 rfl ?v_9_111 ?hy_9_111 ?r_9_111
  case hy_9_111 => intro w h; have k1 := h.1.c1; have k6 := h.1.c6; go_simp; try with_reducible rfl
  simp only [pA, pB, pC, pD]
  refine wpAnyH_done (by kernel_rfl) ?_ _
  have c1 : w2.cell? ⟨w.heap.size, 1, none⟩ = some (.int .i64 4) := by rw [hHeld.1.cell 1, stCs, HS.out]; rfl
  have c2 : w2.cell? ⟨w.heap.size, 2, none⟩ = some (.int .i64 0) := by rw [hHeld.1.cell 2, stCs, HP.out]; rfl
  have HE := Lib.hid hHeld
  clear hHeld HBO HH
  go_wp2_with (first
    | (with_reducible refine wpList_load_st rfl (.tmp 1) rfl w.heap.size s lv rfl HE.out.1 ?_)
    | (go_at_call 17; refine (HSH.out _ HE.out.2.1).mono ?_; rintro x w3 ⟨rfl, hb⟩; have HE3 := Lib.hid (show StBlk w3 w.heap.size s lv ∧ LnRow w3 lv s.lines ∧ Below w.heap.size w w3 from ⟨HE.out.1.below hb, HE.out.2.1.below hb, Below.next HE.out.2.2 hb⟩); clear hb))
  clear c1 c2 HE HSH
  refine wp_region_held_drew (S := fun w' => StBlk w' w.heap.size s lv ∧ LnRow w' lv s.lines ∧ Below w.heap.size w w') (by kernel_rfl) ⟨HE3.out.1, HE3.out.2.1, Below.next HE3.out.2.2 (below_drewN' _ 1)⟩ (fun hHeld => ?_)
  refine tk 0 rfl ?v_0_112 ?hy_0_112 ?r_0_112
  case hy_0_112 => intro w h; have k1 := h.1.c1; have k6 := h.1.c6; go_simp; try with_reducible rfl
  simp only [pA, pB, pC, pD]
  refine tk 1 rfl ?v_1_113 ?hy_1_113 ?r_1_113
  case hy_1_113 => intro w h; have k1 := h.1.c1; have k6 := h.1.c6; go_simp; try with_reducible rfl
  simp only [pA, pB, pC, pD]
  refine wpAnyH_take (i := 2) (oi := ⟨_, _, _, _, _, _⟩) (v := stV s lv) rfl (by kernel_rfl) (by kernel_rfl) (by kernel_rfl) (fun _ _ _ h => h) (yieldsIf_load_mid (by kernel_rfl) 25 (.tmp 1) rfl w.heap.size 0 rfl (stCs s lv).toList _ (fun w' h j v hv => by rw [Nat.zero_add, h.1.cell]; simpa using hv) Tryd.underlying25 rfl (by rw [stInfo]; rfl)) (by assumption) ?_
  simp only [pA, pB, pC, pD]
  refine wpAnyH_ready (rs := [3]) (by kernel_rfl) (by simp) ?_
  refine AllReadyH.cons rfl (fun K hK => ?_) AllReadyH.nil
  go_simp
  go_at_call 16
  obtain ⟨hSt, hLn, hBe⟩ := hHeld
  refine (HDU.out _ hLn).mono ?_
  rintro x w4 ⟨rfl, hb⟩
  go_wp2_with fail
  refine hK.out _ _ ⟨hSt.below hb, hLn.below hb, Below.next hBe hb⟩ (fun hHeld => ?_)
  clear hK K hSt hLn hBe hb
  refine tk 4 rfl ?v_4_114 ?hy_4_114 ?r_4_114
  case hy_4_114 => intro w h; have k1 := h.1.c1; have k6 := h.1.c6; go_simp; try with_reducible rfl
  simp only [pA, pB, pC, pD]
  refine tk 5 rfl ?v_5_115 ?hy_5_115 ?r_5_115
  case hy_5_115 => intro w h; have k1 := h.1.c1; have k6 := h.1.c6; go_simp; try with_reducible rfl
  simp only [pA, pB, pC, pD]
  refine tkn 6 rfl ?_
  simp only [pA, pB, pC, pD]
  refine tkn 7 rfl ?_
  simp only [pA, pB, pC, pD]
  refine tkn 8 rfl ?_
  simp only [pA, pB, pC, pD]
  refine tk 9 rfl ?v_9_116 ?hy_9_116 ?r_9_116
  case hy_9_116 => intro w h; have k1 := h.1.c1; have k6 := h.1.c6; go_simp; try with_reducible rfl
  simp only [pA, pB, pC, pD]
  refine tk 10 rfl ?v_10_117 ?hy_10_117 ?r_10_117
  case hy_10_117 => intro w h; have k1 := h.1.c1; have k6 := h.1.c6; go_simp; try with_reducible rfl
  simp only [pA, pB, pC, pD]
  refine wpAnyH_done (by kernel_rfl) ?_ _
  have HB := Lib.hid hHeld.2.2
  have d3 : w4.cell? ⟨w.heap.size, 3, none⟩ = some (.int .i64 s.cur) := hHeld.1.cell 3
  have d4 : w4.cell? ⟨w.heap.size, 4, none⟩ = some (.int .i64 s.tax) := hHeld.1.cell 4
  have d5 : w4.cell? ⟨w.heap.size, 5, none⟩ = some (.slice oa s.lines.length cap) := by rw [hHeld.1.cell 5, stCs, HLV.out]; rfl
  have d7 : w4.cell? ⟨w.heap.size, 7, none⟩ = some (.int .i64 s.refunded) := hHeld.1.cell 7
  have d8 : w4.cell? ⟨w.heap.size, 8, none⟩ = some (.int .i64 s.events) := hHeld.1.cell 8
  have d9 : w4.cell? ⟨w.heap.size, 9, none⟩ = some (.int .i64 s.refused) := hHeld.1.cell 9
  have d10 : w4.cell? ⟨w.heap.size, 10, none⟩ = some (.int .i64 s.stamp) := hHeld.1.cell 10
  have d11 : w4.cell? ⟨w.heap.size, 11, none⟩ = some (.string ⟨s.who.toArray⟩) := hHeld.1.cell 11
  clear hHeld HE3 HDU
  go_wp2
  go_ret
  exact ⟨by rw [HVb.out]; rfl, HB.out⟩

set_option maxRecDepth 100000 in
set_option maxHeartbeats 16000000 in
theorem oValid_4_0_1 (s : St) (lv : Value) (w : World) (hr : LnRow w lv s.lines) (hw : s.who.length ≤ 281474976710656) (hf : boundedB s = true) (hm : ¬ dueOf s < s.paid) (hs : s.status = 4) (hp : s.prior = 0) (g1 : (s.paid == dueOf s) = true) (g3 : decide (0 < s.paid) = false) :
    Calls Tryd.prog 8 #[stV s lv] w fun e w' => e = .returned (.bool (validB s)) ∧ Below w.heap.size w w' := by
  have HVb := Lib.hid (show validB s = (false && wholeB s.lines) by
    have h1 : validB s = standB s 4 := by unfold validB; rw [hf, decide_eq_true (by omega), hs, hp]; rfl
    have h2 : (s.paid == dueOf s && decide (0 < s.paid)) = false := by rw [g1, g3]; rfl
    rw [h1]; unfold standB; rw [h2]; rfl)
  have hbp := bounded_p hf
  have HBO := Lib.hid (show ∀ W : World, LnRow W lv s.lines → Calls Tryd.prog 15 #[stV s lv] W fun e w' => e = .returned (.bool true) ∧ Below W.heap.size W w' from fun W h => hf ▸ obounded s lv W h hw)
  obtain ⟨D, hD⟩ : ∃ D, D = dueOf s := ⟨_, rfl⟩
  have HDU := Lib.hid (show ∀ W : World, LnRow W lv s.lines → Calls Tryd.prog 16 #[stV s lv] W fun e w' => e = .returned (.int .i64 D) ∧ Below W.heap.size W w' from fun W h => hD ▸ odue_any s lv W h hbp.fine hbp.few hbp.tax.1 hbp.tax.2)
  have HH := Lib.hid (show StBlk (w.alloc (.cells (stCs s lv) 25)).drew w.heap.size s lv ∧ LnRow (w.alloc (.cells (stCs s lv) 25)).drew lv s.lines ∧ Below w.heap.size w (w.alloc (.cells (stCs s lv) 25)).drew from by
    have hb : Below w.heap.size w (w.alloc (.cells (stCs s lv) 25)) := (Below.refl _ _).alloc (Nat.le_refl _) _
    exact ⟨stBlk_alloc w s lv, hr.below (Below.next hb (below_drewN' _ 1)), Below.next hb (below_drewN' _ 1)⟩)
  have HSH := Lib.hid (show ∀ W : World, LnRow W lv s.lines → Calls Tryd.prog 17 #[stV s lv] W fun e w' => e = .returned (.tuple #[.bool (noneB s.lines), .bool (wholeB s.lines)]) ∧ Below W.heap.size W w' from fun W h => oshipped_any s lv W h)
  obtain ⟨nB, hnB⟩ : ∃ x, x = noneB s.lines := ⟨_, rfl⟩
  obtain ⟨wB, hwB⟩ : ∃ x, x = wholeB s.lines := ⟨_, rfl⟩
  rw [← hnB, ← hwB] at HSH
  rw [← hD] at hm g1
  rw [← hwB] at HVb
  have d1 : decide (D < s.paid) = false := decide_eq_false hm
  have hm2 : s.paid ≤ D := by omega
  have HS := Lib.hid hs
  have HP := Lib.hid hp
  obtain ⟨oa, cap, hlv, _, _, _⟩ := hr.shape
  have HLV := Lib.hid hlv
  clear hr hw hf hbp hD hm hs hp hnB hwB hlv
  go_enter Tryd.func8, Tryd.ntmps8
  go_wp2
  refine wp_region_held_drew (S := fun w' => StBlk w' w.heap.size s lv ∧ LnRow w' lv s.lines ∧ Below w.heap.size w w') (by kernel_rfl) HH.out (fun hHeld => ?_)
  refine wpAnyH_take (i := 0) (oi := ⟨_, _, _, _, _, _⟩) (v := stV s lv) rfl (by kernel_rfl) (by kernel_rfl) (by kernel_rfl) (fun _ _ _ h => h) (yieldsIf_load_mid (by kernel_rfl) 25 (.tmp 1) rfl w.heap.size 0 rfl (stCs s lv).toList _ (fun w' h j v hv => by rw [Nat.zero_add, h.1.cell]; simpa using hv) Tryd.underlying25 rfl (by rw [stInfo]; rfl)) (by assumption) ?_
  simp only [pA, pB, pC, pD]
  refine wpAnyH_ready (rs := [1]) (by kernel_rfl) (by simp) ?_
  refine AllReadyH.cons rfl (fun K hK => ?_) AllReadyH.nil
  go_simp
  go_at_call 15
  obtain ⟨hSt, hLn, hBe⟩ := hHeld
  refine (HBO.out _ hLn).mono ?_
  rintro x w1 ⟨rfl, hb⟩
  go_wp2_with fail
  refine hK.out _ _ ⟨hSt.below hb, hLn.below hb, Below.next hBe hb⟩ (fun hHeld => ?_)
  clear hK K hSt hLn hBe hb
  refine tk 2 rfl ?v_2_118 ?hy_2_118 ?r_2_118
  case hy_2_118 => intro w h; have k1 := h.1.c1; have k6 := h.1.c6; go_simp; try with_reducible rfl
  simp only [pA, pB, pC, pD]
  refine tk 3 rfl ?v_3_119 ?hy_3_119 ?r_3_119
  case hy_3_119 => intro w h; have k1 := h.1.c1; have k6 := h.1.c6; go_simp; try with_reducible rfl
  simp only [pA, pB, pC, pD]
  refine tk 4 rfl ?v_4_120 ?hy_4_120 ?r_4_120
  case hy_4_120 => intro w h; have k1 := h.1.c1; have k6 := h.1.c6; go_simp; try with_reducible rfl
  simp only [pA, pB, pC, pD]
  refine tk 5 rfl ?v_5_121 ?hy_5_121 ?r_5_121
  case hy_5_121 => intro w h; have k1 := h.1.c1; have k6 := h.1.c6; go_simp; try with_reducible rfl
  simp only [pA, pB, pC, pD]
  refine wpAnyH_take (i := 6) (oi := ⟨_, _, _, _, _, _⟩) (v := stV s lv) rfl (by kernel_rfl) (by kernel_rfl) (by kernel_rfl) (fun _ _ _ h => h) (yieldsIf_load_mid (by kernel_rfl) 25 (.tmp 1) rfl w.heap.size 0 rfl (stCs s lv).toList _ (fun w' h j v hv => by rw [Nat.zero_add, h.1.cell]; simpa using hv) Tryd.underlying25 rfl (by rw [stInfo]; rfl)) (by assumption) ?_
  simp only [pA, pB, pC, pD]
  refine wpAnyH_ready (rs := [7]) (by kernel_rfl) (by simp) ?_
  refine AllReadyH.cons rfl (fun K hK => ?_) AllReadyH.nil
  go_simp
  go_at_call 16
  obtain ⟨hSt, hLn, hBe⟩ := hHeld
  refine (HDU.out _ hLn).mono ?_
  rintro x w2 ⟨rfl, hb⟩
  go_wp2_with fail
  refine hK.out _ _ ⟨hSt.below hb, hLn.below hb, Below.next hBe hb⟩ (fun hHeld => ?_)
  clear hK K hSt hLn hBe hb
  refine tk 8 rfl ?v_8_122 ?hy_8_122 ?r_8_122
  case hy_8_122 => intro w h; have k1 := h.1.c1; have k6 := h.1.c6; go_simp; try with_reducible rfl
  simp only [pA, pB, pC, pD]
  refine tk 9 rfl ?v_9_123 ?hy_9_123 ?r_9_123
  case hy_9_123 => intro w h; have k1 := h.1.c1; have k6 := h.1.c6; go_simp; try with_reducible rfl
  simp only [pA, pB, pC, pD]
  refine wpAnyH_done (by kernel_rfl) ?_ _
  have c1 : w2.cell? ⟨w.heap.size, 1, none⟩ = some (.int .i64 4) := by rw [hHeld.1.cell 1, stCs, HS.out]; rfl
  have c2 : w2.cell? ⟨w.heap.size, 2, none⟩ = some (.int .i64 0) := by rw [hHeld.1.cell 2, stCs, HP.out]; rfl
  have HE := Lib.hid hHeld
  clear hHeld HBO HH
  go_wp2_with (first
    | (with_reducible refine wpList_load_st rfl (.tmp 1) rfl w.heap.size s lv rfl HE.out.1 ?_)
    | (go_at_call 17; refine (HSH.out _ HE.out.2.1).mono ?_; rintro x w3 ⟨rfl, hb⟩; have HE3 := Lib.hid (show StBlk w3 w.heap.size s lv ∧ LnRow w3 lv s.lines ∧ Below w.heap.size w w3 from ⟨HE.out.1.below hb, HE.out.2.1.below hb, Below.next HE.out.2.2 hb⟩); clear hb))
  clear c1 c2 HE HSH
  refine wp_region_held_drew (S := fun w' => StBlk w' w.heap.size s lv ∧ LnRow w' lv s.lines ∧ Below w.heap.size w w') (by kernel_rfl) ⟨HE3.out.1, HE3.out.2.1, Below.next HE3.out.2.2 (below_drewN' _ 1)⟩ (fun hHeld => ?_)
  refine tk 0 rfl ?v_0_124 ?hy_0_124 ?r_0_124
  case hy_0_124 => intro w h; have k1 := h.1.c1; have k6 := h.1.c6; go_simp; try with_reducible rfl
  simp only [pA, pB, pC, pD]
  refine tk 1 rfl ?v_1_125 ?hy_1_125 ?r_1_125
  case hy_1_125 => intro w h; have k1 := h.1.c1; have k6 := h.1.c6; go_simp; try with_reducible rfl
  simp only [pA, pB, pC, pD]
  refine wpAnyH_take (i := 2) (oi := ⟨_, _, _, _, _, _⟩) (v := stV s lv) rfl (by kernel_rfl) (by kernel_rfl) (by kernel_rfl) (fun _ _ _ h => h) (yieldsIf_load_mid (by kernel_rfl) 25 (.tmp 1) rfl w.heap.size 0 rfl (stCs s lv).toList _ (fun w' h j v hv => by rw [Nat.zero_add, h.1.cell]; simpa using hv) Tryd.underlying25 rfl (by rw [stInfo]; rfl)) (by assumption) ?_
  simp only [pA, pB, pC, pD]
  refine wpAnyH_ready (rs := [3]) (by kernel_rfl) (by simp) ?_
  refine AllReadyH.cons rfl (fun K hK => ?_) AllReadyH.nil
  go_simp
  go_at_call 16
  obtain ⟨hSt, hLn, hBe⟩ := hHeld
  refine (HDU.out _ hLn).mono ?_
  rintro x w4 ⟨rfl, hb⟩
  go_wp2_with fail
  refine hK.out _ _ ⟨hSt.below hb, hLn.below hb, Below.next hBe hb⟩ (fun hHeld => ?_)
  clear hK K hSt hLn hBe hb
  refine tk 4 rfl ?v_4_126 ?hy_4_126 ?r_4_126
  case hy_4_126 => intro w h; have k1 := h.1.c1; have k6 := h.1.c6; go_simp; try with_reducible rfl
  simp only [pA, pB, pC, pD]
  refine tk 5 rfl ?v_5_127 ?hy_5_127 ?r_5_127
  case hy_5_127 => intro w h; have k1 := h.1.c1; have k6 := h.1.c6; go_simp; try with_reducible rfl
  simp only [pA, pB, pC, pD]
  refine tk 6 rfl ?v_6_128 ?hy_6_128 ?r_6_128
  case hy_6_128 => intro w h; have k1 := h.1.c1; have k6 := h.1.c6; go_simp; try with_reducible rfl
  simp only [pA, pB, pC, pD]
  refine tk 7 rfl ?v_7_129 ?hy_7_129 ?r_7_129
  case hy_7_129 => intro w h; have k1 := h.1.c1; have k6 := h.1.c6; go_simp; try with_reducible rfl
  simp only [pA, pB, pC, pD]
  refine tk 8 rfl ?v_8_130 ?hy_8_130 ?r_8_130
  case hy_8_130 => intro w h; have k1 := h.1.c1; have k6 := h.1.c6; go_simp; try with_reducible rfl
  simp only [pA, pB, pC, pD]
  refine tk 9 rfl ?v_9_131 ?hy_9_131 ?r_9_131
  case hy_9_131 => intro w h; have k1 := h.1.c1; have k6 := h.1.c6; go_simp; try with_reducible rfl
  simp only [pA, pB, pC, pD]
  refine tk 10 rfl ?v_10_132 ?hy_10_132 ?r_10_132
  case hy_10_132 => intro w h; have k1 := h.1.c1; have k6 := h.1.c6; go_simp; try with_reducible rfl
  simp only [pA, pB, pC, pD]
  refine wpAnyH_done (by kernel_rfl) ?_ _
  have HB := Lib.hid hHeld.2.2
  have d3 : w4.cell? ⟨w.heap.size, 3, none⟩ = some (.int .i64 s.cur) := hHeld.1.cell 3
  have d4 : w4.cell? ⟨w.heap.size, 4, none⟩ = some (.int .i64 s.tax) := hHeld.1.cell 4
  have d5 : w4.cell? ⟨w.heap.size, 5, none⟩ = some (.slice oa s.lines.length cap) := by rw [hHeld.1.cell 5, stCs, HLV.out]; rfl
  have d7 : w4.cell? ⟨w.heap.size, 7, none⟩ = some (.int .i64 s.refunded) := hHeld.1.cell 7
  have d8 : w4.cell? ⟨w.heap.size, 8, none⟩ = some (.int .i64 s.events) := hHeld.1.cell 8
  have d9 : w4.cell? ⟨w.heap.size, 9, none⟩ = some (.int .i64 s.refused) := hHeld.1.cell 9
  have d10 : w4.cell? ⟨w.heap.size, 10, none⟩ = some (.int .i64 s.stamp) := hHeld.1.cell 10
  have d11 : w4.cell? ⟨w.heap.size, 11, none⟩ = some (.string ⟨s.who.toArray⟩) := hHeld.1.cell 11
  clear hHeld HE3 HDU
  go_wp2
  go_ret
  exact ⟨by rw [HVb.out]; rfl, HB.out⟩

set_option maxRecDepth 100000 in
set_option maxHeartbeats 16000000 in
theorem oValid_4_0_2 (s : St) (lv : Value) (w : World) (hr : LnRow w lv s.lines) (hw : s.who.length ≤ 281474976710656) (hf : boundedB s = true) (hm : ¬ dueOf s < s.paid) (hs : s.status = 4) (hp : s.prior = 0) (g1 : (s.paid == dueOf s) = true) (g3 : decide (0 < s.paid) = true) :
    Calls Tryd.prog 8 #[stV s lv] w fun e w' => e = .returned (.bool (validB s)) ∧ Below w.heap.size w w' := by
  have HVb := Lib.hid (show validB s = (true && wholeB s.lines) by
    have h1 : validB s = standB s 4 := by unfold validB; rw [hf, decide_eq_true (by omega), hs, hp]; rfl
    have h2 : (s.paid == dueOf s && decide (0 < s.paid)) = true := by rw [g1, g3]; rfl
    rw [h1]; unfold standB; rw [h2]; rfl)
  have hbp := bounded_p hf
  have HBO := Lib.hid (show ∀ W : World, LnRow W lv s.lines → Calls Tryd.prog 15 #[stV s lv] W fun e w' => e = .returned (.bool true) ∧ Below W.heap.size W w' from fun W h => hf ▸ obounded s lv W h hw)
  obtain ⟨D, hD⟩ : ∃ D, D = dueOf s := ⟨_, rfl⟩
  have HDU := Lib.hid (show ∀ W : World, LnRow W lv s.lines → Calls Tryd.prog 16 #[stV s lv] W fun e w' => e = .returned (.int .i64 D) ∧ Below W.heap.size W w' from fun W h => hD ▸ odue_any s lv W h hbp.fine hbp.few hbp.tax.1 hbp.tax.2)
  have HH := Lib.hid (show StBlk (w.alloc (.cells (stCs s lv) 25)).drew w.heap.size s lv ∧ LnRow (w.alloc (.cells (stCs s lv) 25)).drew lv s.lines ∧ Below w.heap.size w (w.alloc (.cells (stCs s lv) 25)).drew from by
    have hb : Below w.heap.size w (w.alloc (.cells (stCs s lv) 25)) := (Below.refl _ _).alloc (Nat.le_refl _) _
    exact ⟨stBlk_alloc w s lv, hr.below (Below.next hb (below_drewN' _ 1)), Below.next hb (below_drewN' _ 1)⟩)
  have HSH := Lib.hid (show ∀ W : World, LnRow W lv s.lines → Calls Tryd.prog 17 #[stV s lv] W fun e w' => e = .returned (.tuple #[.bool (noneB s.lines), .bool (wholeB s.lines)]) ∧ Below W.heap.size W w' from fun W h => oshipped_any s lv W h)
  obtain ⟨nB, hnB⟩ : ∃ x, x = noneB s.lines := ⟨_, rfl⟩
  obtain ⟨wB, hwB⟩ : ∃ x, x = wholeB s.lines := ⟨_, rfl⟩
  rw [← hnB, ← hwB] at HSH
  rw [← hD] at hm g1
  rw [← hwB] at HVb
  have d1 : decide (D < s.paid) = false := decide_eq_false hm
  have hm2 : s.paid ≤ D := by omega
  have HS := Lib.hid hs
  have HP := Lib.hid hp
  obtain ⟨oa, cap, hlv, _, _, _⟩ := hr.shape
  have HLV := Lib.hid hlv
  clear hr hw hf hbp hD hm hs hp hnB hwB hlv
  go_enter Tryd.func8, Tryd.ntmps8
  go_wp2
  refine wp_region_held_drew (S := fun w' => StBlk w' w.heap.size s lv ∧ LnRow w' lv s.lines ∧ Below w.heap.size w w') (by kernel_rfl) HH.out (fun hHeld => ?_)
  refine wpAnyH_take (i := 0) (oi := ⟨_, _, _, _, _, _⟩) (v := stV s lv) rfl (by kernel_rfl) (by kernel_rfl) (by kernel_rfl) (fun _ _ _ h => h) (yieldsIf_load_mid (by kernel_rfl) 25 (.tmp 1) rfl w.heap.size 0 rfl (stCs s lv).toList _ (fun w' h j v hv => by rw [Nat.zero_add, h.1.cell]; simpa using hv) Tryd.underlying25 rfl (by rw [stInfo]; rfl)) (by assumption) ?_
  simp only [pA, pB, pC, pD]
  refine wpAnyH_ready (rs := [1]) (by kernel_rfl) (by simp) ?_
  refine AllReadyH.cons rfl (fun K hK => ?_) AllReadyH.nil
  go_simp
  go_at_call 15
  obtain ⟨hSt, hLn, hBe⟩ := hHeld
  refine (HBO.out _ hLn).mono ?_
  rintro x w1 ⟨rfl, hb⟩
  go_wp2_with fail
  refine hK.out _ _ ⟨hSt.below hb, hLn.below hb, Below.next hBe hb⟩ (fun hHeld => ?_)
  clear hK K hSt hLn hBe hb
  refine tk 2 rfl ?v_2_133 ?hy_2_133 ?r_2_133
  case hy_2_133 => intro w h; have k1 := h.1.c1; have k6 := h.1.c6; go_simp; try with_reducible rfl
  simp only [pA, pB, pC, pD]
  refine tk 3 rfl ?v_3_134 ?hy_3_134 ?r_3_134
  case hy_3_134 => intro w h; have k1 := h.1.c1; have k6 := h.1.c6; go_simp; try with_reducible rfl
  simp only [pA, pB, pC, pD]
  refine tk 4 rfl ?v_4_135 ?hy_4_135 ?r_4_135
  case hy_4_135 => intro w h; have k1 := h.1.c1; have k6 := h.1.c6; go_simp; try with_reducible rfl
  simp only [pA, pB, pC, pD]
  refine tk 5 rfl ?v_5_136 ?hy_5_136 ?r_5_136
  case hy_5_136 => intro w h; have k1 := h.1.c1; have k6 := h.1.c6; go_simp; try with_reducible rfl
  simp only [pA, pB, pC, pD]
  refine wpAnyH_take (i := 6) (oi := ⟨_, _, _, _, _, _⟩) (v := stV s lv) rfl (by kernel_rfl) (by kernel_rfl) (by kernel_rfl) (fun _ _ _ h => h) (yieldsIf_load_mid (by kernel_rfl) 25 (.tmp 1) rfl w.heap.size 0 rfl (stCs s lv).toList _ (fun w' h j v hv => by rw [Nat.zero_add, h.1.cell]; simpa using hv) Tryd.underlying25 rfl (by rw [stInfo]; rfl)) (by assumption) ?_
  simp only [pA, pB, pC, pD]
  refine wpAnyH_ready (rs := [7]) (by kernel_rfl) (by simp) ?_
  refine AllReadyH.cons rfl (fun K hK => ?_) AllReadyH.nil
  go_simp
  go_at_call 16
  obtain ⟨hSt, hLn, hBe⟩ := hHeld
  refine (HDU.out _ hLn).mono ?_
  rintro x w2 ⟨rfl, hb⟩
  go_wp2_with fail
  refine hK.out _ _ ⟨hSt.below hb, hLn.below hb, Below.next hBe hb⟩ (fun hHeld => ?_)
  clear hK K hSt hLn hBe hb
  refine tk 8 rfl ?v_8_137 ?hy_8_137 ?r_8_137
  case hy_8_137 => intro w h; have k1 := h.1.c1; have k6 := h.1.c6; go_simp; try with_reducible rfl
  simp only [pA, pB, pC, pD]
  refine tk 9 rfl ?v_9_138 ?hy_9_138 ?r_9_138
  case hy_9_138 => intro w h; have k1 := h.1.c1; have k6 := h.1.c6; go_simp; try with_reducible rfl
  simp only [pA, pB, pC, pD]
  refine wpAnyH_done (by kernel_rfl) ?_ _
  have c1 : w2.cell? ⟨w.heap.size, 1, none⟩ = some (.int .i64 4) := by rw [hHeld.1.cell 1, stCs, HS.out]; rfl
  have c2 : w2.cell? ⟨w.heap.size, 2, none⟩ = some (.int .i64 0) := by rw [hHeld.1.cell 2, stCs, HP.out]; rfl
  have HE := Lib.hid hHeld
  clear hHeld HBO HH
  go_wp2_with (first
    | (with_reducible refine wpList_load_st rfl (.tmp 1) rfl w.heap.size s lv rfl HE.out.1 ?_)
    | (go_at_call 17; refine (HSH.out _ HE.out.2.1).mono ?_; rintro x w3 ⟨rfl, hb⟩; have HE3 := Lib.hid (show StBlk w3 w.heap.size s lv ∧ LnRow w3 lv s.lines ∧ Below w.heap.size w w3 from ⟨HE.out.1.below hb, HE.out.2.1.below hb, Below.next HE.out.2.2 hb⟩); clear hb))
  clear c1 c2 HE HSH
  refine wp_region_held_drew (S := fun w' => StBlk w' w.heap.size s lv ∧ LnRow w' lv s.lines ∧ Below w.heap.size w w') (by kernel_rfl) ⟨HE3.out.1, HE3.out.2.1, Below.next HE3.out.2.2 (below_drewN' _ 1)⟩ (fun hHeld => ?_)
  refine tk 0 rfl ?v_0_139 ?hy_0_139 ?r_0_139
  case hy_0_139 => intro w h; have k1 := h.1.c1; have k6 := h.1.c6; go_simp; try with_reducible rfl
  simp only [pA, pB, pC, pD]
  refine tk 1 rfl ?v_1_140 ?hy_1_140 ?r_1_140
  case hy_1_140 => intro w h; have k1 := h.1.c1; have k6 := h.1.c6; go_simp; try with_reducible rfl
  simp only [pA, pB, pC, pD]
  refine wpAnyH_take (i := 2) (oi := ⟨_, _, _, _, _, _⟩) (v := stV s lv) rfl (by kernel_rfl) (by kernel_rfl) (by kernel_rfl) (fun _ _ _ h => h) (yieldsIf_load_mid (by kernel_rfl) 25 (.tmp 1) rfl w.heap.size 0 rfl (stCs s lv).toList _ (fun w' h j v hv => by rw [Nat.zero_add, h.1.cell]; simpa using hv) Tryd.underlying25 rfl (by rw [stInfo]; rfl)) (by assumption) ?_
  simp only [pA, pB, pC, pD]
  refine wpAnyH_ready (rs := [3]) (by kernel_rfl) (by simp) ?_
  refine AllReadyH.cons rfl (fun K hK => ?_) AllReadyH.nil
  go_simp
  go_at_call 16
  obtain ⟨hSt, hLn, hBe⟩ := hHeld
  refine (HDU.out _ hLn).mono ?_
  rintro x w4 ⟨rfl, hb⟩
  go_wp2_with fail
  refine hK.out _ _ ⟨hSt.below hb, hLn.below hb, Below.next hBe hb⟩ (fun hHeld => ?_)
  clear hK K hSt hLn hBe hb
  refine tk 4 rfl ?v_4_141 ?hy_4_141 ?r_4_141
  case hy_4_141 => intro w h; have k1 := h.1.c1; have k6 := h.1.c6; go_simp; try with_reducible rfl
  simp only [pA, pB, pC, pD]
  refine tk 5 rfl ?v_5_142 ?hy_5_142 ?r_5_142
  case hy_5_142 => intro w h; have k1 := h.1.c1; have k6 := h.1.c6; go_simp; try with_reducible rfl
  simp only [pA, pB, pC, pD]
  refine tk 6 rfl ?v_6_143 ?hy_6_143 ?r_6_143
  case hy_6_143 => intro w h; have k1 := h.1.c1; have k6 := h.1.c6; go_simp; try with_reducible rfl
  simp only [pA, pB, pC, pD]
  refine tk 7 rfl ?v_7_144 ?hy_7_144 ?r_7_144
  case hy_7_144 => intro w h; have k1 := h.1.c1; have k6 := h.1.c6; go_simp; try with_reducible rfl
  simp only [pA, pB, pC, pD]
  refine tk 8 rfl ?v_8_145 ?hy_8_145 ?r_8_145
  case hy_8_145 => intro w h; have k1 := h.1.c1; have k6 := h.1.c6; go_simp; try with_reducible rfl
  simp only [pA, pB, pC, pD]
  refine tk 9 rfl ?v_9_146 ?hy_9_146 ?r_9_146
  case hy_9_146 => intro w h; have k1 := h.1.c1; have k6 := h.1.c6; go_simp; try with_reducible rfl
  simp only [pA, pB, pC, pD]
  refine tk 10 rfl ?v_10_147 ?hy_10_147 ?r_10_147
  case hy_10_147 => intro w h; have k1 := h.1.c1; have k6 := h.1.c6; go_simp; try with_reducible rfl
  simp only [pA, pB, pC, pD]
  refine wpAnyH_done (by kernel_rfl) ?_ _
  have HB := Lib.hid hHeld.2.2
  have d3 : w4.cell? ⟨w.heap.size, 3, none⟩ = some (.int .i64 s.cur) := hHeld.1.cell 3
  have d4 : w4.cell? ⟨w.heap.size, 4, none⟩ = some (.int .i64 s.tax) := hHeld.1.cell 4
  have d5 : w4.cell? ⟨w.heap.size, 5, none⟩ = some (.slice oa s.lines.length cap) := by rw [hHeld.1.cell 5, stCs, HLV.out]; rfl
  have d7 : w4.cell? ⟨w.heap.size, 7, none⟩ = some (.int .i64 s.refunded) := hHeld.1.cell 7
  have d8 : w4.cell? ⟨w.heap.size, 8, none⟩ = some (.int .i64 s.events) := hHeld.1.cell 8
  have d9 : w4.cell? ⟨w.heap.size, 9, none⟩ = some (.int .i64 s.refused) := hHeld.1.cell 9
  have d10 : w4.cell? ⟨w.heap.size, 10, none⟩ = some (.int .i64 s.stamp) := hHeld.1.cell 10
  have d11 : w4.cell? ⟨w.heap.size, 11, none⟩ = some (.string ⟨s.who.toArray⟩) := hHeld.1.cell 11
  clear hHeld HE3 HDU
  cases wB
  · skip
    go_wp2
    go_ret
    exact ⟨by rw [HVb.out]; rfl, HB.out⟩
  · skip
    go_wp2
    go_ret
    exact ⟨by rw [HVb.out]; rfl, HB.out⟩

end Go.Proofs.YtlobohpbgghleaaDoor
