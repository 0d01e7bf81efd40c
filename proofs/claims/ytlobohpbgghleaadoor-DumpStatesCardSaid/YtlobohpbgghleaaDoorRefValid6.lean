import Derived.Test.YtlobohpbgghleaaDoorRefValid2
namespace Go.Proofs.YtlobohpbgghleaaDoor
open Go.RowKit

set_option maxRecDepth 100000 in
set_option maxHeartbeats 16000000 in
theorem rvok_2_1_0 (s : St) (lv : Value) (w : World) (hr : LnRow w lv s.lines) (hw : s.who.length ≤ 281474976710656) (hf : boundedB s = true) (hm : ¬ dueOf s < s.paid) (hs : s.status = 2) (hp : s.prior = 1) (g3 : decide (0 < s.paid) = false) :
    Calls Tryd.prog 11 #[stV s lv] w fun e w' => e = .returned (.bool (validB s)) ∧ Below w.heap.size w w' := by
  have HVb := Lib.hid (show validB s = (noneB s.lines && !false && s.refunded == 0) by
    have h1 : validB s = standB s 1 := by unfold validB; rw [hf, decide_eq_true (by omega), hs, hp]; rfl
    have h2 : (s.paid == dueOf s && decide (0 < s.paid)) = false := by rw [g3]; simp
    rw [h1]; unfold standB; rw [h2]; rfl)
  have hbp := bounded_p hf
  have k1 : decide (s.order < 1) = false := by rw [decide_eq_false_iff_not]; have := hbp.order; omega
  have k2 : decide (1099511627776 < s.order) = false := by rw [decide_eq_false_iff_not]; have := hbp.order; omega
  have k3 : decide (s.status < 0) = false := by rw [decide_eq_false_iff_not]; have := hbp.status; omega
  have k4 : decide (5 < s.status) = false := by rw [decide_eq_false_iff_not]; have := hbp.status; omega
  have k5 : decide (s.cur < 0) = false := by rw [decide_eq_false_iff_not]; have := hbp.cur; omega
  have k6 : decide (3 < s.cur) = false := by rw [decide_eq_false_iff_not]; have := hbp.cur; omega
  have k7 : decide (s.tax < 0) = false := by rw [decide_eq_false_iff_not]; have := hbp.tax; omega
  have k8 : decide (5000 < s.tax) = false := by rw [decide_eq_false_iff_not]; have := hbp.tax; omega
  have e1 : decide (s.events < 0) = false := by rw [decide_eq_false_iff_not]; have := hbp.events; omega
  have e2 : decide (1099511627776 < s.events) = false := by rw [decide_eq_false_iff_not]; have := hbp.events; omega
  have e3 : decide (s.refused < 0) = false := by rw [decide_eq_false_iff_not]; have := hbp.refused; omega
  have e4 : decide (s.events < s.refused) = false := by rw [decide_eq_false_iff_not]; have := hbp.events; have := hbp.refused; omega
  have e5 : decide (s.stamp < 0) = false := by rw [decide_eq_false_iff_not]; have := hbp.stamp; omega
  have e6 : decide (1099511627776 < s.stamp) = false := by rw [decide_eq_false_iff_not]; have := hbp.stamp; omega
  have q1 : decide (s.refunded < 0) = false := by rw [decide_eq_false_iff_not]; have := hbp.refunded; omega
  have q2 : decide (s.paid < s.refunded) = false := by rw [decide_eq_false_iff_not]; have := hbp.refunded; omega
  have q3 : decide (s.paid < 0) = false := by rw [decide_eq_false_iff_not]; have := hbp.refunded; omega
  have hn := (bounded_lined hf).2
  have hl := (bounded_lined hf).1
  obtain ⟨c, hc⟩ : ∃ c, c = evCheck 4 (evWho s.who) := ⟨_, rfl⟩
  have hcn : (c == 0) = namedB s.who := by rw [hc]; exact evWho_check 4 (.inl rfl) s.who
  have HC := Lib.hid (show ∀ W : World, Calls Tryd.prog 19 #[.int .i64 4, .agg #[.int .i64 1, .int .i64 1, .int .i64 0, .int .i64 0, .int .i64 0, .int .i64 0, .int .i64 0, .string ⟨s.who.toArray⟩, .int .i64 0, .string ⟨#[]⟩]] W (ChkPost c W) from fun W => hc ▸ refCheckB_any 4 (evWho s.who) W (evWho_ok s.who hw))
  have HLN := Lib.hid (show ∀ W : World, LnRow W lv s.lines → Calls Tryd.prog 20 #[stV s lv] W fun e w' => e = .returned (.bool (linedB s.lines)) ∧ Below W.heap.size W w' from fun W h => rlines_any s lv W h)
  have HE0 := Lib.hid (show StBlk (w.alloc (.cells (stCs s lv) 25)) w.heap.size s lv ∧ LnRow (w.alloc (.cells (stCs s lv) 25)) lv s.lines ∧ Below w.heap.size w (w.alloc (.cells (stCs s lv) 25)) from by
    have hb : Below w.heap.size w (w.alloc (.cells (stCs s lv) 25)) := (Below.refl _ _).alloc (Nat.le_refl _) _
    exact ⟨stBlk_alloc w s lv, hr.below hb, hb⟩)
  have c0 : (c != 0) = false := by rw [hn, beq_iff_eq] at hcn; rw [bne_eq_false_iff_eq]; exact hcn
  rw [hl] at HLN
  obtain ⟨D, hD⟩ : ∃ D, D = dueOf s := ⟨_, rfl⟩
  have HDU := Lib.hid (show ∀ W : World, LnRow W lv s.lines → Calls Tryd.prog 21 #[stV s lv] W fun e w' => e = .returned (.int .i64 D) ∧ Below W.heap.size W w' from fun W h => hD ▸ rdue_any s lv W h hbp.fine hbp.few hbp.tax.1 hbp.tax.2)
  have HSS := Lib.hid (show ∀ W : World, Calls Tryd.prog 22 #[stV s lv] W fun e w' => e = .returned (.int .i64 1) ∧ Below W.heap.size W w' from fun W => by have h := rstands_held s lv W hs; rw [hp] at h; exact h)
  have HUN := Lib.hid (show ∀ W : World, LnRow W lv s.lines → Calls Tryd.prog 23 #[stV s lv] W fun e w' => e = .returned (.bool (noneB s.lines)) ∧ Below W.heap.size W w' from fun W h => runtouched_any s lv W h hbp.fine)
  have HWH := Lib.hid (show ∀ W : World, LnRow W lv s.lines → Calls Tryd.prog 24 #[stV s lv] W fun e w' => e = .returned (.bool (wholeB s.lines)) ∧ Below W.heap.size W w' from fun W h => rwhole_any s lv W h hbp.fine)
  obtain ⟨nB, hnB⟩ : ∃ x, x = noneB s.lines := ⟨_, rfl⟩
  obtain ⟨wB, hwB⟩ : ∃ x, x = wholeB s.lines := ⟨_, rfl⟩
  rw [← hnB] at HUN
  rw [← hwB] at HWH
  rw [← hD] at hm
  rw [← hnB] at HVb
  have d1 : decide (D < s.paid) = false := decide_eq_false hm
  have hm2 : s.paid ≤ D := by omega
  have HS := Lib.hid hs
  have HP := Lib.hid hp
  obtain ⟨oa, cap, hlv, _, _, _⟩ := hr.shape
  have HLV := Lib.hid hlv
  clear hc hcn hn hl hr hw hf hbp hD hm hs hp hnB hwB hlv
  go_enter Tryd.func11, Tryd.ntmps11
  go_wp2_with (first
    | (go_at_call 19; (with_reducible refine (HC.out _).mono ?_); rintro x w1 ⟨rfl, hb1⟩; have HE1 := Lib.hid (show StBlk w1 w.heap.size s lv ∧ LnRow w1 lv s.lines ∧ Below w.heap.size w w1 from ⟨HE0.out.1.below hb1, HE0.out.2.1.below hb1, Below.next HE0.out.2.2 hb1⟩); clear hb1; have z0 := HE1.out.1.c0; have z1 := HE1.out.1.c1; have z2 := HE1.out.1.c2; have z3 := HE1.out.1.c3; have z4 := HE1.out.1.c4; have z5 := HE1.out.1.c5; have z6 := HE1.out.1.c6; have z7 := HE1.out.1.c7; have z8 := HE1.out.1.c8; have z9 := HE1.out.1.c9; have z10 := HE1.out.1.c10; have z11 := HE1.out.1.c11)
    | (with_reducible refine wpList_load_st rfl (.tmp 1) rfl w.heap.size s lv rfl HE1.out.1 ?_)
    | (go_at_call 20; refine (HLN.out _ HE1.out.2.1).mono ?_; rintro x w2 ⟨rfl, hb2⟩; have HE2 := Lib.hid (show StBlk w2 w.heap.size s lv ∧ LnRow w2 lv s.lines ∧ Below w.heap.size w w2 from ⟨HE1.out.1.below hb2, HE1.out.2.1.below hb2, Below.next HE1.out.2.2 hb2⟩); clear hb2))
  clear z0 z1 z2 z3 z4 z5 z6 z7 z8 z9 z10 z11 HE0 HE1 HC HLN
  refine wp_region_held_drew (S := fun w' => StBlk w' w.heap.size s lv ∧ LnRow w' lv s.lines ∧ Below w.heap.size w w') (by kernel_rfl) ⟨HE2.out.1, HE2.out.2.1, Below.next HE2.out.2.2 (below_drewN' _ 1)⟩ (fun hHeld => ?_)
  refine tk 0 rfl ?v_0_320 ?hy_0_320 ?r_0_320
  case hy_0_320 => intro w h; have k4 := h.1.c4; have k6 := h.1.c6; have k7 := h.1.c7; go_simp; try with_reducible rfl
  simp only [pA, pB, pC, pD]
  refine tk 1 rfl ?v_1_321 ?hy_1_321 ?r_1_321
  case hy_1_321 => intro w h; have k4 := h.1.c4; have k6 := h.1.c6; have k7 := h.1.c7; go_simp; try with_reducible rfl
  simp only [pA, pB, pC, pD]
  refine tk 2 rfl ?v_2_322 ?hy_2_322 ?r_2_322
  case hy_2_322 => intro w h; have k4 := h.1.c4; have k6 := h.1.c6; have k7 := h.1.c7; go_simp; try with_reducible rfl
  simp only [pA, pB, pC, pD]
  refine tk 3 rfl ?v_3_323 ?hy_3_323 ?r_3_323
  case hy_3_323 => intro w h; have k4 := h.1.c4; have k6 := h.1.c6; have k7 := h.1.c7; go_simp; try with_reducible rfl
  simp only [pA, pB, pC, pD]
  refine tk 4 rfl ?v_4_324 ?hy_4_324 ?r_4_324
  case hy_4_324 => intro w h; have k4 := h.1.c4; have k6 := h.1.c6; have k7 := h.1.c7; go_simp; try with_reducible rfl
  simp only [pA, pB, pC, pD]
  refine tk 5 rfl ?v_5_325 ?hy_5_325 ?r_5_325
  case hy_5_325 => intro w h; have k4 := h.1.c4; have k6 := h.1.c6; have k7 := h.1.c7; go_simp; try with_reducible rfl
  simp only [pA, pB, pC, pD]
  refine tk 6 rfl ?v_6_326 ?hy_6_326 ?r_6_326
  case hy_6_326 => intro w h; have k4 := h.1.c4; have k6 := h.1.c6; have k7 := h.1.c7; go_simp; try with_reducible rfl
  simp only [pA, pB, pC, pD]
  refine tk 7 rfl ?v_7_327 ?hy_7_327 ?r_7_327
  case hy_7_327 => intro w h; have k4 := h.1.c4; have k6 := h.1.c6; have k7 := h.1.c7; go_simp; try with_reducible rfl
  simp only [pA, pB, pC, pD]
  refine tk 8 rfl ?v_8_328 ?hy_8_328 ?r_8_328
  case hy_8_328 => intro w h; have k4 := h.1.c4; have k6 := h.1.c6; have k7 := h.1.c7; go_simp; try with_reducible rfl
  simp only [pA, pB, pC, pD]
  refine tk 9 rfl ?v_9_329 ?hy_9_329 ?r_9_329
  case hy_9_329 => intro w h; have k4 := h.1.c4; have k6 := h.1.c6; have k7 := h.1.c7; go_simp; try with_reducible rfl
  simp only [pA, pB, pC, pD]
  refine tk 10 rfl ?v_10_330 ?hy_10_330 ?r_10_330
  case hy_10_330 => intro w h; have k4 := h.1.c4; have k6 := h.1.c6; have k7 := h.1.c7; go_simp; try with_reducible rfl
  simp only [pA, pB, pC, pD]
  refine tk 11 rfl ?v_11_331 ?hy_11_331 ?r_11_331
  case hy_11_331 => intro w h; have k4 := h.1.c4; have k6 := h.1.c6; have k7 := h.1.c7; go_simp; try with_reducible rfl
  simp only [pA, pB, pC, pD]
  refine tk 12 rfl ?v_12_332 ?hy_12_332 ?r_12_332
  case hy_12_332 => intro w h; have k4 := h.1.c4; have k6 := h.1.c6; have k7 := h.1.c7; go_simp; try with_reducible rfl
  simp only [pA, pB, pC, pD]
  refine tk 13 rfl ?v_13_333 ?hy_13_333 ?r_13_333
  case hy_13_333 => intro w h; have k4 := h.1.c4; have k6 := h.1.c6; have k7 := h.1.c7; go_simp; try with_reducible rfl
  simp only [pA, pB, pC, pD]
  refine tk 14 rfl ?v_14_334 ?hy_14_334 ?r_14_334
  case hy_14_334 => intro w h; have k4 := h.1.c4; have k6 := h.1.c6; have k7 := h.1.c7; go_simp; try with_reducible rfl
  simp only [pA, pB, pC, pD]
  refine tk 15 rfl ?v_15_335 ?hy_15_335 ?r_15_335
  case hy_15_335 => intro w h; have k4 := h.1.c4; have k6 := h.1.c6; have k7 := h.1.c7; go_simp; try with_reducible rfl
  simp only [pA, pB, pC, pD]
  refine tk 16 rfl ?v_16_336 ?hy_16_336 ?r_16_336
  case hy_16_336 => intro w h; have k4 := h.1.c4; have k6 := h.1.c6; have k7 := h.1.c7; go_simp; try with_reducible rfl
  simp only [pA, pB, pC, pD]
  refine tk 17 rfl ?v_17_337 ?hy_17_337 ?r_17_337
  case hy_17_337 => intro w h; have k4 := h.1.c4; have k6 := h.1.c6; have k7 := h.1.c7; go_simp; try with_reducible rfl
  simp only [pA, pB, pC, pD]
  refine wpAnyH_take (i := 18) (oi := ⟨_, _, _, _, _, _⟩) (v := stV s lv) rfl (by kernel_rfl) (by kernel_rfl) (by kernel_rfl) (fun _ _ _ h => h) (yieldsIf_load_mid (by kernel_rfl) 25 (.tmp 1) rfl w.heap.size 0 rfl (stCs s lv).toList _ (fun w' h j v hv => by rw [Nat.zero_add, h.1.cell]; simpa using hv) Tryd.underlying25 rfl (by rw [stInfo]; rfl)) (by assumption) ?_
  simp only [pA, pB, pC, pD]
  refine wpAnyH_ready (rs := [19]) (by kernel_rfl) (by simp) ?_
  refine AllReadyH.cons rfl (fun K hK => ?_) AllReadyH.nil
  go_simp
  go_at_call 21
  obtain ⟨hSt, hLn, hBe⟩ := hHeld
  refine (HDU.out _ hLn).mono ?_
  rintro x w3 ⟨rfl, hb⟩
  go_wp2_with fail
  refine hK.out _ _ ⟨hSt.below hb, hLn.below hb, Below.next hBe hb⟩ (fun hHeld => ?_)
  clear hK K hSt hLn hBe hb
  refine tk 20 rfl ?v_20_338 ?hy_20_338 ?r_20_338
  case hy_20_338 => intro w h; have k4 := h.1.c4; have k6 := h.1.c6; have k7 := h.1.c7; go_simp; try with_reducible rfl
  simp only [pA, pB, pC, pD]
  refine tk 21 rfl ?v_21_339 ?hy_21_339 ?r_21_339
  case hy_21_339 => intro w h; have k4 := h.1.c4; have k6 := h.1.c6; have k7 := h.1.c7; go_simp; try with_reducible rfl
  simp only [pA, pB, pC, pD]
  refine wpAnyH_done (by kernel_rfl) ?_ _
  have c1 : w3.cell? ⟨w.heap.size, 1, none⟩ = some (.int .i64 2) := by rw [hHeld.1.cell 1, stCs, HS.out]; rfl
  have c2 : w3.cell? ⟨w.heap.size, 2, none⟩ = some (.int .i64 1) := by rw [hHeld.1.cell 2, stCs, HP.out]; rfl
  have HE := Lib.hid hHeld
  clear hHeld HE2 k1 k2 k3 k4 k5 k6 k7 k8 e1 e2 e3 e4 e5 e6 q1 q2 q3 c0
  go_wp2
  clear c1 c2
  refine wp_region_held_drew (S := fun w' => StBlk w' w.heap.size s lv ∧ LnRow w' lv s.lines ∧ Below w.heap.size w w') (by kernel_rfl) ⟨HE.out.1, HE.out.2.1, Below.next HE.out.2.2 (below_drewN' _ 1)⟩ (fun hHeld => ?_)
  refine tk 0 rfl ?v_0_340 ?hy_0_340 ?r_0_340
  case hy_0_340 => intro w h; have k4 := h.1.c4; have k6 := h.1.c6; have k7 := h.1.c7; go_simp; try with_reducible rfl
  simp only [pA, pB, pC, pD]
  refine tk 1 rfl ?v_1_341 ?hy_1_341 ?r_1_341
  case hy_1_341 => intro w h; have k4 := h.1.c4; have k6 := h.1.c6; have k7 := h.1.c7; go_simp; try with_reducible rfl
  simp only [pA, pB, pC, pD]
  refine tk 2 rfl ?v_2_342 ?hy_2_342 ?r_2_342
  case hy_2_342 => intro w h; have k4 := h.1.c4; have k6 := h.1.c6; have k7 := h.1.c7; go_simp; try with_reducible rfl
  simp only [pA, pB, pC, pD]
  refine tk 3 rfl ?v_3_343 ?hy_3_343 ?r_3_343
  case hy_3_343 => intro w h; have k4 := h.1.c4; have k6 := h.1.c6; have k7 := h.1.c7; go_simp; try with_reducible rfl
  simp only [pA, pB, pC, pD]
  refine tkn 4 rfl ?_
  simp only [pA, pB, pC, pD]
  refine tkn 5 rfl ?_
  simp only [pA, pB, pC, pD]
  refine tkn 6 rfl ?_
  simp only [pA, pB, pC, pD]
  refine tkn 7 rfl ?_
  simp only [pA, pB, pC, pD]
  refine tkn 8 rfl ?_
  simp only [pA, pB, pC, pD]
  refine tk 9 rfl ?v_9_344 ?hy_9_344 ?r_9_344
  case hy_9_344 => intro w h; have k4 := h.1.c4; have k6 := h.1.c6; have k7 := h.1.c7; go_simp; try with_reducible rfl
  simp only [pA, pB, pC, pD]
  refine tk 10 rfl ?v_10_345 ?hy_10_345 ?r_10_345
  case hy_10_345 => intro w h; have k4 := h.1.c4; have k6 := h.1.c6; have k7 := h.1.c7; go_simp; try with_reducible rfl
  simp only [pA, pB, pC, pD]
  refine wpAnyH_done (by kernel_rfl) ?_ _
  have HE4 := Lib.hid hHeld
  clear hHeld HE HDU
  generalize w3.drew = w4 at *
  cases nB
  · skip
    go_wp2_with (first
      | (with_reducible refine wpList_load_st rfl (.tmp 1) rfl w.heap.size s lv rfl HE4.out.1 ?_)
      | (go_at_call 22; refine (HSS.out _).mono ?_; rintro x w5 ⟨rfl, hb⟩; have HE5 := Lib.hid (show StBlk w5 w.heap.size s lv ∧ LnRow w5 lv s.lines ∧ Below w.heap.size w w5 from ⟨HE4.out.1.below hb, HE4.out.2.1.below hb, Below.next HE4.out.2.2 hb⟩); clear hb
         have z0 := HE5.out.1.c0; have z1 := HE5.out.1.c1; have z2 := HE5.out.1.c2; have z3 := HE5.out.1.c3; have z4 := HE5.out.1.c4; have z6 := HE5.out.1.c6; have z7 := HE5.out.1.c7; have z8 := HE5.out.1.c8; have z9 := HE5.out.1.c9; have z10 := HE5.out.1.c10; have z11 := HE5.out.1.c11; have z5 : w5.cell? ⟨w.heap.size, 5, none⟩ = some lv := HE5.out.1.cell 5)
      | (with_reducible refine wpList_load_st rfl (.tmp 1) rfl w.heap.size s lv rfl HE5.out.1 ?_)
      | (go_at_call 23; refine (HUN.out _ HE5.out.2.1).mono ?_; rintro x w6 ⟨rfl, hb⟩; have z7' : w6.cell? ⟨w.heap.size, 7, none⟩ = some (.int .i64 s.refunded) := cell_later hb z7; have HB := Lib.hid (Below.next HE5.out.2.2 hb); clear hb))
    go_ret
    exact ⟨by rw [HVb.out]; rfl, HB.out⟩
  · by_cases hrf : s.refunded = 0
    · have r1 : (s.refunded == 0) = true := by rw [beq_iff_eq]; exact hrf
      clear hrf
      go_wp2_with (first
        | (with_reducible refine wpList_load_st rfl (.tmp 1) rfl w.heap.size s lv rfl HE4.out.1 ?_)
        | (go_at_call 22; refine (HSS.out _).mono ?_; rintro x w5 ⟨rfl, hb⟩; have HE5 := Lib.hid (show StBlk w5 w.heap.size s lv ∧ LnRow w5 lv s.lines ∧ Below w.heap.size w w5 from ⟨HE4.out.1.below hb, HE4.out.2.1.below hb, Below.next HE4.out.2.2 hb⟩); clear hb
           have z0 := HE5.out.1.c0; have z1 := HE5.out.1.c1; have z2 := HE5.out.1.c2; have z3 := HE5.out.1.c3; have z4 := HE5.out.1.c4; have z6 := HE5.out.1.c6; have z7 := HE5.out.1.c7; have z8 := HE5.out.1.c8; have z9 := HE5.out.1.c9; have z10 := HE5.out.1.c10; have z11 := HE5.out.1.c11; have z5 : w5.cell? ⟨w.heap.size, 5, none⟩ = some lv := HE5.out.1.cell 5)
        | (with_reducible refine wpList_load_st rfl (.tmp 1) rfl w.heap.size s lv rfl HE5.out.1 ?_)
        | (go_at_call 23; refine (HUN.out _ HE5.out.2.1).mono ?_; rintro x w6 ⟨rfl, hb⟩; have z7' : w6.cell? ⟨w.heap.size, 7, none⟩ = some (.int .i64 s.refunded) := cell_later hb z7; have HB := Lib.hid (Below.next HE5.out.2.2 hb); clear hb))
      go_ret
      exact ⟨by rw [HVb.out, r1]; rfl, HB.out⟩
    · have r1 : (s.refunded == 0) = false := by rw [beq_eq_false_iff_ne]; exact hrf
      clear hrf
      go_wp2_with (first
        | (with_reducible refine wpList_load_st rfl (.tmp 1) rfl w.heap.size s lv rfl HE4.out.1 ?_)
        | (go_at_call 22; refine (HSS.out _).mono ?_; rintro x w5 ⟨rfl, hb⟩; have HE5 := Lib.hid (show StBlk w5 w.heap.size s lv ∧ LnRow w5 lv s.lines ∧ Below w.heap.size w w5 from ⟨HE4.out.1.below hb, HE4.out.2.1.below hb, Below.next HE4.out.2.2 hb⟩); clear hb
           have z0 := HE5.out.1.c0; have z1 := HE5.out.1.c1; have z2 := HE5.out.1.c2; have z3 := HE5.out.1.c3; have z4 := HE5.out.1.c4; have z6 := HE5.out.1.c6; have z7 := HE5.out.1.c7; have z8 := HE5.out.1.c8; have z9 := HE5.out.1.c9; have z10 := HE5.out.1.c10; have z11 := HE5.out.1.c11; have z5 : w5.cell? ⟨w.heap.size, 5, none⟩ = some lv := HE5.out.1.cell 5)
        | (with_reducible refine wpList_load_st rfl (.tmp 1) rfl w.heap.size s lv rfl HE5.out.1 ?_)
        | (go_at_call 23; refine (HUN.out _ HE5.out.2.1).mono ?_; rintro x w6 ⟨rfl, hb⟩; have z7' : w6.cell? ⟨w.heap.size, 7, none⟩ = some (.int .i64 s.refunded) := cell_later hb z7; have HB := Lib.hid (Below.next HE5.out.2.2 hb); clear hb))
      go_ret
      exact ⟨by rw [HVb.out, r1]; rfl, HB.out⟩

set_option maxRecDepth 100000 in
set_option maxHeartbeats 16000000 in
theorem rvok_2_1_1 (s : St) (lv : Value) (w : World) (hr : LnRow w lv s.lines) (hw : s.who.length ≤ 281474976710656) (hf : boundedB s = true) (hm : ¬ dueOf s < s.paid) (hs : s.status = 2) (hp : s.prior = 1) (g3 : decide (0 < s.paid) = true) (g1 : (s.paid == dueOf s) = false) :
    Calls Tryd.prog 11 #[stV s lv] w fun e w' => e = .returned (.bool (validB s)) ∧ Below w.heap.size w w' := by
  have HVb := Lib.hid (show validB s = (noneB s.lines && !false && s.refunded == 0) by
    have h1 : validB s = standB s 1 := by unfold validB; rw [hf, decide_eq_true (by omega), hs, hp]; rfl
    have h2 : (s.paid == dueOf s && decide (0 < s.paid)) = false := by rw [g3, g1]; rfl
    rw [h1]; unfold standB; rw [h2]; rfl)
  have hbp := bounded_p hf
  have k1 : decide (s.order < 1) = false := by rw [decide_eq_false_iff_not]; have := hbp.order; omega
  have k2 : decide (1099511627776 < s.order) = false := by rw [decide_eq_false_iff_not]; have := hbp.order; omega
  have k3 : decide (s.status < 0) = false := by rw [decide_eq_false_iff_not]; have := hbp.status; omega
  have k4 : decide (5 < s.status) = false := by rw [decide_eq_false_iff_not]; have := hbp.status; omega
  have k5 : decide (s.cur < 0) = false := by rw [decide_eq_false_iff_not]; have := hbp.cur; omega
  have k6 : decide (3 < s.cur) = false := by rw [decide_eq_false_iff_not]; have := hbp.cur; omega
  have k7 : decide (s.tax < 0) = false := by rw [decide_eq_false_iff_not]; have := hbp.tax; omega
  have k8 : decide (5000 < s.tax) = false := by rw [decide_eq_false_iff_not]; have := hbp.tax; omega
  have e1 : decide (s.events < 0) = false := by rw [decide_eq_false_iff_not]; have := hbp.events; omega
  have e2 : decide (1099511627776 < s.events) = false := by rw [decide_eq_false_iff_not]; have := hbp.events; omega
  have e3 : decide (s.refused < 0) = false := by rw [decide_eq_false_iff_not]; have := hbp.refused; omega
  have e4 : decide (s.events < s.refused) = false := by rw [decide_eq_false_iff_not]; have := hbp.events; have := hbp.refused; omega
  have e5 : decide (s.stamp < 0) = false := by rw [decide_eq_false_iff_not]; have := hbp.stamp; omega
  have e6 : decide (1099511627776 < s.stamp) = false := by rw [decide_eq_false_iff_not]; have := hbp.stamp; omega
  have q1 : decide (s.refunded < 0) = false := by rw [decide_eq_false_iff_not]; have := hbp.refunded; omega
  have q2 : decide (s.paid < s.refunded) = false := by rw [decide_eq_false_iff_not]; have := hbp.refunded; omega
  have q3 : decide (s.paid < 0) = false := by rw [decide_eq_false_iff_not]; have := hbp.refunded; omega
  have hn := (bounded_lined hf).2
  have hl := (bounded_lined hf).1
  obtain ⟨c, hc⟩ : ∃ c, c = evCheck 4 (evWho s.who) := ⟨_, rfl⟩
  have hcn : (c == 0) = namedB s.who := by rw [hc]; exact evWho_check 4 (.inl rfl) s.who
  have HC := Lib.hid (show ∀ W : World, Calls Tryd.prog 19 #[.int .i64 4, .agg #[.int .i64 1, .int .i64 1, .int .i64 0, .int .i64 0, .int .i64 0, .int .i64 0, .int .i64 0, .string ⟨s.who.toArray⟩, .int .i64 0, .string ⟨#[]⟩]] W (ChkPost c W) from fun W => hc ▸ refCheckB_any 4 (evWho s.who) W (evWho_ok s.who hw))
  have HLN := Lib.hid (show ∀ W : World, LnRow W lv s.lines → Calls Tryd.prog 20 #[stV s lv] W fun e w' => e = .returned (.bool (linedB s.lines)) ∧ Below W.heap.size W w' from fun W h => rlines_any s lv W h)
  have HE0 := Lib.hid (show StBlk (w.alloc (.cells (stCs s lv) 25)) w.heap.size s lv ∧ LnRow (w.alloc (.cells (stCs s lv) 25)) lv s.lines ∧ Below w.heap.size w (w.alloc (.cells (stCs s lv) 25)) from by
    have hb : Below w.heap.size w (w.alloc (.cells (stCs s lv) 25)) := (Below.refl _ _).alloc (Nat.le_refl _) _
    exact ⟨stBlk_alloc w s lv, hr.below hb, hb⟩)
  have c0 : (c != 0) = false := by rw [hn, beq_iff_eq] at hcn; rw [bne_eq_false_iff_eq]; exact hcn
  rw [hl] at HLN
  obtain ⟨D, hD⟩ : ∃ D, D = dueOf s := ⟨_, rfl⟩
  have HDU := Lib.hid (show ∀ W : World, LnRow W lv s.lines → Calls Tryd.prog 21 #[stV s lv] W fun e w' => e = .returned (.int .i64 D) ∧ Below W.heap.size W w' from fun W h => hD ▸ rdue_any s lv W h hbp.fine hbp.few hbp.tax.1 hbp.tax.2)
  have HSS := Lib.hid (show ∀ W : World, Calls Tryd.prog 22 #[stV s lv] W fun e w' => e = .returned (.int .i64 1) ∧ Below W.heap.size W w' from fun W => by have h := rstands_held s lv W hs; rw [hp] at h; exact h)
  have HUN := Lib.hid (show ∀ W : World, LnRow W lv s.lines → Calls Tryd.prog 23 #[stV s lv] W fun e w' => e = .returned (.bool (noneB s.lines)) ∧ Below W.heap.size W w' from fun W h => runtouched_any s lv W h hbp.fine)
  have HWH := Lib.hid (show ∀ W : World, LnRow W lv s.lines → Calls Tryd.prog 24 #[stV s lv] W fun e w' => e = .returned (.bool (wholeB s.lines)) ∧ Below W.heap.size W w' from fun W h => rwhole_any s lv W h hbp.fine)
  obtain ⟨nB, hnB⟩ : ∃ x, x = noneB s.lines := ⟨_, rfl⟩
  obtain ⟨wB, hwB⟩ : ∃ x, x = wholeB s.lines := ⟨_, rfl⟩
  rw [← hnB] at HUN
  rw [← hwB] at HWH
  rw [← hD] at hm g1
  rw [← hnB] at HVb
  have d1 : decide (D < s.paid) = false := decide_eq_false hm
  have hm2 : s.paid ≤ D := by omega
  have HS := Lib.hid hs
  have HP := Lib.hid hp
  obtain ⟨oa, cap, hlv, _, _, _⟩ := hr.shape
  have HLV := Lib.hid hlv
  clear hc hcn hn hl hr hw hf hbp hD hm hs hp hnB hwB hlv
  go_enter Tryd.func11, Tryd.ntmps11
  go_wp2_with (first
    | (go_at_call 19; (with_reducible refine (HC.out _).mono ?_); rintro x w1 ⟨rfl, hb1⟩; have HE1 := Lib.hid (show StBlk w1 w.heap.size s lv ∧ LnRow w1 lv s.lines ∧ Below w.heap.size w w1 from ⟨HE0.out.1.below hb1, HE0.out.2.1.below hb1, Below.next HE0.out.2.2 hb1⟩); clear hb1; have z0 := HE1.out.1.c0; have z1 := HE1.out.1.c1; have z2 := HE1.out.1.c2; have z3 := HE1.out.1.c3; have z4 := HE1.out.1.c4; have z5 := HE1.out.1.c5; have z6 := HE1.out.1.c6; have z7 := HE1.out.1.c7; have z8 := HE1.out.1.c8; have z9 := HE1.out.1.c9; have z10 := HE1.out.1.c10; have z11 := HE1.out.1.c11)
    | (with_reducible refine wpList_load_st rfl (.tmp 1) rfl w.heap.size s lv rfl HE1.out.1 ?_)
    | (go_at_call 20; refine (HLN.out _ HE1.out.2.1).mono ?_; rintro x w2 ⟨rfl, hb2⟩; have HE2 := Lib.hid (show StBlk w2 w.heap.size s lv ∧ LnRow w2 lv s.lines ∧ Below w.heap.size w w2 from ⟨HE1.out.1.below hb2, HE1.out.2.1.below hb2, Below.next HE1.out.2.2 hb2⟩); clear hb2))
  clear z0 z1 z2 z3 z4 z5 z6 z7 z8 z9 z10 z11 HE0 HE1 HC HLN
  refine wp_region_held_drew (S := fun w' => StBlk w' w.heap.size s lv ∧ LnRow w' lv s.lines ∧ Below w.heap.size w w') (by kernel_rfl) ⟨HE2.out.1, HE2.out.2.1, Below.next HE2.out.2.2 (below_drewN' _ 1)⟩ (fun hHeld => ?_)
  refine tk 0 rfl ?v_0_346 ?hy_0_346 ?r_0_346
  case hy_0_346 => intro w h; have k4 := h.1.c4; have k6 := h.1.c6; have k7 := h.1.c7; go_simp; try with_reducible rfl
  simp only [pA, pB, pC, pD]
  refine tk 1 rfl ?v_1_347 ?hy_1_347 ?r_1_347
  case hy_1_347 => intro w h; have k4 := h.1.c4; have k6 := h.1.c6; have k7 := h.1.c7; go_simp; try with_reducible rfl
  simp only [pA, pB, pC, pD]
  refine tk 2 rfl ?v_2_348 ?hy_2_348 ?r_2_348
  case hy_2_348 => intro w h; have k4 := h.1.c4; have k6 := h.1.c6; have k7 := h.1.c7; go_simp; try with_reducible rfl
  simp only [pA, pB, pC, pD]
  refine tk 3 rfl ?v_3_349 ?hy_3_349 ?r_3_349
  case hy_3_349 => intro w h; have k4 := h.1.c4; have k6 := h.1.c6; have k7 := h.1.c7; go_simp; try with_reducible rfl
  simp only [pA, pB, pC, pD]
  refine tk 4 rfl ?v_4_350 ?hy_4_350 ?r_4_350
  case hy_4_350 => intro w h; have k4 := h.1.c4; have k6 := h.1.c6; have k7 := h.1.c7; go_simp; try with_reducible rfl
  simp only [pA, pB, pC, pD]
  refine tk 5 rfl ?v_5_351 ?hy_5_351 ?r_5_351
  case hy_5_351 => intro w h; have k4 := h.1.c4; have k6 := h.1.c6; have k7 := h.1.c7; go_simp; try with_reducible rfl
  simp only [pA, pB, pC, pD]
  refine tk 6 rfl ?v_6_352 ?hy_6_352 ?r_6_352
  case hy_6_352 => intro w h; have k4 := h.1.c4; have k6 := h.1.c6; have k7 := h.1.c7; go_simp; try with_reducible rfl
  simp only [pA, pB, pC, pD]
  refine tk 7 rfl ?v_7_353 ?hy_7_353 ?r_7_353
  case hy_7_353 => intro w h; have k4 := h.1.c4; have k6 := h.1.c6; have k7 := h.1.c7; go_simp; try with_reducible rfl
  simp only [pA, pB, pC, pD]
  refine tk 8 rfl ?v_8_354 ?hy_8_354 ?r_8_354
  case hy_8_354 => intro w h; have k4 := h.1.c4; have k6 := h.1.c6; have k7 := h.1.c7; go_simp; try with_reducible rfl
  simp only [pA, pB, pC, pD]
  refine tk 9 rfl ?v_9_355 ?hy_9_355 ?r_9_355
  case hy_9_355 => intro w h; have k4 := h.1.c4; have k6 := h.1.c6; have k7 := h.1.c7; go_simp; try with_reducible rfl
  simp only [pA, pB, pC, pD]
  refine tk 10 rfl ?v_10_356 ?hy_10_356 ?r_10_356
  case hy_10_356 => intro w h; have k4 := h.1.c4; have k6 := h.1.c6; have k7 := h.1.c7; go_simp; try with_reducible rfl
  simp only [pA, pB, pC, pD]
  refine tk 11 rfl ?v_11_357 ?hy_11_357 ?r_11_357
  case hy_11_357 => intro w h; have k4 := h.1.c4; have k6 := h.1.c6; have k7 := h.1.c7; go_simp; try with_reducible rfl
  simp only [pA, pB, pC, pD]
  refine tk 12 rfl ?v_12_358 ?hy_12_358 ?r_12_358
  case hy_12_358 => intro w h; have k4 := h.1.c4; have k6 := h.1.c6; have k7 := h.1.c7; go_simp; try with_reducible rfl
  simp only [pA, pB, pC, pD]
  refine tk 13 rfl ?v_13_359 ?hy_13_359 ?r_13_359
  case hy_13_359 => intro w h; have k4 := h.1.c4; have k6 := h.1.c6; have k7 := h.1.c7; go_simp; try with_reducible rfl
  simp only [pA, pB, pC, pD]
  refine tk 14 rfl ?v_14_360 ?hy_14_360 ?r_14_360
  case hy_14_360 => intro w h; have k4 := h.1.c4; have k6 := h.1.c6; have k7 := h.1.c7; go_simp; try with_reducible rfl
  simp only [pA, pB, pC, pD]
  refine tk 15 rfl ?v_15_361 ?hy_15_361 ?r_15_361
  case hy_15_361 => intro w h; have k4 := h.1.c4; have k6 := h.1.c6; have k7 := h.1.c7; go_simp; try with_reducible rfl
  simp only [pA, pB, pC, pD]
  refine tk 16 rfl ?v_16_362 ?hy_16_362 ?r_16_362
  case hy_16_362 => intro w h; have k4 := h.1.c4; have k6 := h.1.c6; have k7 := h.1.c7; go_simp; try with_reducible rfl
  simp only [pA, pB, pC, pD]
  refine tk 17 rfl ?v_17_363 ?hy_17_363 ?r_17_363
  case hy_17_363 => intro w h; have k4 := h.1.c4; have k6 := h.1.c6; have k7 := h.1.c7; go_simp; try with_reducible rfl
  simp only [pA, pB, pC, pD]
  refine wpAnyH_take (i := 18) (oi := ⟨_, _, _, _, _, _⟩) (v := stV s lv) rfl (by kernel_rfl) (by kernel_rfl) (by kernel_rfl) (fun _ _ _ h => h) (yieldsIf_load_mid (by kernel_rfl) 25 (.tmp 1) rfl w.heap.size 0 rfl (stCs s lv).toList _ (fun w' h j v hv => by rw [Nat.zero_add, h.1.cell]; simpa using hv) Tryd.underlying25 rfl (by rw [stInfo]; rfl)) (by assumption) ?_
  simp only [pA, pB, pC, pD]
  refine wpAnyH_ready (rs := [19]) (by kernel_rfl) (by simp) ?_
  refine AllReadyH.cons rfl (fun K hK => ?_) AllReadyH.nil
  go_simp
  go_at_call 21
  obtain ⟨hSt, hLn, hBe⟩ := hHeld
  refine (HDU.out _ hLn).mono ?_
  rintro x w3 ⟨rfl, hb⟩
  go_wp2_with fail
  refine hK.out _ _ ⟨hSt.below hb, hLn.below hb, Below.next hBe hb⟩ (fun hHeld => ?_)
  clear hK K hSt hLn hBe hb
  refine tk 20 rfl ?v_20_364 ?hy_20_364 ?r_20_364
  case hy_20_364 => intro w h; have k4 := h.1.c4; have k6 := h.1.c6; have k7 := h.1.c7; go_simp; try with_reducible rfl
  simp only [pA, pB, pC, pD]
  refine tk 21 rfl ?v_21_365 ?hy_21_365 ?r_21_365
  case hy_21_365 => intro w h; have k4 := h.1.c4; have k6 := h.1.c6; have k7 := h.1.c7; go_simp; try with_reducible rfl
  simp only [pA, pB, pC, pD]
  refine wpAnyH_done (by kernel_rfl) ?_ _
  have c1 : w3.cell? ⟨w.heap.size, 1, none⟩ = some (.int .i64 2) := by rw [hHeld.1.cell 1, stCs, HS.out]; rfl
  have c2 : w3.cell? ⟨w.heap.size, 2, none⟩ = some (.int .i64 1) := by rw [hHeld.1.cell 2, stCs, HP.out]; rfl
  have HE := Lib.hid hHeld
  clear hHeld HE2 k1 k2 k3 k4 k5 k6 k7 k8 e1 e2 e3 e4 e5 e6 q1 q2 q3 c0
  go_wp2
  clear c1 c2
  refine wp_region_held_drew (S := fun w' => StBlk w' w.heap.size s lv ∧ LnRow w' lv s.lines ∧ Below w.heap.size w w') (by kernel_rfl) ⟨HE.out.1, HE.out.2.1, Below.next HE.out.2.2 (below_drewN' _ 1)⟩ (fun hHeld => ?_)
  refine tk 0 rfl ?v_0_366 ?hy_0_366 ?r_0_366
  case hy_0_366 => intro w h; have k4 := h.1.c4; have k6 := h.1.c6; have k7 := h.1.c7; go_simp; try with_reducible rfl
  simp only [pA, pB, pC, pD]
  refine tk 1 rfl ?v_1_367 ?hy_1_367 ?r_1_367
  case hy_1_367 => intro w h; have k4 := h.1.c4; have k6 := h.1.c6; have k7 := h.1.c7; go_simp; try with_reducible rfl
  simp only [pA, pB, pC, pD]
  refine tk 2 rfl ?v_2_368 ?hy_2_368 ?r_2_368
  case hy_2_368 => intro w h; have k4 := h.1.c4; have k6 := h.1.c6; have k7 := h.1.c7; go_simp; try with_reducible rfl
  simp only [pA, pB, pC, pD]
  refine tk 3 rfl ?v_3_369 ?hy_3_369 ?r_3_369
  case hy_3_369 => intro w h; have k4 := h.1.c4; have k6 := h.1.c6; have k7 := h.1.c7; go_simp; try with_reducible rfl
  simp only [pA, pB, pC, pD]
  refine tk 4 rfl ?v_4_370 ?hy_4_370 ?r_4_370
  case hy_4_370 => intro w h; have k4 := h.1.c4; have k6 := h.1.c6; have k7 := h.1.c7; go_simp; try with_reducible rfl
  simp only [pA, pB, pC, pD]
  refine tk 5 rfl ?v_5_371 ?hy_5_371 ?r_5_371
  case hy_5_371 => intro w h; have k4 := h.1.c4; have k6 := h.1.c6; have k7 := h.1.c7; go_simp; try with_reducible rfl
  simp only [pA, pB, pC, pD]
  refine wpAnyH_take (i := 6) (oi := ⟨_, _, _, _, _, _⟩) (v := stV s lv) rfl (by kernel_rfl) (by kernel_rfl) (by kernel_rfl) (fun _ _ _ h => h) (yieldsIf_load_mid (by kernel_rfl) 25 (.tmp 1) rfl w.heap.size 0 rfl (stCs s lv).toList _ (fun w' h j v hv => by rw [Nat.zero_add, h.1.cell]; simpa using hv) Tryd.underlying25 rfl (by rw [stInfo]; rfl)) (by assumption) ?_
  simp only [pA, pB, pC, pD]
  refine wpAnyH_ready (rs := [7]) (by kernel_rfl) (by simp) ?_
  refine AllReadyH.cons rfl (fun K hK => ?_) AllReadyH.nil
  go_simp
  go_at_call 21
  obtain ⟨hSt, hLn, hBe⟩ := hHeld
  refine (HDU.out _ hLn).mono ?_
  rintro x w4 ⟨rfl, hb⟩
  go_wp2_with fail
  refine hK.out _ _ ⟨hSt.below hb, hLn.below hb, Below.next hBe hb⟩ (fun hHeld => ?_)
  clear hK K hSt hLn hBe hb
  refine tk 8 rfl ?v_8_372 ?hy_8_372 ?r_8_372
  case hy_8_372 => intro w h; have k4 := h.1.c4; have k6 := h.1.c6; have k7 := h.1.c7; go_simp; try with_reducible rfl
  simp only [pA, pB, pC, pD]
  refine tk 9 rfl ?v_9_373 ?hy_9_373 ?r_9_373
  case hy_9_373 => intro w h; have k4 := h.1.c4; have k6 := h.1.c6; have k7 := h.1.c7; go_simp; try with_reducible rfl
  simp only [pA, pB, pC, pD]
  refine tk 10 rfl ?v_10_374 ?hy_10_374 ?r_10_374
  case hy_10_374 => intro w h; have k4 := h.1.c4; have k6 := h.1.c6; have k7 := h.1.c7; go_simp; try with_reducible rfl
  simp only [pA, pB, pC, pD]
  refine wpAnyH_done (by kernel_rfl) ?_ _
  have HE4 := Lib.hid hHeld
  clear hHeld HE HDU
  cases nB
  · skip
    go_wp2_with (first
      | (with_reducible refine wpList_load_st rfl (.tmp 1) rfl w.heap.size s lv rfl HE4.out.1 ?_)
      | (go_at_call 22; refine (HSS.out _).mono ?_; rintro x w5 ⟨rfl, hb⟩; have HE5 := Lib.hid (show StBlk w5 w.heap.size s lv ∧ LnRow w5 lv s.lines ∧ Below w.heap.size w w5 from ⟨HE4.out.1.below hb, HE4.out.2.1.below hb, Below.next HE4.out.2.2 hb⟩); clear hb
         have z0 := HE5.out.1.c0; have z1 := HE5.out.1.c1; have z2 := HE5.out.1.c2; have z3 := HE5.out.1.c3; have z4 := HE5.out.1.c4; have z6 := HE5.out.1.c6; have z7 := HE5.out.1.c7; have z8 := HE5.out.1.c8; have z9 := HE5.out.1.c9; have z10 := HE5.out.1.c10; have z11 := HE5.out.1.c11; have z5 : w5.cell? ⟨w.heap.size, 5, none⟩ = some lv := HE5.out.1.cell 5)
      | (with_reducible refine wpList_load_st rfl (.tmp 1) rfl w.heap.size s lv rfl HE5.out.1 ?_)
      | (go_at_call 23; refine (HUN.out _ HE5.out.2.1).mono ?_; rintro x w6 ⟨rfl, hb⟩; have z7' : w6.cell? ⟨w.heap.size, 7, none⟩ = some (.int .i64 s.refunded) := cell_later hb z7; have HB := Lib.hid (Below.next HE5.out.2.2 hb); clear hb))
    go_ret
    exact ⟨by rw [HVb.out]; rfl, HB.out⟩
  · by_cases hrf : s.refunded = 0
    · have r1 : (s.refunded == 0) = true := by rw [beq_iff_eq]; exact hrf
      clear hrf
      go_wp2_with (first
        | (with_reducible refine wpList_load_st rfl (.tmp 1) rfl w.heap.size s lv rfl HE4.out.1 ?_)
        | (go_at_call 22; refine (HSS.out _).mono ?_; rintro x w5 ⟨rfl, hb⟩; have HE5 := Lib.hid (show StBlk w5 w.heap.size s lv ∧ LnRow w5 lv s.lines ∧ Below w.heap.size w w5 from ⟨HE4.out.1.below hb, HE4.out.2.1.below hb, Below.next HE4.out.2.2 hb⟩); clear hb
           have z0 := HE5.out.1.c0; have z1 := HE5.out.1.c1; have z2 := HE5.out.1.c2; have z3 := HE5.out.1.c3; have z4 := HE5.out.1.c4; have z6 := HE5.out.1.c6; have z7 := HE5.out.1.c7; have z8 := HE5.out.1.c8; have z9 := HE5.out.1.c9; have z10 := HE5.out.1.c10; have z11 := HE5.out.1.c11; have z5 : w5.cell? ⟨w.heap.size, 5, none⟩ = some lv := HE5.out.1.cell 5)
        | (with_reducible refine wpList_load_st rfl (.tmp 1) rfl w.heap.size s lv rfl HE5.out.1 ?_)
        | (go_at_call 23; refine (HUN.out _ HE5.out.2.1).mono ?_; rintro x w6 ⟨rfl, hb⟩; have z7' : w6.cell? ⟨w.heap.size, 7, none⟩ = some (.int .i64 s.refunded) := cell_later hb z7; have HB := Lib.hid (Below.next HE5.out.2.2 hb); clear hb))
      go_ret
      exact ⟨by rw [HVb.out, r1]; rfl, HB.out⟩
    · have r1 : (s.refunded == 0) = false := by rw [beq_eq_false_iff_ne]; exact hrf
      clear hrf
      go_wp2_with (first
        | (with_reducible refine wpList_load_st rfl (.tmp 1) rfl w.heap.size s lv rfl HE4.out.1 ?_)
        | (go_at_call 22; refine (HSS.out _).mono ?_; rintro x w5 ⟨rfl, hb⟩; have HE5 := Lib.hid (show StBlk w5 w.heap.size s lv ∧ LnRow w5 lv s.lines ∧ Below w.heap.size w w5 from ⟨HE4.out.1.below hb, HE4.out.2.1.below hb, Below.next HE4.out.2.2 hb⟩); clear hb
           have z0 := HE5.out.1.c0; have z1 := HE5.out.1.c1; have z2 := HE5.out.1.c2; have z3 := HE5.out.1.c3; have z4 := HE5.out.1.c4; have z6 := HE5.out.1.c6; have z7 := HE5.out.1.c7; have z8 := HE5.out.1.c8; have z9 := HE5.out.1.c9; have z10 := HE5.out.1.c10; have z11 := HE5.out.1.c11; have z5 : w5.cell? ⟨w.heap.size, 5, none⟩ = some lv := HE5.out.1.cell 5)
        | (with_reducible refine wpList_load_st rfl (.tmp 1) rfl w.heap.size s lv rfl HE5.out.1 ?_)
        | (go_at_call 23; refine (HUN.out _ HE5.out.2.1).mono ?_; rintro x w6 ⟨rfl, hb⟩; have z7' : w6.cell? ⟨w.heap.size, 7, none⟩ = some (.int .i64 s.refunded) := cell_later hb z7; have HB := Lib.hid (Below.next HE5.out.2.2 hb); clear hb))
      go_ret
      exact ⟨by rw [HVb.out, r1]; rfl, HB.out⟩

set_option maxRecDepth 100000 in
set_option maxHeartbeats 16000000 in
theorem rvok_2_1_2 (s : St) (lv : Value) (w : World) (hr : LnRow w lv s.lines) (hw : s.who.length ≤ 281474976710656) (hf : boundedB s = true) (hm : ¬ dueOf s < s.paid) (hs : s.status = 2) (hp : s.prior = 1) (g3 : decide (0 < s.paid) = true) (g1 : (s.paid == dueOf s) = true) :
    Calls Tryd.prog 11 #[stV s lv] w fun e w' => e = .returned (.bool (validB s)) ∧ Below w.heap.size w w' := by
  have HVb := Lib.hid (show validB s = (noneB s.lines && !true && s.refunded == 0) by
    have h1 : validB s = standB s 1 := by unfold validB; rw [hf, decide_eq_true (by omega), hs, hp]; rfl
    have h2 : (s.paid == dueOf s && decide (0 < s.paid)) = true := by rw [g3, g1]; rfl
    rw [h1]; unfold standB; rw [h2]; rfl)
  have hbp := bounded_p hf
  have k1 : decide (s.order < 1) = false := by rw [decide_eq_false_iff_not]; have := hbp.order; omega
  have k2 : decide (1099511627776 < s.order) = false := by rw [decide_eq_false_iff_not]; have := hbp.order; omega
  have k3 : decide (s.status < 0) = false := by rw [decide_eq_false_iff_not]; have := hbp.status; omega
  have k4 : decide (5 < s.status) = false := by rw [decide_eq_false_iff_not]; have := hbp.status; omega
  have k5 : decide (s.cur < 0) = false := by rw [decide_eq_false_iff_not]; have := hbp.cur; omega
  have k6 : decide (3 < s.cur) = false := by rw [decide_eq_false_iff_not]; have := hbp.cur; omega
  have k7 : decide (s.tax < 0) = false := by rw [decide_eq_false_iff_not]; have := hbp.tax; omega
  have k8 : decide (5000 < s.tax) = false := by rw [decide_eq_false_iff_not]; have := hbp.tax; omega
  have e1 : decide (s.events < 0) = false := by rw [decide_eq_false_iff_not]; have := hbp.events; omega
  have e2 : decide (1099511627776 < s.events) = false := by rw [decide_eq_false_iff_not]; have := hbp.events; omega
  have e3 : decide (s.refused < 0) = false := by rw [decide_eq_false_iff_not]; have := hbp.refused; omega
  have e4 : decide (s.events < s.refused) = false := by rw [decide_eq_false_iff_not]; have := hbp.events; have := hbp.refused; omega
  have e5 : decide (s.stamp < 0) = false := by rw [decide_eq_false_iff_not]; have := hbp.stamp; omega
  have e6 : decide (1099511627776 < s.stamp) = false := by rw [decide_eq_false_iff_not]; have := hbp.stamp; omega
  have q1 : decide (s.refunded < 0) = false := by rw [decide_eq_false_iff_not]; have := hbp.refunded; omega
  have q2 : decide (s.paid < s.refunded) = false := by rw [decide_eq_false_iff_not]; have := hbp.refunded; omega
  have q3 : decide (s.paid < 0) = false := by rw [decide_eq_false_iff_not]; have := hbp.refunded; omega
  have hn := (bounded_lined hf).2
  have hl := (bounded_lined hf).1
  obtain ⟨c, hc⟩ : ∃ c, c = evCheck 4 (evWho s.who) := ⟨_, rfl⟩
  have hcn : (c == 0) = namedB s.who := by rw [hc]; exact evWho_check 4 (.inl rfl) s.who
  have HC := Lib.hid (show ∀ W : World, Calls Tryd.prog 19 #[.int .i64 4, .agg #[.int .i64 1, .int .i64 1, .int .i64 0, .int .i64 0, .int .i64 0, .int .i64 0, .int .i64 0, .string ⟨s.who.toArray⟩, .int .i64 0, .string ⟨#[]⟩]] W (ChkPost c W) from fun W => hc ▸ refCheckB_any 4 (evWho s.who) W (evWho_ok s.who hw))
  have HLN := Lib.hid (show ∀ W : World, LnRow W lv s.lines → Calls Tryd.prog 20 #[stV s lv] W fun e w' => e = .returned (.bool (linedB s.lines)) ∧ Below W.heap.size W w' from fun W h => rlines_any s lv W h)
  have HE0 := Lib.hid (show StBlk (w.alloc (.cells (stCs s lv) 25)) w.heap.size s lv ∧ LnRow (w.alloc (.cells (stCs s lv) 25)) lv s.lines ∧ Below w.heap.size w (w.alloc (.cells (stCs s lv) 25)) from by
    have hb : Below w.heap.size w (w.alloc (.cells (stCs s lv) 25)) := (Below.refl _ _).alloc (Nat.le_refl _) _
    exact ⟨stBlk_alloc w s lv, hr.below hb, hb⟩)
  have c0 : (c != 0) = false := by rw [hn, beq_iff_eq] at hcn; rw [bne_eq_false_iff_eq]; exact hcn
  rw [hl] at HLN
  obtain ⟨D, hD⟩ : ∃ D, D = dueOf s := ⟨_, rfl⟩
  have HDU := Lib.hid (show ∀ W : World, LnRow W lv s.lines → Calls Tryd.prog 21 #[stV s lv] W fun e w' => e = .returned (.int .i64 D) ∧ Below W.heap.size W w' from fun W h => hD ▸ rdue_any s lv W h hbp.fine hbp.few hbp.tax.1 hbp.tax.2)
  have HSS := Lib.hid (show ∀ W : World, Calls Tryd.prog 22 #[stV s lv] W fun e w' => e = .returned (.int .i64 1) ∧ Below W.heap.size W w' from fun W => by have h := rstands_held s lv W hs; rw [hp] at h; exact h)
  have HUN := Lib.hid (show ∀ W : World, LnRow W lv s.lines → Calls Tryd.prog 23 #[stV s lv] W fun e w' => e = .returned (.bool (noneB s.lines)) ∧ Below W.heap.size W w' from fun W h => runtouched_any s lv W h hbp.fine)
  have HWH := Lib.hid (show ∀ W : World, LnRow W lv s.lines → Calls Tryd.prog 24 #[stV s lv] W fun e w' => e = .returned (.bool (wholeB s.lines)) ∧ Below W.heap.size W w' from fun W h => rwhole_any s lv W h hbp.fine)
  obtain ⟨nB, hnB⟩ : ∃ x, x = noneB s.lines := ⟨_, rfl⟩
  obtain ⟨wB, hwB⟩ : ∃ x, x = wholeB s.lines := ⟨_, rfl⟩
  rw [← hnB] at HUN
  rw [← hwB] at HWH
  rw [← hD] at hm g1
  rw [← hnB] at HVb
  have d1 : decide (D < s.paid) = false := decide_eq_false hm
  have hm2 : s.paid ≤ D := by omega
  have HS := Lib.hid hs
  have HP := Lib.hid hp
  obtain ⟨oa, cap, hlv, _, _, _⟩ := hr.shape
  have HLV := Lib.hid hlv
  clear hc hcn hn hl hr hw hf hbp hD hm hs hp hnB hwB hlv
  go_enter Tryd.func11, Tryd.ntmps11
  go_wp2_with (first
    | (go_at_call 19; (with_reducible refine (HC.out _).mono ?_); rintro x w1 ⟨rfl, hb1⟩; have HE1 := Lib.hid (show StBlk w1 w.heap.size s lv ∧ LnRow w1 lv s.lines ∧ Below w.heap.size w w1 from ⟨HE0.out.1.below hb1, HE0.out.2.1.below hb1, Below.next HE0.out.2.2 hb1⟩); clear hb1; have z0 := HE1.out.1.c0; have z1 := HE1.out.1.c1; have z2 := HE1.out.1.c2; have z3 := HE1.out.1.c3; have z4 := HE1.out.1.c4; have z5 := HE1.out.1.c5; have z6 := HE1.out.1.c6; have z7 := HE1.out.1.c7; have z8 := HE1.out.1.c8; have z9 := HE1.out.1.c9; have z10 := HE1.out.1.c10; have z11 := HE1.out.1.c11)
    | (with_reducible refine wpList_load_st rfl (.tmp 1) rfl w.heap.size s lv rfl HE1.out.1 ?_)
    | (go_at_call 20; refine (HLN.out _ HE1.out.2.1).mono ?_; rintro x w2 ⟨rfl, hb2⟩; have HE2 := Lib.hid (show StBlk w2 w.heap.size s lv ∧ LnRow w2 lv s.lines ∧ Below w.heap.size w w2 from ⟨HE1.out.1.below hb2, HE1.out.2.1.below hb2, Below.next HE1.out.2.2 hb2⟩); clear hb2))
  clear z0 z1 z2 z3 z4 z5 z6 z7 z8 z9 z10 z11 HE0 HE1 HC HLN
  refine wp_region_held_drew (S := fun w' => StBlk w' w.heap.size s lv ∧ LnRow w' lv s.lines ∧ Below w.heap.size w w') (by kernel_rfl) ⟨HE2.out.1, HE2.out.2.1, Below.next HE2.out.2.2 (below_drewN' _ 1)⟩ (fun hHeld => ?_)
  refine tk 0 rfl ?v_0_375 ?hy_0_375 ?r_0_375
  case hy_0_375 => intro w h; have k4 := h.1.c4; have k6 := h.1.c6; have k7 := h.1.c7; go_simp; try with_reducible rfl
  simp only [pA, pB, pC, pD]
  refine tk 1 rfl ?v_1_376 ?hy_1_376 ?r_1_376
  case hy_1_376 => intro w h; have k4 := h.1.c4; have k6 := h.1.c6; have k7 := h.1.c7; go_simp; try with_reducible rfl
  simp only [pA, pB, pC, pD]
  refine tk 2 rfl ?v_2_377 ?hy_2_377 ?r_2_377
  case hy_2_377 => intro w h; have k4 := h.1.c4; have k6 := h.1.c6; have k7 := h.1.c7; go_simp; try with_reducible rfl
  simp only [pA, pB, pC, pD]
  refine tk 3 rfl ?v_3_378 ?hy_3_378 ?r_3_378
  case hy_3_378 => intro w h; have k4 := h.1.c4; have k6 := h.1.c6; have k7 := h.1.c7; go_simp; try with_reducible rfl
  simp only [pA, pB, pC, pD]
  refine tk 4 rfl ?v_4_379 ?hy_4_379 ?r_4_379
  case hy_4_379 => intro w h; have k4 := h.1.c4; have k6 := h.1.c6; have k7 := h.1.c7; go_simp; try with_reducible rfl
  simp only [pA, pB, pC, pD]
  refine tk 5 rfl ?v_5_380 ?hy_5_380 ?r_5_380
  case hy_5_380 => intro w h; have k4 := h.1.c4; have k6 := h.1.c6; have k7 := h.1.c7; go_simp; try with_reducible rfl
  simp only [pA, pB, pC, pD]
  refine tk 6 rfl ?v_6_381 ?hy_6_381 ?r_6_381
  case hy_6_381 => intro w h; have k4 := h.1.c4; have k6 := h.1.c6; have k7 := h.1.c7; go_simp; try with_reducible rfl
  simp only [pA, pB, pC, pD]
  refine tk 7 rfl ?v_7_382 ?hy_7_382 ?r_7_382
  case hy_7_382 => intro w h; have k4 := h.1.c4; have k6 := h.1.c6; have k7 := h.1.c7; go_simp; try with_reducible rfl
  simp only [pA, pB, pC, pD]
  refine tk 8 rfl ?v_8_383 ?hy_8_383 ?r_8_383
  case hy_8_383 => intro w h; have k4 := h.1.c4; have k6 := h.1.c6; have k7 := h.1.c7; go_simp; try with_reducible rfl
  simp only [pA, pB, pC, pD]
  refine tk 9 rfl ?v_9_384 ?hy_9_384 ?r_9_384
  case hy_9_384 => intro w h; have k4 := h.1.c4; have k6 := h.1.c6; have k7 := h.1.c7; go_simp; try with_reducible rfl
  simp only [pA, pB, pC, pD]
  refine tk 10 rfl ?v_10_385 ?hy_10_385 ?r_10_385
  case hy_10_385 => intro w h; have k4 := h.1.c4; have k6 := h.1.c6; have k7 := h.1.c7; go_simp; try with_reducible rfl
  simp only [pA, pB, pC, pD]
  refine tk 11 rfl ?v_11_386 ?hy_11_386 ?r_11_386
  case hy_11_386 => intro w h; have k4 := h.1.c4; have k6 := h.1.c6; have k7 := h.1.c7; go_simp; try with_reducible rfl
  simp only [pA, pB, pC, pD]
  refine tk 12 rfl ?v_12_387 ?hy_12_387 ?r_12_387
  case hy_12_387 => intro w h; have k4 := h.1.c4; have k6 := h.1.c6; have k7 := h.1.c7; go_simp; try with_reducible rfl
  simp only [pA, pB, pC, pD]
  refine tk 13 rfl ?v_13_388 ?hy_13_388 ?r_13_388
  case hy_13_388 => intro w h; have k4 := h.1.c4; have k6 := h.1.c6; have k7 := h.1.c7; go_simp; try with_reducible rfl
  simp only [pA, pB, pC, pD]
  refine tk 14 rfl ?v_14_389 ?hy_14_389 ?r_14_389
  case hy_14_389 => intro w h; have k4 := h.1.c4; have k6 := h.1.c6; have k7 := h.1.c7; go_simp; try with_reducible rfl
  simp only [pA, pB, pC, pD]
  refine tk 15 rfl ?v_15_390 ?hy_15_390 ?r_15_390
  case hy_15_390 => intro w h; have k4 := h.1.c4; have k6 := h.1.c6; have k7 := h.1.c7; go_simp; try with_reducible rfl
  simp only [pA, pB, pC, pD]
  refine tk 16 rfl ?v_16_391 ?hy_16_391 ?r_16_391
  case hy_16_391 => intro w h; have k4 := h.1.c4; have k6 := h.1.c6; have k7 := h.1.c7; go_simp; try with_reducible rfl
  simp only [pA, pB, pC, pD]
  refine tk 17 rfl ?v_17_392 ?hy_17_392 ?r_17_392
  case hy_17_392 => intro w h; have k4 := h.1.c4; have k6 := h.1.c6; have k7 := h.1.c7; go_simp; try with_reducible rfl
  simp only [pA, pB, pC, pD]
  refine wpAnyH_take (i := 18) (oi := ⟨_, _, _, _, _, _⟩) (v := stV s lv) rfl (by kernel_rfl) (by kernel_rfl) (by kernel_rfl) (fun _ _ _ h => h) (yieldsIf_load_mid (by kernel_rfl) 25 (.tmp 1) rfl w.heap.size 0 rfl (stCs s lv).toList _ (fun w' h j v hv => by rw [Nat.zero_add, h.1.cell]; simpa using hv) Tryd.underlying25 rfl (by rw [stInfo]; rfl)) (by assumption) ?_
  simp only [pA, pB, pC, pD]
  refine wpAnyH_ready (rs := [19]) (by kernel_rfl) (by simp) ?_
  refine AllReadyH.cons rfl (fun K hK => ?_) AllReadyH.nil
  go_simp
  go_at_call 21
  obtain ⟨hSt, hLn, hBe⟩ := hHeld
  refine (HDU.out _ hLn).mono ?_
  rintro x w3 ⟨rfl, hb⟩
  go_wp2_with fail
  refine hK.out _ _ ⟨hSt.below hb, hLn.below hb, Below.next hBe hb⟩ (fun hHeld => ?_)
  clear hK K hSt hLn hBe hb
  refine tk 20 rfl ?v_20_393 ?hy_20_393 ?r_20_393
  case hy_20_393 => intro w h; have k4 := h.1.c4; have k6 := h.1.c6; have k7 := h.1.c7; go_simp; try with_reducible rfl
  simp only [pA, pB, pC, pD]
  refine tk 21 rfl ?v_21_394 ?hy_21_394 ?r_21_394
  case hy_21_394 => intro w h; have k4 := h.1.c4; have k6 := h.1.c6; have k7 := h.1.c7; go_simp; try with_reducible rfl
  simp only [pA, pB, pC, pD]
  refine wpAnyH_done (by kernel_rfl) ?_ _
  have c1 : w3.cell? ⟨w.heap.size, 1, none⟩ = some (.int .i64 2) := by rw [hHeld.1.cell 1, stCs, HS.out]; rfl
  have c2 : w3.cell? ⟨w.heap.size, 2, none⟩ = some (.int .i64 1) := by rw [hHeld.1.cell 2, stCs, HP.out]; rfl
  have HE := Lib.hid hHeld
  clear hHeld HE2 k1 k2 k3 k4 k5 k6 k7 k8 e1 e2 e3 e4 e5 e6 q1 q2 q3 c0
  go_wp2
  clear c1 c2
  refine wp_region_held_drew (S := fun w' => StBlk w' w.heap.size s lv ∧ LnRow w' lv s.lines ∧ Below w.heap.size w w') (by kernel_rfl) ⟨HE.out.1, HE.out.2.1, Below.next HE.out.2.2 (below_drewN' _ 1)⟩ (fun hHeld => ?_)
  refine tk 0 rfl ?v_0_395 ?hy_0_395 ?r_0_395
  case hy_0_395 => intro w h; have k4 := h.1.c4; have k6 := h.1.c6; have k7 := h.1.c7; go_simp; try with_reducible rfl
  simp only [pA, pB, pC, pD]
  refine tk 1 rfl ?v_1_396 ?hy_1_396 ?r_1_396
  case hy_1_396 => intro w h; have k4 := h.1.c4; have k6 := h.1.c6; have k7 := h.1.c7; go_simp; try with_reducible rfl
  simp only [pA, pB, pC, pD]
  refine tk 2 rfl ?v_2_397 ?hy_2_397 ?r_2_397
  case hy_2_397 => intro w h; have k4 := h.1.c4; have k6 := h.1.c6; have k7 := h.1.c7; go_simp; try with_reducible rfl
  simp only [pA, pB, pC, pD]
  refine tk 3 rfl ?v_3_398 ?hy_3_398 ?r_3_398
  case hy_3_398 => intro w h; have k4 := h.1.c4; have k6 := h.1.c6; have k7 := h.1.c7; go_simp; try with_reducible rfl
  simp only [pA, pB, pC, pD]
  refine tk 4 rfl ?v_4_399 ?hy_4_399 ?r_4_399
  case hy_4_399 => intro w h; have k4 := h.1.c4; have k6 := h.1.c6; have k7 := h.1.c7; go_simp; try with_reducible rfl
  simp only [pA, pB, pC, pD]
  refine tk 5 rfl ?v_5_400 ?hy_5_400 ?r_5_400
  case hy_5_400 => intro w h; have k4 := h.1.c4; have k6 := h.1.c6; have k7 := h.1.c7; go_simp; try with_reducible rfl
  simp only [pA, pB, pC, pD]
  refine wpAnyH_take (i := 6) (oi := ⟨_, _, _, _, _, _⟩) (v := stV s lv) rfl (by kernel_rfl) (by kernel_rfl) (by kernel_rfl) (fun _ _ _ h => h) (yieldsIf_load_mid (by kernel_rfl) 25 (.tmp 1) rfl w.heap.size 0 rfl (stCs s lv).toList _ (fun w' h j v hv => by rw [Nat.zero_add, h.1.cell]; simpa using hv) Tryd.underlying25 rfl (by rw [stInfo]; rfl)) (by assumption) ?_
  simp only [pA, pB, pC, pD]
  refine wpAnyH_ready (rs := [7]) (by kernel_rfl) (by simp) ?_
  refine AllReadyH.cons rfl (fun K hK => ?_) AllReadyH.nil
  go_simp
  go_at_call 21
  obtain ⟨hSt, hLn, hBe⟩ := hHeld
  refine (HDU.out _ hLn).mono ?_
  rintro x w4 ⟨rfl, hb⟩
  go_wp2_with fail
  refine hK.out _ _ ⟨hSt.below hb, hLn.below hb, Below.next hBe hb⟩ (fun hHeld => ?_)
  clear hK K hSt hLn hBe hb
  refine tk 8 rfl ?v_8_401 ?hy_8_401 ?r_8_401
  case hy_8_401 => intro w h; have k4 := h.1.c4; have k6 := h.1.c6; have k7 := h.1.c7; go_simp; try with_reducible rfl
  simp only [pA, pB, pC, pD]
  refine tk 9 rfl ?v_9_402 ?hy_9_402 ?r_9_402
  case hy_9_402 => intro w h; have k4 := h.1.c4; have k6 := h.1.c6; have k7 := h.1.c7; go_simp; try with_reducible rfl
  simp only [pA, pB, pC, pD]
  refine tk 10 rfl ?v_10_403 ?hy_10_403 ?r_10_403
  case hy_10_403 => intro w h; have k4 := h.1.c4; have k6 := h.1.c6; have k7 := h.1.c7; go_simp; try with_reducible rfl
  simp only [pA, pB, pC, pD]
  refine wpAnyH_done (by kernel_rfl) ?_ _
  have HE4 := Lib.hid hHeld
  clear hHeld HE HDU
  cases nB
  · skip
    go_wp2_with (first
      | (with_reducible refine wpList_load_st rfl (.tmp 1) rfl w.heap.size s lv rfl HE4.out.1 ?_)
      | (go_at_call 22; refine (HSS.out _).mono ?_; rintro x w5 ⟨rfl, hb⟩; have HE5 := Lib.hid (show StBlk w5 w.heap.size s lv ∧ LnRow w5 lv s.lines ∧ Below w.heap.size w w5 from ⟨HE4.out.1.below hb, HE4.out.2.1.below hb, Below.next HE4.out.2.2 hb⟩); clear hb
         have z0 := HE5.out.1.c0; have z1 := HE5.out.1.c1; have z2 := HE5.out.1.c2; have z3 := HE5.out.1.c3; have z4 := HE5.out.1.c4; have z6 := HE5.out.1.c6; have z7 := HE5.out.1.c7; have z8 := HE5.out.1.c8; have z9 := HE5.out.1.c9; have z10 := HE5.out.1.c10; have z11 := HE5.out.1.c11; have z5 : w5.cell? ⟨w.heap.size, 5, none⟩ = some lv := HE5.out.1.cell 5)
      | (with_reducible refine wpList_load_st rfl (.tmp 1) rfl w.heap.size s lv rfl HE5.out.1 ?_)
      | (go_at_call 23; refine (HUN.out _ HE5.out.2.1).mono ?_; rintro x w6 ⟨rfl, hb⟩; have z7' : w6.cell? ⟨w.heap.size, 7, none⟩ = some (.int .i64 s.refunded) := cell_later hb z7; have HB := Lib.hid (Below.next HE5.out.2.2 hb); clear hb))
    go_ret
    exact ⟨by rw [HVb.out]; rfl, HB.out⟩
  · by_cases hrf : s.refunded = 0
    · have r1 : (s.refunded == 0) = true := by rw [beq_iff_eq]; exact hrf
      clear hrf
      go_wp2_with (first
        | (with_reducible refine wpList_load_st rfl (.tmp 1) rfl w.heap.size s lv rfl HE4.out.1 ?_)
        | (go_at_call 22; refine (HSS.out _).mono ?_; rintro x w5 ⟨rfl, hb⟩; have HE5 := Lib.hid (show StBlk w5 w.heap.size s lv ∧ LnRow w5 lv s.lines ∧ Below w.heap.size w w5 from ⟨HE4.out.1.below hb, HE4.out.2.1.below hb, Below.next HE4.out.2.2 hb⟩); clear hb
           have z0 := HE5.out.1.c0; have z1 := HE5.out.1.c1; have z2 := HE5.out.1.c2; have z3 := HE5.out.1.c3; have z4 := HE5.out.1.c4; have z6 := HE5.out.1.c6; have z7 := HE5.out.1.c7; have z8 := HE5.out.1.c8; have z9 := HE5.out.1.c9; have z10 := HE5.out.1.c10; have z11 := HE5.out.1.c11; have z5 : w5.cell? ⟨w.heap.size, 5, none⟩ = some lv := HE5.out.1.cell 5)
        | (with_reducible refine wpList_load_st rfl (.tmp 1) rfl w.heap.size s lv rfl HE5.out.1 ?_)
        | (go_at_call 23; refine (HUN.out _ HE5.out.2.1).mono ?_; rintro x w6 ⟨rfl, hb⟩; have z7' : w6.cell? ⟨w.heap.size, 7, none⟩ = some (.int .i64 s.refunded) := cell_later hb z7; have HB := Lib.hid (Below.next HE5.out.2.2 hb); clear hb))
      go_ret
      exact ⟨by rw [HVb.out, r1]; rfl, HB.out⟩
    · have r1 : (s.refunded == 0) = false := by rw [beq_eq_false_iff_ne]; exact hrf
      clear hrf
      go_wp2_with (first
        | (with_reducible refine wpList_load_st rfl (.tmp 1) rfl w.heap.size s lv rfl HE4.out.1 ?_)
        | (go_at_call 22; refine (HSS.out _).mono ?_; rintro x w5 ⟨rfl, hb⟩; have HE5 := Lib.hid (show StBlk w5 w.heap.size s lv ∧ LnRow w5 lv s.lines ∧ Below w.heap.size w w5 from ⟨HE4.out.1.below hb, HE4.out.2.1.below hb, Below.next HE4.out.2.2 hb⟩); clear hb
           have z0 := HE5.out.1.c0; have z1 := HE5.out.1.c1; have z2 := HE5.out.1.c2; have z3 := HE5.out.1.c3; have z4 := HE5.out.1.c4; have z6 := HE5.out.1.c6; have z7 := HE5.out.1.c7; have z8 := HE5.out.1.c8; have z9 := HE5.out.1.c9; have z10 := HE5.out.1.c10; have z11 := HE5.out.1.c11; have z5 : w5.cell? ⟨w.heap.size, 5, none⟩ = some lv := HE5.out.1.cell 5)
        | (with_reducible refine wpList_load_st rfl (.tmp 1) rfl w.heap.size s lv rfl HE5.out.1 ?_)
        | (go_at_call 23; refine (HUN.out _ HE5.out.2.1).mono ?_; rintro x w6 ⟨rfl, hb⟩; have z7' : w6.cell? ⟨w.heap.size, 7, none⟩ = some (.int .i64 s.refunded) := cell_later hb z7; have HB := Lib.hid (Below.next HE5.out.2.2 hb); clear hb))
      go_ret
      exact ⟨by rw [HVb.out, r1]; rfl, HB.out⟩

set_option maxRecDepth 100000 in
set_option maxHeartbeats 16000000 in
theorem rvok_1_0_0 (s : St) (lv : Value) (w : World) (hr : LnRow w lv s.lines) (hw : s.who.length ≤ 281474976710656) (hf : boundedB s = true) (hm : ¬ dueOf s < s.paid) (hs : s.status = 1) (hp : s.prior = 0) (g3 : decide (0 < s.paid) = false) :
    Calls Tryd.prog 11 #[stV s lv] w fun e w' => e = .returned (.bool (validB s)) ∧ Below w.heap.size w w' := by
  have HVb := Lib.hid (show validB s = (noneB s.lines && !false && s.refunded == 0) by
    have h1 : validB s = standB s 1 := by unfold validB; rw [hf, decide_eq_true (by omega), hs, hp]; rfl
    have h2 : (s.paid == dueOf s && decide (0 < s.paid)) = false := by rw [g3]; simp
    rw [h1]; unfold standB; rw [h2]; rfl)
  have hbp := bounded_p hf
  have k1 : decide (s.order < 1) = false := by rw [decide_eq_false_iff_not]; have := hbp.order; omega
  have k2 : decide (1099511627776 < s.order) = false := by rw [decide_eq_false_iff_not]; have := hbp.order; omega
  have k3 : decide (s.status < 0) = false := by rw [decide_eq_false_iff_not]; have := hbp.status; omega
  have k4 : decide (5 < s.status) = false := by rw [decide_eq_false_iff_not]; have := hbp.status; omega
  have k5 : decide (s.cur < 0) = false := by rw [decide_eq_false_iff_not]; have := hbp.cur; omega
  have k6 : decide (3 < s.cur) = false := by rw [decide_eq_false_iff_not]; have := hbp.cur; omega
  have k7 : decide (s.tax < 0) = false := by rw [decide_eq_false_iff_not]; have := hbp.tax; omega
  have k8 : decide (5000 < s.tax) = false := by rw [decide_eq_false_iff_not]; have := hbp.tax; omega
  have e1 : decide (s.events < 0) = false := by rw [decide_eq_false_iff_not]; have := hbp.events; omega
  have e2 : decide (1099511627776 < s.events) = false := by rw [decide_eq_false_iff_not]; have := hbp.events; omega
  have e3 : decide (s.refused < 0) = false := by rw [decide_eq_false_iff_not]; have := hbp.refused; omega
  have e4 : decide (s.events < s.refused) = false := by rw [decide_eq_false_iff_not]; have := hbp.events; have := hbp.refused; omega
  have e5 : decide (s.stamp < 0) = false := by rw [decide_eq_false_iff_not]; have := hbp.stamp; omega
  have e6 : decide (1099511627776 < s.stamp) = false := by rw [decide_eq_false_iff_not]; have := hbp.stamp; omega
  have q1 : decide (s.refunded < 0) = false := by rw [decide_eq_false_iff_not]; have := hbp.refunded; omega
  have q2 : decide (s.paid < s.refunded) = false := by rw [decide_eq_false_iff_not]; have := hbp.refunded; omega
  have q3 : decide (s.paid < 0) = false := by rw [decide_eq_false_iff_not]; have := hbp.refunded; omega
  have hn := (bounded_lined hf).2
  have hl := (bounded_lined hf).1
  obtain ⟨c, hc⟩ : ∃ c, c = evCheck 4 (evWho s.who) := ⟨_, rfl⟩
  have hcn : (c == 0) = namedB s.who := by rw [hc]; exact evWho_check 4 (.inl rfl) s.who
  have HC := Lib.hid (show ∀ W : World, Calls Tryd.prog 19 #[.int .i64 4, .agg #[.int .i64 1, .int .i64 1, .int .i64 0, .int .i64 0, .int .i64 0, .int .i64 0, .int .i64 0, .string ⟨s.who.toArray⟩, .int .i64 0, .string ⟨#[]⟩]] W (ChkPost c W) from fun W => hc ▸ refCheckB_any 4 (evWho s.who) W (evWho_ok s.who hw))
  have HLN := Lib.hid (show ∀ W : World, LnRow W lv s.lines → Calls Tryd.prog 20 #[stV s lv] W fun e w' => e = .returned (.bool (linedB s.lines)) ∧ Below W.heap.size W w' from fun W h => rlines_any s lv W h)
  have HE0 := Lib.hid (show StBlk (w.alloc (.cells (stCs s lv) 25)) w.heap.size s lv ∧ LnRow (w.alloc (.cells (stCs s lv) 25)) lv s.lines ∧ Below w.heap.size w (w.alloc (.cells (stCs s lv) 25)) from by
    have hb : Below w.heap.size w (w.alloc (.cells (stCs s lv) 25)) := (Below.refl _ _).alloc (Nat.le_refl _) _
    exact ⟨stBlk_alloc w s lv, hr.below hb, hb⟩)
  have c0 : (c != 0) = false := by rw [hn, beq_iff_eq] at hcn; rw [bne_eq_false_iff_eq]; exact hcn
  rw [hl] at HLN
  obtain ⟨D, hD⟩ : ∃ D, D = dueOf s := ⟨_, rfl⟩
  have HDU := Lib.hid (show ∀ W : World, LnRow W lv s.lines → Calls Tryd.prog 21 #[stV s lv] W fun e w' => e = .returned (.int .i64 D) ∧ Below W.heap.size W w' from fun W h => hD ▸ rdue_any s lv W h hbp.fine hbp.few hbp.tax.1 hbp.tax.2)
  have HSS := Lib.hid (show ∀ W : World, Calls Tryd.prog 22 #[stV s lv] W fun e w' => e = .returned (.int .i64 1) ∧ Below W.heap.size W w' from fun W => by have h := rstands_else s lv W (by omega); rw [hs] at h; exact h)
  have HUN := Lib.hid (show ∀ W : World, LnRow W lv s.lines → Calls Tryd.prog 23 #[stV s lv] W fun e w' => e = .returned (.bool (noneB s.lines)) ∧ Below W.heap.size W w' from fun W h => runtouched_any s lv W h hbp.fine)
  have HWH := Lib.hid (show ∀ W : World, LnRow W lv s.lines → Calls Tryd.prog 24 #[stV s lv] W fun e w' => e = .returned (.bool (wholeB s.lines)) ∧ Below W.heap.size W w' from fun W h => rwhole_any s lv W h hbp.fine)
  obtain ⟨nB, hnB⟩ : ∃ x, x = noneB s.lines := ⟨_, rfl⟩
  obtain ⟨wB, hwB⟩ : ∃ x, x = wholeB s.lines := ⟨_, rfl⟩
  rw [← hnB] at HUN
  rw [← hwB] at HWH
  rw [← hD] at hm
  rw [← hnB] at HVb
  have d1 : decide (D < s.paid) = false := decide_eq_false hm
  have hm2 : s.paid ≤ D := by omega
  have HS := Lib.hid hs
  have HP := Lib.hid hp
  obtain ⟨oa, cap, hlv, _, _, _⟩ := hr.shape
  have HLV := Lib.hid hlv
  clear hc hcn hn hl hr hw hf hbp hD hm hs hp hnB hwB hlv
  go_enter Tryd.func11, Tryd.ntmps11
  go_wp2_with (first
    | (go_at_call 19; (with_reducible refine (HC.out _).mono ?_); rintro x w1 ⟨rfl, hb1⟩; have HE1 := Lib.hid (show StBlk w1 w.heap.size s lv ∧ LnRow w1 lv s.lines ∧ Below w.heap.size w w1 from ⟨HE0.out.1.below hb1, HE0.out.2.1.below hb1, Below.next HE0.out.2.2 hb1⟩); clear hb1; have z0 := HE1.out.1.c0; have z1 := HE1.out.1.c1; have z2 := HE1.out.1.c2; have z3 := HE1.out.1.c3; have z4 := HE1.out.1.c4; have z5 := HE1.out.1.c5; have z6 := HE1.out.1.c6; have z7 := HE1.out.1.c7; have z8 := HE1.out.1.c8; have z9 := HE1.out.1.c9; have z10 := HE1.out.1.c10; have z11 := HE1.out.1.c11)
    | (with_reducible refine wpList_load_st rfl (.tmp 1) rfl w.heap.size s lv rfl HE1.out.1 ?_)
    | (go_at_call 20; refine (HLN.out _ HE1.out.2.1).mono ?_; rintro x w2 ⟨rfl, hb2⟩; have HE2 := Lib.hid (show StBlk w2 w.heap.size s lv ∧ LnRow w2 lv s.lines ∧ Below w.heap.size w w2 from ⟨HE1.out.1.below hb2, HE1.out.2.1.below hb2, Below.next HE1.out.2.2 hb2⟩); clear hb2))
  clear z0 z1 z2 z3 z4 z5 z6 z7 z8 z9 z10 z11 HE0 HE1 HC HLN
  refine wp_region_held_drew (S := fun w' => StBlk w' w.heap.size s lv ∧ LnRow w' lv s.lines ∧ Below w.heap.size w w') (by kernel_rfl) ⟨HE2.out.1, HE2.out.2.1, Below.next HE2.out.2.2 (below_drewN' _ 1)⟩ (fun hHeld => ?_)
  refine tk 0 rfl ?v_0_404 ?hy_0_404 ?r_0_404
  case hy_0_404 => intro w h; have k4 := h.1.c4; have k6 := h.1.c6; have k7 := h.1.c7; go_simp; try with_reducible rfl
  simp only [pA, pB, pC, pD]
  refine tk 1 rfl ?v_1_405 ?hy_1_405 ?r_1_405
  case hy_1_405 => intro w h; have k4 := h.1.c4; have k6 := h.1.c6; have k7 := h.1.c7; go_simp; try with_reducible rfl
  simp only [pA, pB, pC, pD]
  refine tk 2 rfl ?v_2_406 ?hy_2_406 ?r_2_406
  case hy_2_406 => intro w h; have k4 := h.1.c4; have k6 := h.1.c6; have k7 := h.1.c7; go_simp; try with_reducible rfl
  simp only [pA, pB, pC, pD]
  refine tk 3 rfl ?v_3_407 ?hy_3_407 ?r_3_407
  case hy_3_407 => intro w h; have k4 := h.1.c4; have k6 := h.1.c6; have k7 := h.1.c7; go_simp; try with_reducible rfl
  simp only [pA, pB, pC, pD]
  refine tk 4 rfl ?v_4_408 ?hy_4_408 ?r_4_408
  case hy_4_408 => intro w h; have k4 := h.1.c4; have k6 := h.1.c6; have k7 := h.1.c7; go_simp; try with_reducible rfl
  simp only [pA, pB, pC, pD]
  refine tk 5 rfl ?v_5_409 ?hy_5_409 ?r_5_409
  case hy_5_409 => intro w h; have k4 := h.1.c4; have k6 := h.1.c6; have k7 := h.1.c7; go_simp; try with_reducible rfl
  simp only [pA, pB, pC, pD]
  refine tk 6 rfl ?v_6_410 ?hy_6_410 ?r_6_410
  case hy_6_410 => intro w h; have k4 := h.1.c4; have k6 := h.1.c6; have k7 := h.1.c7; go_simp; try with_reducible rfl
  simp only [pA, pB, pC, pD]
  refine tk 7 rfl ?v_7_411 ?hy_7_411 ?r_7_411
  case hy_7_411 => intro w h; have k4 := h.1.c4; have k6 := h.1.c6; have k7 := h.1.c7; go_simp; try with_reducible rfl
  simp only [pA, pB, pC, pD]
  refine tk 8 rfl ?v_8_412 ?hy_8_412 ?r_8_412
  case hy_8_412 => intro w h; have k4 := h.1.c4; have k6 := h.1.c6; have k7 := h.1.c7; go_simp; try with_reducible rfl
  simp only [pA, pB, pC, pD]
  refine tk 9 rfl ?v_9_413 ?hy_9_413 ?r_9_413
  case hy_9_413 => intro w h; have k4 := h.1.c4; have k6 := h.1.c6; have k7 := h.1.c7; go_simp; try with_reducible rfl
  simp only [pA, pB, pC, pD]
  refine tk 10 rfl ?v_10_414 ?hy_10_414 ?r_10_414
  case hy_10_414 => intro w h; have k4 := h.1.c4; have k6 := h.1.c6; have k7 := h.1.c7; go_simp; try with_reducible rfl
  simp only [pA, pB, pC, pD]
  refine tk 11 rfl ?v_11_415 ?hy_11_415 ?r_11_415
  case hy_11_415 => intro w h; have k4 := h.1.c4; have k6 := h.1.c6; have k7 := h.1.c7; go_simp; try with_reducible rfl
  simp only [pA, pB, pC, pD]
  refine tk 12 rfl ?v_12_416 ?hy_12_416 ?r_12_416
  case hy_12_416 => intro w h; have k4 := h.1.c4; have k6 := h.1.c6; have k7 := h.1.c7; go_simp; try with_reducible rfl
  simp only [pA, pB, pC, pD]
  refine tk 13 rfl ?v_13_417 ?hy_13_417 ?r_13_417
  case hy_13_417 => intro w h; have k4 := h.1.c4; have k6 := h.1.c6; have k7 := h.1.c7; go_simp; try with_reducible rfl
  simp only [pA, pB, pC, pD]
  refine tk 14 rfl ?v_14_418 ?hy_14_418 ?r_14_418
  case hy_14_418 => intro w h; have k4 := h.1.c4; have k6 := h.1.c6; have k7 := h.1.c7; go_simp; try with_reducible rfl
  simp only [pA, pB, pC, pD]
  refine tk 15 rfl ?v_15_419 ?hy_15_419 ?r_15_419
  case hy_15_419 => intro w h; have k4 := h.1.c4; have k6 := h.1.c6; have k7 := h.1.c7; go_simp; try with_reducible rfl
  simp only [pA, pB, pC, pD]
  refine tk 16 rfl ?v_16_420 ?hy_16_420 ?r_16_420
  case hy_16_420 => intro w h; have k4 := h.1.c4; have k6 := h.1.c6; have k7 := h.1.c7; go_simp; try with_reducible rfl
  simp only [pA, pB, pC, pD]
  refine tk 17 rfl ?v_17_421 ?hy_17_421 ?r_17_421
  case hy_17_421 => intro w h; have k4 := h.1.c4; have k6 := h.1.c6; have k7 := h.1.c7; go_simp; try with_reducible rfl
  simp only [pA, pB, pC, pD]
  refine wpAnyH_take (i := 18) (oi := ⟨_, _, _, _, _, _⟩) (v := stV s lv) rfl (by kernel_rfl) (by kernel_rfl) (by kernel_rfl) (fun _ _ _ h => h) (yieldsIf_load_mid (by kernel_rfl) 25 (.tmp 1) rfl w.heap.size 0 rfl (stCs s lv).toList _ (fun w' h j v hv => by rw [Nat.zero_add, h.1.cell]; simpa using hv) Tryd.underlying25 rfl (by rw [stInfo]; rfl)) (by assumption) ?_
  simp only [pA, pB, pC, pD]
  refine wpAnyH_ready (rs := [19]) (by kernel_rfl) (by simp) ?_
  refine AllReadyH.cons rfl (fun K hK => ?_) AllReadyH.nil
  go_simp
  go_at_call 21
  obtain ⟨hSt, hLn, hBe⟩ := hHeld
  refine (HDU.out _ hLn).mono ?_
  rintro x w3 ⟨rfl, hb⟩
  go_wp2_with fail
  refine hK.out _ _ ⟨hSt.below hb, hLn.below hb, Below.next hBe hb⟩ (fun hHeld => ?_)
  clear hK K hSt hLn hBe hb
  refine tk 20 rfl ?v_20_422 ?hy_20_422 ?r_20_422
  case hy_20_422 => intro w h; have k4 := h.1.c4; have k6 := h.1.c6; have k7 := h.1.c7; go_simp; try with_reducible rfl
  simp only [pA, pB, pC, pD]
  refine tk 21 rfl ?v_21_423 ?hy_21_423 ?r_21_423
  case hy_21_423 => intro w h; have k4 := h.1.c4; have k6 := h.1.c6; have k7 := h.1.c7; go_simp; try with_reducible rfl
  simp only [pA, pB, pC, pD]
  refine wpAnyH_done (by kernel_rfl) ?_ _
  have c1 : w3.cell? ⟨w.heap.size, 1, none⟩ = some (.int .i64 1) := by rw [hHeld.1.cell 1, stCs, HS.out]; rfl
  have c2 : w3.cell? ⟨w.heap.size, 2, none⟩ = some (.int .i64 0) := by rw [hHeld.1.cell 2, stCs, HP.out]; rfl
  have HE := Lib.hid hHeld
  clear hHeld HE2 k1 k2 k3 k4 k5 k6 k7 k8 e1 e2 e3 e4 e5 e6 q1 q2 q3 c0
  go_wp2
  clear c1 c2
  refine wp_region_held_drew (S := fun w' => StBlk w' w.heap.size s lv ∧ LnRow w' lv s.lines ∧ Below w.heap.size w w') (by kernel_rfl) ⟨HE.out.1, HE.out.2.1, Below.next HE.out.2.2 (below_drewN' _ 1)⟩ (fun hHeld => ?_)
  refine tk 0 rfl ?v_0_424 ?hy_0_424 ?r_0_424
  case hy_0_424 => intro w h; have k4 := h.1.c4; have k6 := h.1.c6; have k7 := h.1.c7; go_simp; try with_reducible rfl
  simp only [pA, pB, pC, pD]
  refine tk 1 rfl ?v_1_425 ?hy_1_425 ?r_1_425
  case hy_1_425 => intro w h; have k4 := h.1.c4; have k6 := h.1.c6; have k7 := h.1.c7; go_simp; try with_reducible rfl
  simp only [pA, pB, pC, pD]
  refine tk 2 rfl ?v_2_426 ?hy_2_426 ?r_2_426
  case hy_2_426 => intro w h; have k4 := h.1.c4; have k6 := h.1.c6; have k7 := h.1.c7; go_simp; try with_reducible rfl
  simp only [pA, pB, pC, pD]
  refine tk 3 rfl ?v_3_427 ?hy_3_427 ?r_3_427
  case hy_3_427 => intro w h; have k4 := h.1.c4; have k6 := h.1.c6; have k7 := h.1.c7; go_simp; try with_reducible rfl
  simp only [pA, pB, pC, pD]
  refine tkn 4 rfl ?_
  simp only [pA, pB, pC, pD]
  refine tkn 5 rfl ?_
  simp only [pA, pB, pC, pD]
  refine tkn 6 rfl ?_
  simp only [pA, pB, pC, pD]
  refine tkn 7 rfl ?_
  simp only [pA, pB, pC, pD]
  refine tkn 8 rfl ?_
  simp only [pA, pB, pC, pD]
  refine tk 9 rfl ?v_9_428 ?hy_9_428 ?r_9_428
  case hy_9_428 => intro w h; have k4 := h.1.c4; have k6 := h.1.c6; have k7 := h.1.c7; go_simp; try with_reducible rfl
  simp only [pA, pB, pC, pD]
  refine tk 10 rfl ?v_10_429 ?hy_10_429 ?r_10_429
  case hy_10_429 => intro w h; have k4 := h.1.c4; have k6 := h.1.c6; have k7 := h.1.c7; go_simp; try with_reducible rfl
  simp only [pA, pB, pC, pD]
  refine wpAnyH_done (by kernel_rfl) ?_ _
  have HE4 := Lib.hid hHeld
  clear hHeld HE HDU
  generalize w3.drew = w4 at *
  cases nB
  · skip
    go_wp2_with (first
      | (with_reducible refine wpList_load_st rfl (.tmp 1) rfl w.heap.size s lv rfl HE4.out.1 ?_)
      | (go_at_call 22; refine (HSS.out _).mono ?_; rintro x w5 ⟨rfl, hb⟩; have HE5 := Lib.hid (show StBlk w5 w.heap.size s lv ∧ LnRow w5 lv s.lines ∧ Below w.heap.size w w5 from ⟨HE4.out.1.below hb, HE4.out.2.1.below hb, Below.next HE4.out.2.2 hb⟩); clear hb
         have z0 := HE5.out.1.c0; have z1 := HE5.out.1.c1; have z2 := HE5.out.1.c2; have z3 := HE5.out.1.c3; have z4 := HE5.out.1.c4; have z6 := HE5.out.1.c6; have z7 := HE5.out.1.c7; have z8 := HE5.out.1.c8; have z9 := HE5.out.1.c9; have z10 := HE5.out.1.c10; have z11 := HE5.out.1.c11; have z5 : w5.cell? ⟨w.heap.size, 5, none⟩ = some lv := HE5.out.1.cell 5)
      | (with_reducible refine wpList_load_st rfl (.tmp 1) rfl w.heap.size s lv rfl HE5.out.1 ?_)
      | (go_at_call 23; refine (HUN.out _ HE5.out.2.1).mono ?_; rintro x w6 ⟨rfl, hb⟩; have z7' : w6.cell? ⟨w.heap.size, 7, none⟩ = some (.int .i64 s.refunded) := cell_later hb z7; have HB := Lib.hid (Below.next HE5.out.2.2 hb); clear hb))
    go_ret
    exact ⟨by rw [HVb.out]; rfl, HB.out⟩
  · by_cases hrf : s.refunded = 0
    · have r1 : (s.refunded == 0) = true := by rw [beq_iff_eq]; exact hrf
      clear hrf
      go_wp2_with (first
        | (with_reducible refine wpList_load_st rfl (.tmp 1) rfl w.heap.size s lv rfl HE4.out.1 ?_)
        | (go_at_call 22; refine (HSS.out _).mono ?_; rintro x w5 ⟨rfl, hb⟩; have HE5 := Lib.hid (show StBlk w5 w.heap.size s lv ∧ LnRow w5 lv s.lines ∧ Below w.heap.size w w5 from ⟨HE4.out.1.below hb, HE4.out.2.1.below hb, Below.next HE4.out.2.2 hb⟩); clear hb
           have z0 := HE5.out.1.c0; have z1 := HE5.out.1.c1; have z2 := HE5.out.1.c2; have z3 := HE5.out.1.c3; have z4 := HE5.out.1.c4; have z6 := HE5.out.1.c6; have z7 := HE5.out.1.c7; have z8 := HE5.out.1.c8; have z9 := HE5.out.1.c9; have z10 := HE5.out.1.c10; have z11 := HE5.out.1.c11; have z5 : w5.cell? ⟨w.heap.size, 5, none⟩ = some lv := HE5.out.1.cell 5)
        | (with_reducible refine wpList_load_st rfl (.tmp 1) rfl w.heap.size s lv rfl HE5.out.1 ?_)
        | (go_at_call 23; refine (HUN.out _ HE5.out.2.1).mono ?_; rintro x w6 ⟨rfl, hb⟩; have z7' : w6.cell? ⟨w.heap.size, 7, none⟩ = some (.int .i64 s.refunded) := cell_later hb z7; have HB := Lib.hid (Below.next HE5.out.2.2 hb); clear hb))
      go_ret
      exact ⟨by rw [HVb.out, r1]; rfl, HB.out⟩
    · have r1 : (s.refunded == 0) = false := by rw [beq_eq_false_iff_ne]; exact hrf
      clear hrf
      go_wp2_with (first
        | (with_reducible refine wpList_load_st rfl (.tmp 1) rfl w.heap.size s lv rfl HE4.out.1 ?_)
        | (go_at_call 22; refine (HSS.out _).mono ?_; rintro x w5 ⟨rfl, hb⟩; have HE5 := Lib.hid (show StBlk w5 w.heap.size s lv ∧ LnRow w5 lv s.lines ∧ Below w.heap.size w w5 from ⟨HE4.out.1.below hb, HE4.out.2.1.below hb, Below.next HE4.out.2.2 hb⟩); clear hb
           have z0 := HE5.out.1.c0; have z1 := HE5.out.1.c1; have z2 := HE5.out.1.c2; have z3 := HE5.out.1.c3; have z4 := HE5.out.1.c4; have z6 := HE5.out.1.c6; have z7 := HE5.out.1.c7; have z8 := HE5.out.1.c8; have z9 := HE5.out.1.c9; have z10 := HE5.out.1.c10; have z11 := HE5.out.1.c11; have z5 : w5.cell? ⟨w.heap.size, 5, none⟩ = some lv := HE5.out.1.cell 5)
        | (with_reducible refine wpList_load_st rfl (.tmp 1) rfl w.heap.size s lv rfl HE5.out.1 ?_)
        | (go_at_call 23; refine (HUN.out _ HE5.out.2.1).mono ?_; rintro x w6 ⟨rfl, hb⟩; have z7' : w6.cell? ⟨w.heap.size, 7, none⟩ = some (.int .i64 s.refunded) := cell_later hb z7; have HB := Lib.hid (Below.next HE5.out.2.2 hb); clear hb))
      go_ret
      exact ⟨by rw [HVb.out, r1]; rfl, HB.out⟩

set_option maxRecDepth 100000 in
set_option maxHeartbeats 16000000 in
theorem rvok_1_0_1 (s : St) (lv : Value) (w : World) (hr : LnRow w lv s.lines) (hw : s.who.length ≤ 281474976710656) (hf : boundedB s = true) (hm : ¬ dueOf s < s.paid) (hs : s.status = 1) (hp : s.prior = 0) (g3 : decide (0 < s.paid) = true) (g1 : (s.paid == dueOf s) = false) :
    Calls Tryd.prog 11 #[stV s lv] w fun e w' => e = .returned (.bool (validB s)) ∧ Below w.heap.size w w' := by
  have HVb := Lib.hid (show validB s = (noneB s.lines && !false && s.refunded == 0) by
    have h1 : validB s = standB s 1 := by unfold validB; rw [hf, decide_eq_true (by omega), hs, hp]; rfl
    have h2 : (s.paid == dueOf s && decide (0 < s.paid)) = false := by rw [g3, g1]; rfl
    rw [h1]; unfold standB; rw [h2]; rfl)
  have hbp := bounded_p hf
  have k1 : decide (s.order < 1) = false := by rw [decide_eq_false_iff_not]; have := hbp.order; omega
  have k2 : decide (1099511627776 < s.order) = false := by rw [decide_eq_false_iff_not]; have := hbp.order; omega
  have k3 : decide (s.status < 0) = false := by rw [decide_eq_false_iff_not]; have := hbp.status; omega
  have k4 : decide (5 < s.status) = false := by rw [decide_eq_false_iff_not]; have := hbp.status; omega
  have k5 : decide (s.cur < 0) = false := by rw [decide_eq_false_iff_not]; have := hbp.cur; omega
  have k6 : decide (3 < s.cur) = false := by rw [decide_eq_false_iff_not]; have := hbp.cur; omega
  have k7 : decide (s.tax < 0) = false := by rw [decide_eq_false_iff_not]; have := hbp.tax; omega
  have k8 : decide (5000 < s.tax) = false := by rw [decide_eq_false_iff_not]; have := hbp.tax; omega
  have e1 : decide (s.events < 0) = false := by rw [decide_eq_false_iff_not]; have := hbp.events; omega
  have e2 : decide (1099511627776 < s.events) = false := by rw [decide_eq_false_iff_not]; have := hbp.events; omega
  have e3 : decide (s.refused < 0) = false := by rw [decide_eq_false_iff_not]; have := hbp.refused; omega
  have e4 : decide (s.events < s.refused) = false := by rw [decide_eq_false_iff_not]; have := hbp.events; have := hbp.refused; omega
  have e5 : decide (s.stamp < 0) = false := by rw [decide_eq_false_iff_not]; have := hbp.stamp; omega
  have e6 : decide (1099511627776 < s.stamp) = false := by rw [decide_eq_false_iff_not]; have := hbp.stamp; omega
  have q1 : decide (s.refunded < 0) = false := by rw [decide_eq_false_iff_not]; have := hbp.refunded; omega
  have q2 : decide (s.paid < s.refunded) = false := by rw [decide_eq_false_iff_not]; have := hbp.refunded; omega
  have q3 : decide (s.paid < 0) = false := by rw [decide_eq_false_iff_not]; have := hbp.refunded; omega
  have hn := (bounded_lined hf).2
  have hl := (bounded_lined hf).1
  obtain ⟨c, hc⟩ : ∃ c, c = evCheck 4 (evWho s.who) := ⟨_, rfl⟩
  have hcn : (c == 0) = namedB s.who := by rw [hc]; exact evWho_check 4 (.inl rfl) s.who
  have HC := Lib.hid (show ∀ W : World, Calls Tryd.prog 19 #[.int .i64 4, .agg #[.int .i64 1, .int .i64 1, .int .i64 0, .int .i64 0, .int .i64 0, .int .i64 0, .int .i64 0, .string ⟨s.who.toArray⟩, .int .i64 0, .string ⟨#[]⟩]] W (ChkPost c W) from fun W => hc ▸ refCheckB_any 4 (evWho s.who) W (evWho_ok s.who hw))
  have HLN := Lib.hid (show ∀ W : World, LnRow W lv s.lines → Calls Tryd.prog 20 #[stV s lv] W fun e w' => e = .returned (.bool (linedB s.lines)) ∧ Below W.heap.size W w' from fun W h => rlines_any s lv W h)
  have HE0 := Lib.hid (show StBlk (w.alloc (.cells (stCs s lv) 25)) w.heap.size s lv ∧ LnRow (w.alloc (.cells (stCs s lv) 25)) lv s.lines ∧ Below w.heap.size w (w.alloc (.cells (stCs s lv) 25)) from by
    have hb : Below w.heap.size w (w.alloc (.cells (stCs s lv) 25)) := (Below.refl _ _).alloc (Nat.le_refl _) _
    exact ⟨stBlk_alloc w s lv, hr.below hb, hb⟩)
  have c0 : (c != 0) = false := by rw [hn, beq_iff_eq] at hcn; rw [bne_eq_false_iff_eq]; exact hcn
  rw [hl] at HLN
  obtain ⟨D, hD⟩ : ∃ D, D = dueOf s := ⟨_, rfl⟩
  have HDU := Lib.hid (show ∀ W : World, LnRow W lv s.lines → Calls Tryd.prog 21 #[stV s lv] W fun e w' => e = .returned (.int .i64 D) ∧ Below W.heap.size W w' from fun W h => hD ▸ rdue_any s lv W h hbp.fine hbp.few hbp.tax.1 hbp.tax.2)
  have HSS := Lib.hid (show ∀ W : World, Calls Tryd.prog 22 #[stV s lv] W fun e w' => e = .returned (.int .i64 1) ∧ Below W.heap.size W w' from fun W => by have h := rstands_else s lv W (by omega); rw [hs] at h; exact h)
  have HUN := Lib.hid (show ∀ W : World, LnRow W lv s.lines → Calls Tryd.prog 23 #[stV s lv] W fun e w' => e = .returned (.bool (noneB s.lines)) ∧ Below W.heap.size W w' from fun W h => runtouched_any s lv W h hbp.fine)
  have HWH := Lib.hid (show ∀ W : World, LnRow W lv s.lines → Calls Tryd.prog 24 #[stV s lv] W fun e w' => e = .returned (.bool (wholeB s.lines)) ∧ Below W.heap.size W w' from fun W h => rwhole_any s lv W h hbp.fine)
  obtain ⟨nB, hnB⟩ : ∃ x, x = noneB s.lines := ⟨_, rfl⟩
  obtain ⟨wB, hwB⟩ : ∃ x, x = wholeB s.lines := ⟨_, rfl⟩
  rw [← hnB] at HUN
  rw [← hwB] at HWH
  rw [← hD] at hm g1
  rw [← hnB] at HVb
  have d1 : decide (D < s.paid) = false := decide_eq_false hm
  have hm2 : s.paid ≤ D := by omega
  have HS := Lib.hid hs
  have HP := Lib.hid hp
  obtain ⟨oa, cap, hlv, _, _, _⟩ := hr.shape
  have HLV := Lib.hid hlv
  clear hc hcn hn hl hr hw hf hbp hD hm hs hp hnB hwB hlv
  go_enter Tryd.func11, Tryd.ntmps11
  go_wp2_with (first
    | (go_at_call 19; (with_reducible refine (HC.out _).mono ?_); rintro x w1 ⟨rfl, hb1⟩; have HE1 := Lib.hid (show StBlk w1 w.heap.size s lv ∧ LnRow w1 lv s.lines ∧ Below w.heap.size w w1 from ⟨HE0.out.1.below hb1, HE0.out.2.1.below hb1, Below.next HE0.out.2.2 hb1⟩); clear hb1; have z0 := HE1.out.1.c0; have z1 := HE1.out.1.c1; have z2 := HE1.out.1.c2; have z3 := HE1.out.1.c3; have z4 := HE1.out.1.c4; have z5 := HE1.out.1.c5; have z6 := HE1.out.1.c6; have z7 := HE1.out.1.c7; have z8 := HE1.out.1.c8; have z9 := HE1.out.1.c9; have z10 := HE1.out.1.c10; have z11 := HE1.out.1.c11)
    | (with_reducible refine wpList_load_st rfl (.tmp 1) rfl w.heap.size s lv rfl HE1.out.1 ?_)
    | (go_at_call 20; refine (HLN.out _ HE1.out.2.1).mono ?_; rintro x w2 ⟨rfl, hb2⟩; have HE2 := Lib.hid (show StBlk w2 w.heap.size s lv ∧ LnRow w2 lv s.lines ∧ Below w.heap.size w w2 from ⟨HE1.out.1.below hb2, HE1.out.2.1.below hb2, Below.next HE1.out.2.2 hb2⟩); clear hb2))
  clear z0 z1 z2 z3 z4 z5 z6 z7 z8 z9 z10 z11 HE0 HE1 HC HLN
  refine wp_region_held_drew (S := fun w' => StBlk w' w.heap.size s lv ∧ LnRow w' lv s.lines ∧ Below w.heap.size w w') (by kernel_rfl) ⟨HE2.out.1, HE2.out.2.1, Below.next HE2.out.2.2 (below_drewN' _ 1)⟩ (fun hHeld => ?_)
  refine tk 0 rfl ?v_0_430 ?hy_0_430 ?r_0_430
  case hy_0_430 => intro w h; have k4 := h.1.c4; have k6 := h.1.c6; have k7 := h.1.c7; go_simp; try with_reducible rfl
  simp only [pA, pB, pC, pD]
  refine tk 1 rfl ?v_1_431 ?hy_1_431 ?r_1_431
  case hy_1_431 => intro w h; have k4 := h.1.c4; have k6 := h.1.c6; have k7 := h.1.c7; go_simp; try with_reducible rfl
  simp only [pA, pB, pC, pD]
  refine tk 2 rfl ?v_2_432 ?hy_2_432 ?r_2_432
  case hy_2_432 => intro w h; have k4 := h.1.c4; have k6 := h.1.c6; have k7 := h.1.c7; go_simp; try with_reducible rfl
  simp only [pA, pB, pC, pD]
  refine tk 3 rfl ?v_3_433 ?hy_3_433 ?r_3_433
  case hy_3_433 => intro w h; have k4 := h.1.c4; have k6 := h.1.c6; have k7 := h.1.c7; go_simp; try with_reducible rfl
  simp only [pA, pB, pC, pD]
  refine tk 4 rfl ?v_4_434 ?hy_4_434 ?r_4_434
  case hy_4_434 => intro w h; have k4 := h.1.c4; have k6 := h.1.c6; have k7 := h.1.c7; go_simp; try with_reducible rfl
  simp only [pA, pB, pC, pD]
  refine tk 5 rfl ?v_5_435 ?hy_5_435 ?r_5_435
  case hy_5_435 => intro w h; have k4 := h.1.c4; have k6 := h.1.c6; have k7 := h.1.c7; go_simp; try with_reducible rfl
  simp only [pA, pB, pC, pD]
  refine tk 6 rfl ?v_6_436 ?hy_6_436 ?r_6_436
  case hy_6_436 => intro w h; have k4 := h.1.c4; have k6 := h.1.c6; have k7 := h.1.c7; go_simp; try with_reducible rfl
  simp only [pA, pB, pC, pD]
  refine tk 7 rfl ?v_7_437 ?hy_7_437 ?r_7_437
  case hy_7_437 => intro w h; have k4 := h.1.c4; have k6 := h.1.c6; have k7 := h.1.c7; go_simp; try with_reducible rfl
  simp only [pA, pB, pC, pD]
  refine tk 8 rfl ?v_8_438 ?hy_8_438 ?r_8_438
  case hy_8_438 => intro w h; have k4 := h.1.c4; have k6 := h.1.c6; have k7 := h.1.c7; go_simp; try with_reducible rfl
  simp only [pA, pB, pC, pD]
  refine tk 9 rfl ?v_9_439 ?hy_9_439 ?r_9_439
  case hy_9_439 => intro w h; have k4 := h.1.c4; have k6 := h.1.c6; have k7 := h.1.c7; go_simp; try with_reducible rfl
  simp only [pA, pB, pC, pD]
  refine tk 10 rfl ?v_10_440 ?hy_10_440 ?r_10_440
  case hy_10_440 => intro w h; have k4 := h.1.c4; have k6 := h.1.c6; have k7 := h.1.c7; go_simp; try with_reducible rfl
  simp only [pA, pB, pC, pD]
  refine tk 11 rfl ?v_11_441 ?hy_11_441 ?r_11_441
  case hy_11_441 => intro w h; have k4 := h.1.c4; have k6 := h.1.c6; have k7 := h.1.c7; go_simp; try with_reducible rfl
  simp only [pA, pB, pC, pD]
  refine tk 12 rfl ?v_12_442 ?hy_12_442 ?r_12_442
  case hy_12_442 => intro w h; have k4 := h.1.c4; have k6 := h.1.c6; have k7 := h.1.c7; go_simp; try with_reducible rfl
  simp only [pA, pB, pC, pD]
  refine tk 13 rfl ?v_13_443 ?hy_13_443 ?r_13_443
  case hy_13_443 => intro w h; have k4 := h.1.c4; have k6 := h.1.c6; have k7 := h.1.c7; go_simp; try with_reducible rfl
  simp only [pA, pB, pC, pD]
  refine tk 14 rfl ?v_14_444 ?hy_14_444 ?r_14_444
  case hy_14_444 => intro w h; have k4 := h.1.c4; have k6 := h.1.c6; have k7 := h.1.c7; go_simp; try with_reducible rfl
  simp only [pA, pB, pC, pD]
  refine tk 15 rfl ?v_15_445 ?hy_15_445 ?r_15_445
  case hy_15_445 => intro w h; have k4 := h.1.c4; have k6 := h.1.c6; have k7 := h.1.c7; go_simp; try with_reducible rfl
  simp only [pA, pB, pC, pD]
  refine tk 16 rfl ?v_16_446 ?hy_16_446 ?r_16_446
  case hy_16_446 => intro w h; have k4 := h.1.c4; have k6 := h.1.c6; have k7 := h.1.c7; go_simp; try with_reducible rfl
  simp only [pA, pB, pC, pD]
  refine tk 17 rfl ?v_17_447 ?hy_17_447 ?r_17_447
  case hy_17_447 => intro w h; have k4 := h.1.c4; have k6 := h.1.c6; have k7 := h.1.c7; go_simp; try with_reducible rfl
  simp only [pA, pB, pC, pD]
  refine wpAnyH_take (i := 18) (oi := ⟨_, _, _, _, _, _⟩) (v := stV s lv) rfl (by kernel_rfl) (by kernel_rfl) (by kernel_rfl) (fun _ _ _ h => h) (yieldsIf_load_mid (by kernel_rfl) 25 (.tmp 1) rfl w.heap.size 0 rfl (stCs s lv).toList _ (fun w' h j v hv => by rw [Nat.zero_add, h.1.cell]; simpa using hv) Tryd.underlying25 rfl (by rw [stInfo]; rfl)) (by assumption) ?_
  simp only [pA, pB, pC, pD]
  refine wpAnyH_ready (rs := [19]) (by kernel_rfl) (by simp) ?_
  refine AllReadyH.cons rfl (fun K hK => ?_) AllReadyH.nil
  go_simp
  go_at_call 21
  obtain ⟨hSt, hLn, hBe⟩ := hHeld
  refine (HDU.out _ hLn).mono ?_
  rintro x w3 ⟨rfl, hb⟩
  go_wp2_with fail
  refine hK.out _ _ ⟨hSt.below hb, hLn.below hb, Below.next hBe hb⟩ (fun hHeld => ?_)
  clear hK K hSt hLn hBe hb
  refine tk 20 rfl ?v_20_448 ?hy_20_448 ?r_20_448
  case hy_20_448 => intro w h; have k4 := h.1.c4; have k6 := h.1.c6; have k7 := h.1.c7; go_simp; try with_reducible rfl
  simp only [pA, pB, pC, pD]
  refine tk 21 rfl ?v_21_449 ?hy_21_449 ?r_21_449
  case hy_21_449 => intro w h; have k4 := h.1.c4; have k6 := h.1.c6; have k7 := h.1.c7; go_simp; try with_reducible rfl
  simp only [pA, pB, pC, pD]
  refine wpAnyH_done (by kernel_rfl) ?_ _
  have c1 : w3.cell? ⟨w.heap.size, 1, none⟩ = some (.int .i64 1) := by rw [hHeld.1.cell 1, stCs, HS.out]; rfl
  have c2 : w3.cell? ⟨w.heap.size, 2, none⟩ = some (.int .i64 0) := by rw [hHeld.1.cell 2, stCs, HP.out]; rfl
  have HE := Lib.hid hHeld
  clear hHeld HE2 k1 k2 k3 k4 k5 k6 k7 k8 e1 e2 e3 e4 e5 e6 q1 q2 q3 c0
  go_wp2
  clear c1 c2
  refine wp_region_held_drew (S := fun w' => StBlk w' w.heap.size s lv ∧ LnRow w' lv s.lines ∧ Below w.heap.size w w') (by kernel_rfl) ⟨HE.out.1, HE.out.2.1, Below.next HE.out.2.2 (below_drewN' _ 1)⟩ (fun hHeld => ?_)
  refine tk 0 rfl ?v_0_450 ?hy_0_450 ?r_0_450
  case hy_0_450 => intro w h; have k4 := h.1.c4; have k6 := h.1.c6; have k7 := h.1.c7; go_simp; try with_reducible rfl
  simp only [pA, pB, pC, pD]
  refine tk 1 rfl ?v_1_451 ?hy_1_451 ?r_1_451
  case hy_1_451 => intro w h; have k4 := h.1.c4; have k6 := h.1.c6; have k7 := h.1.c7; go_simp; try with_reducible rfl
  simp only [pA, pB, pC, pD]
  refine tk 2 rfl ?v_2_452 ?hy_2_452 ?r_2_452
  case hy_2_452 => intro w h; have k4 := h.1.c4; have k6 := h.1.c6; have k7 := h.1.c7; go_simp; try with_reducible rfl
  simp only [pA, pB, pC, pD]
  refine tk 3 rfl ?v_3_453 ?hy_3_453 ?r_3_453
  case hy_3_453 => intro w h; have k4 := h.1.c4; have k6 := h.1.c6; have k7 := h.1.c7; go_simp; try with_reducible rfl
  simp only [pA, pB, pC, pD]
  refine tk 4 rfl ?v_4_454 ?hy_4_454 ?r_4_454
  case hy_4_454 => intro w h; have k4 := h.1.c4; have k6 := h.1.c6; have k7 := h.1.c7; go_simp; try with_reducible rfl
  simp only [pA, pB, pC, pD]
  refine tk 5 rfl ?v_5_455 ?hy_5_455 ?r_5_455
  case hy_5_455 => intro w h; have k4 := h.1.c4; have k6 := h.1.c6; have k7 := h.1.c7; go_simp; try with_reducible rfl
  simp only [pA, pB, pC, pD]
  refine wpAnyH_take (i := 6) (oi := ⟨_, _, _, _, _, _⟩) (v := stV s lv) rfl (by kernel_rfl) (by kernel_rfl) (by kernel_rfl) (fun _ _ _ h => h) (yieldsIf_load_mid (by kernel_rfl) 25 (.tmp 1) rfl w.heap.size 0 rfl (stCs s lv).toList _ (fun w' h j v hv => by rw [Nat.zero_add, h.1.cell]; simpa using hv) Tryd.underlying25 rfl (by rw [stInfo]; rfl)) (by assumption) ?_
  simp only [pA, pB, pC, pD]
  refine wpAnyH_ready (rs := [7]) (by kernel_rfl) (by simp) ?_
  refine AllReadyH.cons rfl (fun K hK => ?_) AllReadyH.nil
  go_simp
  go_at_call 21
  obtain ⟨hSt, hLn, hBe⟩ := hHeld
  refine (HDU.out _ hLn).mono ?_
  rintro x w4 ⟨rfl, hb⟩
  go_wp2_with fail
  refine hK.out _ _ ⟨hSt.below hb, hLn.below hb, Below.next hBe hb⟩ (fun hHeld => ?_)
  clear hK K hSt hLn hBe hb
  refine tk 8 rfl ?v_8_456 ?hy_8_456 ?r_8_456
  case hy_8_456 => intro w h; have k4 := h.1.c4; have k6 := h.1.c6; have k7 := h.1.c7; go_simp; try with_reducible rfl
  simp only [pA, pB, pC, pD]
  refine tk 9 rfl ?v_9_457 ?hy_9_457 ?r_9_457
  case hy_9_457 => intro w h; have k4 := h.1.c4; have k6 := h.1.c6; have k7 := h.1.c7; go_simp; try with_reducible rfl
  simp only [pA, pB, pC, pD]
  refine tk 10 rfl ?v_10_458 ?hy_10_458 ?r_10_458
  case hy_10_458 => intro w h; have k4 := h.1.c4; have k6 := h.1.c6; have k7 := h.1.c7; go_simp; try with_reducible rfl
  simp only [pA, pB, pC, pD]
  refine wpAnyH_done (by kernel_rfl) ?_ _
  have HE4 := Lib.hid hHeld
  clear hHeld HE HDU
  cases nB
  · skip
    go_wp2_with (first
      | (with_reducible refine wpList_load_st rfl (.tmp 1) rfl w.heap.size s lv rfl HE4.out.1 ?_)
      | (go_at_call 22; refine (HSS.out _).mono ?_; rintro x w5 ⟨rfl, hb⟩; have HE5 := Lib.hid (show StBlk w5 w.heap.size s lv ∧ LnRow w5 lv s.lines ∧ Below w.heap.size w w5 from ⟨HE4.out.1.below hb, HE4.out.2.1.below hb, Below.next HE4.out.2.2 hb⟩); clear hb
         have z0 := HE5.out.1.c0; have z1 := HE5.out.1.c1; have z2 := HE5.out.1.c2; have z3 := HE5.out.1.c3; have z4 := HE5.out.1.c4; have z6 := HE5.out.1.c6; have z7 := HE5.out.1.c7; have z8 := HE5.out.1.c8; have z9 := HE5.out.1.c9; have z10 := HE5.out.1.c10; have z11 := HE5.out.1.c11; have z5 : w5.cell? ⟨w.heap.size, 5, none⟩ = some lv := HE5.out.1.cell 5)
      | (with_reducible refine wpList_load_st rfl (.tmp 1) rfl w.heap.size s lv rfl HE5.out.1 ?_)
      | (go_at_call 23; refine (HUN.out _ HE5.out.2.1).mono ?_; rintro x w6 ⟨rfl, hb⟩; have z7' : w6.cell? ⟨w.heap.size, 7, none⟩ = some (.int .i64 s.refunded) := cell_later hb z7; have HB := Lib.hid (Below.next HE5.out.2.2 hb); clear hb))
    go_ret
    exact ⟨by rw [HVb.out]; rfl, HB.out⟩
  · by_cases hrf : s.refunded = 0
    · have r1 : (s.refunded == 0) = true := by rw [beq_iff_eq]; exact hrf
      clear hrf
      go_wp2_with (first
        | (with_reducible refine wpList_load_st rfl (.tmp 1) rfl w.heap.size s lv rfl HE4.out.1 ?_)
        | (go_at_call 22; refine (HSS.out _).mono ?_; rintro x w5 ⟨rfl, hb⟩; have HE5 := Lib.hid (show StBlk w5 w.heap.size s lv ∧ LnRow w5 lv s.lines ∧ Below w.heap.size w w5 from ⟨HE4.out.1.below hb, HE4.out.2.1.below hb, Below.next HE4.out.2.2 hb⟩); clear hb
           have z0 := HE5.out.1.c0; have z1 := HE5.out.1.c1; have z2 := HE5.out.1.c2; have z3 := HE5.out.1.c3; have z4 := HE5.out.1.c4; have z6 := HE5.out.1.c6; have z7 := HE5.out.1.c7; have z8 := HE5.out.1.c8; have z9 := HE5.out.1.c9; have z10 := HE5.out.1.c10; have z11 := HE5.out.1.c11; have z5 : w5.cell? ⟨w.heap.size, 5, none⟩ = some lv := HE5.out.1.cell 5)
        | (with_reducible refine wpList_load_st rfl (.tmp 1) rfl w.heap.size s lv rfl HE5.out.1 ?_)
        | (go_at_call 23; refine (HUN.out _ HE5.out.2.1).mono ?_; rintro x w6 ⟨rfl, hb⟩; have z7' : w6.cell? ⟨w.heap.size, 7, none⟩ = some (.int .i64 s.refunded) := cell_later hb z7; have HB := Lib.hid (Below.next HE5.out.2.2 hb); clear hb))
      go_ret
      exact ⟨by rw [HVb.out, r1]; rfl, HB.out⟩
    · have r1 : (s.refunded == 0) = false := by rw [beq_eq_false_iff_ne]; exact hrf
      clear hrf
      go_wp2_with (first
        | (with_reducible refine wpList_load_st rfl (.tmp 1) rfl w.heap.size s lv rfl HE4.out.1 ?_)
        | (go_at_call 22; refine (HSS.out _).mono ?_; rintro x w5 ⟨rfl, hb⟩; have HE5 := Lib.hid (show StBlk w5 w.heap.size s lv ∧ LnRow w5 lv s.lines ∧ Below w.heap.size w w5 from ⟨HE4.out.1.below hb, HE4.out.2.1.below hb, Below.next HE4.out.2.2 hb⟩); clear hb
           have z0 := HE5.out.1.c0; have z1 := HE5.out.1.c1; have z2 := HE5.out.1.c2; have z3 := HE5.out.1.c3; have z4 := HE5.out.1.c4; have z6 := HE5.out.1.c6; have z7 := HE5.out.1.c7; have z8 := HE5.out.1.c8; have z9 := HE5.out.1.c9; have z10 := HE5.out.1.c10; have z11 := HE5.out.1.c11; have z5 : w5.cell? ⟨w.heap.size, 5, none⟩ = some lv := HE5.out.1.cell 5)
        | (with_reducible refine wpList_load_st rfl (.tmp 1) rfl w.heap.size s lv rfl HE5.out.1 ?_)
        | (go_at_call 23; refine (HUN.out _ HE5.out.2.1).mono ?_; rintro x w6 ⟨rfl, hb⟩; have z7' : w6.cell? ⟨w.heap.size, 7, none⟩ = some (.int .i64 s.refunded) := cell_later hb z7; have HB := Lib.hid (Below.next HE5.out.2.2 hb); clear hb))
      go_ret
      exact ⟨by rw [HVb.out, r1]; rfl, HB.out⟩

set_option maxRecDepth 100000 in
set_option maxHeartbeats 16000000 in
theorem rvok_1_0_2 (s : St) (lv : Value) (w : World) (hr : LnRow w lv s.lines) (hw : s.who.length ≤ 281474976710656) (hf : boundedB s = true) (hm : ¬ dueOf s < s.paid) (hs : s.status = 1) (hp : s.prior = 0) (g3 : decide (0 < s.paid) = true) (g1 : (s.paid == dueOf s) = true) :
    Calls Tryd.prog 11 #[stV s lv] w fun e w' => e = .returned (.bool (validB s)) ∧ Below w.heap.size w w' := by
  have HVb := Lib.hid (show validB s = (noneB s.lines && !true && s.refunded == 0) by
    have h1 : validB s = standB s 1 := by unfold validB; rw [hf, decide_eq_true (by omega), hs, hp]; rfl
    have h2 : (s.paid == dueOf s && decide (0 < s.paid)) = true := by rw [g3, g1]; rfl
    rw [h1]; unfold standB; rw [h2]; rfl)
  have hbp := bounded_p hf
  have k1 : decide (s.order < 1) = false := by rw [decide_eq_false_iff_not]; have := hbp.order; omega
  have k2 : decide (1099511627776 < s.order) = false := by rw [decide_eq_false_iff_not]; have := hbp.order; omega
  have k3 : decide (s.status < 0) = false := by rw [decide_eq_false_iff_not]; have := hbp.status; omega
  have k4 : decide (5 < s.status) = false := by rw [decide_eq_false_iff_not]; have := hbp.status; omega
  have k5 : decide (s.cur < 0) = false := by rw [decide_eq_false_iff_not]; have := hbp.cur; omega
  have k6 : decide (3 < s.cur) = false := by rw [decide_eq_false_iff_not]; have := hbp.cur; omega
  have k7 : decide (s.tax < 0) = false := by rw [decide_eq_false_iff_not]; have := hbp.tax; omega
  have k8 : decide (5000 < s.tax) = false := by rw [decide_eq_false_iff_not]; have := hbp.tax; omega
  have e1 : decide (s.events < 0) = false := by rw [decide_eq_false_iff_not]; have := hbp.events; omega
  have e2 : decide (1099511627776 < s.events) = false := by rw [decide_eq_false_iff_not]; have := hbp.events; omega
  have e3 : decide (s.refused < 0) = false := by rw [decide_eq_false_iff_not]; have := hbp.refused; omega
  have e4 : decide (s.events < s.refused) = false := by rw [decide_eq_false_iff_not]; have := hbp.events; have := hbp.refused; omega
  have e5 : decide (s.stamp < 0) = false := by rw [decide_eq_false_iff_not]; have := hbp.stamp; omega
  have e6 : decide (1099511627776 < s.stamp) = false := by rw [decide_eq_false_iff_not]; have := hbp.stamp; omega
  have q1 : decide (s.refunded < 0) = false := by rw [decide_eq_false_iff_not]; have := hbp.refunded; omega
  have q2 : decide (s.paid < s.refunded) = false := by rw [decide_eq_false_iff_not]; have := hbp.refunded; omega
  have q3 : decide (s.paid < 0) = false := by rw [decide_eq_false_iff_not]; have := hbp.refunded; omega
  have hn := (bounded_lined hf).2
  have hl := (bounded_lined hf).1
  obtain ⟨c, hc⟩ : ∃ c, c = evCheck 4 (evWho s.who) := ⟨_, rfl⟩
  have hcn : (c == 0) = namedB s.who := by rw [hc]; exact evWho_check 4 (.inl rfl) s.who
  have HC := Lib.hid (show ∀ W : World, Calls Tryd.prog 19 #[.int .i64 4, .agg #[.int .i64 1, .int .i64 1, .int .i64 0, .int .i64 0, .int .i64 0, .int .i64 0, .int .i64 0, .string ⟨s.who.toArray⟩, .int .i64 0, .string ⟨#[]⟩]] W (ChkPost c W) from fun W => hc ▸ refCheckB_any 4 (evWho s.who) W (evWho_ok s.who hw))
  have HLN := Lib.hid (show ∀ W : World, LnRow W lv s.lines → Calls Tryd.prog 20 #[stV s lv] W fun e w' => e = .returned (.bool (linedB s.lines)) ∧ Below W.heap.size W w' from fun W h => rlines_any s lv W h)
  have HE0 := Lib.hid (show StBlk (w.alloc (.cells (stCs s lv) 25)) w.heap.size s lv ∧ LnRow (w.alloc (.cells (stCs s lv) 25)) lv s.lines ∧ Below w.heap.size w (w.alloc (.cells (stCs s lv) 25)) from by
    have hb : Below w.heap.size w (w.alloc (.cells (stCs s lv) 25)) := (Below.refl _ _).alloc (Nat.le_refl _) _
    exact ⟨stBlk_alloc w s lv, hr.below hb, hb⟩)
  have c0 : (c != 0) = false := by rw [hn, beq_iff_eq] at hcn; rw [bne_eq_false_iff_eq]; exact hcn
  rw [hl] at HLN
  obtain ⟨D, hD⟩ : ∃ D, D = dueOf s := ⟨_, rfl⟩
  have HDU := Lib.hid (show ∀ W : World, LnRow W lv s.lines → Calls Tryd.prog 21 #[stV s lv] W fun e w' => e = .returned (.int .i64 D) ∧ Below W.heap.size W w' from fun W h => hD ▸ rdue_any s lv W h hbp.fine hbp.few hbp.tax.1 hbp.tax.2)
  have HSS := Lib.hid (show ∀ W : World, Calls Tryd.prog 22 #[stV s lv] W fun e w' => e = .returned (.int .i64 1) ∧ Below W.heap.size W w' from fun W => by have h := rstands_else s lv W (by omega); rw [hs] at h; exact h)
  have HUN := Lib.hid (show ∀ W : World, LnRow W lv s.lines → Calls Tryd.prog 23 #[stV s lv] W fun e w' => e = .returned (.bool (noneB s.lines)) ∧ Below W.heap.size W w' from fun W h => runtouched_any s lv W h hbp.fine)
  have HWH := Lib.hid (show ∀ W : World, LnRow W lv s.lines → Calls Tryd.prog 24 #[stV s lv] W fun e w' => e = .returned (.bool (wholeB s.lines)) ∧ Below W.heap.size W w' from fun W h => rwhole_any s lv W h hbp.fine)
  obtain ⟨nB, hnB⟩ : ∃ x, x = noneB s.lines := ⟨_, rfl⟩
  obtain ⟨wB, hwB⟩ : ∃ x, x = wholeB s.lines := ⟨_, rfl⟩
  rw [← hnB] at HUN
  rw [← hwB] at HWH
  rw [← hD] at hm g1
  rw [← hnB] at HVb
  have d1 : decide (D < s.paid) = false := decide_eq_false hm
  have hm2 : s.paid ≤ D := by omega
  have HS := Lib.hid hs
  have HP := Lib.hid hp
  obtain ⟨oa, cap, hlv, _, _, _⟩ := hr.shape
  have HLV := Lib.hid hlv
  clear hc hcn hn hl hr hw hf hbp hD hm hs hp hnB hwB hlv
  go_enter Tryd.func11, Tryd.ntmps11
  go_wp2_with (first
    | (go_at_call 19; (with_reducible refine (HC.out _).mono ?_); rintro x w1 ⟨rfl, hb1⟩; have HE1 := Lib.hid (show StBlk w1 w.heap.size s lv ∧ LnRow w1 lv s.lines ∧ Below w.heap.size w w1 from ⟨HE0.out.1.below hb1, HE0.out.2.1.below hb1, Below.next HE0.out.2.2 hb1⟩); clear hb1; have z0 := HE1.out.1.c0; have z1 := HE1.out.1.c1; have z2 := HE1.out.1.c2; have z3 := HE1.out.1.c3; have z4 := HE1.out.1.c4; have z5 := HE1.out.1.c5; have z6 := HE1.out.1.c6; have z7 := HE1.out.1.c7; have z8 := HE1.out.1.c8; have z9 := HE1.out.1.c9; have z10 := HE1.out.1.c10; have z11 := HE1.out.1.c11)
    | (with_reducible refine wpList_load_st rfl (.tmp 1) rfl w.heap.size s lv rfl HE1.out.1 ?_)
    | (go_at_call 20; refine (HLN.out _ HE1.out.2.1).mono ?_; rintro x w2 ⟨rfl, hb2⟩; have HE2 := Lib.hid (show StBlk w2 w.heap.size s lv ∧ LnRow w2 lv s.lines ∧ Below w.heap.size w w2 from ⟨HE1.out.1.below hb2, HE1.out.2.1.below hb2, Below.next HE1.out.2.2 hb2⟩); clear hb2))
  clear z0 z1 z2 z3 z4 z5 z6 z7 z8 z9 z10 z11 HE0 HE1 HC HLN
  refine wp_region_held_drew (S := fun w' => StBlk w' w.heap.size s lv ∧ LnRow w' lv s.lines ∧ Below w.heap.size w w') (by kernel_rfl) ⟨HE2.out.1, HE2.out.2.1, Below.next HE2.out.2.2 (below_drewN' _ 1)⟩ (fun hHeld => ?_)
  refine tk 0 rfl ?v_0_459 ?hy_0_459 ?r_0_459
  case hy_0_459 => intro w h; have k4 := h.1.c4; have k6 := h.1.c6; have k7 := h.1.c7; go_simp; try with_reducible rfl
  simp only [pA, pB, pC, pD]
  refine tk 1 rfl ?v_1_460 ?hy_1_460 ?r_1_460
  case hy_1_460 => intro w h; have k4 := h.1.c4; have k6 := h.1.c6; have k7 := h.1.c7; go_simp; try with_reducible rfl
  simp only [pA, pB, pC, pD]
  refine tk 2 rfl ?v_2_461 ?hy_2_461 ?r_2_461
  case hy_2_461 => intro w h; have k4 := h.1.c4; have k6 := h.1.c6; have k7 := h.1.c7; go_simp; try with_reducible rfl
  simp only [pA, pB, pC, pD]
  refine tk 3 rfl ?v_3_462 ?hy_3_462 ?r_3_462
  case hy_3_462 => intro w h; have k4 := h.1.c4; have k6 := h.1.c6; have k7 := h.1.c7; go_simp; try with_reducible rfl
  simp only [pA, pB, pC, pD]
  refine tk 4 rfl ?v_4_463 ?hy_4_463 ?r_4_463
  case hy_4_463 => intro w h; have k4 := h.1.c4; have k6 := h.1.c6; have k7 := h.1.c7; go_simp; try with_reducible rfl
  simp only [pA, pB, pC, pD]
  refine tk 5 rfl ?v_5_464 ?hy_5_464 ?r_5_464
  case hy_5_464 => intro w h; have k4 := h.1.c4; have k6 := h.1.c6; have k7 := h.1.c7; go_simp; try with_reducible rfl
  simp only [pA, pB, pC, pD]
  refine tk 6 rfl ?v_6_465 ?hy_6_465 ?r_6_465
  case hy_6_465 => intro w h; have k4 := h.1.c4; have k6 := h.1.c6; have k7 := h.1.c7; go_simp; try with_reducible rfl
  simp only [pA, pB, pC, pD]
  refine tk 7 rfl ?v_7_466 ?hy_7_466 ?r_7_466
  case hy_7_466 => intro w h; have k4 := h.1.c4; have k6 := h.1.c6; have k7 := h.1.c7; go_simp; try with_reducible rfl
  simp only [pA, pB, pC, pD]
  refine tk 8 rfl ?v_8_467 ?hy_8_467 ?r_8_467
  case hy_8_467 => intro w h; have k4 := h.1.c4; have k6 := h.1.c6; have k7 := h.1.c7; go_simp; try with_reducible rfl
  simp only [pA, pB, pC, pD]
  refine tk 9 rfl ?v_9_468 ?hy_9_468 ?r_9_468
  case hy_9_468 => intro w h; have k4 := h.1.c4; have k6 := h.1.c6; have k7 := h.1.c7; go_simp; try with_reducible rfl
  simp only [pA, pB, pC, pD]
  refine tk 10 rfl ?v_10_469 ?hy_10_469 ?r_10_469
  case hy_10_469 => intro w h; have k4 := h.1.c4; have k6 := h.1.c6; have k7 := h.1.c7; go_simp; try with_reducible rfl
  simp only [pA, pB, pC, pD]
  refine tk 11 rfl ?v_11_470 ?hy_11_470 ?r_11_470
  case hy_11_470 => intro w h; have k4 := h.1.c4; have k6 := h.1.c6; have k7 := h.1.c7; go_simp; try with_reducible rfl
  simp only [pA, pB, pC, pD]
  refine tk 12 rfl ?v_12_471 ?hy_12_471 ?r_12_471
  case hy_12_471 => intro w h; have k4 := h.1.c4; have k6 := h.1.c6; have k7 := h.1.c7; go_simp; try with_reducible rfl
  simp only [pA, pB, pC, pD]
  refine tk 13 rfl ?v_13_472 ?hy_13_472 ?r_13_472
  case hy_13_472 => intro w h; have k4 := h.1.c4; have k6 := h.1.c6; have k7 := h.1.c7; go_simp; try with_reducible rfl
  simp only [pA, pB, pC, pD]
  refine tk 14 rfl ?v_14_473 ?hy_14_473 ?r_14_473
  case hy_14_473 => intro w h; have k4 := h.1.c4; have k6 := h.1.c6; have k7 := h.1.c7; go_simp; try with_reducible rfl
  simp only [pA, pB, pC, pD]
  refine tk 15 rfl ?v_15_474 ?hy_15_474 ?r_15_474
  case hy_15_474 => intro w h; have k4 := h.1.c4; have k6 := h.1.c6; have k7 := h.1.c7; go_simp; try with_reducible rfl
  simp only [pA, pB, pC, pD]
  refine tk 16 rfl ?v_16_475 ?hy_16_475 ?r_16_475
  case hy_16_475 => intro w h; have k4 := h.1.c4; have k6 := h.1.c6; have k7 := h.1.c7; go_simp; try with_reducible rfl
  simp only [pA, pB, pC, pD]
  refine tk 17 rfl ?v_17_476 ?hy_17_476 ?r_17_476
  case hy_17_476 => intro w h; have k4 := h.1.c4; have k6 := h.1.c6; have k7 := h.1.c7; go_simp; try with_reducible rfl
  simp only [pA, pB, pC, pD]
  refine wpAnyH_take (i := 18) (oi := ⟨_, _, _, _, _, _⟩) (v := stV s lv) rfl (by kernel_rfl) (by kernel_rfl) (by kernel_rfl) (fun _ _ _ h => h) (yieldsIf_load_mid (by kernel_rfl) 25 (.tmp 1) rfl w.heap.size 0 rfl (stCs s lv).toList _ (fun w' h j v hv => by rw [Nat.zero_add, h.1.cell]; simpa using hv) Tryd.underlying25 rfl (by rw [stInfo]; rfl)) (by assumption) ?_
  simp only [pA, pB, pC, pD]
  refine wpAnyH_ready (rs := [19]) (by kernel_rfl) (by simp) ?_
  refine AllReadyH.cons rfl (fun K hK => ?_) AllReadyH.nil
  go_simp
  go_at_call 21
  obtain ⟨hSt, hLn, hBe⟩ := hHeld
  refine (HDU.out _ hLn).mono ?_
  rintro x w3 ⟨rfl, hb⟩
  go_wp2_with fail
  refine hK.out _ _ ⟨hSt.below hb, hLn.below hb, Below.next hBe hb⟩ (fun hHeld => ?_)
  clear hK K hSt hLn hBe hb
  refine tk 20 rfl ?v_20_477 ?hy_20_477 ?r_20_477
  case hy_20_477 => intro w h; have k4 := h.1.c4; have k6 := h.1.c6; have k7 := h.1.c7; go_simp; try with_reducible rfl
  simp only [pA, pB, pC, pD]
  refine tk 21 rfl ?v_21_478 ?hy_21_478 ?r_21_478
  case hy_21_478 => intro w h; have k4 := h.1.c4; have k6 := h.1.c6; have k7 := h.1.c7; go_simp; try with_reducible rfl
  simp only [pA, pB, pC, pD]
  refine wpAnyH_done (by kernel_rfl) ?_ _
  have c1 : w3.cell? ⟨w.heap.size, 1, none⟩ = some (.int .i64 1) := by rw [hHeld.1.cell 1, stCs, HS.out]; rfl
  have c2 : w3.cell? ⟨w.heap.size, 2, none⟩ = some (.int .i64 0) := by rw [hHeld.1.cell 2, stCs, HP.out]; rfl
  have HE := Lib.hid hHeld
  clear hHeld HE2 k1 k2 k3 k4 k5 k6 k7 k8 e1 e2 e3 e4 e5 e6 q1 q2 q3 c0
  go_wp2
  clear c1 c2
  refine wp_region_held_drew (S := fun w' => StBlk w' w.heap.size s lv ∧ LnRow w' lv s.lines ∧ Below w.heap.size w w') (by kernel_rfl) ⟨HE.out.1, HE.out.2.1, Below.next HE.out.2.2 (below_drewN' _ 1)⟩ (fun hHeld => ?_)
  refine tk 0 rfl ?v_0_479 ?hy_0_479 ?r_0_479
  case hy_0_479 => intro w h; have k4 := h.1.c4; have k6 := h.1.c6; have k7 := h.1.c7; go_simp; try with_reducible rfl
  simp only [pA, pB, pC, pD]
  refine tk 1 rfl ?v_1_480 ?hy_1_480 ?r_1_480
  case hy_1_480 => intro w h; have k4 := h.1.c4; have k6 := h.1.c6; have k7 := h.1.c7; go_simp; try with_reducible rfl
  simp only [pA, pB, pC, pD]
  refine tk 2 rfl ?v_2_481 ?hy_2_481 ?r_2_481
  case hy_2_481 => intro w h; have k4 := h.1.c4; have k6 := h.1.c6; have k7 := h.1.c7; go_simp; try with_reducible rfl
  simp only [pA, pB, pC, pD]
  refine tk 3 rfl ?v_3_482 ?hy_3_482 ?r_3_482
  case hy_3_482 => intro w h; have k4 := h.1.c4; have k6 := h.1.c6; have k7 := h.1.c7; go_simp; try with_reducible rfl
  simp only [pA, pB, pC, pD]
  refine tk 4 rfl ?v_4_483 ?hy_4_483 ?r_4_483
  case hy_4_483 => intro w h; have k4 := h.1.c4; have k6 := h.1.c6; have k7 := h.1.c7; go_simp; try with_reducible rfl
  simp only [pA, pB, pC, pD]
  refine tk 5 rfl ?v_5_484 ?hy_5_484 ?r_5_484
  case hy_5_484 => intro w h; have k4 := h.1.c4; have k6 := h.1.c6; have k7 := h.1.c7; go_simp; try with_reducible rfl
  simp only [pA, pB, pC, pD]
  refine wpAnyH_take (i := 6) (oi := ⟨_, _, _, _, _, _⟩) (v := stV s lv) rfl (by kernel_rfl) (by kernel_rfl) (by kernel_rfl) (fun _ _ _ h => h) (yieldsIf_load_mid (by kernel_rfl) 25 (.tmp 1) rfl w.heap.size 0 rfl (stCs s lv).toList _ (fun w' h j v hv => by rw [Nat.zero_add, h.1.cell]; simpa using hv) Tryd.underlying25 rfl (by rw [stInfo]; rfl)) (by assumption) ?_
  simp only [pA, pB, pC, pD]
  refine wpAnyH_ready (rs := [7]) (by kernel_rfl) (by simp) ?_
  refine AllReadyH.cons rfl (fun K hK => ?_) AllReadyH.nil
  go_simp
  go_at_call 21
  obtain ⟨hSt, hLn, hBe⟩ := hHeld
  refine (HDU.out _ hLn).mono ?_
  rintro x w4 ⟨rfl, hb⟩
  go_wp2_with fail
  refine hK.out _ _ ⟨hSt.below hb, hLn.below hb, Below.next hBe hb⟩ (fun hHeld => ?_)
  clear hK K hSt hLn hBe hb
  refine tk 8 rfl ?v_8_485 ?hy_8_485 ?r_8_485
  case hy_8_485 => intro w h; have k4 := h.1.c4; have k6 := h.1.c6; have k7 := h.1.c7; go_simp; try with_reducible rfl
  simp only [pA, pB, pC, pD]
  refine tk 9 rfl ?v_9_486 ?hy_9_486 ?r_9_486
  case hy_9_486 => intro w h; have k4 := h.1.c4; have k6 := h.1.c6; have k7 := h.1.c7; go_simp; try with_reducible rfl
  simp only [pA, pB, pC, pD]
  refine tk 10 rfl ?v_10_487 ?hy_10_487 ?r_10_487
  case hy_10_487 => intro w h; have k4 := h.1.c4; have k6 := h.1.c6; have k7 := h.1.c7; go_simp; try with_reducible rfl
  simp only [pA, pB, pC, pD]
  refine wpAnyH_done (by kernel_rfl) ?_ _
  have HE4 := Lib.hid hHeld
  clear hHeld HE HDU
  cases nB
  · skip
    go_wp2_with (first
      | (with_reducible refine wpList_load_st rfl (.tmp 1) rfl w.heap.size s lv rfl HE4.out.1 ?_)
      | (go_at_call 22; refine (HSS.out _).mono ?_; rintro x w5 ⟨rfl, hb⟩; have HE5 := Lib.hid (show StBlk w5 w.heap.size s lv ∧ LnRow w5 lv s.lines ∧ Below w.heap.size w w5 from ⟨HE4.out.1.below hb, HE4.out.2.1.below hb, Below.next HE4.out.2.2 hb⟩); clear hb
         have z0 := HE5.out.1.c0; have z1 := HE5.out.1.c1; have z2 := HE5.out.1.c2; have z3 := HE5.out.1.c3; have z4 := HE5.out.1.c4; have z6 := HE5.out.1.c6; have z7 := HE5.out.1.c7; have z8 := HE5.out.1.c8; have z9 := HE5.out.1.c9; have z10 := HE5.out.1.c10; have z11 := HE5.out.1.c11; have z5 : w5.cell? ⟨w.heap.size, 5, none⟩ = some lv := HE5.out.1.cell 5)
      | (with_reducible refine wpList_load_st rfl (.tmp 1) rfl w.heap.size s lv rfl HE5.out.1 ?_)
      | (go_at_call 23; refine (HUN.out _ HE5.out.2.1).mono ?_; rintro x w6 ⟨rfl, hb⟩; have z7' : w6.cell? ⟨w.heap.size, 7, none⟩ = some (.int .i64 s.refunded) := cell_later hb z7; have HB := Lib.hid (Below.next HE5.out.2.2 hb); clear hb))
    go_ret
    exact ⟨by rw [HVb.out]; rfl, HB.out⟩
  · by_cases hrf : s.refunded = 0
    · have r1 : (s.refunded == 0) = true := by rw [beq_iff_eq]; exact hrf
      clear hrf
      go_wp2_with (first
        | (with_reducible refine wpList_load_st rfl (.tmp 1) rfl w.heap.size s lv rfl HE4.out.1 ?_)
        | (go_at_call 22; refine (HSS.out _).mono ?_; rintro x w5 ⟨rfl, hb⟩; have HE5 := Lib.hid (show StBlk w5 w.heap.size s lv ∧ LnRow w5 lv s.lines ∧ Below w.heap.size w w5 from ⟨HE4.out.1.below hb, HE4.out.2.1.below hb, Below.next HE4.out.2.2 hb⟩); clear hb
           have z0 := HE5.out.1.c0; have z1 := HE5.out.1.c1; have z2 := HE5.out.1.c2; have z3 := HE5.out.1.c3; have z4 := HE5.out.1.c4; have z6 := HE5.out.1.c6; have z7 := HE5.out.1.c7; have z8 := HE5.out.1.c8; have z9 := HE5.out.1.c9; have z10 := HE5.out.1.c10; have z11 := HE5.out.1.c11; have z5 : w5.cell? ⟨w.heap.size, 5, none⟩ = some lv := HE5.out.1.cell 5)
        | (with_reducible refine wpList_load_st rfl (.tmp 1) rfl w.heap.size s lv rfl HE5.out.1 ?_)
        | (go_at_call 23; refine (HUN.out _ HE5.out.2.1).mono ?_; rintro x w6 ⟨rfl, hb⟩; have z7' : w6.cell? ⟨w.heap.size, 7, none⟩ = some (.int .i64 s.refunded) := cell_later hb z7; have HB := Lib.hid (Below.next HE5.out.2.2 hb); clear hb))
      go_ret
      exact ⟨by rw [HVb.out, r1]; rfl, HB.out⟩
    · have r1 : (s.refunded == 0) = false := by rw [beq_eq_false_iff_ne]; exact hrf
      clear hrf
      go_wp2_with (first
        | (with_reducible refine wpList_load_st rfl (.tmp 1) rfl w.heap.size s lv rfl HE4.out.1 ?_)
        | (go_at_call 22; refine (HSS.out _).mono ?_; rintro x w5 ⟨rfl, hb⟩; have HE5 := Lib.hid (show StBlk w5 w.heap.size s lv ∧ LnRow w5 lv s.lines ∧ Below w.heap.size w w5 from ⟨HE4.out.1.below hb, HE4.out.2.1.below hb, Below.next HE4.out.2.2 hb⟩); clear hb
           have z0 := HE5.out.1.c0; have z1 := HE5.out.1.c1; have z2 := HE5.out.1.c2; have z3 := HE5.out.1.c3; have z4 := HE5.out.1.c4; have z6 := HE5.out.1.c6; have z7 := HE5.out.1.c7; have z8 := HE5.out.1.c8; have z9 := HE5.out.1.c9; have z10 := HE5.out.1.c10; have z11 := HE5.out.1.c11; have z5 : w5.cell? ⟨w.heap.size, 5, none⟩ = some lv := HE5.out.1.cell 5)
        | (with_reducible refine wpList_load_st rfl (.tmp 1) rfl w.heap.size s lv rfl HE5.out.1 ?_)
        | (go_at_call 23; refine (HUN.out _ HE5.out.2.1).mono ?_; rintro x w6 ⟨rfl, hb⟩; have z7' : w6.cell? ⟨w.heap.size, 7, none⟩ = some (.int .i64 s.refunded) := cell_later hb z7; have HB := Lib.hid (Below.next HE5.out.2.2 hb); clear hb))
      go_ret
      exact ⟨by rw [HVb.out, r1]; rfl, HB.out⟩

end Go.Proofs.YtlobohpbgghleaaDoor
