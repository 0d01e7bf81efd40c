import Derived.Test.YtlobohpbgghleaaDoorRefValid2
namespace Go.Proofs.YtlobohpbgghleaaDoor
open Go.RowKit

set_option maxRecDepth 100000 in
set_option maxHeartbeats 16000000 in
theorem rv7_4 (s : St) (lv : Value) (w : World) (hr : LnRow w lv s.lines) (hw : s.who.length ≤ 281474976710656) (hf : boundedB s = true) (hm : dueOf s < s.paid) :
    Calls Tryd.prog 11 #[stV s lv] w fun e w' => e = .returned (.bool (validB s)) ∧ Below w.heap.size w w' := by
  have hv := Lib.hid (show validB s = false by unfold validB; rw [hf, decide_eq_false (by omega)]; rfl)
  have hbp := bounded_p hf
  have k1 : decide (s.order < 1) = false := by rw [decide_eq_false_iff_not]; have := hbp.order; omega
  have k2 : decide (1099511627776 < s.order) = false := by rw [decide_eq_false_iff_not]; have := hbp.order; omega
  have k3 : decide (s.status < 0) = false := by rw [decide_eq_false_iff_not]; have := hbp.status; omega
  have k4 : decide (5 < s.status) = false := by rw [decide_eq_false_iff_not]; have := hbp.status; omega
  have k5 : decide (s.cur < 0) = false := by rw [decide_eq_false_iff_not]; have := hbp.cur; omega
  have k6 : decide (3 < s.cur) = false := by rw [decide_eq_false_iff_not]; have := hbp.cur; omega
  have k7 : decide (s.tax < 0) = false := by rw [decide_eq_false_iff_not]; have := hbp.tax; omega
  have k8 : decide (5000 < s.tax) = false := by rw [decide_eq_false_iff_not]; have := hbp.tax; omega
  have e1 : decide (s.events < 0) = false := by rw [decide_eq_false_iff_not]; have := hbp.events; omega
  have e2 : decide (1099511627776 < s.events) = false := by rw [decide_eq_false_iff_not]; have := hbp.events; omega
  have e3 : decide (s.refused < 0) = false := by rw [decide_eq_false_iff_not]; have := hbp.refused; omega
  have e4 : decide (s.events < s.refused) = false := by rw [decide_eq_false_iff_not]; have := hbp.events; have := hbp.refused; omega
  have e5 : decide (s.stamp < 0) = false := by rw [decide_eq_false_iff_not]; have := hbp.stamp; omega
  have e6 : decide (1099511627776 < s.stamp) = false := by rw [decide_eq_false_iff_not]; have := hbp.stamp; omega
  have q1 : decide (s.refunded < 0) = false := by rw [decide_eq_false_iff_not]; have := hbp.refunded; omega
  have q2 : decide (s.paid < s.refunded) = false := by rw [decide_eq_false_iff_not]; have := hbp.refunded; omega
  have q3 : decide (s.paid < 0) = false := by rw [decide_eq_false_iff_not]; have := hbp.refunded; omega
  have hn := (bounded_lined hf).2
  have hl := (bounded_lined hf).1
  obtain ⟨c, hc⟩ : ∃ c, c = evCheck 4 (evWho s.who) := ⟨_, rfl⟩
  have hcn : (c == 0) = namedB s.who := by rw [hc]; exact evWho_check 4 (.inl rfl) s.who
  have HC := Lib.hid (show ∀ W : World, Calls Tryd.prog 19 #[.int .i64 4, .agg #[.int .i64 1, .int .i64 1, .int .i64 0, .int .i64 0, .int .i64 0, .int .i64 0, .int .i64 0, .string ⟨s.who.toArray⟩, .int .i64 0, .string ⟨#[]⟩]] W (ChkPost c W) from fun W => hc ▸ refCheckB_any 4 (evWho s.who) W (evWho_ok s.who hw))
  have HLN := Lib.hid (show ∀ W : World, LnRow W lv s.lines → Calls Tryd.prog 20 #[stV s lv] W fun e w' => e = .returned (.bool (linedB s.lines)) ∧ Below W.heap.size W w' from fun W h => rlines_any s lv W h)
  have HE0 := Lib.hid (show StBlk (w.alloc (.cells (stCs s lv) 25)) w.heap.size s lv ∧ LnRow (w.alloc (.cells (stCs s lv) 25)) lv s.lines ∧ Below w.heap.size w (w.alloc (.cells (stCs s lv) 25)) from by
    have hb : Below w.heap.size w (w.alloc (.cells (stCs s lv) 25)) := (Below.refl _ _).alloc (Nat.le_refl _) _
    exact ⟨stBlk_alloc w s lv, hr.below hb, hb⟩)
  have c0 : (c != 0) = false := by rw [hn, beq_iff_eq] at hcn; rw [bne_eq_false_iff_eq]; exact hcn
  rw [hl] at HLN
  obtain ⟨D, hD⟩ : ∃ D, D = dueOf s := ⟨_, rfl⟩
  have HDU := Lib.hid (show ∀ W : World, LnRow W lv s.lines → Calls Tryd.prog 21 #[stV s lv] W fun e w' => e = .returned (.int .i64 D) ∧ Below W.heap.size W w' from fun W h => hD ▸ rdue_any s lv W h hbp.fine hbp.few hbp.tax.1 hbp.tax.2)
  rw [← hD] at hm
  have d1 : decide (D < s.paid) = true := decide_eq_true hm
  clear hc hcn hn hl hr hw hf hbp hD hm
  go_enter Tryd.func11, Tryd.ntmps11
  go_wp2_with (first
    | (go_at_call 19; (with_reducible refine (HC.out _).mono ?_); rintro x w1 ⟨rfl, hb1⟩; have HE1 := Lib.hid (show StBlk w1 w.heap.size s lv ∧ LnRow w1 lv s.lines ∧ Below w.heap.size w w1 from ⟨HE0.out.1.below hb1, HE0.out.2.1.below hb1, Below.next HE0.out.2.2 hb1⟩); clear hb1; have z0 := HE1.out.1.c0; have z1 := HE1.out.1.c1; have z2 := HE1.out.1.c2; have z3 := HE1.out.1.c3; have z4 := HE1.out.1.c4; have z5 := HE1.out.1.c5; have z6 := HE1.out.1.c6; have z7 := HE1.out.1.c7; have z8 := HE1.out.1.c8; have z9 := HE1.out.1.c9; have z10 := HE1.out.1.c10; have z11 := HE1.out.1.c11)
    | (with_reducible refine wpList_load_st rfl (.tmp 1) rfl w.heap.size s lv rfl HE1.out.1 ?_)
    | (go_at_call 20; refine (HLN.out _ HE1.out.2.1).mono ?_; rintro x w2 ⟨rfl, hb2⟩; have HE2 := Lib.hid (show StBlk w2 w.heap.size s lv ∧ LnRow w2 lv s.lines ∧ Below w.heap.size w w2 from ⟨HE1.out.1.below hb2, HE1.out.2.1.below hb2, Below.next HE1.out.2.2 hb2⟩); clear hb2))
  clear z0 z1 z2 z3 z4 z5 z6 z7 z8 z9 z10 z11 HE0 HE1 HC HLN
  refine wp_region_held_drew (S := fun w' => StBlk w' w.heap.size s lv ∧ LnRow w' lv s.lines ∧ Below w.heap.size w w') (by kernel_rfl) ⟨HE2.out.1, HE2.out.2.1, Below.next HE2.out.2.2 (below_drewN' _ 1)⟩ (fun hHeld => ?_)
  refine tk 0 rfl ?v_0_8 ?hy_0_8 ?r_0_8
  case hy_0_8 => intro w h; have k4 := h.1.c4; have k6 := h.1.c6; have k7 := h.1.c7; go_simp; try with_reducible rfl
  simp only [pA, pB, pC, pD]
  refine tk 1 rfl ?v_1_9 ?hy_1_9 ?r_1_9
  case hy_1_9 => intro w h; have k4 := h.1.c4; have k6 := h.1.c6; have k7 := h.1.c7; go_simp; try with_reducible rfl
  simp only [pA, pB, pC, pD]
  refine tk 2 rfl ?v_2_10 ?hy_2_10 ?r_2_10
  case hy_2_10 => intro w h; have k4 := h.1.c4; have k6 := h.1.c6; have k7 := h.1.c7; go_simp; try with_reducible rfl
  simp only [pA, pB, pC, pD]
  refine tk 3 rfl ?v_3_11 ?hy_3_11 ?r_3_11
  case hy_3_11 => intro w h; have k4 := h.1.c4; have k6 := h.1.c6; have k7 := h.1.c7; go_simp; try with_reducible rfl
  simp only [pA, pB, pC, pD]
  refine tk 4 rfl ?v_4_12 ?hy_4_12 ?r_4_12
  case hy_4_12 => intro w h; have k4 := h.1.c4; have k6 := h.1.c6; have k7 := h.1.c7; go_simp; try with_reducible rfl
  simp only [pA, pB, pC, pD]
  refine tk 5 rfl ?v_5_13 ?hy_5_13 ?r_5_13
  case hy_5_13 => intro w h; have k4 := h.1.c4; have k6 := h.1.c6; have k7 := h.1.c7; go_simp; try with_reducible rfl
  simp only [pA, pB, pC, pD]
  refine tk 6 rfl ?v_6_14 ?hy_6_14 ?r_6_14
  case hy_6_14 => intro w h; have k4 := h.1.c4; have k6 := h.1.c6; have k7 := h.1.c7; go_simp; try with_reducible rfl
  simp only [pA, pB, pC, pD]
  refine tk 7 rfl ?v_7_15 ?hy_7_15 ?r_7_15
  case hy_7_15 => intro w h; have k4 := h.1.c4; have k6 := h.1.c6; have k7 := h.1.c7; go_simp; try with_reducible rfl
  simp only [pA, pB, pC, pD]
  refine tk 8 rfl ?v_8_16 ?hy_8_16 ?r_8_16
  case hy_8_16 => intro w h; have k4 := h.1.c4; have k6 := h.1.c6; have k7 := h.1.c7; go_simp; try with_reducible rfl
  simp only [pA, pB, pC, pD]
  refine tk 9 rfl ?v_9_17 ?hy_9_17 ?r_9_17
  case hy_9_17 => intro w h; have k4 := h.1.c4; have k6 := h.1.c6; have k7 := h.1.c7; go_simp; try with_reducible rfl
  simp only [pA, pB, pC, pD]
  refine tk 10 rfl ?v_10_18 ?hy_10_18 ?r_10_18
  case hy_10_18 => intro w h; have k4 := h.1.c4; have k6 := h.1.c6; have k7 := h.1.c7; go_simp; try with_reducible rfl
  simp only [pA, pB, pC, pD]
  refine tk 11 rfl ?v_11_19 ?hy_11_19 ?r_11_19
  case hy_11_19 => intro w h; have k4 := h.1.c4; have k6 := h.1.c6; have k7 := h.1.c7; go_simp; try with_reducible rfl
  simp only [pA, pB, pC, pD]
  refine tk 12 rfl ?v_12_20 ?hy_12_20 ?r_12_20
  case hy_12_20 => intro w h; have k4 := h.1.c4; have k6 := h.1.c6; have k7 := h.1.c7; go_simp; try with_reducible rfl
  simp only [pA, pB, pC, pD]
  refine tk 13 rfl ?v_13_21 ?hy_13_21 ?r_13_21
  case hy_13_21 => intro w h; have k4 := h.1.c4; have k6 := h.1.c6; have k7 := h.1.c7; go_simp; try with_reducible rfl
  simp only [pA, pB, pC, pD]
  refine tk 14 rfl ?v_14_22 ?hy_14_22 ?r_14_22
  case hy_14_22 => intro w h; have k4 := h.1.c4; have k6 := h.1.c6; have k7 := h.1.c7; go_simp; try with_reducible rfl
  simp only [pA, pB, pC, pD]
  refine tk 15 rfl ?v_15_23 ?hy_15_23 ?r_15_23
  case hy_15_23 => intro w h; have k4 := h.1.c4; have k6 := h.1.c6; have k7 := h.1.c7; go_simp; try with_reducible rfl
  simp only [pA, pB, pC, pD]
  refine tk 16 rfl ?v_16_24 ?hy_16_24 ?r_16_24
  case hy_16_24 => intro w h; have k4 := h.1.c4; have k6 := h.1.c6; have k7 := h.1.c7; go_simp; try with_reducible rfl
  simp only [pA, pB, pC, pD]
  refine tk 17 rfl ?v_17_25 ?hy_17_25 ?r_17_25
  case hy_17_25 => intro w h; have k4 := h.1.c4; have k6 := h.1.c6; have k7 := h.1.c7; go_simp; try with_reducible rfl
  simp only [pA, pB, pC, pD]
  refine wpAnyH_take (i := 18) (oi := ⟨_, _, _, _, _, _⟩) (v := stV s lv) rfl (by kernel_rfl) (by kernel_rfl) (by kernel_rfl) (fun _ _ _ h => h) (yieldsIf_load_mid (by kernel_rfl) 25 (.tmp 1) rfl w.heap.size 0 rfl (stCs s lv).toList _ (fun w' h j v hv => by rw [Nat.zero_add, h.1.cell]; simpa using hv) Tryd.underlying25 rfl (by rw [stInfo]; rfl)) (by assumption) ?_
  simp only [pA, pB, pC, pD]
  refine wpAnyH_ready (rs := [19]) (by kernel_rfl) (by simp) ?_
  refine AllReadyH.cons rfl (fun K hK => ?_) AllReadyH.nil
  go_simp
  go_at_call 21
  obtain ⟨hSt, hLn, hBe⟩ := hHeld
  refine (HDU.out _ hLn).mono ?_
  rintro x w3 ⟨rfl, hb⟩
  go_wp2_with fail
  refine hK.out _ _ ⟨hSt.below hb, hLn.below hb, Below.next hBe hb⟩ (fun hHeld => ?_)
  clear hK K hSt hLn hBe hb
  refine tk 20 rfl ?v_20_26 ?hy_20_26 ?r_20_26
  case hy_20_26 => intro w h; have k4 := h.1.c4; have k6 := h.1.c6; have k7 := h.1.c7; go_simp; try with_reducible rfl
  simp only [pA, pB, pC, pD]
  refine tk 21 rfl ?v_21_27 ?hy_21_27 ?r_21_27
  case hy_21_27 => intro w h; have k4 := h.1.c4; have k6 := h.1.c6; have k7 := h.1.c7; go_simp; try with_reducible rfl
  simp only [pA, pB, pC, pD]
  refine wpAnyH_done (by kernel_rfl) ?_ _
  have HB := Lib.hid hHeld.2.2
  clear hHeld
  go_wp2
  go_ret
  exact ⟨by rw [hv.out]; rfl, HB.out⟩

set_option maxRecDepth 100000 in
set_option maxHeartbeats 16000000 in
theorem rv9 (s : St) (lv : Value) (w : World) (hr : LnRow w lv s.lines) (hw : s.who.length ≤ 281474976710656) (hf : boundedB s = true) (hm : ¬ dueOf s < s.paid) (hs : s.status = 2) (hp1 : s.prior ≠ 1) (hp3 : s.prior ≠ 3) :
    Calls Tryd.prog 11 #[stV s lv] w fun e w' => e = .returned (.bool (validB s)) ∧ Below w.heap.size w w' := by
  have hv := Lib.hid (show validB s = false by unfold validB; rw [hf, if_pos hs]; simp [hp1, hp3])
  have hbp := bounded_p hf
  have k1 : decide (s.order < 1) = false := by rw [decide_eq_false_iff_not]; have := hbp.order; omega
  have k2 : decide (1099511627776 < s.order) = false := by rw [decide_eq_false_iff_not]; have := hbp.order; omega
  have k3 : decide (s.status < 0) = false := by rw [decide_eq_false_iff_not]; have := hbp.status; omega
  have k4 : decide (5 < s.status) = false := by rw [decide_eq_false_iff_not]; have := hbp.status; omega
  have k5 : decide (s.cur < 0) = false := by rw [decide_eq_false_iff_not]; have := hbp.cur; omega
  have k6 : decide (3 < s.cur) = false := by rw [decide_eq_false_iff_not]; have := hbp.cur; omega
  have k7 : decide (s.tax < 0) = false := by rw [decide_eq_false_iff_not]; have := hbp.tax; omega
  have k8 : decide (5000 < s.tax) = false := by rw [decide_eq_false_iff_not]; have := hbp.tax; omega
  have e1 : decide (s.events < 0) = false := by rw [decide_eq_false_iff_not]; have := hbp.events; omega
  have e2 : decide (1099511627776 < s.events) = false := by rw [decide_eq_false_iff_not]; have := hbp.events; omega
  have e3 : decide (s.refused < 0) = false := by rw [decide_eq_false_iff_not]; have := hbp.refused; omega
  have e4 : decide (s.events < s.refused) = false := by rw [decide_eq_false_iff_not]; have := hbp.events; have := hbp.refused; omega
  have e5 : decide (s.stamp < 0) = false := by rw [decide_eq_false_iff_not]; have := hbp.stamp; omega
  have e6 : decide (1099511627776 < s.stamp) = false := by rw [decide_eq_false_iff_not]; have := hbp.stamp; omega
  have q1 : decide (s.refunded < 0) = false := by rw [decide_eq_false_iff_not]; have := hbp.refunded; omega
  have q2 : decide (s.paid < s.refunded) = false := by rw [decide_eq_false_iff_not]; have := hbp.refunded; omega
  have q3 : decide (s.paid < 0) = false := by rw [decide_eq_false_iff_not]; have := hbp.refunded; omega
  have hn := (bounded_lined hf).2
  have hl := (bounded_lined hf).1
  obtain ⟨c, hc⟩ : ∃ c, c = evCheck 4 (evWho s.who) := ⟨_, rfl⟩
  have hcn : (c == 0) = namedB s.who := by rw [hc]; exact evWho_check 4 (.inl rfl) s.who
  have HC := Lib.hid (show ∀ W : World, Calls Tryd.prog 19 #[.int .i64 4, .agg #[.int .i64 1, .int .i64 1, .int .i64 0, .int .i64 0, .int .i64 0, .int .i64 0, .int .i64 0, .string ⟨s.who.toArray⟩, .int .i64 0, .string ⟨#[]⟩]] W (ChkPost c W) from fun W => hc ▸ refCheckB_any 4 (evWho s.who) W (evWho_ok s.who hw))
  have HLN := Lib.hid (show ∀ W : World, LnRow W lv s.lines → Calls Tryd.prog 20 #[stV s lv] W fun e w' => e = .returned (.bool (linedB s.lines)) ∧ Below W.heap.size W w' from fun W h => rlines_any s lv W h)
  have HE0 := Lib.hid (show StBlk (w.alloc (.cells (stCs s lv) 25)) w.heap.size s lv ∧ LnRow (w.alloc (.cells (stCs s lv) 25)) lv s.lines ∧ Below w.heap.size w (w.alloc (.cells (stCs s lv) 25)) from by
    have hb : Below w.heap.size w (w.alloc (.cells (stCs s lv) 25)) := (Below.refl _ _).alloc (Nat.le_refl _) _
    exact ⟨stBlk_alloc w s lv, hr.below hb, hb⟩)
  have c0 : (c != 0) = false := by rw [hn, beq_iff_eq] at hcn; rw [bne_eq_false_iff_eq]; exact hcn
  rw [hl] at HLN
  obtain ⟨D, hD⟩ : ∃ D, D = dueOf s := ⟨_, rfl⟩
  have HDU := Lib.hid (show ∀ W : World, LnRow W lv s.lines → Calls Tryd.prog 21 #[stV s lv] W fun e w' => e = .returned (.int .i64 D) ∧ Below W.heap.size W w' from fun W h => hD ▸ rdue_any s lv W h hbp.fine hbp.few hbp.tax.1 hbp.tax.2)
  rw [← hD] at hm
  have d1 : decide (D < s.paid) = false := decide_eq_false hm
  have HS := Lib.hid hs
  have x1 : (s.prior != 1) = true := by rw [bne_iff_ne]; exact hp1
  have x3 : (s.prior != 3) = true := by rw [bne_iff_ne]; exact hp3
  have hm2 : s.paid ≤ D := by omega
  clear hc hcn hn hl hr hw hf hbp hD hm hs hp1 hp3
  go_enter Tryd.func11, Tryd.ntmps11
  go_wp2_with (first
    | (go_at_call 19; (with_reducible refine (HC.out _).mono ?_); rintro x w1 ⟨rfl, hb1⟩; have HE1 := Lib.hid (show StBlk w1 w.heap.size s lv ∧ LnRow w1 lv s.lines ∧ Below w.heap.size w w1 from ⟨HE0.out.1.below hb1, HE0.out.2.1.below hb1, Below.next HE0.out.2.2 hb1⟩); clear hb1; have z0 := HE1.out.1.c0; have z1 := HE1.out.1.c1; have z2 := HE1.out.1.c2; have z3 := HE1.out.1.c3; have z4 := HE1.out.1.c4; have z5 := HE1.out.1.c5; have z6 := HE1.out.1.c6; have z7 := HE1.out.1.c7; have z8 := HE1.out.1.c8; have z9 := HE1.out.1.c9; have z10 := HE1.out.1.c10; have z11 := HE1.out.1.c11)
    | (with_reducible refine wpList_load_st rfl (.tmp 1) rfl w.heap.size s lv rfl HE1.out.1 ?_)
    | (go_at_call 20; refine (HLN.out _ HE1.out.2.1).mono ?_; rintro x w2 ⟨rfl, hb2⟩; have HE2 := Lib.hid (show StBlk w2 w.heap.size s lv ∧ LnRow w2 lv s.lines ∧ Below w.heap.size w w2 from ⟨HE1.out.1.below hb2, HE1.out.2.1.below hb2, Below.next HE1.out.2.2 hb2⟩); clear hb2))
  clear z0 z1 z2 z3 z4 z5 z6 z7 z8 z9 z10 z11 HE0 HE1 HC HLN
  refine wp_region_held_drew (S := fun w' => StBlk w' w.heap.size s lv ∧ LnRow w' lv s.lines ∧ Below w.heap.size w w') (by kernel_rfl) ⟨HE2.out.1, HE2.out.2.1, Below.next HE2.out.2.2 (below_drewN' _ 1)⟩ (fun hHeld => ?_)
  refine tk 0 rfl ?v_0_28 ?hy_0_28 ?r_0_28
  case hy_0_28 => intro w h; have k4 := h.1.c4; have k6 := h.1.c6; have k7 := h.1.c7; go_simp; try with_reducible rfl
  simp only [pA, pB, pC, pD]
  refine tk 1 rfl ?v_1_29 ?hy_1_29 ?r_1_29
  case hy_1_29 => intro w h; have k4 := h.1.c4; have k6 := h.1.c6; have k7 := h.1.c7; go_simp; try with_reducible rfl
  simp only [pA, pB, pC, pD]
  refine tk 2 rfl ?v_2_30 ?hy_2_30 ?r_2_30
  case hy_2_30 => intro w h; have k4 := h.1.c4; have k6 := h.1.c6; have k7 := h.1.c7; go_simp; try with_reducible rfl
  simp only [pA, pB, pC, pD]
  refine tk 3 rfl ?v_3_31 ?hy_3_31 ?r_3_31
  case hy_3_31 => intro w h; have k4 := h.1.c4; have k6 := h.1.c6; have k7 := h.1.c7; go_simp; try with_reducible rfl
  simp only [pA, pB, pC, pD]
  refine tk 4 rfl ?v_4_32 ?hy_4_32 ?r_4_32
  case hy_4_32 => intro w h; have k4 := h.1.c4; have k6 := h.1.c6; have k7 := h.1.c7; go_simp; try with_reducible rfl
  simp only [pA, pB, pC, pD]
  refine tk 5 rfl ?v_5_33 ?hy_5_33 ?r_5_33
  case hy_5_33 => intro w h; have k4 := h.1.c4; have k6 := h.1.c6; have k7 := h.1.c7; go_simp; try with_reducible rfl
  simp only [pA, pB, pC, pD]
  refine tk 6 rfl ?v_6_34 ?hy_6_34 ?r_6_34
  case hy_6_34 => intro w h; have k4 := h.1.c4; have k6 := h.1.c6; have k7 := h.1.c7; go_simp; try with_reducible rfl
  simp only [pA, pB, pC, pD]
  refine tk 7 rfl ?v_7_35 ?hy_7_35 ?r_7_35
  case hy_7_35 => intro w h; have k4 := h.1.c4; have k6 := h.1.c6; have k7 := h.1.c7; go_simp; try with_reducible rfl
  simp only [pA, pB, pC, pD]
  refine tk 8 rfl ?v_8_36 ?hy_8_36 ?r_8_36
  case hy_8_36 => intro w h; have k4 := h.1.c4; have k6 := h.1.c6; have k7 := h.1.c7; go_simp; try with_reducible rfl
  simp only [pA, pB, pC, pD]
  refine tk 9 rfl ?v_9_37 ?hy_9_37 ?r_9_37
  case hy_9_37 => intro w h; have k4 := h.1.c4; have k6 := h.1.c6; have k7 := h.1.c7; go_simp; try with_reducible rfl
  simp only [pA, pB, pC, pD]
  refine tk 10 rfl ?v_10_38 ?hy_10_38 ?r_10_38
  case hy_10_38 => intro w h; have k4 := h.1.c4; have k6 := h.1.c6; have k7 := h.1.c7; go_simp; try with_reducible rfl
  simp only [pA, pB, pC, pD]
  refine tk 11 rfl ?v_11_39 ?hy_11_39 ?r_11_39
  case hy_11_39 => intro w h; have k4 := h.1.c4; have k6 := h.1.c6; have k7 := h.1.c7; go_simp; try with_reducible rfl
  simp only [pA, pB, pC, pD]
  refine tk 12 rfl ?v_12_40 ?hy_12_40 ?r_12_40
  case hy_12_40 => intro w h; have k4 := h.1.c4; have k6 := h.1.c6; have k7 := h.1.c7; go_simp; try with_reducible rfl
  simp only [pA, pB, pC, pD]
  refine tk 13 rfl ?v_13_41 ?hy_13_41 ?r_13_41
  case hy_13_41 => intro w h; have k4 := h.1.c4; have k6 := h.1.c6; have k7 := h.1.c7; go_simp; try with_reducible rfl
  simp only [pA, pB, pC, pD]
  refine tk 14 rfl ?v_14_42 ?hy_14_42 ?r_14_42
  case hy_14_42 => intro w h; have k4 := h.1.c4; have k6 := h.1.c6; have k7 := h.1.c7; go_simp; try with_reducible rfl
  simp only [pA, pB, pC, pD]
  refine tk 15 rfl ?v_15_43 ?hy_15_43 ?r_15_43
  case hy_15_43 => intro w h; have k4 := h.1.c4; have k6 := h.1.c6; have k7 := h.1.c7; go_simp; try with_reducible rfl
  simp only [pA, pB, pC, pD]
  refine tk 16 rfl ?v_16_44 ?hy_16_44 ?r_16_44
  case hy_16_44 => intro w h; have k4 := h.1.c4; have k6 := h.1.c6; have k7 := h.1.c7; go_simp; try with_reducible rfl
  simp only [pA, pB, pC, pD]
  refine tk 17 rfl ?v_17_45 ?hy_17_45 ?r_17_45
  case hy_17_45 => intro w h; have k4 := h.1.c4; have k6 := h.1.c6; have k7 := h.1.c7; go_simp; try with_reducible rfl
  simp only [pA, pB, pC, pD]
  refine wpAnyH_take (i := 18) (oi := ⟨_, _, _, _, _, _⟩) (v := stV s lv) rfl (by kernel_rfl) (by kernel_rfl) (by kernel_rfl) (fun _ _ _ h => h) (yieldsIf_load_mid (by kernel_rfl) 25 (.tmp 1) rfl w.heap.size 0 rfl (stCs s lv).toList _ (fun w' h j v hv => by rw [Nat.zero_add, h.1.cell]; simpa using hv) Tryd.underlying25 rfl (by rw [stInfo]; rfl)) (by assumption) ?_
  simp only [pA, pB, pC, pD]
  refine wpAnyH_ready (rs := [19]) (by kernel_rfl) (by simp) ?_
  refine AllReadyH.cons rfl (fun K hK => ?_) AllReadyH.nil
  go_simp
  go_at_call 21
  obtain ⟨hSt, hLn, hBe⟩ := hHeld
  refine (HDU.out _ hLn).mono ?_
  rintro x w3 ⟨rfl, hb⟩
  go_wp2_with fail
  refine hK.out _ _ ⟨hSt.below hb, hLn.below hb, Below.next hBe hb⟩ (fun hHeld => ?_)
  clear hK K hSt hLn hBe hb
  refine tk 20 rfl ?v_20_46 ?hy_20_46 ?r_20_46
  case hy_20_46 => intro w h; have k4 := h.1.c4; have k6 := h.1.c6; have k7 := h.1.c7; go_simp; try with_reducible rfl
  simp only [pA, pB, pC, pD]
  refine tk 21 rfl ?v_21_47 ?hy_21_47 ?r_21_47
  case hy_21_47 => intro w h; have k4 := h.1.c4; have k6 := h.1.c6; have k7 := h.1.c7; go_simp; try with_reducible rfl
  simp only [pA, pB, pC, pD]
  refine wpAnyH_done (by kernel_rfl) ?_ _
  have c1 : w3.cell? ⟨w.heap.size, 1, none⟩ = some (.int .i64 2) := by rw [hHeld.1.cell 1, stCs, HS.out]; rfl
  have c2 := hHeld.1.c2
  have HB := Lib.hid hHeld.2.2
  clear hHeld
  go_wp2
  go_ret
  exact ⟨by rw [hv.out]; rfl, HB.out⟩

set_option maxRecDepth 100000 in
set_option maxHeartbeats 16000000 in
theorem rv11 (s : St) (lv : Value) (w : World) (hr : LnRow w lv s.lines) (hw : s.who.length ≤ 281474976710656) (hf : boundedB s = true) (hm : ¬ dueOf s < s.paid) (hs : s.status ≠ 2) (hp : s.prior ≠ 0) :
    Calls Tryd.prog 11 #[stV s lv] w fun e w' => e = .returned (.bool (validB s)) ∧ Below w.heap.size w w' := by
  have hv := Lib.hid (show validB s = false by unfold validB; rw [hf, if_neg hs]; simp [hp])
  have hbp := bounded_p hf
  have k1 : decide (s.order < 1) = false := by rw [decide_eq_false_iff_not]; have := hbp.order; omega
  have k2 : decide (1099511627776 < s.order) = false := by rw [decide_eq_false_iff_not]; have := hbp.order; omega
  have k3 : decide (s.status < 0) = false := by rw [decide_eq_false_iff_not]; have := hbp.status; omega
  have k4 : decide (5 < s.status) = false := by rw [decide_eq_false_iff_not]; have := hbp.status; omega
  have k5 : decide (s.cur < 0) = false := by rw [decide_eq_false_iff_not]; have := hbp.cur; omega
  have k6 : decide (3 < s.cur) = false := by rw [decide_eq_false_iff_not]; have := hbp.cur; omega
  have k7 : decide (s.tax < 0) = false := by rw [decide_eq_false_iff_not]; have := hbp.tax; omega
  have k8 : decide (5000 < s.tax) = false := by rw [decide_eq_false_iff_not]; have := hbp.tax; omega
  have e1 : decide (s.events < 0) = false := by rw [decide_eq_false_iff_not]; have := hbp.events; omega
  have e2 : decide (1099511627776 < s.events) = false := by rw [decide_eq_false_iff_not]; have := hbp.events; omega
  have e3 : decide (s.refused < 0) = false := by rw [decide_eq_false_iff_not]; have := hbp.refused; omega
  have e4 : decide (s.events < s.refused) = false := by rw [decide_eq_false_iff_not]; have := hbp.events; have := hbp.refused; omega
  have e5 : decide (s.stamp < 0) = false := by rw [decide_eq_false_iff_not]; have := hbp.stamp; omega
  have e6 : decide (1099511627776 < s.stamp) = false := by rw [decide_eq_false_iff_not]; have := hbp.stamp; omega
  have q1 : decide (s.refunded < 0) = false := by rw [decide_eq_false_iff_not]; have := hbp.refunded; omega
  have q2 : decide (s.paid < s.refunded) = false := by rw [decide_eq_false_iff_not]; have := hbp.refunded; omega
  have q3 : decide (s.paid < 0) = false := by rw [decide_eq_false_iff_not]; have := hbp.refunded; omega
  have hn := (bounded_lined hf).2
  have hl := (bounded_lined hf).1
  obtain ⟨c, hc⟩ : ∃ c, c = evCheck 4 (evWho s.who) := ⟨_, rfl⟩
  have hcn : (c == 0) = namedB s.who := by rw [hc]; exact evWho_check 4 (.inl rfl) s.who
  have HC := Lib.hid (show ∀ W : World, Calls Tryd.prog 19 #[.int .i64 4, .agg #[.int .i64 1, .int .i64 1, .int .i64 0, .int .i64 0, .int .i64 0, .int .i64 0, .int .i64 0, .string ⟨s.who.toArray⟩, .int .i64 0, .string ⟨#[]⟩]] W (ChkPost c W) from fun W => hc ▸ refCheckB_any 4 (evWho s.who) W (evWho_ok s.who hw))
  have HLN := Lib.hid (show ∀ W : World, LnRow W lv s.lines → Calls Tryd.prog 20 #[stV s lv] W fun e w' => e = .returned (.bool (linedB s.lines)) ∧ Below W.heap.size W w' from fun W h => rlines_any s lv W h)
  have HE0 := Lib.hid (show StBlk (w.alloc (.cells (stCs s lv) 25)) w.heap.size s lv ∧ LnRow (w.alloc (.cells (stCs s lv) 25)) lv s.lines ∧ Below w.heap.size w (w.alloc (.cells (stCs s lv) 25)) from by
    have hb : Below w.heap.size w (w.alloc (.cells (stCs s lv) 25)) := (Below.refl _ _).alloc (Nat.le_refl _) _
    exact ⟨stBlk_alloc w s lv, hr.below hb, hb⟩)
  have c0 : (c != 0) = false := by rw [hn, beq_iff_eq] at hcn; rw [bne_eq_false_iff_eq]; exact hcn
  rw [hl] at HLN
  obtain ⟨D, hD⟩ : ∃ D, D = dueOf s := ⟨_, rfl⟩
  have HDU := Lib.hid (show ∀ W : World, LnRow W lv s.lines → Calls Tryd.prog 21 #[stV s lv] W fun e w' => e = .returned (.int .i64 D) ∧ Below W.heap.size W w' from fun W h => hD ▸ rdue_any s lv W h hbp.fine hbp.few hbp.tax.1 hbp.tax.2)
  rw [← hD] at hm
  have d1 : decide (D < s.paid) = false := decide_eq_false hm
  have x1 : (s.status == 2) = false := by rw [beq_eq_false_iff_ne]; exact hs
  have x2 : (s.status != 2) = true := by rw [bne_iff_ne]; exact hs
  have x3 : (s.prior != 0) = true := by rw [bne_iff_ne]; exact hp
  have hm2 : s.paid ≤ D := by omega
  clear hc hcn hn hl hr hw hf hbp hD hm hs hp
  go_enter Tryd.func11, Tryd.ntmps11
  go_wp2_with (first
    | (go_at_call 19; (with_reducible refine (HC.out _).mono ?_); rintro x w1 ⟨rfl, hb1⟩; have HE1 := Lib.hid (show StBlk w1 w.heap.size s lv ∧ LnRow w1 lv s.lines ∧ Below w.heap.size w w1 from ⟨HE0.out.1.below hb1, HE0.out.2.1.below hb1, Below.next HE0.out.2.2 hb1⟩); clear hb1; have z0 := HE1.out.1.c0; have z1 := HE1.out.1.c1; have z2 := HE1.out.1.c2; have z3 := HE1.out.1.c3; have z4 := HE1.out.1.c4; have z5 := HE1.out.1.c5; have z6 := HE1.out.1.c6; have z7 := HE1.out.1.c7; have z8 := HE1.out.1.c8; have z9 := HE1.out.1.c9; have z10 := HE1.out.1.c10; have z11 := HE1.out.1.c11)
    | (with_reducible refine wpList_load_st rfl (.tmp 1) rfl w.heap.size s lv rfl HE1.out.1 ?_)
    | (go_at_call 20; refine (HLN.out _ HE1.out.2.1).mono ?_; rintro x w2 ⟨rfl, hb2⟩; have HE2 := Lib.hid (show StBlk w2 w.heap.size s lv ∧ LnRow w2 lv s.lines ∧ Below w.heap.size w w2 from ⟨HE1.out.1.below hb2, HE1.out.2.1.below hb2, Below.next HE1.out.2.2 hb2⟩); clear hb2))
  clear z0 z1 z2 z3 z4 z5 z6 z7 z8 z9 z10 z11 HE0 HE1 HC HLN
  refine wp_region_held_drew (S := fun w' => StBlk w' w.heap.size s lv ∧ LnRow w' lv s.lines ∧ Below w.heap.size w w') (by kernel_rfl) ⟨HE2.out.1, HE2.out.2.1, Below.next HE2.out.2.2 (below_drewN' _ 1)⟩ (fun hHeld => ?_)
  refine tk 0 rfl ?v_0_48 ?hy_0_48 ?r_0_48
  case hy_0_48 => intro w h; have k4 := h.1.c4; have k6 := h.1.c6; have k7 := h.1.c7; go_simp; try with_reducible rfl
  simp only [pA, pB, pC, pD]
  refine tk 1 rfl ?v_1_49 ?hy_1_49 ?r_1_49
  case hy_1_49 => intro w h; have k4 := h.1.c4; have k6 := h.1.c6; have k7 := h.1.c7; go_simp; try with_reducible rfl
  simp only [pA, pB, pC, pD]
  refine tk 2 rfl ?v_2_50 ?hy_2_50 ?r_2_50
  case hy_2_50 => intro w h; have k4 := h.1.c4; have k6 := h.1.c6; have k7 := h.1.c7; go_simp; try with_reducible rfl
  simp only [pA, pB, pC, pD]
  refine tk 3 rfl ?v_3_51 ?hy_3_51 ?r_3_51
  case hy_3_51 => intro w h; have k4 := h.1.c4; have k6 := h.1.c6; have k7 := h.1.c7; go_simp; try with_reducible rfl
  simp only [pA, pB, pC, pD]
  refine tk 4 rfl ?v_4_52 ?hy_4_52 ?r_4_52
  case hy_4_52 => intro w h; have k4 := h.1.c4; have k6 := h.1.c6; have k7 := h.1.c7; go_simp; try with_reducible rfl
  simp only [pA, pB, pC, pD]
  refine tk 5 rfl ?v_5_53 ?hy_5_53 ?r_5_53
  case hy_5_53 => intro w h; have k4 := h.1.c4; have k6 := h.1.c6; have k7 := h.1.c7; go_simp; try with_reducible rfl
  simp only [pA, pB, pC, pD]
  refine tk 6 rfl ?v_6_54 ?hy_6_54 ?r_6_54
  case hy_6_54 => intro w h; have k4 := h.1.c4; have k6 := h.1.c6; have k7 := h.1.c7; go_simp; try with_reducible rfl
  simp only [pA, pB, pC, pD]
  refine tk 7 rfl ?v_7_55 ?hy_7_55 ?r_7_55
  case hy_7_55 => intro w h; have k4 := h.1.c4; have k6 := h.1.c6; have k7 := h.1.c7; go_simp; try with_reducible rfl
  simp only [pA, pB, pC, pD]
  refine tk 8 rfl ?v_8_56 ?hy_8_56 ?r_8_56
  case hy_8_56 => intro w h; have k4 := h.1.c4; have k6 := h.1.c6; have k7 := h.1.c7; go_simp; try with_reducible rfl
  simp only [pA, pB, pC, pD]
  refine tk 9 rfl ?v_9_57 ?hy_9_57 ?r_9_57
  case hy_9_57 => intro w h; have k4 := h.1.c4; have k6 := h.1.c6; have k7 := h.1.c7; go_simp; try with_reducible rfl
  simp only [pA, pB, pC, pD]
  refine tk 10 rfl ?v_10_58 ?hy_10_58 ?r_10_58
  case hy_10_58 => intro w h; have k4 := h.1.c4; have k6 := h.1.c6; have k7 := h.1.c7; go_simp; try with_reducible rfl
  simp only [pA, pB, pC, pD]
  refine tk 11 rfl ?v_11_59 ?hy_11_59 ?r_11_59
  case hy_11_59 => intro w h; have k4 := h.1.c4; have k6 := h.1.c6; have k7 := h.1.c7; go_simp; try with_reducible rfl
  simp only [pA, pB, pC, pD]
  refine tk 12 rfl ?v_12_60 ?hy_12_60 ?r_12_60
  case hy_12_60 => intro w h; have k4 := h.1.c4; have k6 := h.1.c6; have k7 := h.1.c7; go_simp; try with_reducible rfl
  simp only [pA, pB, pC, pD]
  refine tk 13 rfl ?v_13_61 ?hy_13_61 ?r_13_61
  case hy_13_61 => intro w h; have k4 := h.1.c4; have k6 := h.1.c6; have k7 := h.1.c7; go_simp; try with_reducible rfl
  simp only [pA, pB, pC, pD]
  refine tk 14 rfl ?v_14_62 ?hy_14_62 ?r_14_62
  case hy_14_62 => intro w h; have k4 := h.1.c4; have k6 := h.1.c6; have k7 := h.1.c7; go_simp; try with_reducible rfl
  simp only [pA, pB, pC, pD]
  refine tk 15 rfl ?v_15_63 ?hy_15_63 ?r_15_63
  case hy_15_63 => intro w h; have k4 := h.1.c4; have k6 := h.1.c6; have k7 := h.1.c7; go_simp; try with_reducible rfl
  simp only [pA, pB, pC, pD]
  refine tk 16 rfl ?v_16_64 ?hy_16_64 ?r_16_64
  case hy_16_64 => intro w h; have k4 := h.1.c4; have k6 := h.1.c6; have k7 := h.1.c7; go_simp; try with_reducible rfl
  simp only [pA, pB, pC, pD]
  refine tk 17 rfl ?v_17_65 ?hy_17_65 ?r_17_65
  case hy_17_65 => intro w h; have k4 := h.1.c4; have k6 := h.1.c6; have k7 := h.1.c7; go_simp; try with_reducible rfl
  simp only [pA, pB, pC, pD]
  refine wpAnyH_take (i := 18) (oi := ⟨_, _, _, _, _, _⟩) (v := stV s lv) rfl (by kernel_rfl) (by kernel_rfl) (by kernel_rfl) (fun _ _ _ h => h) (yieldsIf_load_mid (by kernel_rfl) 25 (.tmp 1) rfl w.heap.size 0 rfl (stCs s lv).toList _ (fun w' h j v hv => by rw [Nat.zero_add, h.1.cell]; simpa using hv) Tryd.underlying25 rfl (by rw [stInfo]; rfl)) (by assumption) ?_
  simp only [pA, pB, pC, pD]
  refine wpAnyH_ready (rs := [19]) (by kernel_rfl) (by simp) ?_
  refine AllReadyH.cons rfl (fun K hK => ?_) AllReadyH.nil
  go_simp
  go_at_call 21
  obtain ⟨hSt, hLn, hBe⟩ := hHeld
  refine (HDU.out _ hLn).mono ?_
  rintro x w3 ⟨rfl, hb⟩
  go_wp2_with fail
  refine hK.out _ _ ⟨hSt.below hb, hLn.below hb, Below.next hBe hb⟩ (fun hHeld => ?_)
  clear hK K hSt hLn hBe hb
  refine tk 20 rfl ?v_20_66 ?hy_20_66 ?r_20_66
  case hy_20_66 => intro w h; have k4 := h.1.c4; have k6 := h.1.c6; have k7 := h.1.c7; go_simp; try with_reducible rfl
  simp only [pA, pB, pC, pD]
  refine tk 21 rfl ?v_21_67 ?hy_21_67 ?r_21_67
  case hy_21_67 => intro w h; have k4 := h.1.c4; have k6 := h.1.c6; have k7 := h.1.c7; go_simp; try with_reducible rfl
  simp only [pA, pB, pC, pD]
  refine wpAnyH_done (by kernel_rfl) ?_ _
  have c1 := hHeld.1.c1
  have c2 := hHeld.1.c2
  have HB := Lib.hid hHeld.2.2
  clear hHeld
  go_wp2
  go_ret
  exact ⟨by rw [hv.out]; rfl, HB.out⟩

end Go.Proofs.YtlobohpbgghleaaDoor
