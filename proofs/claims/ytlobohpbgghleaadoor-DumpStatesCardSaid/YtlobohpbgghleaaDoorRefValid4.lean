import Derived.Test.YtlobohpbgghleaaDoorRefValid2
namespace Go.Proofs.YtlobohpbgghleaaDoor
open Go.RowKit

set_option maxRecDepth 100000 in
set_option maxHeartbeats 16000000 in
theorem rvok_5_0_0 (s : St) (lv : Value) (w : World) (hr : LnRow w lv s.lines) (hw : s.who.length ≤ 281474976710656) (hf : boundedB s = true) (hm : ¬ dueOf s < s.paid) (hs : s.status = 5) (hp : s.prior = 0) (g3 : decide (0 < s.paid) = false) :
    Calls Tryd.prog 11 #[stV s lv] w fun e w' => e = .returned (.bool (validB s)) ∧ Below w.heap.size w w' := by
  have HVb := Lib.hid (show validB s = noneB s.lines by
    have h1 : validB s = standB s 5 := by unfold validB; rw [hf, decide_eq_true (by omega), hs, hp]; rfl
    have h2 : (s.paid == dueOf s && decide (0 < s.paid)) = false := by rw [g3]; simp
    rw [h1]; unfold standB; rw [h2]; rfl)
  have hbp := bounded_p hf
  have k1 : decide (s.order < 1) = false := by rw [decide_eq_false_iff_not]; have := hbp.order; omega
  have k2 : decide (1099511627776 < s.order) = false := by rw [decide_eq_false_iff_not]; have := hbp.order; omega
  have k3 : decide (s.status < 0) = false := by rw [decide_eq_false_iff_not]; have := hbp.status; omega
  have k4 : decide (5 < s.status) = false := by rw [decide_eq_false_iff_not]; have := hbp.status; omega
  have k5 : decide (s.cur < 0) = false := by rw [decide_eq_false_iff_not]; have := hbp.cur; omega
  have k6 : decide (3 < s.cur) = false := by rw [decide_eq_false_iff_not]; have := hbp.cur; omega
  have k7 : decide (s.tax < 0) = false := by rw [decide_eq_false_iff_not]; have := hbp.tax; omega
  have k8 : decide (5000 < s.tax) = false := by rw [decide_eq_false_iff_not]; have := hbp.tax; omega
  have e1 : decide (s.events < 0) = false := by rw [decide_eq_false_iff_not]; have := hbp.events; omega
  have e2 : decide (1099511627776 < s.events) = false := by rw [decide_eq_false_iff_not]; have := hbp.events; omega
  have e3 : decide (s.refused < 0) = false := by rw [decide_eq_false_iff_not]; have := hbp.refused; omega
  have e4 : decide (s.events < s.refused) = false := by rw [decide_eq_false_iff_not]; have := hbp.events; have := hbp.refused; omega
  have e5 : decide (s.stamp < 0) = false := by rw [decide_eq_false_iff_not]; have := hbp.stamp; omega
  have e6 : decide (1099511627776 < s.stamp) = false := by rw [decide_eq_false_iff_not]; have := hbp.stamp; omega
  have q1 : decide (s.refunded < 0) = false := by rw [decide_eq_false_iff_not]; have := hbp.refunded; omega
  have q2 : decide (s.paid < s.refunded) = false := by rw [decide_eq_false_iff_not]; have := hbp.refunded; omega
  have q3 : decide (s.paid < 0) = false := by rw [decide_eq_false_iff_not]; have := hbp.refunded; omega
  have hn := (bounded_lined hf).2
  have hl := (bounded_lined hf).1
  obtain ⟨c, hc⟩ : ∃ c, c = evCheck 4 (evWho s.who) := ⟨_, rfl⟩
  have hcn : (c == 0) = namedB s.who := by rw [hc]; exact evWho_check 4 (.inl rfl) s.who
  have HC := Lib.hid (show ∀ W : World, Calls Tryd.prog 19 #[.int .i64 4, .agg #[.int .i64 1, .int .i64 1, .int .i64 0, .int .i64 0, .int .i64 0, .int .i64 0, .int .i64 0, .string ⟨s.who.toArray⟩, .int .i64 0, .string ⟨#[]⟩]] W (ChkPost c W) from fun W => hc ▸ refCheckB_any 4 (evWho s.who) W (evWho_ok s.who hw))
  have HLN := Lib.hid (show ∀ W : World, LnRow W lv s.lines → Calls Tryd.prog 20 #[stV s lv] W fun e w' => e = .returned (.bool (linedB s.lines)) ∧ Below W.heap.size W w' from fun W h => rlines_any s lv W h)
  have HE0 := Lib.hid (show StBlk (w.alloc (.cells (stCs s lv) 25)) w.heap.size s lv ∧ LnRow (w.alloc (.cells (stCs s lv) 25)) lv s.lines ∧ Below w.heap.size w (w.alloc (.cells (stCs s lv) 25)) from by
    have hb : Below w.heap.size w (w.alloc (.cells (stCs s lv) 25)) := (Below.refl _ _).alloc (Nat.le_refl _) _
    exact ⟨stBlk_alloc w s lv, hr.below hb, hb⟩)
  have c0 : (c != 0) = false := by rw [hn, beq_iff_eq] at hcn; rw [bne_eq_false_iff_eq]; exact hcn
  rw [hl] at HLN
  obtain ⟨D, hD⟩ : ∃ D, D = dueOf s := ⟨_, rfl⟩
  have HDU := Lib.hid (show ∀ W : World, LnRow W lv s.lines → Calls Tryd.prog 21 #[stV s lv] W fun e w' => e = .returned (.int .i64 D) ∧ Below W.heap.size W w' from fun W h => hD ▸ rdue_any s lv W h hbp.fine hbp.few hbp.tax.1 hbp.tax.2)
  have HSS := Lib.hid (show ∀ W : World, Calls Tryd.prog 22 #[stV s lv] W fun e w' => e = .returned (.int .i64 5) ∧ Below W.heap.size W w' from fun W => by have h := rstands_else s lv W (by omega); rw [hs] at h; exact h)
  have HUN := Lib.hid (show ∀ W : World, LnRow W lv s.lines → Calls Tryd.prog 23 #[stV s lv] W fun e w' => e = .returned (.bool (noneB s.lines)) ∧ Below W.heap.size W w' from fun W h => runtouched_any s lv W h hbp.fine)
  have HWH := Lib.hid (show ∀ W : World, LnRow W lv s.lines → Calls Tryd.prog 24 #[stV s lv] W fun e w' => e = .returned (.bool (wholeB s.lines)) ∧ Below W.heap.size W w' from fun W h => rwhole_any s lv W h hbp.fine)
  obtain ⟨nB, hnB⟩ : ∃ x, x = noneB s.lines := ⟨_, rfl⟩
  obtain ⟨wB, hwB⟩ : ∃ x, x = wholeB s.lines := ⟨_, rfl⟩
  rw [← hnB] at HUN
  rw [← hwB] at HWH
  rw [← hD] at hm
  rw [← hnB] at HVb
  have d1 : decide (D < s.paid) = false := decide_eq_false hm
  have hm2 : s.paid ≤ D := by omega
  have HS := Lib.hid hs
  have HP := Lib.hid hp
  obtain ⟨oa, cap, hlv, _, _, _⟩ := hr.shape
  have HLV := Lib.hid hlv
  clear hc hcn hn hl hr hw hf hbp hD hm hs hp hnB hwB hlv
  go_enter Tryd.func11, Tryd.ntmps11
  go_wp2_with (first
    | (go_at_call 19; (with_reducible refine (HC.out _).mono ?_); rintro x w1 ⟨rfl, hb1⟩; have HE1 := Lib.hid (show StBlk w1 w.heap.size s lv ∧ LnRow w1 lv s.lines ∧ Below w.heap.size w w1 from ⟨HE0.out.1.below hb1, HE0.out.2.1.below hb1, Below.next HE0.out.2.2 hb1⟩); clear hb1; have z0 := HE1.out.1.c0; have z1 := HE1.out.1.c1; have z2 := HE1.out.1.c2; have z3 := HE1.out.1.c3; have z4 := HE1.out.1.c4; have z5 := HE1.out.1.c5; have z6 := HE1.out.1.c6; have z7 := HE1.out.1.c7; have z8 := HE1.out.1.c8; have z9 := HE1.out.1.c9; have z10 := HE1.out.1.c10; have z11 := HE1.out.1.c11)
    | (with_reducible refine wpList_load_st rfl (.tmp 1) rfl w.heap.size s lv rfl HE1.out.1 ?_)
    | (go_at_call 20; refine (HLN.out _ HE1.out.2.1).mono ?_; rintro x w2 ⟨rfl, hb2⟩; have HE2 := Lib.hid (show StBlk w2 w.heap.size s lv ∧ LnRow w2 lv s.lines ∧ Below w.heap.size w w2 from ⟨HE1.out.1.below hb2, HE1.out.2.1.below hb2, Below.next HE1.out.2.2 hb2⟩); clear hb2))
  clear z0 z1 z2 z3 z4 z5 z6 z7 z8 z9 z10 z11 HE0 HE1 HC HLN
  refine wp_region_held_drew (S := fun w' => StBlk w' w.heap.size s lv ∧ LnRow w' lv s.lines ∧ Below w.heap.size w w') (by kernel_rfl) ⟨HE2.out.1, HE2.out.2.1, Below.next HE2.out.2.2 (below_drewN' _ 1)⟩ (fun hHeld => ?_)
  refine tk 0 rfl ?v_0_68 ?hy_0_68 ?r_0_68
  case hy_0_68 => intro w h; have k4 := h.1.c4; have k6 := h.1.c6; have k7 := h.1.c7; go_simp; try with_reducible rfl
  simp only [pA, pB, pC, pD]
  refine tk 1 rfl ?v_1_69 ?hy_1_69 ?r_1_69
  case hy_1_69 => intro w h; have k4 := h.1.c4; have k6 := h.1.c6; have k7 := h.1.c7; go_simp; try with_reducible rfl
  simp only [pA, pB, pC, pD]
  refine tk 2 rfl ?v_2_70 ?hy_2_70 ?r_2_70
  case hy_2_70 => intro w h; have k4 := h.1.c4; have k6 := h.1.c6; have k7 := h.1.c7; go_simp; try with_reducible rfl
  simp only [pA, pB, pC, pD]
  refine tk 3 rfl ?v_3_71 ?hy_3_71 ?r_3_71
  case hy_3_71 => intro w h; have k4 := h.1.c4; have k6 := h.1.c6; have k7 := h.1.c7; go_simp; try with_reducible rfl
  simp only [pA, pB, pC, pD]
  refine tk 4 rfl ?v_4_72 ?hy_4_72 ?r_4_72
  case hy_4_72 => intro w h; have k4 := h.1.c4; have k6 := h.1.c6; have k7 := h.1.c7; go_simp; try with_reducible rfl
  simp only [pA, pB, pC, pD]
  refine tk 5 rfl ?v_5_73 ?hy_5_73 ?r_5_73
  case hy_5_73 => intro w h; have k4 := h.1.c4; have k6 := h.1.c6; have k7 := h.1.c7; go_simp; try with_reducible rfl
  simp only [pA, pB, pC, pD]
  refine tk 6 rfl ?v_6_74 ?hy_6_74 ?r_6_74
  case hy_6_74 => intro w h; have k4 := h.1.c4; have k6 := h.1.c6; have k7 := h.1.c7; go_simp; try with_reducible rfl
  simp only [pA, pB, pC, pD]
  refine tk 7 rfl ?v_7_75 ?hy_7_75 ?r_7_75
  case hy_7_75 => intro w h; have k4 := h.1.c4; have k6 := h.1.c6; have k7 := h.1.c7; go_simp; try with_reducible rfl
  simp only [pA, pB, pC, pD]
  refine tk 8 rfl ?v_8_76 ?hy_8_76 ?r_8_76
  case hy_8_76 => intro w h; have k4 := h.1.c4; have k6 := h.1.c6; have k7 := h.1.c7; go_simp; try with_reducible rfl
  simp only [pA, pB, pC, pD]
  refine tk 9 rfl ?v_9_77 ?hy_9_77 ?r_9_77
  case hy_9_77 => intro w h; have k4 := h.1.c4; have k6 := h.1.c6; have k7 := h.1.c7; go_simp; try with_reducible rfl
  simp only [pA, pB, pC, pD]
  refine tk 10 rfl ?v_10_78 ?hy_10_78 ?r_10_78
  case hy_10_78 => intro w h; have k4 := h.1.c4; have k6 := h.1.c6; have k7 := h.1.c7; go_simp; try with_reducible rfl
  simp only [pA, pB, pC, pD]
  refine tk 11 rfl ?v_11_79 ?hy_11_79 ?r_11_79
  case hy_11_79 => intro w h; have k4 := h.1.c4; have k6 := h.1.c6; have k7 := h.1.c7; go_simp; try with_reducible rfl
  simp only [pA, pB, pC, pD]
  refine tk 12 rfl ?v_12_80 ?hy_12_80 ?r_12_80
  case hy_12_80 => intro w h; have k4 := h.1.c4; have k6 := h.1.c6; have k7 := h.1.c7; go_simp; try with_reducible rfl
  simp only [pA, pB, pC, pD]
  refine tk 13 rfl ?v_13_81 ?hy_13_81 ?r_13_81
  case hy_13_81 => intro w h; have k4 := h.1.c4; have k6 := h.1.c6; have k7 := h.1.c7; go_simp; try with_reducible rfl
  simp only [pA, pB, pC, pD]
  refine tk 14 rfl ?v_14_82 ?hy_14_82 ?r_14_82
  case hy_14_82 => intro w h; have k4 := h.1.c4; have k6 := h.1.c6; have k7 := h.1.c7; go_simp; try with_reducible rfl
  simp only [pA, pB, pC, pD]
  refine tk 15 rfl ?v_15_83 ?hy_15_83 ?r_15_83
  case hy_15_83 => intro w h; have k4 := h.1.c4; have k6 := h.1.c6; have k7 := h.1.c7; go_simp; try with_reducible rfl
  simp only [pA, pB, pC, pD]
  refine tk 16 rfl ?v_16_84 ?hy_16_84 ?r_16_84
  case hy_16_84 => intro w h; have k4 := h.1.c4; have k6 := h.1.c6; have k7 := h.1.c7; go_simp; try with_reducible rfl
  simp only [pA, pB, pC, pD]
  refine tk 17 rfl ?v_17_85 ?hy_17_85 ?r_17_85
  case hy_17_85 => intro w h; have k4 := h.1.c4; have k6 := h.1.c6; have k7 := h.1.c7; go_simp; try with_reducible rfl
  simp only [pA, pB, pC, pD]
  refine wpAnyH_take (i := 18) (oi := ⟨_, _, _, _, _, _⟩) (v := stV s lv) rfl (by kernel_rfl) (by kernel_rfl) (by kernel_rfl) (fun _ _ _ h => h) (yieldsIf_load_mid (by kernel_rfl) 25 (.tmp 1) rfl w.heap.size 0 rfl (stCs s lv).toList _ (fun w' h j v hv => by rw [Nat.zero_add, h.1.cell]; simpa using hv) Tryd.underlying25 rfl (by rw [stInfo]; rfl)) (by assumption) ?_
  simp only [pA, pB, pC, pD]
  refine wpAnyH_ready (rs := [19]) (by kernel_rfl) (by simp) ?_
  refine AllReadyH.cons rfl (fun K hK => ?_) AllReadyH.nil
  go_simp
  go_at_call 21
  obtain ⟨hSt, hLn, hBe⟩ := hHeld
  refine (HDU.out _ hLn).mono ?_
  rintro x w3 ⟨rfl, hb⟩
  go_wp2_with fail
  refine hK.out _ _ ⟨hSt.below hb, hLn.below hb, Below.next hBe hb⟩ (fun hHeld => ?_)
  clear hK K hSt hLn hBe hb
  refine tk 20 rfl ?v_20_86 ?hy_20_86 ?r_20_86
  case hy_20_86 => intro w h; have k4 := h.1.c4; have k6 := h.1.c6; have k7 := h.1.c7; go_simp; try with_reducible rfl
  simp only [pA, pB, pC, pD]
  refine tk 21 rfl ?v_21_87 ?hy_21_87 ?r_21_87
  case hy_21_87 => intro w h; have k4 := h.1.c4; have k6 := h.1.c6; have k7 := h.1.c7; go_simp; try with_reducible rfl
  simp only [pA, pB, pC, pD]
  refine wpAnyH_done (by kernel_rfl) ?_ _
  have c1 : w3.cell? ⟨w.heap.size, 1, none⟩ = some (.int .i64 5) := by rw [hHeld.1.cell 1, stCs, HS.out]; rfl
  have c2 : w3.cell? ⟨w.heap.size, 2, none⟩ = some (.int .i64 0) := by rw [hHeld.1.cell 2, stCs, HP.out]; rfl
  have HE := Lib.hid hHeld
  clear hHeld HE2 k1 k2 k3 k4 k5 k6 k7 k8 e1 e2 e3 e4 e5 e6 q1 q2 q3 c0
  go_wp2
  clear c1 c2
  refine wp_region_held_drew (S := fun w' => StBlk w' w.heap.size s lv ∧ LnRow w' lv s.lines ∧ Below w.heap.size w w') (by kernel_rfl) ⟨HE.out.1, HE.out.2.1, Below.next HE.out.2.2 (below_drewN' _ 1)⟩ (fun hHeld => ?_)
  refine tk 0 rfl ?v_0_88 ?hy_0_88 ?r_0_88
  case hy_0_88 => intro w h; have k4 := h.1.c4; have k6 := h.1.c6; have k7 := h.1.c7; go_simp; try with_reducible rfl
  simp only [pA, pB, pC, pD]
  refine tk 1 rfl ?v_1_89 ?hy_1_89 ?r_1_89
  case hy_1_89 => intro w h; have k4 := h.1.c4; have k6 := h.1.c6; have k7 := h.1.c7; go_simp; try with_reducible rfl
  simp only [pA, pB, pC, pD]
  refine tk 2 rfl ?v_2_90 ?hy_2_90 ?r_2_90
  case hy_2_90 => intro w h; have k4 := h.1.c4; have k6 := h.1.c6; have k7 := h.1.c7; go_simp; try with_reducible rfl
  simp only [pA, pB, pC, pD]
  refine tk 3 rfl ?v_3_91 ?hy_3_91 ?r_3_91
  case hy_3_91 => intro w h; have k4 := h.1.c4; have k6 := h.1.c6; have k7 := h.1.c7; go_simp; try with_reducible rfl
  simp only [pA, pB, pC, pD]
  refine tkn 4 rfl ?_
  simp only [pA, pB, pC, pD]
  refine tkn 5 rfl ?_
  simp only [pA, pB, pC, pD]
  refine tkn 6 rfl ?_
  simp only [pA, pB, pC, pD]
  refine tkn 7 rfl ?_
  simp only [pA, pB, pC, pD]
  refine tkn 8 rfl ?_
  simp only [pA, pB, pC, pD]
  refine tk 9 rfl ?v_9_92 ?hy_9_92 ?r_9_92
  case hy_9_92 => intro w h; have k4 := h.1.c4; have k6 := h.1.c6; have k7 := h.1.c7; go_simp; try with_reducible rfl
  simp only [pA, pB, pC, pD]
  refine tk 10 rfl ?v_10_93 ?hy_10_93 ?r_10_93
  case hy_10_93 => intro w h; have k4 := h.1.c4; have k6 := h.1.c6; have k7 := h.1.c7; go_simp; try with_reducible rfl
  simp only [pA, pB, pC, pD]
  refine wpAnyH_done (by kernel_rfl) ?_ _
  have HE4 := Lib.hid hHeld
  clear hHeld HE HDU
  generalize w3.drew = w4 at *
  go_wp2_with (first
    | (with_reducible refine wpList_load_st rfl (.tmp 1) rfl w.heap.size s lv rfl HE4.out.1 ?_)
    | (go_at_call 22; refine (HSS.out _).mono ?_; rintro x w5 ⟨rfl, hb⟩; have HE5 := Lib.hid (show StBlk w5 w.heap.size s lv ∧ LnRow w5 lv s.lines ∧ Below w.heap.size w w5 from ⟨HE4.out.1.below hb, HE4.out.2.1.below hb, Below.next HE4.out.2.2 hb⟩); clear hb
       have z0 := HE5.out.1.c0; have z1 := HE5.out.1.c1; have z2 := HE5.out.1.c2; have z3 := HE5.out.1.c3; have z4 := HE5.out.1.c4; have z6 := HE5.out.1.c6; have z7 := HE5.out.1.c7; have z8 := HE5.out.1.c8; have z9 := HE5.out.1.c9; have z10 := HE5.out.1.c10; have z11 := HE5.out.1.c11; have z5 : w5.cell? ⟨w.heap.size, 5, none⟩ = some lv := HE5.out.1.cell 5)
    | (with_reducible refine wpList_load_st rfl (.tmp 1) rfl w.heap.size s lv rfl HE5.out.1 ?_)
    | (go_at_call 23; refine (HUN.out _ HE5.out.2.1).mono ?_; rintro x w6 ⟨rfl, hb⟩; have z7' : w6.cell? ⟨w.heap.size, 7, none⟩ = some (.int .i64 s.refunded) := cell_later hb z7; have HB := Lib.hid (Below.next HE5.out.2.2 hb); clear hb))
  go_ret
  exact ⟨by rw [HVb.out]; rfl, HB.out⟩

set_option maxRecDepth 100000 in
set_option maxHeartbeats 16000000 in
theorem rvok_5_0_1 (s : St) (lv : Value) (w : World) (hr : LnRow w lv s.lines) (hw : s.who.length ≤ 281474976710656) (hf : boundedB s = true) (hm : ¬ dueOf s < s.paid) (hs : s.status = 5) (hp : s.prior = 0) (g3 : decide (0 < s.paid) = true) (g1 : (s.paid == dueOf s) = false) :
    Calls Tryd.prog 11 #[stV s lv] w fun e w' => e = .returned (.bool (validB s)) ∧ Below w.heap.size w w' := by
  have HVb := Lib.hid (show validB s = noneB s.lines by
    have h1 : validB s = standB s 5 := by unfold validB; rw [hf, decide_eq_true (by omega), hs, hp]; rfl
    have h2 : (s.paid == dueOf s && decide (0 < s.paid)) = false := by rw [g3, g1]; rfl
    rw [h1]; unfold standB; rw [h2]; rfl)
  have hbp := bounded_p hf
  have k1 : decide (s.order < 1) = false := by rw [decide_eq_false_iff_not]; have := hbp.order; omega
  have k2 : decide (1099511627776 < s.order) = false := by rw [decide_eq_false_iff_not]; have := hbp.order; omega
  have k3 : decide (s.status < 0) = false := by rw [decide_eq_false_iff_not]; have := hbp.status; omega
  have k4 : decide (5 < s.status) = false := by rw [decide_eq_false_iff_not]; have := hbp.status; omega
  have k5 : decide (s.cur < 0) = false := by rw [decide_eq_false_iff_not]; have := hbp.cur; omega
  have k6 : decide (3 < s.cur) = false := by rw [decide_eq_false_iff_not]; have := hbp.cur; omega
  have k7 : decide (s.tax < 0) = false := by rw [decide_eq_false_iff_not]; have := hbp.tax; omega
  have k8 : decide (5000 < s.tax) = false := by rw [decide_eq_false_iff_not]; have := hbp.tax; omega
  have e1 : decide (s.events < 0) = false := by rw [decide_eq_false_iff_not]; have := hbp.events; omega
  have e2 : decide (1099511627776 < s.events) = false := by rw [decide_eq_false_iff_not]; have := hbp.events; omega
  have e3 : decide (s.refused < 0) = false := by rw [decide_eq_false_iff_not]; have := hbp.refused; omega
  have e4 : decide (s.events < s.refused) = false := by rw [decide_eq_false_iff_not]; have := hbp.events; have := hbp.refused; omega
  have e5 : decide (s.stamp < 0) = false := by rw [decide_eq_false_iff_not]; have := hbp.stamp; omega
  have e6 : decide (1099511627776 < s.stamp) = false := by rw [decide_eq_false_iff_not]; have := hbp.stamp; omega
  have q1 : decide (s.refunded < 0) = false := by rw [decide_eq_false_iff_not]; have := hbp.refunded; omega
  have q2 : decide (s.paid < s.refunded) = false := by rw [decide_eq_false_iff_not]; have := hbp.refunded; omega
  have q3 : decide (s.paid < 0) = false := by rw [decide_eq_false_iff_not]; have := hbp.refunded; omega
  have hn := (bounded_lined hf).2
  have hl := (bounded_lined hf).1
  obtain ⟨c, hc⟩ : ∃ c, c = evCheck 4 (evWho s.who) := ⟨_, rfl⟩
  have hcn : (c == 0) = namedB s.who := by rw [hc]; exact evWho_check 4 (.inl rfl) s.who
  have HC := Lib.hid (show ∀ W : World, Calls Tryd.prog 19 #[.int .i64 4, .agg #[.int .i64 1, .int .i64 1, .int .i64 0, .int .i64 0, .int .i64 0, .int .i64 0, .int .i64 0, .string ⟨s.who.toArray⟩, .int .i64 0, .string ⟨#[]⟩]] W (ChkPost c W) from fun W => hc ▸ refCheckB_any 4 (evWho s.who) W (evWho_ok s.who hw))
  have HLN := Lib.hid (show ∀ W : World, LnRow W lv s.lines → Calls Tryd.prog 20 #[stV s lv] W fun e w' => e = .returned (.bool (linedB s.lines)) ∧ Below W.heap.size W w' from fun W h => rlines_any s lv W h)
  have HE0 := Lib.hid (show StBlk (w.alloc (.cells (stCs s lv) 25)) w.heap.size s lv ∧ LnRow (w.alloc (.cells (stCs s lv) 25)) lv s.lines ∧ Below w.heap.size w (w.alloc (.cells (stCs s lv) 25)) from by
    have hb : Below w.heap.size w (w.alloc (.cells (stCs s lv) 25)) := (Below.refl _ _).alloc (Nat.le_refl _) _
    exact ⟨stBlk_alloc w s lv, hr.below hb, hb⟩)
  have c0 : (c != 0) = false := by rw [hn, beq_iff_eq] at hcn; rw [bne_eq_false_iff_eq]; exact hcn
  rw [hl] at HLN
  obtain ⟨D, hD⟩ : ∃ D, D = dueOf s := ⟨_, rfl⟩
  have HDU := Lib.hid (show ∀ W : World, LnRow W lv s.lines → Calls Tryd.prog 21 #[stV s lv] W fun e w' => e = .returned (.int .i64 D) ∧ Below W.heap.size W w' from fun W h => hD ▸ rdue_any s lv W h hbp.fine hbp.few hbp.tax.1 hbp.tax.2)
  have HSS := Lib.hid (show ∀ W : World, Calls Tryd.prog 22 #[stV s lv] W fun e w' => e = .returned (.int .i64 5) ∧ Below W.heap.size W w' from fun W => by have h := rstands_else s lv W (by omega); rw [hs] at h; exact h)
  have HUN := Lib.hid (show ∀ W : World, LnRow W lv s.lines → Calls Tryd.prog 23 #[stV s lv] W fun e w' => e = .returned (.bool (noneB s.lines)) ∧ Below W.heap.size W w' from fun W h => runtouched_any s lv W h hbp.fine)
  have HWH := Lib.hid (show ∀ W : World, LnRow W lv s.lines → Calls Tryd.prog 24 #[stV s lv] W fun e w' => e = .returned (.bool (wholeB s.lines)) ∧ Below W.heap.size W w' from fun W h => rwhole_any s lv W h hbp.fine)
  obtain ⟨nB, hnB⟩ : ∃ x, x = noneB s.lines := ⟨_, rfl⟩
  obtain ⟨wB, hwB⟩ : ∃ x, x = wholeB s.lines := ⟨_, rfl⟩
  rw [← hnB] at HUN
  rw [← hwB] at HWH
  rw [← hD] at hm g1
  rw [← hnB] at HVb
  have d1 : decide (D < s.paid) = false := decide_eq_false hm
  have hm2 : s.paid ≤ D := by omega
  have HS := Lib.hid hs
  have HP := Lib.hid hp
  obtain ⟨oa, cap, hlv, _, _, _⟩ := hr.shape
  have HLV := Lib.hid hlv
  clear hc hcn hn hl hr hw hf hbp hD hm hs hp hnB hwB hlv
  go_enter Tryd.func11, Tryd.ntmps11
  go_wp2_with (first
    | (go_at_call 19; (with_reducible refine (HC.out _).mono ?_); rintro x w1 ⟨rfl, hb1⟩; have HE1 := Lib.hid (show StBlk w1 w.heap.size s lv ∧ LnRow w1 lv s.lines ∧ Below w.heap.size w w1 from ⟨HE0.out.1.below hb1, HE0.out.2.1.below hb1, Below.next HE0.out.2.2 hb1⟩); clear hb1; have z0 := HE1.out.1.c0; have z1 := HE1.out.1.c1; have z2 := HE1.out.1.c2; have z3 := HE1.out.1.c3; have z4 := HE1.out.1.c4; have z5 := HE1.out.1.c5; have z6 := HE1.out.1.c6; have z7 := HE1.out.1.c7; have z8 := HE1.out.1.c8; have z9 := HE1.out.1.c9; have z10 := HE1.out.1.c10; have z11 := HE1.out.1.c11)
    | (with_reducible refine wpList_load_st rfl (.tmp 1) rfl w.heap.size s lv rfl HE1.out.1 ?_)
    | (go_at_call 20; refine (HLN.out _ HE1.out.2.1).mono ?_; rintro x w2 ⟨rfl, hb2⟩; have HE2 := Lib.hid (show StBlk w2 w.heap.size s lv ∧ LnRow w2 lv s.lines ∧ Below w.heap.size w w2 from ⟨HE1.out.1.below hb2, HE1.out.2.1.below hb2, Below.next HE1.out.2.2 hb2⟩); clear hb2))
  clear z0 z1 z2 z3 z4 z5 z6 z7 z8 z9 z10 z11 HE0 HE1 HC HLN
  refine wp_region_held_drew (S := fun w' => StBlk w' w.heap.size s lv ∧ LnRow w' lv s.lines ∧ Below w.heap.size w w') (by kernel_rfl) ⟨HE2.out.1, HE2.out.2.1, Below.next HE2.out.2.2 (below_drewN' _ 1)⟩ (fun hHeld => ?_)
  refine tk 0 rfl ?v_0_94 ?hy_0_94 ?r_0_94
  case hy_0_94 => intro w h; have k4 := h.1.c4; have k6 := h.1.c6; have k7 := h.1.c7; go_simp; try with_reducible rfl
  simp only [pA, pB, pC, pD]
  refine tk 1 rfl ?v_1_95 ?hy_1_95 ?r_1_95
  case hy_1_95 => intro w h; have k4 := h.1.c4; have k6 := h.1.c6; have k7 := h.1.c7; go_simp; try with_reducible rfl
  simp only [pA, pB, pC, pD]
  refine tk 2 rfl ?v_2_96 ?hy_2_96 ?r_2_96
  case hy_2_96 => intro w h; have k4 := h.1.c4; have k6 := h.1.c6; have k7 := h.1.c7; go_simp; try with_reducible rfl
  simp only [pA, pB, pC, pD]
  refine tk 3 rfl ?v_3_97 ?hy_3_97 ?r_3_97
  case hy_3_97 => intro w h; have k4 := h.1.c4; have k6 := h.1.c6; have k7 := h.1.c7; go_simp; try with_reducible rfl
  simp only [pA, pB, pC, pD]
  refine tk 4 rfl ?v_4_98 ?hy_4_98 ?r_4_98
  case hy_4_98 => intro w h; have k4 := h.1.c4; have k6 := h.1.c6; have k7 := h.1.c7; go_simp; try with_reducible rfl
  simp only [pA, pB, pC, pD]
  refine tk 5 rfl ?v_5_99 ?hy_5_99 ?r_5_99
  case hy_5_99 => intro w h; have k4 := h.1.c4; have k6 := h.1.c6; have k7 := h.1.c7; go_simp; try with_reducible rfl
  simp only [pA, pB, pC, pD]
  refine tk 6 rfl ?v_6_100 ?hy_6_100 ?r_6_100
  case hy_6_100 => intro w h; have k4 := h.1.c4; have k6 := h.1.c6; have k7 := h.1.c7; go_simp; try with_reducible rfl
  simp only [pA, pB, pC, pD]
  refine tk 7 rfl ?v_7_101 ?hy_7_101 ?r_7_101
  case hy_7_101 => intro w h; have k4 := h.1.c4; have k6 := h.1.c6; have k7 := h.1.c7; go_simp; try with_reducible rfl
  simp only [pA, pB, pC, pD]
  refine tk 8 rfl ?v_8_102 ?hy_8_102 ?r_8_102
  case hy_8_102 => intro w h; have k4 := h.1.c4; have k6 := h.1.c6; have k7 := h.1.c7; go_simp; try with_reducible rfl
  simp only [pA, pB, pC, pD]
  refine tk 9 rfl ?v_9_103 ?hy_9_103 ?r_9_103
  case hy_9_103 => intro w h; have k4 := h.1.c4; have k6 := h.1.c6; have k7 := h.1.c7; go_simp; try with_reducible rfl
  simp only [pA, pB, pC, pD]
  refine tk 10 rfl ?v_10_104 ?hy_10_104 ?r_10_104
  case hy_10_104 => intro w h; have k4 := h.1.c4; have k6 := h.1.c6; have k7 := h.1.c7; go_simp; try with_reducible rfl
  simp only [pA, pB, pC, pD]
  refine tk 11 rfl ?v_11_105 ?hy_11_105 ?r_11_105
  case hy_11_105 => intro w h; have k4 := h.1.c4; have k6 := h.1.c6; have k7 := h.1.c7; go_simp; try with_reducible rfl
  simp only [pA, pB, pC, pD]
  refine tk 12 rfl ?v_12_106 ?hy_12_106 ?r_12_106
  case hy_12_106 => intro w h; have k4 := h.1.c4; have k6 := h.1.c6; have k7 := h.1.c7; go_simp; try with_reducible rfl
  simp only [pA, pB, pC, pD]
  refine tk 13 rfl ?v_13_107 ?hy_13_107 ?r_13_107
  case hy_13_107 => intro w h; have k4 := h.1.c4; have k6 := h.1.c6; have k7 := h.1.c7; go_simp; try with_reducible rfl
  simp only [pA, pB, pC, pD]
  refine tk 14 rfl ?v_14_108 ?hy_14_108 ?r_14_108
  case hy_14_108 => intro w h; have k4 := h.1.c4; have k6 := h.1.c6; have k7 := h.1.c7; go_simp; try with_reducible rfl
  simp only [pA, pB, pC, pD]
  refine tk 15 rfl ?v_15_109 ?hy_15_109 ?r_15_109
  case hy_15_109 => intro w h; have k4 := h.1.c4; have k6 := h.1.c6; have k7 := h.1.c7; go_simp; try with_reducible rfl
  simp only [pA, pB, pC, pD]
  refine tk 16 rfl ?v_16_110 ?hy_16_110 ?r_16_110
  case hy_16_110 => intro w h; have k4 := h.1.c4; have k6 := h.1.c6; have k7 := h.1.c7; go_simp; try with_reducible rfl
  simp only [pA, pB, pC, pD]
  refine tk 17 rfl ?v_17_111 ?hy_17_111 ?r_17_111
  case hy_17_111 => intro w h; have k4 := h.1.c4; have k6 := h.1.c6; have k7 := h.1.c7; go_simp; try with_reducible rfl
  simp only [pA, pB, pC, pD]
  refine wpAnyH_take (i := 18) (oi := ⟨_, _, _, _, _, _⟩) (v := stV s lv) rfl (by kernel_rfl) (by kernel_rfl) (by kernel_rfl) (fun _ _ _ h => h) (yieldsIf_load_mid (by kernel_rfl) 25 (.tmp 1) rfl w.heap.size 0 rfl (stCs s lv).toList _ (fun w' h j v hv => by rw [Nat.zero_add, h.1.cell]; simpa using hv) Tryd.underlying25 rfl (by rw [stInfo]; rfl)) (by assumption) ?_
  simp only [pA, pB, pC, pD]
  refine wpAnyH_ready (rs := [19]) (by kernel_rfl) (by simp) ?_
  refine AllReadyH.cons rfl (fun K hK => ?_) AllReadyH.nil
  go_simp
  go_at_call 21
  obtain ⟨hSt, hLn, hBe⟩ := hHeld
  refine (HDU.out _ hLn).mono ?_
  rintro x w3 ⟨rfl, hb⟩
  go_wp2_with fail
  refine hK.out _ _ ⟨hSt.below hb, hLn.below hb, Below.next hBe hb⟩ (fun hHeld => ?_)
  clear hK K hSt hLn hBe hb
  refine tk 20 rfl ?v_20_112 ?hy_20_112 ?r_20_112
  case hy_20_112 => intro w h; have k4 := h.1.c4; have k6 := h.1.c6; have k7 := h.1.c7; go_simp; try with_reducible rfl
  simp only [pA, pB, pC, pD]
  refine tk 21 rfl ?v_21_113 ?hy_21_113 ?r_21_113
  case hy_21_113 => intro w h; have k4 := h.1.c4; have k6 := h.1.c6; have k7 := h.1.c7; go_simp; try with_reducible rfl
  simp only [pA, pB, pC, pD]
  refine wpAnyH_done (by kernel_rfl) ?_ _
  have c1 : w3.cell? ⟨w.heap.size, 1, none⟩ = some (.int .i64 5) := by rw [hHeld.1.cell 1, stCs, HS.out]; rfl
  have c2 : w3.cell? ⟨w.heap.size, 2, none⟩ = some (.int .i64 0) := by rw [hHeld.1.cell 2, stCs, HP.out]; rfl
  have HE := Lib.hid hHeld
  clear hHeld HE2 k1 k2 k3 k4 k5 k6 k7 k8 e1 e2 e3 e4 e5 e6 q1 q2 q3 c0
  go_wp2
  clear c1 c2
  refine wp_region_held_drew (S := fun w' => StBlk w' w.heap.size s lv ∧ LnRow w' lv s.lines ∧ Below w.heap.size w w') (by kernel_rfl) ⟨HE.out.1, HE.out.2.1, Below.next HE.out.2.2 (below_drewN' _ 1)⟩ (fun hHeld => ?_)
  refine tk 0 rfl ?v_0_114 ?hy_0_114 ?r_0_114
  case hy_0_114 => intro w h; have k4 := h.1.c4; have k6 := h.1.c6; have k7 := h.1.c7; go_simp; try with_reducible rfl
  simp only [pA, pB, pC, pD]
  refine tk 1 rfl ?v_1_115 ?hy_1_115 ?r_1_115
  case hy_1_115 => intro w h; have k4 := h.1.c4; have k6 := h.1.c6; have k7 := h.1.c7; go_simp; try with_reducible rfl
  simp only [pA, pB, pC, pD]
  refine tk 2 rfl ?v_2_116 ?hy_2_116 ?r_2_116
  case hy_2_116 => intro w h; have k4 := h.1.c4; have k6 := h.1.c6; have k7 := h.1.c7; go_simp; try with_reducible rfl
  simp only [pA, pB, pC, pD]
  refine tk 3 rfl ?v_3_117 ?hy_3_117 ?r_3_117
  case hy_3_117 => intro w h; have k4 := h.1.c4; have k6 := h.1.c6; have k7 := h.1.c7; go_simp; try with_reducible rfl
  simp only [pA, pB, pC, pD]
  refine tk 4 rfl ?v_4_118 ?hy_4_118 ?r_4_118
  case hy_4_118 => intro w h; have k4 := h.1.c4; have k6 := h.1.c6; have k7 := h.1.c7; go_simp; try with_reducible rfl
  simp only [pA, pB, pC, pD]
  refine tk 5 rfl ?v_5_119 ?hy_5_119 ?r_5_119
  case hy_5_119 => intro w h; have k4 := h.1.c4; have k6 := h.1.c6; have k7 := h.1.c7; go_simp; try with_reducible rfl
  simp only [pA, pB, pC, pD]
  refine wpAnyH_take (i := 6) (oi := ⟨_, _, _, _, _, _⟩) (v := stV s lv) rfl (by kernel_rfl) (by kernel_rfl) (by kernel_rfl) (fun _ _ _ h => h) (yieldsIf_load_mid (by kernel_rfl) 25 (.tmp 1) rfl w.heap.size 0 rfl (stCs s lv).toList _ (fun w' h j v hv => by rw [Nat.zero_add, h.1.cell]; simpa using hv) Tryd.underlying25 rfl (by rw [stInfo]; rfl)) (by assumption) ?_
  simp only [pA, pB, pC, pD]
  refine wpAnyH_ready (rs := [7]) (by kernel_rfl) (by simp) ?_
  refine AllReadyH.cons rfl (fun K hK => ?_) AllReadyH.nil
  go_simp
  go_at_call 21
  obtain ⟨hSt, hLn, hBe⟩ := hHeld
  refine (HDU.out _ hLn).mono ?_
  rintro x w4 ⟨rfl, hb⟩
  go_wp2_with fail
  refine hK.out _ _ ⟨hSt.below hb, hLn.below hb, Below.next hBe hb⟩ (fun hHeld => ?_)
  clear hK K hSt hLn hBe hb
  refine tk 8 rfl ?v_8_120 ?hy_8_120 ?r_8_120
  case hy_8_120 => intro w h; have k4 := h.1.c4; have k6 := h.1.c6; have k7 := h.1.c7; go_simp; try with_reducible rfl
  simp only [pA, pB, pC, pD]
  refine tk 9 rfl ?v_9_121 ?hy_9_121 ?r_9_121
  case hy_9_121 => intro w h; have k4 := h.1.c4; have k6 := h.1.c6; have k7 := h.1.c7; go_simp; try with_reducible rfl
  simp only [pA, pB, pC, pD]
  refine tk 10 rfl ?v_10_122 ?hy_10_122 ?r_10_122
  case hy_10_122 => intro w h; have k4 := h.1.c4; have k6 := h.1.c6; have k7 := h.1.c7; go_simp; try with_reducible rfl
  simp only [pA, pB, pC, pD]
  refine wpAnyH_done (by kernel_rfl) ?_ _
  have HE4 := Lib.hid hHeld
  clear hHeld HE HDU
  go_wp2_with (first
    | (with_reducible refine wpList_load_st rfl (.tmp 1) rfl w.heap.size s lv rfl HE4.out.1 ?_)
    | (go_at_call 22; refine (HSS.out _).mono ?_; rintro x w5 ⟨rfl, hb⟩; have HE5 := Lib.hid (show StBlk w5 w.heap.size s lv ∧ LnRow w5 lv s.lines ∧ Below w.heap.size w w5 from ⟨HE4.out.1.below hb, HE4.out.2.1.below hb, Below.next HE4.out.2.2 hb⟩); clear hb
       have z0 := HE5.out.1.c0; have z1 := HE5.out.1.c1; have z2 := HE5.out.1.c2; have z3 := HE5.out.1.c3; have z4 := HE5.out.1.c4; have z6 := HE5.out.1.c6; have z7 := HE5.out.1.c7; have z8 := HE5.out.1.c8; have z9 := HE5.out.1.c9; have z10 := HE5.out.1.c10; have z11 := HE5.out.1.c11; have z5 : w5.cell? ⟨w.heap.size, 5, none⟩ = some lv := HE5.out.1.cell 5)
    | (with_reducible refine wpList_load_st rfl (.tmp 1) rfl w.heap.size s lv rfl HE5.out.1 ?_)
    | (go_at_call 23; refine (HUN.out _ HE5.out.2.1).mono ?_; rintro x w6 ⟨rfl, hb⟩; have z7' : w6.cell? ⟨w.heap.size, 7, none⟩ = some (.int .i64 s.refunded) := cell_later hb z7; have HB := Lib.hid (Below.next HE5.out.2.2 hb); clear hb))
  go_ret
  exact ⟨by rw [HVb.out]; rfl, HB.out⟩

set_option maxRecDepth 100000 in
set_option maxHeartbeats 16000000 in
theorem rvok_5_0_2 (s : St) (lv : Value) (w : World) (hr : LnRow w lv s.lines) (hw : s.who.length ≤ 281474976710656) (hf : boundedB s = true) (hm : ¬ dueOf s < s.paid) (hs : s.status = 5) (hp : s.prior = 0) (g3 : decide (0 < s.paid) = true) (g1 : (s.paid == dueOf s) = true) :
    Calls Tryd.prog 11 #[stV s lv] w fun e w' => e = .returned (.bool (validB s)) ∧ Below w.heap.size w w' := by
  have HVb := Lib.hid (show validB s = noneB s.lines by
    have h1 : validB s = standB s 5 := by unfold validB; rw [hf, decide_eq_true (by omega), hs, hp]; rfl
    have h2 : (s.paid == dueOf s && decide (0 < s.paid)) = true := by rw [g3, g1]; rfl
    rw [h1]; unfold standB; rw [h2]; rfl)
  have hbp := bounded_p hf
  have k1 : decide (s.order < 1) = false := by rw [decide_eq_false_iff_not]; have := hbp.order; omega
  have k2 : decide (1099511627776 < s.order) = false := by rw [decide_eq_false_iff_not]; have := hbp.order; omega
  have k3 : decide (s.status < 0) = false := by rw [decide_eq_false_iff_not]; have := hbp.status; omega
  have k4 : decide (5 < s.status) = false := by rw [decide_eq_false_iff_not]; have := hbp.status; omega
  have k5 : decide (s.cur < 0) = false := by rw [decide_eq_false_iff_not]; have := hbp.cur; omega
  have k6 : decide (3 < s.cur) = false := by rw [decide_eq_false_iff_not]; have := hbp.cur; omega
  have k7 : decide (s.tax < 0) = false := by rw [decide_eq_false_iff_not]; have := hbp.tax; omega
  have k8 : decide (5000 < s.tax) = false := by rw [decide_eq_false_iff_not]; have := hbp.tax; omega
  have e1 : decide (s.events < 0) = false := by rw [decide_eq_false_iff_not]; have := hbp.events; omega
  have e2 : decide (1099511627776 < s.events) = false := by rw [decide_eq_false_iff_not]; have := hbp.events; omega
  have e3 : decide (s.refused < 0) = false := by rw [decide_eq_false_iff_not]; have := hbp.refused; omega
  have e4 : decide (s.events < s.refused) = false := by rw [decide_eq_false_iff_not]; have := hbp.events; have := hbp.refused; omega
  have e5 : decide (s.stamp < 0) = false := by rw [decide_eq_false_iff_not]; have := hbp.stamp; omega
  have e6 : decide (1099511627776 < s.stamp) = false := by rw [decide_eq_false_iff_not]; have := hbp.stamp; omega
  have q1 : decide (s.refunded < 0) = false := by rw [decide_eq_false_iff_not]; have := hbp.refunded; omega
  have q2 : decide (s.paid < s.refunded) = false := by rw [decide_eq_false_iff_not]; have := hbp.refunded; omega
  have q3 : decide (s.paid < 0) = false := by rw [decide_eq_false_iff_not]; have := hbp.refunded; omega
  have hn := (bounded_lined hf).2
  have hl := (bounded_lined hf).1
  obtain ⟨c, hc⟩ : ∃ c, c = evCheck 4 (evWho s.who) := ⟨_, rfl⟩
  have hcn : (c == 0) = namedB s.who := by rw [hc]; exact evWho_check 4 (.inl rfl) s.who
  have HC := Lib.hid (show ∀ W : World, Calls Tryd.prog 19 #[.int .i64 4, .agg #[.int .i64 1, .int .i64 1, .int .i64 0, .int .i64 0, .int .i64 0, .int .i64 0, .int .i64 0, .string ⟨s.who.toArray⟩, .int .i64 0, .string ⟨#[]⟩]] W (ChkPost c W) from fun W => hc ▸ refCheckB_any 4 (evWho s.who) W (evWho_ok s.who hw))
  have HLN := Lib.hid (show ∀ W : World, LnRow W lv s.lines → Calls Tryd.prog 20 #[stV s lv] W fun e w' => e = .returned (.bool (linedB s.lines)) ∧ Below W.heap.size W w' from fun W h => rlines_any s lv W h)
  have HE0 := Lib.hid (show StBlk (w.alloc (.cells (stCs s lv) 25)) w.heap.size s lv ∧ LnRow (w.alloc (.cells (stCs s lv) 25)) lv s.lines ∧ Below w.heap.size w (w.alloc (.cells (stCs s lv) 25)) from by
    have hb : Below w.heap.size w (w.alloc (.cells (stCs s lv) 25)) := (Below.refl _ _).alloc (Nat.le_refl _) _
    exact ⟨stBlk_alloc w s lv, hr.below hb, hb⟩)
  have c0 : (c != 0) = false := by rw [hn, beq_iff_eq] at hcn; rw [bne_eq_false_iff_eq]; exact hcn
  rw [hl] at HLN
  obtain ⟨D, hD⟩ : ∃ D, D = dueOf s := ⟨_, rfl⟩
  have HDU := Lib.hid (show ∀ W : World, LnRow W lv s.lines → Calls Tryd.prog 21 #[stV s lv] W fun e w' => e = .returned (.int .i64 D) ∧ Below W.heap.size W w' from fun W h => hD ▸ rdue_any s lv W h hbp.fine hbp.few hbp.tax.1 hbp.tax.2)
  have HSS := Lib.hid (show ∀ W : World, Calls Tryd.prog 22 #[stV s lv] W fun e w' => e = .returned (.int .i64 5) ∧ Below W.heap.size W w' from fun W => by have h := rstands_else s lv W (by omega); rw [hs] at h; exact h)
  have HUN := Lib.hid (show ∀ W : World, LnRow W lv s.lines → Calls Tryd.prog 23 #[stV s lv] W fun e w' => e = .returned (.bool (noneB s.lines)) ∧ Below W.heap.size W w' from fun W h => runtouched_any s lv W h hbp.fine)
  have HWH := Lib.hid (show ∀ W : World, LnRow W lv s.lines → Calls Tryd.prog 24 #[stV s lv] W fun e w' => e = .returned (.bool (wholeB s.lines)) ∧ Below W.heap.size W w' from fun W h => rwhole_any s lv W h hbp.fine)
  obtain ⟨nB, hnB⟩ : ∃ x, x = noneB s.lines := ⟨_, rfl⟩
  obtain ⟨wB, hwB⟩ : ∃ x, x = wholeB s.lines := ⟨_, rfl⟩
  rw [← hnB] at HUN
  rw [← hwB] at HWH
  rw [← hD] at hm g1
  rw [← hnB] at HVb
  have d1 : decide (D < s.paid) = false := decide_eq_false hm
  have hm2 : s.paid ≤ D := by omega
  have HS := Lib.hid hs
  have HP := Lib.hid hp
  obtain ⟨oa, cap, hlv, _, _, _⟩ := hr.shape
  have HLV := Lib.hid hlv
  clear hc hcn hn hl hr hw hf hbp hD hm hs hp hnB hwB hlv
  go_enter Tryd.func11, Tryd.ntmps11
  go_wp2_with (first
    | (go_at_call 19; (with_reducible refine (HC.out _).mono ?_); rintro x w1 ⟨rfl, hb1⟩; have HE1 := Lib.hid (show StBlk w1 w.heap.size s lv ∧ LnRow w1 lv s.lines ∧ Below w.heap.size w w1 from ⟨HE0.out.1.below hb1, HE0.out.2.1.below hb1, Below.next HE0.out.2.2 hb1⟩); clear hb1; have z0 := HE1.out.1.c0; have z1 := HE1.out.1.c1; have z2 := HE1.out.1.c2; have z3 := HE1.out.1.c3; have z4 := HE1.out.1.c4; have z5 := HE1.out.1.c5; have z6 := HE1.out.1.c6; have z7 := HE1.out.1.c7; have z8 := HE1.out.1.c8; have z9 := HE1.out.1.c9; have z10 := HE1.out.1.c10; have z11 := HE1.out.1.c11)
    | (with_reducible refine wpList_load_st rfl (.tmp 1) rfl w.heap.size s lv rfl HE1.out.1 ?_)
    | (go_at_call 20; refine (HLN.out _ HE1.out.2.1).mono ?_; rintro x w2 ⟨rfl, hb2⟩; have HE2 := Lib.hid (show StBlk w2 w.heap.size s lv ∧ LnRow w2 lv s.lines ∧ Below w.heap.size w w2 from ⟨HE1.out.1.below hb2, HE1.out.2.1.below hb2, Below.next HE1.out.2.2 hb2⟩); clear hb2))
  clear z0 z1 z2 z3 z4 z5 z6 z7 z8 z9 z10 z11 HE0 HE1 HC HLN
  refine wp_region_held_drew (S := fun w' => StBlk w' w.heap.size s lv ∧ LnRow w' lv s.lines ∧ Below w.heap.size w w') (by kernel_rfl) ⟨HE2.out.1, HE2.out.2.1, Below.next HE2.out.2.2 (below_drewN' _ 1)⟩ (fun hHeld => ?_)
  refine tk 0 rfl ?v_0_123 ?hy_0_123 ?r_0_123
  case hy_0_123 => intro w h; have k4 := h.1.c4; have k6 := h.1.c6; have k7 := h.1.c7; go_simp; try with_reducible rfl
  simp only [pA, pB, pC, pD]
  refine tk 1 rfl ?v_1_124 ?hy_1_124 ?r_1_124
  case hy_1_124 => intro w h; have k4 := h.1.c4; have k6 := h.1.c6; have k7 := h.1.c7; go_simp; try with_reducible rfl
  simp only [pA, pB, pC, pD]
  refine tk 2 rfl ?v_2_125 ?hy_2_125 ?r_2_125
  case hy_2_125 => intro w h; have k4 := h.1.c4; have k6 := h.1.c6; have k7 := h.1.c7; go_simp; try with_reducible rfl
  simp only [pA, pB, pC, pD]
  refine tk 3 rfl ?v_3_126 ?hy_3_126 ?r_3_126
  case hy_3_126 => intro w h; have k4 := h.1.c4; have k6 := h.1.c6; have k7 := h.1.c7; go_simp; try with_reducible rfl
  simp only [pA, pB, pC, pD]
  refine tk 4 rfl ?v_4_127 ?hy_4_127 ?r_4_127
  case hy_4_127 => intro w h; have k4 := h.1.c4; have k6 := h.1.c6; have k7 := h.1.c7; go_simp; try with_reducible rfl
  simp only [pA, pB, pC, pD]
  refine tk 5 rfl ?v_5_128 ?hy_5_128 ?r_5_128
  case hy_5_128 => intro w h; have k4 := h.1.c4; have k6 := h.1.c6; have k7 := h.1.c7; go_simp; try with_reducible rfl
  simp only [pA, pB, pC, pD]
  refine tk 6 rfl ?v_6_129 ?hy_6_129 ?r_6_129
  case hy_6_129 => intro w h; have k4 := h.1.c4; have k6 := h.1.c6; have k7 := h.1.c7; go_simp; try with_reducible rfl
  simp only [pA, pB, pC, pD]
  refine tk 7 rfl ?v_7_130 ?hy_7_130 ?r_7_130
  case hy_7_130 => intro w h; have k4 := h.1.c4; have k6 := h.1.c6; have k7 := h.1.c7; go_simp; try with_reducible rfl
  simp only [pA, pB, pC, pD]
  refine tk 8 rfl ?v_8_131 ?hy_8_131 ?r_8_131
  case hy_8_131 => intro w h; have k4 := h.1.c4; have k6 := h.1.c6; have k7 := h.1.c7; go_simp; try with_reducible rfl
  simp only [pA, pB, pC, pD]
  refine tk 9 rfl ?v_9_132 ?hy_9_132 ?r_9_132
  case hy_9_132 => intro w h; have k4 := h.1.c4; have k6 := h.1.c6; have k7 := h.1.c7; go_simp; try with_reducible rfl
  simp only [pA, pB, pC, pD]
  refine tk 10 rfl ?v_10_133 ?hy_10_133 ?r_10_133
  case hy_10_133 => intro w h; have k4 := h.1.c4; have k6 := h.1.c6; have k7 := h.1.c7; go_simp; try with_reducible rfl
  simp only [pA, pB, pC, pD]
  refine tk 11 rfl ?v_11_134 ?hy_11_134 ?r_11_134
  case hy_11_134 => intro w h; have k4 := h.1.c4; have k6 := h.1.c6; have k7 := h.1.c7; go_simp; try with_reducible rfl
  simp only [pA, pB, pC, pD]
  refine tk 12 rfl ?v_12_135 ?hy_12_135 ?r_12_135
  case hy_12_135 => intro w h; have k4 := h.1.c4; have k6 := h.1.c6; have k7 := h.1.c7; go_simp; try with_reducible rfl
  simp only [pA, pB, pC, pD]
  refine tk 13 rfl ?v_13_136 ?hy_13_136 ?r_13_136
  case hy_13_136 => intro w h; have k4 := h.1.c4; have k6 := h.1.c6; have k7 := h.1.c7; go_simp; try with_reducible rfl
  simp only [pA, pB, pC, pD]
  refine tk 14 rfl ?v_14_137 ?hy_14_137 ?r_14_137
  case hy_14_137 => intro w h; have k4 := h.1.c4; have k6 := h.1.c6; have k7 := h.1.c7; go_simp; try with_reducible rfl
  simp only [pA, pB, pC, pD]
  refine tk 15 rfl ?v_15_138 ?hy_15_138 ?r_15_138
  case hy_15_138 => intro w h; have k4 := h.1.c4; have k6 := h.1.c6; have k7 := h.1.c7; go_simp; try with_reducible rfl
  simp only [pA, pB, pC, pD]
  refine tk 16 rfl ?v_16_139 ?hy_16_139 ?r_16_139
  case hy_16_139 => intro w h; have k4 := h.1.c4; have k6 := h.1.c6; have k7 := h.1.c7; go_simp; try with_reducible rfl
  simp only [pA, pB, pC, pD]
  refine tk 17 rfl ?v_17_140 ?hy_17_140 ?r_17_140
  case hy_17_140 => intro w h; have k4 := h.1.c4; have k6 := h.1.c6; have k7 := h.1.c7; go_simp; try with_reducible rfl
  simp only [pA, pB, pC, pD]
  refine wpAnyH_take (i := 18) (oi := ⟨_, _, _, _, _, _⟩) (v := stV s lv) rfl (by kernel_rfl) (by kernel_rfl) (by kernel_rfl) (fun _ _ _ h => h) (yieldsIf_load_mid (by kernel_rfl) 25 (.tmp 1) rfl w.heap.size 0 rfl (stCs s lv).toList _ (fun w' h j v hv => by rw [Nat.zero_add, h.1.cell]; simpa using hv) Tryd.underlying25 rfl (by rw [stInfo]; rfl)) (by assumption) ?_
  simp only [pA, pB, pC, pD]
  refine wpAnyH_ready (rs := [19]) (by kernel_rfl) (by simp) ?_
  refine AllReadyH.cons rfl (fun K hK => ?_) AllReadyH.nil
  go_simp
  go_at_call 21
  obtain ⟨hSt, hLn, hBe⟩ := hHeld
  refine (HDU.out _ hLn).mono ?_
  rintro x w3 ⟨rfl, hb⟩
  go_wp2_with fail
  refine hK.out _ _ ⟨hSt.below hb, hLn.below hb, Below.next hBe hb⟩ (fun hHeld => ?_)
  clear hK K hSt hLn hBe hb
  refine tk 20 rfl ?v_20_141 ?hy_20_141 ?r_20_141
  case hy_20_141 => intro w h; have k4 := h.1.c4; have k6 := h.1.c6; have k7 := h.1.c7; go_simp; try with_reducible rfl
  simp only [pA, pB, pC, pD]
  refine tk 21 rfl ?v_21_142 ?hy_21_142 ?r_21_142
  case hy_21_142 => intro w h; have k4 := h.1.c4; have k6 := h.1.c6; have k7 := h.1.c7; go_simp; try with_reducible rfl
  simp only [pA, pB, pC, pD]
  refine wpAnyH_done (by kernel_rfl) ?_ _
  have c1 : w3.cell? ⟨w.heap.size, 1, none⟩ = some (.int .i64 5) := by rw [hHeld.1.cell 1, stCs, HS.out]; rfl
  have c2 : w3.cell? ⟨w.heap.size, 2, none⟩ = some (.int .i64 0) := by rw [hHeld.1.cell 2, stCs, HP.out]; rfl
  have HE := Lib.hid hHeld
  clear hHeld HE2 k1 k2 k3 k4 k5 k6 k7 k8 e1 e2 e3 e4 e5 e6 q1 q2 q3 c0
  go_wp2
  clear c1 c2
  refine wp_region_held_drew (S := fun w' => StBlk w' w.heap.size s lv ∧ LnRow w' lv s.lines ∧ Below w.heap.size w w') (by kernel_rfl) ⟨HE.out.1, HE.out.2.1, Below.next HE.out.2.2 (below_drewN' _ 1)⟩ (fun hHeld => ?_)
  refine tk 0 rfl ?v_0_143 ?hy_0_143 ?r_0_143
  case hy_0_143 => intro w h; have k4 := h.1.c4; have k6 := h.1.c6; have k7 := h.1.c7; go_simp; try with_reducible rfl
  simp only [pA, pB, pC, pD]
  refine tk 1 rfl ?v_1_144 ?hy_1_144 ?r_1_144
  case hy_1_144 => intro w h; have k4 := h.1.c4; have k6 := h.1.c6; have k7 := h.1.c7; go_simp; try with_reducible rfl
  simp only [pA, pB, pC, pD]
  refine tk 2 rfl ?v_2_145 ?hy_2_145 ?r_2_145
  case hy_2_145 => intro w h; have k4 := h.1.c4; have k6 := h.1.c6; have k7 := h.1.c7; go_simp; try with_reducible rfl
  simp only [pA, pB, pC, pD]
  refine tk 3 rfl ?v_3_146 ?hy_3_146 ?r_3_146
  case hy_3_146 => intro w h; have k4 := h.1.c4; have k6 := h.1.c6; have k7 := h.1.c7; go_simp; try with_reducible rfl
  simp only [pA, pB, pC, pD]
  refine tk 4 rfl ?v_4_147 ?hy_4_147 ?r_4_147
  case hy_4_147 => intro w h; have k4 := h.1.c4; have k6 := h.1.c6; have k7 := h.1.c7; go_simp; try with_reducible rfl
  simp only [pA, pB, pC, pD]
  refine tk 5 rfl ?v_5_148 ?hy_5_148 ?r_5_148
  case hy_5_148 => intro w h; have k4 := h.1.c4; have k6 := h.1.c6; have k7 := h.1.c7; go_simp; try with_reducible rfl
  simp only [pA, pB, pC, pD]
  refine wpAnyH_take (i := 6) (oi := ⟨_, _, _, _, _, _⟩) (v := stV s lv) rfl (by kernel_rfl) (by kernel_rfl) (by kernel_rfl) (fun _ _ _ h => h) (yieldsIf_load_mid (by kernel_rfl) 25 (.tmp 1) rfl w.heap.size 0 rfl (stCs s lv).toList _ (fun w' h j v hv => by rw [Nat.zero_add, h.1.cell]; simpa using hv) Tryd.underlying25 rfl (by rw [stInfo]; rfl)) (by assumption) ?_
  simp only [pA, pB, pC, pD]
  refine wpAnyH_ready (rs := [7]) (by kernel_rfl) (by simp) ?_
  refine AllReadyH.cons rfl (fun K hK => ?_) AllReadyH.nil
  go_simp
  go_at_call 21
  obtain ⟨hSt, hLn, hBe⟩ := hHeld
  refine (HDU.out _ hLn).mono ?_
  rintro x w4 ⟨rfl, hb⟩
  go_wp2_with fail
  refine hK.out _ _ ⟨hSt.below hb, hLn.below hb, Below.next hBe hb⟩ (fun hHeld => ?_)
  clear hK K hSt hLn hBe hb
  refine tk 8 rfl ?v_8_149 ?hy_8_149 ?r_8_149
  case hy_8_149 => intro w h; have k4 := h.1.c4; have k6 := h.1.c6; have k7 := h.1.c7; go_simp; try with_reducible rfl
  simp only [pA, pB, pC, pD]
  refine tk 9 rfl ?v_9_150 ?hy_9_150 ?r_9_150
  case hy_9_150 => intro w h; have k4 := h.1.c4; have k6 := h.1.c6; have k7 := h.1.c7; go_simp; try with_reducible rfl
  simp only [pA, pB, pC, pD]
  refine tk 10 rfl ?v_10_151 ?hy_10_151 ?r_10_151
  case hy_10_151 => intro w h; have k4 := h.1.c4; have k6 := h.1.c6; have k7 := h.1.c7; go_simp; try with_reducible rfl
  simp only [pA, pB, pC, pD]
  refine wpAnyH_done (by kernel_rfl) ?_ _
  have HE4 := Lib.hid hHeld
  clear hHeld HE HDU
  go_wp2_with (first
    | (with_reducible refine wpList_load_st rfl (.tmp 1) rfl w.heap.size s lv rfl HE4.out.1 ?_)
    | (go_at_call 22; refine (HSS.out _).mono ?_; rintro x w5 ⟨rfl, hb⟩; have HE5 := Lib.hid (show StBlk w5 w.heap.size s lv ∧ LnRow w5 lv s.lines ∧ Below w.heap.size w w5 from ⟨HE4.out.1.below hb, HE4.out.2.1.below hb, Below.next HE4.out.2.2 hb⟩); clear hb
       have z0 := HE5.out.1.c0; have z1 := HE5.out.1.c1; have z2 := HE5.out.1.c2; have z3 := HE5.out.1.c3; have z4 := HE5.out.1.c4; have z6 := HE5.out.1.c6; have z7 := HE5.out.1.c7; have z8 := HE5.out.1.c8; have z9 := HE5.out.1.c9; have z10 := HE5.out.1.c10; have z11 := HE5.out.1.c11; have z5 : w5.cell? ⟨w.heap.size, 5, none⟩ = some lv := HE5.out.1.cell 5)
    | (with_reducible refine wpList_load_st rfl (.tmp 1) rfl w.heap.size s lv rfl HE5.out.1 ?_)
    | (go_at_call 23; refine (HUN.out _ HE5.out.2.1).mono ?_; rintro x w6 ⟨rfl, hb⟩; have z7' : w6.cell? ⟨w.heap.size, 7, none⟩ = some (.int .i64 s.refunded) := cell_later hb z7; have HB := Lib.hid (Below.next HE5.out.2.2 hb); clear hb))
  go_ret
  exact ⟨by rw [HVb.out]; rfl, HB.out⟩

end Go.Proofs.YtlobohpbgghleaaDoor
