import Derived.Test.YtlobohpbgghleaaDoorRefValid2
namespace Go.Proofs.YtlobohpbgghleaaDoor
open Go.RowKit

set_option maxRecDepth 100000 in
set_option maxHeartbeats 16000000 in
theorem rvok_3_0_0 (s : St) (lv : Value) (w : World) (hr : LnRow w lv s.lines) (hw : s.who.length ≤ 281474976710656) (hf : boundedB s = true) (hm : ¬ dueOf s < s.paid) (hs : s.status = 3) (hp : s.prior = 0) (g3 : decide (0 < s.paid) = false) :
    Calls Tryd.prog 11 #[stV s lv] w fun e w' => e = .returned (.bool (validB s)) ∧ Below w.heap.size w w' := by
  have HVb := Lib.hid (show validB s = (false && !wholeB s.lines) by
    have h1 : validB s = standB s 3 := by unfold validB; rw [hf, decide_eq_true (by omega), hs, hp]; rfl
    have h2 : (s.paid == dueOf s && decide (0 < s.paid)) = false := by rw [g3]; simp
    rw [h1]; unfold standB; rw [h2]; rfl)
  have hbp := bounded_p hf
  have k1 : decide (s.order < 1) = false := by rw [decide_eq_false_iff_not]; have := hbp.order; omega
  have k2 : decide (1099511627776 < s.order) = false := by rw [decide_eq_false_iff_not]; have := hbp.order; omega
  have k3 : decide (s.status < 0) = false := by rw [decide_eq_false_iff_not]; have := hbp.status; omega
  have k4 : decide (5 < s.status) = false := by rw [decide_eq_false_iff_not]; have := hbp.status; omega
  have k5 : decide (s.cur < 0) = false := by rw [decide_eq_false_iff_not]; have := hbp.cur; omega
  have k6 : decide (3 < s.cur) = false := by rw [decide_eq_false_iff_not]; have := hbp.cur; omega
  have k7 : decide (s.tax < 0) = false := by rw [decide_eq_false_iff_not]; have := hbp.tax; omega
  have k8 : decide (5000 < s.tax) = false := by rw [decide_eq_false_iff_not]; have := hbp.tax; omega
  have e1 : decide (s.events < 0) = false := by rw [decide_eq_false_iff_not]; have := hbp.events; omega
  have e2 : decide (1099511627776 < s.events) = false := by rw [decide_eq_false_iff_not]; have := hbp.events; omega
  have e3 : decide (s.refused < 0) = false := by rw [decide_eq_false_iff_not]; have := hbp.refused; omega
  have e4 : decide (s.events < s.refused) = false := by rw [decide_eq_false_iff_not]; have := hbp.events; have := hbp.refused; omega
  have e5 : decide (s.stamp < 0) = false := by rw [decide_eq_false_iff_not]; have := hbp.stamp; omega
  have e6 : decide (1099511627776 < s.stamp) = false := by rw [decide_eq_false_iff_not]; have := hbp.stamp; omega
  have q1 : decide (s.refunded < 0) = false := by rw [decide_eq_false_iff_not]; have := hbp.refunded; omega
  have q2 : decide (s.paid < s.refunded) = false := by rw [decide_eq_false_iff_not]; have := hbp.refunded; omega
  have q3 : decide (s.paid < 0) = false := by rw [decide_eq_false_iff_not]; have := hbp.refunded; omega
  have hn := (bounded_lined hf).2
  have hl := (bounded_lined hf).1
  obtain ⟨c, hc⟩ : ∃ c, c = evCheck 4 (evWho s.who) := ⟨_, rfl⟩
  have hcn : (c == 0) = namedB s.who := by rw [hc]; exact evWho_check 4 (.inl rfl) s.who
  have HC := Lib.hid (show ∀ W : World, Calls Tryd.prog 19 #[.int .i64 4, .agg #[.int .i64 1, .int .i64 1, .int .i64 0, .int .i64 0, .int .i64 0, .int .i64 0, .int .i64 0, .string ⟨s.who.toArray⟩, .int .i64 0, .string ⟨#[]⟩]] W (ChkPost c W) from fun W => hc ▸ refCheckB_any 4 (evWho s.who) W (evWho_ok s.who hw))
  have HLN := Lib.hid (show ∀ W : World, LnRow W lv s.lines → Calls Tryd.prog 20 #[stV s lv] W fun e w' => e = .returned (.bool (linedB s.lines)) ∧ Below W.heap.size W w' from fun W h => rlines_any s lv W h)
  have HE0 := Lib.hid (show StBlk (w.alloc (.cells (stCs s lv) 25)) w.heap.size s lv ∧ LnRow (w.alloc (.cells (stCs s lv) 25)) lv s.lines ∧ Below w.heap.size w (w.alloc (.cells (stCs s lv) 25)) from by
    have hb : Below w.heap.size w (w.alloc (.cells (stCs s lv) 25)) := (Below.refl _ _).alloc (Nat.le_refl _) _
    exact ⟨stBlk_alloc w s lv, hr.below hb, hb⟩)
  have c0 : (c != 0) = false := by rw [hn, beq_iff_eq] at hcn; rw [bne_eq_false_iff_eq]; exact hcn
  rw [hl] at HLN
  obtain ⟨D, hD⟩ : ∃ D, D = dueOf s := ⟨_, rfl⟩
  have HDU := Lib.hid (show ∀ W : World, LnRow W lv s.lines → Calls Tryd.prog 21 #[stV s lv] W fun e w' => e = .returned (.int .i64 D) ∧ Below W.heap.size W w' from fun W h => hD ▸ rdue_any s lv W h hbp.fine hbp.few hbp.tax.1 hbp.tax.2)
  have HSS := Lib.hid (show ∀ W : World, Calls Tryd.prog 22 #[stV s lv] W fun e w' => e = .returned (.int .i64 3) ∧ Below W.heap.size W w' from fun W => by have h := rstands_else s lv W (by omega); rw [hs] at h; exact h)
  have HUN := Lib.hid (show ∀ W : World, LnRow W lv s.lines → Calls Tryd.prog 23 #[stV s lv] W fun e w' => e = .returned (.bool (noneB s.lines)) ∧ Below W.heap.size W w' from fun W h => runtouched_any s lv W h hbp.fine)
  have HWH := Lib.hid (show ∀ W : World, LnRow W lv s.lines → Calls Tryd.prog 24 #[stV s lv] W fun e w' => e = .returned (.bool (wholeB s.lines)) ∧ Below W.heap.size W w' from fun W h => rwhole_any s lv W h hbp.fine)
  obtain ⟨nB, hnB⟩ : ∃ x, x = noneB s.lines := ⟨_, rfl⟩
  obtain ⟨wB, hwB⟩ : ∃ x, x = wholeB s.lines := ⟨_, rfl⟩
  rw [← hnB] at HUN
  rw [← hwB] at HWH
  rw [← hD] at hm
  rw [← hwB] at HVb
  have d1 : decide (D < s.paid) = false := decide_eq_false hm
  have hm2 : s.paid ≤ D := by omega
  have HS := Lib.hid hs
  have HP := Lib.hid hp
  obtain ⟨oa, cap, hlv, _, _, _⟩ := hr.shape
  have HLV := Lib.hid hlv
  clear hc hcn hn hl hr hw hf hbp hD hm hs hp hnB hwB hlv
  go_enter Tryd.func11, Tryd.ntmps11
  go_wp2_with (first
    | (go_at_call 19; (with_reducible refine (HC.out _).mono ?_); rintro x w1 ⟨rfl, hb1⟩; have HE1 := Lib.hid (show StBlk w1 w.heap.size s lv ∧ LnRow w1 lv s.lines ∧ Below w.heap.size w w1 from ⟨HE0.out.1.below hb1, HE0.out.2.1.below hb1, Below.next HE0.out.2.2 hb1⟩); clear hb1; have z0 := HE1.out.1.c0; have z1 := HE1.out.1.c1; have z2 := HE1.out.1.c2; have z3 := HE1.out.1.c3; have z4 := HE1.out.1.c4; have z5 := HE1.out.1.c5; have z6 := HE1.out.1.c6; have z7 := HE1.out.1.c7; have z8 := HE1.out.1.c8; have z9 := HE1.out.1.c9; have z10 := HE1.out.1.c10; have z11 := HE1.out.1.c11)
    | (with_reducible refine wpList_load_st rfl (.tmp 1) rfl w.heap.size s lv rfl HE1.out.1 ?_)
    | (go_at_call 20; refine (HLN.out _ HE1.out.2.1).mono ?_; rintro x w2 ⟨rfl, hb2⟩; have HE2 := Lib.hid (show StBlk w2 w.heap.size s lv ∧ LnRow w2 lv s.lines ∧ Below w.heap.size w w2 from ⟨HE1.out.1.below hb2, HE1.out.2.1.below hb2, Below.next HE1.out.2.2 hb2⟩); clear hb2))
  clear z0 z1 z2 z3 z4 z5 z6 z7 z8 z9 z10 z11 HE0 HE1 HC HLN
  refine wp_region_held_drew (S := fun w' => StBlk w' w.heap.size s lv ∧ LnRow w' lv s.lines ∧ Below w.heap.size w w') (by kernel_rfl) ⟨HE2.out.1, HE2.out.2.1, Below.next HE2.out.2.2 (below_drewN' _ 1)⟩ (fun hHeld => ?_)
  refine tk 0 rfl ?v_0_152 ?hy_0_152 ?r_0_152
  case hy_0_152 => intro w h; have k4 := h.1.c4; have k6 := h.1.c6; have k7 := h.1.c7; go_simp; try with_reducible rfl
  simp only [pA, pB, pC, pD]
  refine tk 1 rfl ?v_1_153 ?hy_1_153 ?r_1_153
  case hy_1_153 => intro w h; have k4 := h.1.c4; have k6 := h.1.c6; have k7 := h.1.c7; go_simp; try with_reducible rfl
  simp only [pA, pB, pC, pD]
  refine tk 2 rfl ?v_2_154 ?hy_2_154 ?r_2_154
  case hy_2_154 => intro w h; have k4 := h.1.c4; have k6 := h.1.c6; have k7 := h.1.c7; go_simp; try with_reducible rfl
  simp only [pA, pB, pC, pD]
  refine tk 3 rfl ?v_3_155 ?hy_3_155 ?r_3_155
  case hy_3_155 => intro w h; have k4 := h.1.c4; have k6 := h.1.c6; have k7 := h.1.c7; go_simp; try with_reducible rfl
  simp only [pA, pB, pC, pD]
  refine tk 4 rfl ?v_4_156 ?hy_4_156 ?r_4_156
  case hy_4_156 => intro w h; have k4 := h.1.c4; have k6 := h.1.c6; have k7 := h.1.c7; go_simp; try with_reducible rfl
  simp only [pA, pB, pC, pD]
  refine tk 5 rfl ?v_5_157 ?hy_5_157 ?r_5_157
  case hy_5_157 => intro w h; have k4 := h.1.c4; have k6 := h.1.c6; have k7 := h.1.c7; go_simp; try with_reducible rfl
  simp only [pA, pB, pC, pD]
  refine tk 6 rfl ?v_6_158 ?hy_6_158 ?r_6_158
  case hy_6_158 => intro w h; have k4 := h.1.c4; have k6 := h.1.c6; have k7 := h.1.c7; go_simp; try with_reducible rfl
  simp only [pA, pB, pC, pD]
  refine tk 7 rfl ?v_7_159 ?hy_7_159 ?r_7_159
  case hy_7_159 => intro w h; have k4 := h.1.c4; have k6 := h.1.c6; have k7 := h.1.c7; go_simp; try with_reducible rfl
  simp only [pA, pB, pC, pD]
  refine tk 8 rfl ?v_8_160 ?hy_8_160 ?r_8_160
  case hy_8_160 => intro w h; have k4 := h.1.c4; have k6 := h.1.c6; have k7 := h.1.c7; go_simp; try with_reducible rfl
  simp only [pA, pB, pC, pD]
  refine tk 9 rfl ?v_9_161 ?hy_9_161 ?r_9_161
  case hy_9_161 => intro w h; have k4 := h.1.c4; have k6 := h.1.c6; have k7 := h.1.c7; go_simp; try with_reducible rfl
  simp only [pA, pB, pC, pD]
  refine tk 10 rfl ?v_10_162 ?hy_10_162 ?r_10_162
  case hy_10_162 => intro w h; have k4 := h.1.c4; have k6 := h.1.c6; have k7 := h.1.c7; go_simp; try with_reducible rfl
  simp only [pA, pB, pC, pD]
  refine tk 11 rfl ?v_11_163 ?hy_11_163 ?r_11_163
  case hy_11_163 => intro w h; have k4 := h.1.c4; have k6 := h.1.c6; have k7 := h.1.c7; go_simp; try with_reducible rfl
  simp only [pA, pB, pC, pD]
  refine tk 12 rfl ?v_12_164 ?hy_12_164 ?r_12_164
  case hy_12_164 => intro w h; have k4 := h.1.c4; have k6 := h.1.c6; have k7 := h.1.c7; go_simp; try with_reducible rfl
  simp only [pA, pB, pC, pD]
  refine tk 13 rfl ?v_13_165 ?hy_13_165 ?r_13_165
  case hy_13_165 => intro w h; have k4 := h.1.c4; have k6 := h.1.c6; have k7 := h.1.c7; go_simp; try with_reducible rfl
  simp only [pA, pB, pC, pD]
  refine tk 14 rfl ?v_14_166 ?hy_14_166 ?r_14_166
  case hy_14_166 => intro w h; have k4 := h.1.c4; have k6 := h.1.c6; have k7 := h.1.c7; go_simp; try with_reducible rfl
  simp only [pA, pB, pC, pD]
  refine tk 15 rfl ?v_15_167 ?hy_15_167 ?r_15_167
  case hy_15_167 => intro w h; have k4 := h.1.c4; have k6 := h.1.c6; have k7 := h.1.c7; go_simp; try with_reducible rfl
  simp only [pA, pB, pC, pD]
  refine tk 16 rfl ?v_16_168 ?hy_16_168 ?r_16_168
  case hy_16_168 => intro w h; have k4 := h.1.c4; have k6 := h.1.c6; have k7 := h.1.c7; go_simp; try with_reducible rfl
  simp only [pA, pB, pC, pD]
  refine tk 17 rfl ?v_17_169 ?hy_17_169 ?r_17_169
  case hy_17_169 => intro w h; have k4 := h.1.c4; have k6 := h.1.c6; have k7 := h.1.c7; go_simp; try with_reducible rfl
  simp only [pA, pB, pC, pD]
  refine wpAnyH_take (i := 18) (oi := ⟨_, _, _, _, _, _⟩) (v := stV s lv) rfl (by kernel_rfl) (by kernel_rfl) (by kernel_rfl) (fun _ _ _ h => h) (yieldsIf_load_mid (by kernel_rfl) 25 (.tmp 1) rfl w.heap.size 0 rfl (stCs s lv).toList _ (fun w' h j v hv => by rw [Nat.zero_add, h.1.cell]; simpa using hv) Tryd.underlying25 rfl (by rw [stInfo]; rfl)) (by assumption) ?_
  simp only [pA, pB, pC, pD]
  refine wpAnyH_ready (rs := [19]) (by kernel_rfl) (by simp) ?_
  refine AllReadyH.cons rfl (fun K hK => ?_) AllReadyH.nil
  go_simp
  go_at_call 21
  obtain ⟨hSt, hLn, hBe⟩ := hHeld
  refine (HDU.out _ hLn).mono ?_
  rintro x w3 ⟨rfl, hb⟩
  go_wp2_with fail
  refine hK.out _ _ ⟨hSt.below hb, hLn.below hb, Below.next hBe hb⟩ (fun hHeld => ?_)
  clear hK K hSt hLn hBe hb
  refine tk 20 rfl ?v_20_170 ?hy_20_170 ?r_20_170
  case hy_20_170 => intro w h; have k4 := h.1.c4; have k6 := h.1.c6; have k7 := h.1.c7; go_simp; try with_reducible rfl
  simp only [pA, pB, pC, pD]
  refine tk 21 rfl ?v_21_171 ?hy_21_171 ?r_21_171
  case hy_21_171 => intro w h; have k4 := h.1.c4; have k6 := h.1.c6; have k7 := h.1.c7; go_simp; try with_reducible rfl
  simp only [pA, pB, pC, pD]
  refine wpAnyH_done (by kernel_rfl) ?_ _
  have c1 : w3.cell? ⟨w.heap.size, 1, none⟩ = some (.int .i64 3) := by rw [hHeld.1.cell 1, stCs, HS.out]; rfl
  have c2 : w3.cell? ⟨w.heap.size, 2, none⟩ = some (.int .i64 0) := by rw [hHeld.1.cell 2, stCs, HP.out]; rfl
  have HE := Lib.hid hHeld
  clear hHeld HE2 k1 k2 k3 k4 k5 k6 k7 k8 e1 e2 e3 e4 e5 e6 q1 q2 q3 c0
  go_wp2
  clear c1 c2
  refine wp_region_held_drew (S := fun w' => StBlk w' w.heap.size s lv ∧ LnRow w' lv s.lines ∧ Below w.heap.size w w') (by kernel_rfl) ⟨HE.out.1, HE.out.2.1, Below.next HE.out.2.2 (below_drewN' _ 1)⟩ (fun hHeld => ?_)
  refine tk 0 rfl ?v_0_172 ?hy_0_172 ?r_0_172
  case hy_0_172 => intro w h; have k4 := h.1.c4; have k6 := h.1.c6; have k7 := h.1.c7; go_simp; try with_reducible rfl
  simp only [pA, pB, pC, pD]
  refine tk 1 rfl ?v_1_173 ?hy_1_173 ?r_1_173
  case hy_1_173 => intro w h; have k4 := h.1.c4; have k6 := h.1.c6; have k7 := h.1.c7; go_simp; try with_reducible rfl
  simp only [pA, pB, pC, pD]
  refine tk 2 rfl ?v_2_174 ?hy_2_174 ?r_2_174
  case hy_2_174 => intro w h; have k4 := h.1.c4; have k6 := h.1.c6; have k7 := h.1.c7; go_simp; try with_reducible rfl
  simp only [pA, pB, pC, pD]
  refine tk 3 rfl ?v_3_175 ?hy_3_175 ?r_3_175
  case hy_3_175 => intro w h; have k4 := h.1.c4; have k6 := h.1.c6; have k7 := h.1.c7; go_simp; try with_reducible rfl
  simp only [pA, pB, pC, pD]
  refine tkn 4 rfl ?_
  simp only [pA, pB, pC, pD]
  refine tkn 5 rfl ?_
  simp only [pA, pB, pC, pD]
  refine tkn 6 rfl ?_
  simp only [pA, pB, pC, pD]
  refine tkn 7 rfl ?_
  simp only [pA, pB, pC, pD]
  refine tkn 8 rfl ?_
  simp only [pA, pB, pC, pD]
  refine tk 9 rfl ?v_9_176 ?hy_9_176 ?r_9_176
  case hy_9_176 => intro w h; have k4 := h.1.c4; have k6 := h.1.c6; have k7 := h.1.c7; go_simp; try with_reducible rfl
  simp only [pA, pB, pC, pD]
  refine tk 10 rfl ?v_10_177 ?hy_10_177 ?r_10_177
  case hy_10_177 => intro w h; have k4 := h.1.c4; have k6 := h.1.c6; have k7 := h.1.c7; go_simp; try with_reducible rfl
  simp only [pA, pB, pC, pD]
  refine wpAnyH_done (by kernel_rfl) ?_ _
  have HE4 := Lib.hid hHeld
  clear hHeld HE HDU
  generalize w3.drew = w4 at *
  go_wp2_with (first
    | (with_reducible refine wpList_load_st rfl (.tmp 1) rfl w.heap.size s lv rfl HE4.out.1 ?_)
    | (go_at_call 22; refine (HSS.out _).mono ?_; rintro x w5 ⟨rfl, hb⟩; have HE5 := Lib.hid (show StBlk w5 w.heap.size s lv ∧ LnRow w5 lv s.lines ∧ Below w.heap.size w w5 from ⟨HE4.out.1.below hb, HE4.out.2.1.below hb, Below.next HE4.out.2.2 hb⟩); clear hb
       have z0 := HE5.out.1.c0; have z1 := HE5.out.1.c1; have z2 := HE5.out.1.c2; have z3 := HE5.out.1.c3; have z4 := HE5.out.1.c4; have z6 := HE5.out.1.c6; have z7 := HE5.out.1.c7; have z8 := HE5.out.1.c8; have z9 := HE5.out.1.c9; have z10 := HE5.out.1.c10; have z11 := HE5.out.1.c11; have z5 : w5.cell? ⟨w.heap.size, 5, none⟩ = some lv := HE5.out.1.cell 5))
  have HB := Lib.hid HE5.out.2.2
  go_ret
  exact ⟨by rw [HVb.out]; rfl, HB.out⟩

set_option maxRecDepth 100000 in
set_option maxHeartbeats 16000000 in
theorem rvok_3_0_1 (s : St) (lv : Value) (w : World) (hr : LnRow w lv s.lines) (hw : s.who.length ≤ 281474976710656) (hf : boundedB s = true) (hm : ¬ dueOf s < s.paid) (hs : s.status = 3) (hp : s.prior = 0) (g3 : decide (0 < s.paid) = true) (g1 : (s.paid == dueOf s) = false) :
    Calls Tryd.prog 11 #[stV s lv] w fun e w' => e = .returned (.bool (validB s)) ∧ Below w.heap.size w w' := by
  have HVb := Lib.hid (show validB s = (false && !wholeB s.lines) by
    have h1 : validB s = standB s 3 := by unfold validB; rw [hf, decide_eq_true (by omega), hs, hp]; rfl
    have h2 : (s.paid == dueOf s && decide (0 < s.paid)) = false := by rw [g3, g1]; rfl
    rw [h1]; unfold standB; rw [h2]; rfl)
  have hbp := bounded_p hf
  have k1 : decide (s.order < 1) = false := by rw [decide_eq_false_iff_not]; have := hbp.order; omega
  have k2 : decide (1099511627776 < s.order) = false := by rw [decide_eq_false_iff_not]; have := hbp.order; omega
  have k3 : decide (s.status < 0) = false := by rw [decide_eq_false_iff_not]; have := hbp.status; omega
  have k4 : decide (5 < s.status) = false := by rw [decide_eq_false_iff_not]; have := hbp.status; omega
  have k5 : decide (s.cur < 0) = false := by rw [decide_eq_false_iff_not]; have := hbp.cur; omega
  have k6 : decide (3 < s.cur) = false := by rw [decide_eq_false_iff_not]; have := hbp.cur; omega
  have k7 : decide (s.tax < 0) = false := by rw [decide_eq_false_iff_not]; have := hbp.tax; omega
  have k8 : decide (5000 < s.tax) = false := by rw [decide_eq_false_iff_not]; have := hbp.tax; omega
  have e1 : decide (s.events < 0) = false := by rw [decide_eq_false_iff_not]; have := hbp.events; omega
  have e2 : decide (1099511627776 < s.events) = false := by rw [decide_eq_false_iff_not]; have := hbp.events; omega
  have e3 : decide (s.refused < 0) = false := by rw [decide_eq_false_iff_not]; have := hbp.refused; omega
  have e4 : decide (s.events < s.refused) = false := by rw [decide_eq_false_iff_not]; have := hbp.events; have := hbp.refused; omega
  have e5 : decide (s.stamp < 0) = false := by rw [decide_eq_false_iff_not]; have := hbp.stamp; omega
  have e6 : decide (1099511627776 < s.stamp) = false := by rw [decide_eq_false_iff_not]; have := hbp.stamp; omega
  have q1 : decide (s.refunded < 0) = false := by rw [decide_eq_false_iff_not]; have := hbp.refunded; omega
  have q2 : decide (s.paid < s.refunded) = false := by rw [decide_eq_false_iff_not]; have := hbp.refunded; omega
  have q3 : decide (s.paid < 0) = false := by rw [decide_eq_false_iff_not]; have := hbp.refunded; omega
  have hn := (bounded_lined hf).2
  have hl := (bounded_lined hf).1
  obtain ⟨c, hc⟩ : ∃ c, c = evCheck 4 (evWho s.who) := ⟨_, rfl⟩
  have hcn : (c == 0) = namedB s.who := by rw [hc]; exact evWho_check 4 (.inl rfl) s.who
  have HC := Lib.hid (show ∀ W : World, Calls Tryd.prog 19 #[.int .i64 4, .agg #[.int .i64 1, .int .i64 1, .int .i64 0, .int .i64 0, .int .i64 0, .int .i64 0, .int .i64 0, .string ⟨s.who.toArray⟩, .int .i64 0, .string ⟨#[]⟩]] W (ChkPost c W) from fun W => hc ▸ refCheckB_any 4 (evWho s.who) W (evWho_ok s.who hw))
  have HLN := Lib.hid (show ∀ W : World, LnRow W lv s.lines → Calls Tryd.prog 20 #[stV s lv] W fun e w' => e = .returned (.bool (linedB s.lines)) ∧ Below W.heap.size W w' from fun W h => rlines_any s lv W h)
  have HE0 := Lib.hid (show StBlk (w.alloc (.cells (stCs s lv) 25)) w.heap.size s lv ∧ LnRow (w.alloc (.cells (stCs s lv) 25)) lv s.lines ∧ Below w.heap.size w (w.alloc (.cells (stCs s lv) 25)) from by
    have hb : Below w.heap.size w (w.alloc (.cells (stCs s lv) 25)) := (Below.refl _ _).alloc (Nat.le_refl _) _
    exact ⟨stBlk_alloc w s lv, hr.below hb, hb⟩)
  have c0 : (c != 0) = false := by rw [hn, beq_iff_eq] at hcn; rw [bne_eq_false_iff_eq]; exact hcn
  rw [hl] at HLN
  obtain ⟨D, hD⟩ : ∃ D, D = dueOf s := ⟨_, rfl⟩
  have HDU := Lib.hid (show ∀ W : World, LnRow W lv s.lines → Calls Tryd.prog 21 #[stV s lv] W fun e w' => e = .returned (.int .i64 D) ∧ Below W.heap.size W w' from fun W h => hD ▸ rdue_any s lv W h hbp.fine hbp.few hbp.tax.1 hbp.tax.2)
  have HSS := Lib.hid (show ∀ W : World, Calls Tryd.prog 22 #[stV s lv] W fun e w' => e = .returned (.int .i64 3) ∧ Below W.heap.size W w' from fun W => by have h := rstands_else s lv W (by omega); rw [hs] at h; exact h)
  have HUN := Lib.hid (show ∀ W : World, LnRow W lv s.lines → Calls Tryd.prog 23 #[stV s lv] W fun e w' => e = .returned (.bool (noneB s.lines)) ∧ Below W.heap.size W w' from fun W h => runtouched_any s lv W h hbp.fine)
  have HWH := Lib.hid (show ∀ W : World, LnRow W lv s.lines → Calls Tryd.prog 24 #[stV s lv] W fun e w' => e = .returned (.bool (wholeB s.lines)) ∧ Below W.heap.size W w' from fun W h => rwhole_any s lv W h hbp.fine)
  obtain ⟨nB, hnB⟩ : ∃ x, x = noneB s.lines := ⟨_, rfl⟩
  obtain ⟨wB, hwB⟩ : ∃ x, x = wholeB s.lines := ⟨_, rfl⟩
  rw [← hnB] at HUN
  rw [← hwB] at HWH
  rw [← hD] at hm g1
  rw [← hwB] at HVb
  have d1 : decide (D < s.paid) = false := decide_eq_false hm
  have hm2 : s.paid ≤ D := by omega
  have HS := Lib.hid hs
  have HP := Lib.hid hp
  obtain ⟨oa, cap, hlv, _, _, _⟩ := hr.shape
  have HLV := Lib.hid hlv
  clear hc hcn hn hl hr hw hf hbp hD hm hs hp hnB hwB hlv
  go_enter Tryd.func11, Tryd.ntmps11
  go_wp2_with (first
    | (go_at_call 19; (with_reducible refine (HC.out _).mono ?_); rintro x w1 ⟨rfl, hb1⟩; have HE1 := Lib.hid (show StBlk w1 w.heap.size s lv ∧ LnRow w1 lv s.lines ∧ Below w.heap.size w w1 from ⟨HE0.out.1.below hb1, HE0.out.2.1.below hb1, Below.next HE0.out.2.2 hb1⟩); clear hb1; have z0 := HE1.out.1.c0; have z1 := HE1.out.1.c1; have z2 := HE1.out.1.c2; have z3 := HE1.out.1.c3; have z4 := HE1.out.1.c4; have z5 := HE1.out.1.c5; have z6 := HE1.out.1.c6; have z7 := HE1.out.1.c7; have z8 := HE1.out.1.c8; have z9 := HE1.out.1.c9; have z10 := HE1.out.1.c10; have z11 := HE1.out.1.c11)
    | (with_reducible refine wpList_load_st rfl (.tmp 1) rfl w.heap.size s lv rfl HE1.out.1 ?_)
    | (go_at_call 20; refine (HLN.out _ HE1.out.2.1).mono ?_; rintro x w2 ⟨rfl, hb2⟩; have HE2 := Lib.hid (show StBlk w2 w.heap.size s lv ∧ LnRow w2 lv s.lines ∧ Below w.heap.size w w2 from ⟨HE1.out.1.below hb2, HE1.out.2.1.below hb2, Below.next HE1.out.2.2 hb2⟩); clear hb2))
  clear z0 z1 z2 z3 z4 z5 z6 z7 z8 z9 z10 z11 HE0 HE1 HC HLN
  refine wp_region_held_drew (S := fun w' => StBlk w' w.heap.size s lv ∧ LnRow w' lv s.lines ∧ Below w.heap.size w w') (by kernel_rfl) ⟨HE2.out.1, HE2.out.2.1, Below.next HE2.out.2.2 (below_drewN' _ 1)⟩ (fun hHeld => ?_)
  refine tk 0 rfl ?v_0_178 ?hy_0_178 ?r_0_178
  case hy_0_178 => intro w h; have k4 := h.1.c4; have k6 := h.1.c6; have k7 := h.1.c7; go_simp; try with_reducible rfl
  simp only [pA, pB, pC, pD]
  refine tk 1 rfl ?v_1_179 ?hy_1_179 ?r_1_179
  case hy_1_179 => intro w h; have k4 := h.1.c4; have k6 := h.1.c6; have k7 := h.1.c7; go_simp; try with_reducible rfl
  simp only [pA, pB, pC, pD]
  refine tk 2 rfl ?v_2_180 ?hy_2_180 ?r_2_180
  case hy_2_180 => intro w h; have k4 := h.1.c4; have k6 := h.1.c6; have k7 := h.1.c7; go_simp; try with_reducible rfl
  simp only [pA, pB, pC, pD]
  refine tk 3 rfl ?v_3_181 ?hy_3_181 ?r_3_181
  case hy_3_181 => intro w h; have k4 := h.1.c4; have k6 := h.1.c6; have k7 := h.1.c7; go_simp; try with_reducible rfl
  simp only [pA, pB, pC, pD]
  refine tk 4 rfl ?v_4_182 ?hy_4_182 ?r_4_182
  case hy_4_182 => intro w h; have k4 := h.1.c4; have k6 := h.1.c6; have k7 := h.1.c7; go_simp; try with_reducible rfl
  simp only [pA, pB, pC, pD]
  refine tk 5 rfl ?v_5_183 ?hy_5_183 ?r_5_183
  case hy_5_183 => intro w h; have k4 := h.1.c4; have k6 := h.1.c6; have k7 := h.1.c7; go_simp; try with_reducible rfl
  simp only [pA, pB, pC, pD]
  refine tk 6 rfl ?v_6_184 ?hy_6_184 ?r_6_184
  case hy_6_184 => intro w h; have k4 := h.1.c4; have k6 := h.1.c6; have k7 := h.1.c7; go_simp; try with_reducible rfl
  simp only [pA, pB, pC, pD]
  refine tk 7 rfl ?v_7_185 ?hy_7_185 ?r_7_185
  case hy_7_185 => intro w h; have k4 := h.1.c4; have k6 := h.1.c6; have k7 := h.1.c7; go_simp; try with_reducible rfl
  simp only [pA, pB, pC, pD]
  refine tk 8 rfl ?v_8_186 ?hy_8_186 ?r_8_186
  case hy_8_186 => intro w h; have k4 := h.1.c4; have k6 := h.1.c6; have k7 := h.1.c7; go_simp; try with_reducible rfl
  simp only [pA, pB, pC, pD]
  refine tk 9 rfl ?v_9_187 ?hy_9_187 ?r_9_187
  case hy_9_187 => intro w h; have k4 := h.1.c4; have k6 := h.1.c6; have k7 := h.1.c7; go_simp; try with_reducible rfl
  simp only [pA, pB, pC, pD]
  refine tk 10 rfl ?v_10_188 ?hy_10_188 ?r_10_188
  case hy_10_188 => intro w h; have k4 := h.1.c4; have k6 := h.1.c6; have k7 := h.1.c7; go_simp; try with_reducible rfl
  simp only [pA, pB, pC, pD]
  refine tk 11 rfl ?v_11_189 ?hy_11_189 ?r_11_189
  case hy_11_189 => intro w h; have k4 := h.1.c4; have k6 := h.1.c6; have k7 := h.1.c7; go_simp; try with_reducible rfl
  simp only [pA, pB, pC, pD]
  refine tk 12 rfl ?v_12_190 ?hy_12_190 ?r_12_190
  case hy_12_190 => intro w h; have k4 := h.1.c4; have k6 := h.1.c6; have k7 := h.1.c7; go_simp; try with_reducible rfl
  simp only [pA, pB, pC, pD]
  refine tk 13 rfl ?v_13_191 ?hy_13_191 ?r_13_191
  case hy_13_191 => intro w h; have k4 := h.1.c4; have k6 := h.1.c6; have k7 := h.1.c7; go_simp; try with_reducible rfl
  simp only [pA, pB, pC, pD]
  refine tk 14 rfl ?v_14_192 ?hy_14_192 ?r_14_192
  case hy_14_192 => intro w h; have k4 := h.1.c4; have k6 := h.1.c6; have k7 := h.1.c7; go_simp; try with_reducible rfl
  simp only [pA, pB, pC, pD]
  refine tk 15 rfl ?v_15_193 ?hy_15_193 ?r_15_193
  case hy_15_193 => intro w h; have k4 := h.1.c4; have k6 := h.1.c6; have k7 := h.1.c7; go_simp; try with_reducible rfl
  simp only [pA, pB, pC, pD]
  refine tk 16 rfl ?v_16_194 ?hy_16_194 ?r_16_194
  case hy_16_194 => intro w h; have k4 := h.1.c4; have k6 := h.1.c6; have k7 := h.1.c7; go_simp; try with_reducible rfl
  simp only [pA, pB, pC, pD]
  refine tk 17 rfl ?v_17_195 ?hy_17_195 ?r_17_195
  case hy_17_195 => intro w h; have k4 := h.1.c4; have k6 := h.1.c6; have k7 := h.1.c7; go_simp; try with_reducible rfl
  simp only [pA, pB, pC, pD]
  refine wpAnyH_take (i := 18) (oi := ⟨_, _, _, _, _, _⟩) (v := stV s lv) rfl (by kernel_rfl) (by kernel_rfl) (by kernel_rfl) (fun _ _ _ h => h) (yieldsIf_load_mid (by kernel_rfl) 25 (.tmp 1) rfl w.heap.size 0 rfl (stCs s lv).toList _ (fun w' h j v hv => by rw [Nat.zero_add, h.1.cell]; simpa using hv) Tryd.underlying25 rfl (by rw [stInfo]; rfl)) (by assumption) ?_
  simp only [pA, pB, pC, pD]
  refine wpAnyH_ready (rs := [19]) (by kernel_rfl) (by simp) ?_
  refine AllReadyH.cons rfl (fun K hK => ?_) AllReadyH.nil
  go_simp
  go_at_call 21
  obtain ⟨hSt, hLn, hBe⟩ := hHeld
  refine (HDU.out _ hLn).mono ?_
  rintro x w3 ⟨rfl, hb⟩
  go_wp2_with fail
  refine hK.out _ _ ⟨hSt.below hb, hLn.below hb, Below.next hBe hb⟩ (fun hHeld => ?_)
  clear hK K hSt hLn hBe hb
  refine tk 20 rfl ?v_20_196 ?hy_20_196 ?r_20_196
  case hy_20_196 => intro w h; have k4 := h.1.c4; have k6 := h.1.c6; have k7 := h.1.c7; go_simp; try with_reducible rfl
  simp only [pA, pB, pC, pD]
  refine tk 21 rfl ?v_21_197 ?hy_21_197 ?r_21_197
  case hy_21_197 => intro w h; have k4 := h.1.c4; have k6 := h.1.c6; have k7 := h.1.c7; go_simp; try with_reducible rfl
  simp only [pA, pB, pC, pD]
  refine wpAnyH_done (by kernel_rfl) ?_ _
  have c1 : w3.cell? ⟨w.heap.size, 1, none⟩ = some (.int .i64 3) := by rw [hHeld.1.cell 1, stCs, HS.out]; rfl
  have c2 : w3.cell? ⟨w.heap.size, 2, none⟩ = some (.int .i64 0) := by rw [hHeld.1.cell 2, stCs, HP.out]; rfl
  have HE := Lib.hid hHeld
  clear hHeld HE2 k1 k2 k3 k4 k5 k6 k7 k8 e1 e2 e3 e4 e5 e6 q1 q2 q3 c0
  go_wp2
  clear c1 c2
  refine wp_region_held_drew (S := fun w' => StBlk w' w.heap.size s lv ∧ LnRow w' lv s.lines ∧ Below w.heap.size w w') (by kernel_rfl) ⟨HE.out.1, HE.out.2.1, Below.next HE.out.2.2 (below_drewN' _ 1)⟩ (fun hHeld => ?_)
  refine tk 0 rfl ?v_0_198 ?hy_0_198 ?r_0_198
  case hy_0_198 => intro w h; have k4 := h.1.c4; have k6 := h.1.c6; have k7 := h.1.c7; go_simp; try with_reducible rfl
  simp only [pA, pB, pC, pD]
  refine tk 1 rfl ?v_1_199 ?hy_1_199 ?r_1_199
  case hy_1_199 => intro w h; have k4 := h.1.c4; have k6 := h.1.c6; have k7 := h.1.c7; go_simp; try with_reducible rfl
  simp only [pA, pB, pC, pD]
  refine tk 2 rfl ?v_2_200 ?hy_2_200 ?r_2_200
  case hy_2_200 => intro w h; have k4 := h.1.c4; have k6 := h.1.c6; have k7 := h.1.c7; go_simp; try with_reducible rfl
  simp only [pA, pB, pC, pD]
  refine tk 3 rfl ?v_3_201 ?hy_3_201 ?r_3_201
  case hy_3_201 => intro w h; have k4 := h.1.c4; have k6 := h.1.c6; have k7 := h.1.c7; go_simp; try with_reducible rfl
  simp only [pA, pB, pC, pD]
  refine tk 4 rfl ?v_4_202 ?hy_4_202 ?r_4_202
  case hy_4_202 => intro w h; have k4 := h.1.c4; have k6 := h.1.c6; have k7 := h.1.c7; go_simp; try with_reducible rfl
  simp only [pA, pB, pC, pD]
  refine tk 5 rfl ?v_5_203 ?hy_5_203 ?r_5_203
  case hy_5_203 => intro w h; have k4 := h.1.c4; have k6 := h.1.c6; have k7 := h.1.c7; go_simp; try with_reducible rfl
  simp only [pA, pB, pC, pD]
  refine wpAnyH_take (i := 6) (oi := ⟨_, _, _, _, _, _⟩) (v := stV s lv) rfl (by kernel_rfl) (by kernel_rfl) (by kernel_rfl) (fun _ _ _ h => h) (yieldsIf_load_mid (by kernel_rfl) 25 (.tmp 1) rfl w.heap.size 0 rfl (stCs s lv).toList _ (fun w' h j v hv => by rw [Nat.zero_add, h.1.cell]; simpa using hv) Tryd.underlying25 rfl (by rw [stInfo]; rfl)) (by assumption) ?_
  simp only [pA, pB, pC, pD]
  refine wpAnyH_ready (rs := [7]) (by kernel_rfl) (by simp) ?_
  refine AllReadyH.cons rfl (fun K hK => ?_) AllReadyH.nil
  go_simp
  go_at_call 21
  obtain ⟨hSt, hLn, hBe⟩ := hHeld
  refine (HDU.out _ hLn).mono ?_
  rintro x w4 ⟨rfl, hb⟩
  go_wp2_with fail
  refine hK.out _ _ ⟨hSt.below hb, hLn.below hb, Below.next hBe hb⟩ (fun hHeld => ?_)
  clear hK K hSt hLn hBe hb
  refine tk 8 rfl ?v_8_204 ?hy_8_204 ?r_8_204
  case hy_8_204 => intro w h; have k4 := h.1.c4; have k6 := h.1.c6; have k7 := h.1.c7; go_simp; try with_reducible rfl
  simp only [pA, pB, pC, pD]
  refine tk 9 rfl ?v_9_205 ?hy_9_205 ?r_9_205
  case hy_9_205 => intro w h; have k4 := h.1.c4; have k6 := h.1.c6; have k7 := h.1.c7; go_simp; try with_reducible rfl
  simp only [pA, pB, pC, pD]
  refine tk 10 rfl ?v_10_206 ?hy_10_206 ?r_10_206
  case hy_10_206 => intro w h; have k4 := h.1.c4; have k6 := h.1.c6; have k7 := h.1.c7; go_simp; try with_reducible rfl
  simp only [pA, pB, pC, pD]
  refine wpAnyH_done (by kernel_rfl) ?_ _
  have HE4 := Lib.hid hHeld
  clear hHeld HE HDU
  go_wp2_with (first
    | (with_reducible refine wpList_load_st rfl (.tmp 1) rfl w.heap.size s lv rfl HE4.out.1 ?_)
    | (go_at_call 22; refine (HSS.out _).mono ?_; rintro x w5 ⟨rfl, hb⟩; have HE5 := Lib.hid (show StBlk w5 w.heap.size s lv ∧ LnRow w5 lv s.lines ∧ Below w.heap.size w w5 from ⟨HE4.out.1.below hb, HE4.out.2.1.below hb, Below.next HE4.out.2.2 hb⟩); clear hb
       have z0 := HE5.out.1.c0; have z1 := HE5.out.1.c1; have z2 := HE5.out.1.c2; have z3 := HE5.out.1.c3; have z4 := HE5.out.1.c4; have z6 := HE5.out.1.c6; have z7 := HE5.out.1.c7; have z8 := HE5.out.1.c8; have z9 := HE5.out.1.c9; have z10 := HE5.out.1.c10; have z11 := HE5.out.1.c11; have z5 : w5.cell? ⟨w.heap.size, 5, none⟩ = some lv := HE5.out.1.cell 5))
  have HB := Lib.hid HE5.out.2.2
  go_ret
  exact ⟨by rw [HVb.out]; rfl, HB.out⟩

set_option maxRecDepth 100000 in
set_option maxHeartbeats 16000000 in
theorem rvok_3_0_2 (s : St) (lv : Value) (w : World) (hr : LnRow w lv s.lines) (hw : s.who.length ≤ 281474976710656) (hf : boundedB s = true) (hm : ¬ dueOf s < s.paid) (hs : s.status = 3) (hp : s.prior = 0) (g3 : decide (0 < s.paid) = true) (g1 : (s.paid == dueOf s) = true) :
    Calls Tryd.prog 11 #[stV s lv] w fun e w' => e = .returned (.bool (validB s)) ∧ Below w.heap.size w w' := by
  have HVb := Lib.hid (show validB s = (true && !wholeB s.lines) by
    have h1 : validB s = standB s 3 := by unfold validB; rw [hf, decide_eq_true (by omega), hs, hp]; rfl
    have h2 : (s.paid == dueOf s && decide (0 < s.paid)) = true := by rw [g3, g1]; rfl
    rw [h1]; unfold standB; rw [h2]; rfl)
  have hbp := bounded_p hf
  have k1 : decide (s.order < 1) = false := by rw [decide_eq_false_iff_not]; have := hbp.order; omega
  have k2 : decide (1099511627776 < s.order) = false := by rw [decide_eq_false_iff_not]; have := hbp.order; omega
  have k3 : decide (s.status < 0) = false := by rw [decide_eq_false_iff_not]; have := hbp.status; omega
  have k4 : decide (5 < s.status) = false := by rw [decide_eq_false_iff_not]; have := hbp.status; omega
  have k5 : decide (s.cur < 0) = false := by rw [decide_eq_false_iff_not]; have := hbp.cur; omega
  have k6 : decide (3 < s.cur) = false := by rw [decide_eq_false_iff_not]; have := hbp.cur; omega
  have k7 : decide (s.tax < 0) = false := by rw [decide_eq_false_iff_not]; have := hbp.tax; omega
  have k8 : decide (5000 < s.tax) = false := by rw [decide_eq_false_iff_not]; have := hbp.tax; omega
  have e1 : decide (s.events < 0) = false := by rw [decide_eq_false_iff_not]; have := hbp.events; omega
  have e2 : decide (1099511627776 < s.events) = false := by rw [decide_eq_false_iff_not]; have := hbp.events; omega
  have e3 : decide (s.refused < 0) = false := by rw [decide_eq_false_iff_not]; have := hbp.refused; omega
  have e4 : decide (s.events < s.refused) = false := by rw [decide_eq_false_iff_not]; have := hbp.events; have := hbp.refused; omega
  have e5 : decide (s.stamp < 0) = false := by rw [decide_eq_false_iff_not]; have := hbp.stamp; omega
  have e6 : decide (1099511627776 < s.stamp) = false := by rw [decide_eq_false_iff_not]; have := hbp.stamp; omega
  have q1 : decide (s.refunded < 0) = false := by rw [decide_eq_false_iff_not]; have := hbp.refunded; omega
  have q2 : decide (s.paid < s.refunded) = false := by rw [decide_eq_false_iff_not]; have := hbp.refunded; omega
  have q3 : decide (s.paid < 0) = false := by rw [decide_eq_false_iff_not]; have := hbp.refunded; omega
  have hn := (bounded_lined hf).2
  have hl := (bounded_lined hf).1
  obtain ⟨c, hc⟩ : ∃ c, c = evCheck 4 (evWho s.who) := ⟨_, rfl⟩
  have hcn : (c == 0) = namedB s.who := by rw [hc]; exact evWho_check 4 (.inl rfl) s.who
  have HC := Lib.hid (show ∀ W : World, Calls Tryd.prog 19 #[.int .i64 4, .agg #[.int .i64 1, .int .i64 1, .int .i64 0, .int .i64 0, .int .i64 0, .int .i64 0, .int .i64 0, .string ⟨s.who.toArray⟩, .int .i64 0, .string ⟨#[]⟩]] W (ChkPost c W) from fun W => hc ▸ refCheckB_any 4 (evWho s.who) W (evWho_ok s.who hw))
  have HLN := Lib.hid (show ∀ W : World, LnRow W lv s.lines → Calls Tryd.prog 20 #[stV s lv] W fun e w' => e = .returned (.bool (linedB s.lines)) ∧ Below W.heap.size W w' from fun W h => rlines_any s lv W h)
  have HE0 := Lib.hid (show StBlk (w.alloc (.cells (stCs s lv) 25)) w.heap.size s lv ∧ LnRow (w.alloc (.cells (stCs s lv) 25)) lv s.lines ∧ Below w.heap.size w (w.alloc (.cells (stCs s lv) 25)) from by
    have hb : Below w.heap.size w (w.alloc (.cells (stCs s lv) 25)) := (Below.refl _ _).alloc (Nat.le_refl _) _
    exact ⟨stBlk_alloc w s lv, hr.below hb, hb⟩)
  have c0 : (c != 0) = false := by rw [hn, beq_iff_eq] at hcn; rw [bne_eq_false_iff_eq]; exact hcn
  rw [hl] at HLN
  obtain ⟨D, hD⟩ : ∃ D, D = dueOf s := ⟨_, rfl⟩
  have HDU := Lib.hid (show ∀ W : World, LnRow W lv s.lines → Calls Tryd.prog 21 #[stV s lv] W fun e w' => e = .returned (.int .i64 D) ∧ Below W.heap.size W w' from fun W h => hD ▸ rdue_any s lv W h hbp.fine hbp.few hbp.tax.1 hbp.tax.2)
  have HSS := Lib.hid (show ∀ W : World, Calls Tryd.prog 22 #[stV s lv] W fun e w' => e = .returned (.int .i64 3) ∧ Below W.heap.size W w' from fun W => by have h := rstands_else s lv W (by omega); rw [hs] at h; exact h)
  have HUN := Lib.hid (show ∀ W : World, LnRow W lv s.lines → Calls Tryd.prog 23 #[stV s lv] W fun e w' => e = .returned (.bool (noneB s.lines)) ∧ Below W.heap.size W w' from fun W h => runtouched_any s lv W h hbp.fine)
  have HWH := Lib.hid (show ∀ W : World, LnRow W lv s.lines → Calls Tryd.prog 24 #[stV s lv] W fun e w' => e = .returned (.bool (wholeB s.lines)) ∧ Below W.heap.size W w' from fun W h => rwhole_any s lv W h hbp.fine)
  obtain ⟨nB, hnB⟩ : ∃ x, x = noneB s.lines := ⟨_, rfl⟩
  obtain ⟨wB, hwB⟩ : ∃ x, x = wholeB s.lines := ⟨_, rfl⟩
  rw [← hnB] at HUN
  rw [← hwB] at HWH
  rw [← hD] at hm g1
  rw [← hwB] at HVb
  have d1 : decide (D < s.paid) = false := decide_eq_false hm
  have hm2 : s.paid ≤ D := by omega
  have HS := Lib.hid hs
  have HP := Lib.hid hp
  obtain ⟨oa, cap, hlv, _, _, _⟩ := hr.shape
  have HLV := Lib.hid hlv
  clear hc hcn hn hl hr hw hf hbp hD hm hs hp hnB hwB hlv
  go_enter Tryd.func11, Tryd.ntmps11
  go_wp2_with (first
    | (go_at_call 19; (with_reducible refine (HC.out _).mono ?_); rintro x w1 ⟨rfl, hb1⟩; have HE1 := Lib.hid (show StBlk w1 w.heap.size s lv ∧ LnRow w1 lv s.lines ∧ Below w.heap.size w w1 from ⟨HE0.out.1.below hb1, HE0.out.2.1.below hb1, Below.next HE0.out.2.2 hb1⟩); clear hb1; have z0 := HE1.out.1.c0; have z1 := HE1.out.1.c1; have z2 := HE1.out.1.c2; have z3 := HE1.out.1.c3; have z4 := HE1.out.1.c4; have z5 := HE1.out.1.c5; have z6 := HE1.out.1.c6; have z7 := HE1.out.1.c7; have z8 := HE1.out.1.c8; have z9 := HE1.out.1.c9; have z10 := HE1.out.1.c10; have z11 := HE1.out.1.c11)
    | (with_reducible refine wpList_load_st rfl (.tmp 1) rfl w.heap.size s lv rfl HE1.out.1 ?_)
    | (go_at_call 20; refine (HLN.out _ HE1.out.2.1).mono ?_; rintro x w2 ⟨rfl, hb2⟩; have HE2 := Lib.hid (show StBlk w2 w.heap.size s lv ∧ LnRow w2 lv s.lines ∧ Below w.heap.size w w2 from ⟨HE1.out.1.below hb2, HE1.out.2.1.below hb2, Below.next HE1.out.2.2 hb2⟩); clear hb2))
  clear z0 z1 z2 z3 z4 z5 z6 z7 z8 z9 z10 z11 HE0 HE1 HC HLN
  refine wp_region_held_drew (S := fun w' => StBlk w' w.heap.size s lv ∧ LnRow w' lv s.lines ∧ Below w.heap.size w w') (by kernel_rfl) ⟨HE2.out.1, HE2.out.2.1, Below.next HE2.out.2.2 (below_drewN' _ 1)⟩ (fun hHeld => ?_)
  refine tk 0 rfl ?v_0_207 ?hy_0_207 ?r_0_207
  case hy_0_207 => intro w h; have k4 := h.1.c4; have k6 := h.1.c6; have k7 := h.1.c7; go_simp; try with_reducible rfl
  simp only [pA, pB, pC, pD]
  refine tk 1 rfl ?v_1_208 ?hy_1_208 ?r_1_208
  case hy_1_208 => intro w h; have k4 := h.1.c4; have k6 := h.1.c6; have k7 := h.1.c7; go_simp; try with_reducible rfl
  simp only [pA, pB, pC, pD]
  refine tk 2 rfl ?v_2_209 ?hy_2_209 ?r_2_209
  case hy_2_209 => intro w h; have k4 := h.1.c4; have k6 := h.1.c6; have k7 := h.1.c7; go_simp; try with_reducible rfl
  simp only [pA, pB, pC, pD]
  refine tk 3 rfl ?v_3_210 ?hy_3_210 ?r_3_210
  case hy_3_210 => intro w h; have k4 := h.1.c4; have k6 := h.1.c6; have k7 := h.1.c7; go_simp; try with_reducible rfl
  simp only [pA, pB, pC, pD]
  refine tk 4 rfl ?v_4_211 ?hy_4_211 ?r_4_211
  case hy_4_211 => intro w h; have k4 := h.1.c4; have k6 := h.1.c6; have k7 := h.1.c7; go_simp; try with_reducible rfl
  simp only [pA, pB, pC, pD]
  refine tk 5 rfl ?v_5_212 ?hy_5_212 ?r_5_212
  case hy_5_212 => intro w h; have k4 := h.1.c4; have k6 := h.1.c6; have k7 := h.1.c7; go_simp; try with_reducible rfl
  simp only [pA, pB, pC, pD]
  refine tk 6 rfl ?v_6_213 ?hy_6_213 ?r_6_213
  case hy_6_213 => intro w h; have k4 := h.1.c4; have k6 := h.1.c6; have k7 := h.1.c7; go_simp; try with_reducible rfl
  simp only [pA, pB, pC, pD]
  refine tk 7 rfl ?v_7_214 ?hy_7_214 ?r_7_214
  case hy_7_214 => intro w h; have k4 := h.1.c4; have k6 := h.1.c6; have k7 := h.1.c7; go_simp; try with_reducible rfl
  simp only [pA, pB, pC, pD]
  refine tk 8 rfl ?v_8_215 ?hy_8_215 ?r_8_215
  case hy_8_215 => intro w h; have k4 := h.1.c4; have k6 := h.1.c6; have k7 := h.1.c7; go_simp; try with_reducible rfl
  simp only [pA, pB, pC, pD]
  refine tk 9 rfl ?v_9_216 ?hy_9_216 ?r_9_216
  case hy_9_216 => intro w h; have k4 := h.1.c4; have k6 := h.1.c6; have k7 := h.1.c7; go_simp; try with_reducible rfl
  simp only [pA, pB, pC, pD]
  refine tk 10 rfl ?v_10_217 ?hy_10_217 ?r_10_217
  case hy_10_217 => intro w h; have k4 := h.1.c4; have k6 := h.1.c6; have k7 := h.1.c7; go_simp; try with_reducible rfl
  simp only [pA, pB, pC, pD]
  refine tk 11 rfl ?v_11_218 ?hy_11_218 ?r_11_218
  case hy_11_218 => intro w h; have k4 := h.1.c4; have k6 := h.1.c6; have k7 := h.1.c7; go_simp; try with_reducible rfl
  simp only [pA, pB, pC, pD]
  refine tk 12 rfl ?v_12_219 ?hy_12_219 ?r_12_219
  case hy_12_219 => intro w h; have k4 := h.1.c4; have k6 := h.1.c6; have k7 := h.1.c7; go_simp; try with_reducible rfl
  simp only [pA, pB, pC, pD]
  refine tk 13 rfl ?v_13_220 ?hy_13_220 ?r_13_220
  case hy_13_220 => intro w h; have k4 := h.1.c4; have k6 := h.1.c6; have k7 := h.1.c7; go_simp; try with_reducible rfl
  simp only [pA, pB, pC, pD]
  refine tk 14 rfl ?v_14_221 ?hy_14_221 ?r_14_221
  case hy_14_221 => intro w h; have k4 := h.1.c4; have k6 := h.1.c6; have k7 := h.1.c7; go_simp; try with_reducible rfl
  simp only [pA, pB, pC, pD]
  refine tk 15 rfl ?v_15_222 ?hy_15_222 ?r_15_222
  case hy_15_222 => intro w h; have k4 := h.1.c4; have k6 := h.1.c6; have k7 := h.1.c7; go_simp; try with_reducible rfl
  simp only [pA, pB, pC, pD]
  refine tk 16 rfl ?v_16_223 ?hy_16_223 ?r_16_223
  case hy_16_223 => intro w h; have k4 := h.1.c4; have k6 := h.1.c6; have k7 := h.1.c7; go_simp; try with_reducible rfl
  simp only [pA, pB, pC, pD]
  refine tk 17 rfl ?v_17_224 ?hy_17_224 ?r_17_224
  case hy_17_224 => intro w h; have k4 := h.1.c4; have k6 := h.1.c6; have k7 := h.1.c7; go_simp; try with_reducible rfl
  simp only [pA, pB, pC, pD]
  refine wpAnyH_take (i := 18) (oi := ⟨_, _, _, _, _, _⟩) (v := stV s lv) rfl (by kernel_rfl) (by kernel_rfl) (by kernel_rfl) (fun _ _ _ h => h) (yieldsIf_load_mid (by kernel_rfl) 25 (.tmp 1) rfl w.heap.size 0 rfl (stCs s lv).toList _ (fun w' h j v hv => by rw [Nat.zero_add, h.1.cell]; simpa using hv) Tryd.underlying25 rfl (by rw [stInfo]; rfl)) (by assumption) ?_
  simp only [pA, pB, pC, pD]
  refine wpAnyH_ready (rs := [19]) (by kernel_rfl) (by simp) ?_
  refine AllReadyH.cons rfl (fun K hK => ?_) AllReadyH.nil
  go_simp
  go_at_call 21
  obtain ⟨hSt, hLn, hBe⟩ := hHeld
  refine (HDU.out _ hLn).mono ?_
  rintro x w3 ⟨rfl, hb⟩
  go_wp2_with fail
  refine hK.out _ _ ⟨hSt.below hb, hLn.below hb, Below.next hBe hb⟩ (fun hHeld => ?_)
  clear hK K hSt hLn hBe hb
  refine tk 20 rfl ?v_20_225 ?hy_20_225 ?r_20_225
  case hy_20_225 => intro w h; have k4 := h.1.c4; have k6 := h.1.c6; have k7 := h.1.c7; go_simp; try with_reducible rfl
  simp only [pA, pB, pC, pD]
  refine tk 21 rfl ?v_21_226 ?hy_21_226 ?r_21_226
  case hy_21_226 => intro w h; have k4 := h.1.c4; have k6 := h.1.c6; have k7 := h.1.c7; go_simp; try with_reducible rfl
  simp only [pA, pB, pC, pD]
  refine wpAnyH_done (by kernel_rfl) ?_ _
  have c1 : w3.cell? ⟨w.heap.size, 1, none⟩ = some (.int .i64 3) := by rw [hHeld.1.cell 1, stCs, HS.out]; rfl
  have c2 : w3.cell? ⟨w.heap.size, 2, none⟩ = some (.int .i64 0) := by rw [hHeld.1.cell 2, stCs, HP.out]; rfl
  have HE := Lib.hid hHeld
  clear hHeld HE2 k1 k2 k3 k4 k5 k6 k7 k8 e1 e2 e3 e4 e5 e6 q1 q2 q3 c0
  go_wp2
  clear c1 c2
  refine wp_region_held_drew (S := fun w' => StBlk w' w.heap.size s lv ∧ LnRow w' lv s.lines ∧ Below w.heap.size w w') (by kernel_rfl) ⟨HE.out.1, HE.out.2.1, Below.next HE.out.2.2 (below_drewN' _ 1)⟩ (fun hHeld => ?_)
  refine tk 0 rfl ?v_0_227 ?hy_0_227 ?r_0_227
  case hy_0_227 => intro w h; have k4 := h.1.c4; have k6 := h.1.c6; have k7 := h.1.c7; go_simp; try with_reducible rfl
  simp only [pA, pB, pC, pD]
  refine tk 1 rfl ?v_1_228 ?hy_1_228 ?r_1_228
  case hy_1_228 => intro w h; have k4 := h.1.c4; have k6 := h.1.c6; have k7 := h.1.c7; go_simp; try with_reducible rfl
  simp only [pA, pB, pC, pD]
  refine tk 2 rfl ?v_2_229 ?hy_2_229 ?r_2_229
  case hy_2_229 => intro w h; have k4 := h.1.c4; have k6 := h.1.c6; have k7 := h.1.c7; go_simp; try with_reducible rfl
  simp only [pA, pB, pC, pD]
  refine tk 3 rfl ?v_3_230 ?hy_3_230 ?r_3_230
  case hy_3_230 => intro w h; have k4 := h.1.c4; have k6 := h.1.c6; have k7 := h.1.c7; go_simp; try with_reducible rfl
  simp only [pA, pB, pC, pD]
  refine tk 4 rfl ?v_4_231 ?hy_4_231 ?r_4_231
  case hy_4_231 => intro w h; have k4 := h.1.c4; have k6 := h.1.c6; have k7 := h.1.c7; go_simp; try with_reducible rfl
  simp only [pA, pB, pC, pD]
  refine tk 5 rfl ?v_5_232 ?hy_5_232 ?r_5_232
  case hy_5_232 => intro w h; have k4 := h.1.c4; have k6 := h.1.c6; have k7 := h.1.c7; go_simp; try with_reducible rfl
  simp only [pA, pB, pC, pD]
  refine wpAnyH_take (i := 6) (oi := ⟨_, _, _, _, _, _⟩) (v := stV s lv) rfl (by kernel_rfl) (by kernel_rfl) (by kernel_rfl) (fun _ _ _ h => h) (yieldsIf_load_mid (by kernel_rfl) 25 (.tmp 1) rfl w.heap.size 0 rfl (stCs s lv).toList _ (fun w' h j v hv => by rw [Nat.zero_add, h.1.cell]; simpa using hv) Tryd.underlying25 rfl (by rw [stInfo]; rfl)) (by assumption) ?_
  simp only [pA, pB, pC, pD]
  refine wpAnyH_ready (rs := [7]) (by kernel_rfl) (by simp) ?_
  refine AllReadyH.cons rfl (fun K hK => ?_) AllReadyH.nil
  go_simp
  go_at_call 21
  obtain ⟨hSt, hLn, hBe⟩ := hHeld
  refine (HDU.out _ hLn).mono ?_
  rintro x w4 ⟨rfl, hb⟩
  go_wp2_with fail
  refine hK.out _ _ ⟨hSt.below hb, hLn.below hb, Below.next hBe hb⟩ (fun hHeld => ?_)
  clear hK K hSt hLn hBe hb
  refine tk 8 rfl ?v_8_233 ?hy_8_233 ?r_8_233
  case hy_8_233 => intro w h; have k4 := h.1.c4; have k6 := h.1.c6; have k7 := h.1.c7; go_simp; try with_reducible rfl
  simp only [pA, pB, pC, pD]
  refine tk 9 rfl ?v_9_234 ?hy_9_234 ?r_9_234
  case hy_9_234 => intro w h; have k4 := h.1.c4; have k6 := h.1.c6; have k7 := h.1.c7; go_simp; try with_reducible rfl
  simp only [pA, pB, pC, pD]
  refine tk 10 rfl ?v_10_235 ?hy_10_235 ?r_10_235
  case hy_10_235 => intro w h; have k4 := h.1.c4; have k6 := h.1.c6; have k7 := h.1.c7; go_simp; try with_reducible rfl
  simp only [pA, pB, pC, pD]
  refine wpAnyH_done (by kernel_rfl) ?_ _
  have HE4 := Lib.hid hHeld
  clear hHeld HE HDU
  cases wB
  · skip
    go_wp2_with (first
      | (with_reducible refine wpList_load_st rfl (.tmp 1) rfl w.heap.size s lv rfl HE4.out.1 ?_)
      | (go_at_call 22; refine (HSS.out _).mono ?_; rintro x w5 ⟨rfl, hb⟩; have HE5 := Lib.hid (show StBlk w5 w.heap.size s lv ∧ LnRow w5 lv s.lines ∧ Below w.heap.size w w5 from ⟨HE4.out.1.below hb, HE4.out.2.1.below hb, Below.next HE4.out.2.2 hb⟩); clear hb
         have z0 := HE5.out.1.c0; have z1 := HE5.out.1.c1; have z2 := HE5.out.1.c2; have z3 := HE5.out.1.c3; have z4 := HE5.out.1.c4; have z6 := HE5.out.1.c6; have z7 := HE5.out.1.c7; have z8 := HE5.out.1.c8; have z9 := HE5.out.1.c9; have z10 := HE5.out.1.c10; have z11 := HE5.out.1.c11; have z5 : w5.cell? ⟨w.heap.size, 5, none⟩ = some lv := HE5.out.1.cell 5)
      | (go_at_call 24; refine (HWH.out _ HE5.out.2.1).mono ?_; rintro x w6 ⟨rfl, hb⟩; have HB := Lib.hid (Below.next HE5.out.2.2 hb); clear hb))
    go_ret
    exact ⟨by rw [HVb.out]; rfl, HB.out⟩
  · skip
    go_wp2_with (first
      | (with_reducible refine wpList_load_st rfl (.tmp 1) rfl w.heap.size s lv rfl HE4.out.1 ?_)
      | (go_at_call 22; refine (HSS.out _).mono ?_; rintro x w5 ⟨rfl, hb⟩; have HE5 := Lib.hid (show StBlk w5 w.heap.size s lv ∧ LnRow w5 lv s.lines ∧ Below w.heap.size w w5 from ⟨HE4.out.1.below hb, HE4.out.2.1.below hb, Below.next HE4.out.2.2 hb⟩); clear hb
         have z0 := HE5.out.1.c0; have z1 := HE5.out.1.c1; have z2 := HE5.out.1.c2; have z3 := HE5.out.1.c3; have z4 := HE5.out.1.c4; have z6 := HE5.out.1.c6; have z7 := HE5.out.1.c7; have z8 := HE5.out.1.c8; have z9 := HE5.out.1.c9; have z10 := HE5.out.1.c10; have z11 := HE5.out.1.c11; have z5 : w5.cell? ⟨w.heap.size, 5, none⟩ = some lv := HE5.out.1.cell 5)
      | (go_at_call 24; refine (HWH.out _ HE5.out.2.1).mono ?_; rintro x w6 ⟨rfl, hb⟩; have HB := Lib.hid (Below.next HE5.out.2.2 hb); clear hb))
    go_ret
    exact ⟨by rw [HVb.out]; rfl, HB.out⟩

set_option maxRecDepth 100000 in
set_option maxHeartbeats 16000000 in
theorem rvok_4_0_0 (s : St) (lv : Value) (w : World) (hr : LnRow w lv s.lines) (hw : s.who.length ≤ 281474976710656) (hf : boundedB s = true) (hm : ¬ dueOf s < s.paid) (hs : s.status = 4) (hp : s.prior = 0) (g3 : decide (0 < s.paid) = false) :
    Calls Tryd.prog 11 #[stV s lv] w fun e w' => e = .returned (.bool (validB s)) ∧ Below w.heap.size w w' := by
  have HVb := Lib.hid (show validB s = (false && wholeB s.lines) by
    have h1 : validB s = standB s 4 := by unfold validB; rw [hf, decide_eq_true (by omega), hs, hp]; rfl
    have h2 : (s.paid == dueOf s && decide (0 < s.paid)) = false := by rw [g3]; simp
    rw [h1]; unfold standB; rw [h2]; rfl)
  have hbp := bounded_p hf
  have k1 : decide (s.order < 1) = false := by rw [decide_eq_false_iff_not]; have := hbp.order; omega
  have k2 : decide (1099511627776 < s.order) = false := by rw [decide_eq_false_iff_not]; have := hbp.order; omega
  have k3 : decide (s.status < 0) = false := by rw [decide_eq_false_iff_not]; have := hbp.status; omega
  have k4 : decide (5 < s.status) = false := by rw [decide_eq_false_iff_not]; have := hbp.status; omega
  have k5 : decide (s.cur < 0) = false := by rw [decide_eq_false_iff_not]; have := hbp.cur; omega
  have k6 : decide (3 < s.cur) = false := by rw [decide_eq_false_iff_not]; have := hbp.cur; omega
  have k7 : decide (s.tax < 0) = false := by rw [decide_eq_false_iff_not]; have := hbp.tax; omega
  have k8 : decide (5000 < s.tax) = false := by rw [decide_eq_false_iff_not]; have := hbp.tax; omega
  have e1 : decide (s.events < 0) = false := by rw [decide_eq_false_iff_not]; have := hbp.events; omega
  have e2 : decide (1099511627776 < s.events) = false := by rw [decide_eq_false_iff_not]; have := hbp.events; omega
  have e3 : decide (s.refused < 0) = false := by rw [decide_eq_false_iff_not]; have := hbp.refused; omega
  have e4 : decide (s.events < s.refused) = false := by rw [decide_eq_false_iff_not]; have := hbp.events; have := hbp.refused; omega
  have e5 : decide (s.stamp < 0) = false := by rw [decide_eq_false_iff_not]; have := hbp.stamp; omega
  have e6 : decide (1099511627776 < s.stamp) = false := by rw [decide_eq_false_iff_not]; have := hbp.stamp; omega
  have q1 : decide (s.refunded < 0) = false := by rw [decide_eq_false_iff_not]; have := hbp.refunded; omega
  have q2 : decide (s.paid < s.refunded) = false := by rw [decide_eq_false_iff_not]; have := hbp.refunded; omega
  have q3 : decide (s.paid < 0) = false := by rw [decide_eq_false_iff_not]; have := hbp.refunded; omega
  have hn := (bounded_lined hf).2
  have hl := (bounded_lined hf).1
  obtain ⟨c, hc⟩ : ∃ c, c = evCheck 4 (evWho s.who) := ⟨_, rfl⟩
  have hcn : (c == 0) = namedB s.who := by rw [hc]; exact evWho_check 4 (.inl rfl) s.who
  have HC := Lib.hid (show ∀ W : World, Calls Tryd.prog 19 #[.int .i64 4, .agg #[.int .i64 1, .int .i64 1, .int .i64 0, .int .i64 0, .int .i64 0, .int .i64 0, .int .i64 0, .string ⟨s.who.toArray⟩, .int .i64 0, .string ⟨#[]⟩]] W (ChkPost c W) from fun W => hc ▸ refCheckB_any 4 (evWho s.who) W (evWho_ok s.who hw))
  have HLN := Lib.hid (show ∀ W : World, LnRow W lv s.lines → Calls Tryd.prog 20 #[stV s lv] W fun e w' => e = .returned (.bool (linedB s.lines)) ∧ Below W.heap.size W w' from fun W h => rlines_any s lv W h)
  have HE0 := Lib.hid (show StBlk (w.alloc (.cells (stCs s lv) 25)) w.heap.size s lv ∧ LnRow (w.alloc (.cells (stCs s lv) 25)) lv s.lines ∧ Below w.heap.size w (w.alloc (.cells (stCs s lv) 25)) from by
    have hb : Below w.heap.size w (w.alloc (.cells (stCs s lv) 25)) := (Below.refl _ _).alloc (Nat.le_refl _) _
    exact ⟨stBlk_alloc w s lv, hr.below hb, hb⟩)
  have c0 : (c != 0) = false := by rw [hn, beq_iff_eq] at hcn; rw [bne_eq_false_iff_eq]; exact hcn
  rw [hl] at HLN
  obtain ⟨D, hD⟩ : ∃ D, D = dueOf s := ⟨_, rfl⟩
  have HDU := Lib.hid (show ∀ W : World, LnRow W lv s.lines → Calls Tryd.prog 21 #[stV s lv] W fun e w' => e = .returned (.int .i64 D) ∧ Below W.heap.size W w' from fun W h => hD ▸ rdue_any s lv W h hbp.fine hbp.few hbp.tax.1 hbp.tax.2)
  have HSS := Lib.hid (show ∀ W : World, Calls Tryd.prog 22 #[stV s lv] W fun e w' => e = .returned (.int .i64 4) ∧ Below W.heap.size W w' from fun W => by have h := rstands_else s lv W (by omega); rw [hs] at h; exact h)
  have HUN := Lib.hid (show ∀ W : World, LnRow W lv s.lines → Calls Tryd.prog 23 #[stV s lv] W fun e w' => e = .returned (.bool (noneB s.lines)) ∧ Below W.heap.size W w' from fun W h => runtouched_any s lv W h hbp.fine)
  have HWH := Lib.hid (show ∀ W : World, LnRow W lv s.lines → Calls Tryd.prog 24 #[stV s lv] W fun e w' => e = .returned (.bool (wholeB s.lines)) ∧ Below W.heap.size W w' from fun W h => rwhole_any s lv W h hbp.fine)
  obtain ⟨nB, hnB⟩ : ∃ x, x = noneB s.lines := ⟨_, rfl⟩
  obtain ⟨wB, hwB⟩ : ∃ x, x = wholeB s.lines := ⟨_, rfl⟩
  rw [← hnB] at HUN
  rw [← hwB] at HWH
  rw [← hD] at hm
  rw [← hwB] at HVb
  have d1 : decide (D < s.paid) = false := decide_eq_false hm
  have hm2 : s.paid ≤ D := by omega
  have HS := Lib.hid hs
  have HP := Lib.hid hp
  obtain ⟨oa, cap, hlv, _, _, _⟩ := hr.shape
  have HLV := Lib.hid hlv
  clear hc hcn hn hl hr hw hf hbp hD hm hs hp hnB hwB hlv
  go_enter Tryd.func11, Tryd.ntmps11
  go_wp2_with (first
    | (go_at_call 19; (with_reducible refine (HC.out _).mono ?_); rintro x w1 ⟨rfl, hb1⟩; have HE1 := Lib.hid (show StBlk w1 w.heap.size s lv ∧ LnRow w1 lv s.lines ∧ Below w.heap.size w w1 from ⟨HE0.out.1.below hb1, HE0.out.2.1.below hb1, Below.next HE0.out.2.2 hb1⟩); clear hb1; have z0 := HE1.out.1.c0; have z1 := HE1.out.1.c1; have z2 := HE1.out.1.c2; have z3 := HE1.out.1.c3; have z4 := HE1.out.1.c4; have z5 := HE1.out.1.c5; have z6 := HE1.out.1.c6; have z7 := HE1.out.1.c7; have z8 := HE1.out.1.c8; have z9 := HE1.out.1.c9; have z10 := HE1.out.1.c10; have z11 := HE1.out.1.c11)
    | (with_reducible refine wpList_load_st rfl (.tmp 1) rfl w.heap.size s lv rfl HE1.out.1 ?_)
    | (go_at_call 20; refine (HLN.out _ HE1.out.2.1).mono ?_; rintro x w2 ⟨rfl, hb2⟩; have HE2 := Lib.hid (show StBlk w2 w.heap.size s lv ∧ LnRow w2 lv s.lines ∧ Below w.heap.size w w2 from ⟨HE1.out.1.below hb2, HE1.out.2.1.below hb2, Below.next HE1.out.2.2 hb2⟩); clear hb2))
  clear z0 z1 z2 z3 z4 z5 z6 z7 z8 z9 z10 z11 HE0 HE1 HC HLN
  refine wp_region_held_drew (S := fun w' => StBlk w' w.heap.size s lv ∧ LnRow w' lv s.lines ∧ Below w.heap.size w w') (by kernel_rfl) ⟨HE2.out.1, HE2.out.2.1, Below.next HE2.out.2.2 (below_drewN' _ 1)⟩ (fun hHeld => ?_)
  refine tk 0 rfl ?v_0_236 ?hy_0_236 ?r_0_236
  case hy_0_236 => intro w h; have k4 := h.1.c4; have k6 := h.1.c6; have k7 := h.1.c7; go_simp; try with_reducible rfl
  simp only [pA, pB, pC, pD]
  refine tk 1 rfl ?v_1_237 ?hy_1_237 ?r_1_237
  case hy_1_237 => intro w h; have k4 := h.1.c4; have k6 := h.1.c6; have k7 := h.1.c7; go_simp; try with_reducible rfl
  simp only [pA, pB, pC, pD]
  refine tk 2 rfl ?v_2_238 ?hy_2_238 ?r_2_238
  case hy_2_238 => intro w h; have k4 := h.1.c4; have k6 := h.1.c6; have k7 := h.1.c7; go_simp; try with_reducible rfl
  simp only [pA, pB, pC, pD]
  refine tk 3 rfl ?v_3_239 ?hy_3_239 ?r_3_239
  case hy_3_239 => intro w h; have k4 := h.1.c4; have k6 := h.1.c6; have k7 := h.1.c7; go_simp; try with_reducible rfl
  simp only [pA, pB, pC, pD]
  refine tk 4 rfl ?v_4_240 ?hy_4_240 ?r_4_240
  case hy_4_240 => intro w h; have k4 := h.1.c4; have k6 := h.1.c6; have k7 := h.1.c7; go_simp; try with_reducible rfl
  simp only [pA, pB, pC, pD]
  refine tk 5 rfl ?v_5_241 ?hy_5_241 ?r_5_241
  case hy_5_241 => intro w h; have k4 := h.1.c4; have k6 := h.1.c6; have k7 := h.1.c7; go_simp; try with_reducible rfl
  simp only [pA, pB, pC, pD]
  refine tk 6 rfl ?v_6_242 ?hy_6_242 ?r_6_242
  case hy_6_242 => intro w h; have k4 := h.1.c4; have k6 := h.1.c6; have k7 := h.1.c7; go_simp; try with_reducible rfl
  simp only [pA, pB, pC, pD]
  refine tk 7 rfl ?v_7_243 ?hy_7_243 ?r_7_243
  case hy_7_243 => intro w h; have k4 := h.1.c4; have k6 := h.1.c6; have k7 := h.1.c7; go_simp; try with_reducible rfl
  simp only [pA, pB, pC, pD]
  refine tk 8 rfl ?v_8_244 ?hy_8_244 ?r_8_244
  case hy_8_244 => intro w h; have k4 := h.1.c4; have k6 := h.1.c6; have k7 := h.1.c7; go_simp; try with_reducible rfl
  simp only [pA, pB, pC, pD]
  refine tk 9 rfl ?v_9_245 ?hy_9_245 ?r_9_245
  case hy_9_245 => intro w h; have k4 := h.1.c4; have k6 := h.1.c6; have k7 := h.1.c7; go_simp; try with_reducible rfl
  simp only [pA, pB, pC, pD]
  refine tk 10 rfl ?v_10_246 ?hy_10_246 ?r_10_246
  case hy_10_246 => intro w h; have k4 := h.1.c4; have k6 := h.1.c6; have k7 := h.1.c7; go_simp; try with_reducible rfl
  simp only [pA, pB, pC, pD]
  refine tk 11 rfl ?v_11_247 ?hy_11_247 ?r_11_247
  case hy_11_247 => intro w h; have k4 := h.1.c4; have k6 := h.1.c6; have k7 := h.1.c7; go_simp; try with_reducible rfl
  simp only [pA, pB, pC, pD]
  refine tk 12 rfl ?v_12_248 ?hy_12_248 ?r_12_248
  case hy_12_248 => intro w h; have k4 := h.1.c4; have k6 := h.1.c6; have k7 := h.1.c7; go_simp; try with_reducible rfl
  simp only [pA, pB, pC, pD]
  refine tk 13 rfl ?v_13_249 ?hy_13_249 ?r_13_249
  case hy_13_249 => intro w h; have k4 := h.1.c4; have k6 := h.1.c6; have k7 := h.1.c7; go_simp; try with_reducible rfl
  simp only [pA, pB, pC, pD]
  refine tk 14 rfl ?v_14_250 ?hy_14_250 ?r_14_250
  case hy_14_250 => intro w h; have k4 := h.1.c4; have k6 := h.1.c6; have k7 := h.1.c7; go_simp; try with_reducible rfl
  simp only [pA, pB, pC, pD]
  refine tk 15 rfl ?v_15_251 ?hy_15_251 ?r_15_251
  case hy_15_251 => intro w h; have k4 := h.1.c4; have k6 := h.1.c6; have k7 := h.1.c7; go_simp; try with_reducible rfl
  simp only [pA, pB, pC, pD]
  refine tk 16 rfl ?v_16_252 ?hy_16_252 ?r_16_252
  case hy_16_252 => intro w h; have k4 := h.1.c4; have k6 := h.1.c6; have k7 := h.1.c7; go_simp; try with_reducible rfl
  simp only [pA, pB, pC, pD]
  refine tk 17 rfl ?v_17_253 ?hy_17_253 ?r_17_253
  case hy_17_253 => intro w h; have k4 := h.1.c4; have k6 := h.1.c6; have k7 := h.1.c7; go_simp; try with_reducible rfl
  simp only [pA, pB, pC, pD]
  refine wpAnyH_take (i := 18) (oi := ⟨_, _, _, _, _, _⟩) (v := stV s lv) rfl (by kernel_rfl) (by kernel_rfl) (by kernel_rfl) (fun _ _ _ h => h) (yieldsIf_load_mid (by kernel_rfl) 25 (.tmp 1) rfl w.heap.size 0 rfl (stCs s lv).toList _ (fun w' h j v hv => by rw [Nat.zero_add, h.1.cell]; simpa using hv) Tryd.underlying25 rfl (by rw [stInfo]; rfl)) (by assumption) ?_
  simp only [pA, pB, pC, pD]
  refine wpAnyH_ready (rs := [19]) (by kernel_rfl) (by simp) ?_
  refine AllReadyH.cons rfl (fun K hK => ?_) AllReadyH.nil
  go_simp
  go_at_call 21
  obtain ⟨hSt, hLn, hBe⟩ := hHeld
  refine (HDU.out _ hLn).mono ?_
  rintro x w3 ⟨rfl, hb⟩
  go_wp2_with fail
  refine hK.out _ _ ⟨hSt.below hb, hLn.below hb, Below.next hBe hb⟩ (fun hHeld => ?_)
  clear hK K hSt hLn hBe hb
  refine tk 20 rfl ?v_20_254 ?hy_20_254 ?r_20_254
  case hy_20_254 => intro w h; have k4 := h.1.c4; have k6 := h.1.c6; have k7 := h.1.c7; go_simp; try with_reducible rfl
  simp only [pA, pB, pC, pD]
  refine tk 21 rfl ?v_21_255 ?hy_21_255 ?r_21_255
  case hy_21_255 => intro w h; have k4 := h.1.c4; have k6 := h.1.c6; have k7 := h.1.c7; go_simp; try with_reducible rfl
  simp only [pA, pB, pC, pD]
  refine wpAnyH_done (by kernel_rfl) ?_ _
  have c1 : w3.cell? ⟨w.heap.size, 1, none⟩ = some (.int .i64 4) := by rw [hHeld.1.cell 1, stCs, HS.out]; rfl
  have c2 : w3.cell? ⟨w.heap.size, 2, none⟩ = some (.int .i64 0) := by rw [hHeld.1.cell 2, stCs, HP.out]; rfl
  have HE := Lib.hid hHeld
  clear hHeld HE2 k1 k2 k3 k4 k5 k6 k7 k8 e1 e2 e3 e4 e5 e6 q1 q2 q3 c0
  go_wp2
  clear c1 c2
  refine wp_region_held_drew (S := fun w' => StBlk w' w.heap.size s lv ∧ LnRow w' lv s.lines ∧ Below w.heap.size w w') (by kernel_rfl) ⟨HE.out.1, HE.out.2.1, Below.next HE.out.2.2 (below_drewN' _ 1)⟩ (fun hHeld => ?_)
  refine tk 0 rfl ?v_0_256 ?hy_0_256 ?r_0_256
  case hy_0_256 => intro w h; have k4 := h.1.c4; have k6 := h.1.c6; have k7 := h.1.c7; go_simp; try with_reducible rfl
  simp only [pA, pB, pC, pD]
  refine tk 1 rfl ?v_1_257 ?hy_1_257 ?r_1_257
  case hy_1_257 => intro w h; have k4 := h.1.c4; have k6 := h.1.c6; have k7 := h.1.c7; go_simp; try with_reducible rfl
  simp only [pA, pB, pC, pD]
  refine tk 2 rfl ?v_2_258 ?hy_2_258 ?r_2_258
  case hy_2_258 => intro w h; have k4 := h.1.c4; have k6 := h.1.c6; have k7 := h.1.c7; go_simp; try with_reducible rfl
  simp only [pA, pB, pC, pD]
  refine tk 3 rfl ?v_3_259 ?hy_3_259 ?r_3_259
  case hy_3_259 => intro w h; have k4 := h.1.c4; have k6 := h.1.c6; have k7 := h.1.c7; go_simp; try with_reducible rfl
  simp only [pA, pB, pC, pD]
  refine tkn 4 rfl ?_
  simp only [pA, pB, pC, pD]
  refine tkn 5 rfl ?_
  simp only [pA, pB, pC, pD]
  refine tkn 6 rfl ?_
  simp only [pA, pB, pC, pD]
  refine tkn 7 rfl ?_
  simp only [pA, pB, pC, pD]
  refine tkn 8 rfl ?_
  simp only [pA, pB, pC, pD]
  refine tk 9 rfl ?v_9_260 ?hy_9_260 ?r_9_260
  case hy_9_260 => intro w h; have k4 := h.1.c4; have k6 := h.1.c6; have k7 := h.1.c7; go_simp; try with_reducible rfl
  simp only [pA, pB, pC, pD]
  refine tk 10 rfl ?v_10_261 ?hy_10_261 ?r_10_261
  case hy_10_261 => intro w h; have k4 := h.1.c4; have k6 := h.1.c6; have k7 := h.1.c7; go_simp; try with_reducible rfl
  simp only [pA, pB, pC, pD]
  refine wpAnyH_done (by kernel_rfl) ?_ _
  have HE4 := Lib.hid hHeld
  clear hHeld HE HDU
  generalize w3.drew = w4 at *
  go_wp2_with (first
    | (with_reducible refine wpList_load_st rfl (.tmp 1) rfl w.heap.size s lv rfl HE4.out.1 ?_)
    | (go_at_call 22; refine (HSS.out _).mono ?_; rintro x w5 ⟨rfl, hb⟩; have HE5 := Lib.hid (show StBlk w5 w.heap.size s lv ∧ LnRow w5 lv s.lines ∧ Below w.heap.size w w5 from ⟨HE4.out.1.below hb, HE4.out.2.1.below hb, Below.next HE4.out.2.2 hb⟩); clear hb
       have z0 := HE5.out.1.c0; have z1 := HE5.out.1.c1; have z2 := HE5.out.1.c2; have z3 := HE5.out.1.c3; have z4 := HE5.out.1.c4; have z6 := HE5.out.1.c6; have z7 := HE5.out.1.c7; have z8 := HE5.out.1.c8; have z9 := HE5.out.1.c9; have z10 := HE5.out.1.c10; have z11 := HE5.out.1.c11; have z5 : w5.cell? ⟨w.heap.size, 5, none⟩ = some lv := HE5.out.1.cell 5))
  have HB := Lib.hid HE5.out.2.2
  go_ret
  exact ⟨by rw [HVb.out]; rfl, HB.out⟩

set_option maxRecDepth 100000 in
set_option maxHeartbeats 16000000 in
theorem rvok_4_0_1 (s : St) (lv : Value) (w : World) (hr : LnRow w lv s.lines) (hw : s.who.length ≤ 281474976710656) (hf : boundedB s = true) (hm : ¬ dueOf s < s.paid) (hs : s.status = 4) (hp : s.prior = 0) (g3 : decide (0 < s.paid) = true) (g1 : (s.paid == dueOf s) = false) :
    Calls Tryd.prog 11 #[stV s lv] w fun e w' => e = .returned (.bool (validB s)) ∧ Below w.heap.size w w' := by
  have HVb := Lib.hid (show validB s = (false && wholeB s.lines) by
    have h1 : validB s = standB s 4 := by unfold validB; rw [hf, decide_eq_true (by omega), hs, hp]; rfl
    have h2 : (s.paid == dueOf s && decide (0 < s.paid)) = false := by rw [g3, g1]; rfl
    rw [h1]; unfold standB; rw [h2]; rfl)
  have hbp := bounded_p hf
  have k1 : decide (s.order < 1) = false := by rw [decide_eq_false_iff_not]; have := hbp.order; omega
  have k2 : decide (1099511627776 < s.order) = false := by rw [decide_eq_false_iff_not]; have := hbp.order; omega
  have k3 : decide (s.status < 0) = false := by rw [decide_eq_false_iff_not]; have := hbp.status; omega
  have k4 : decide (5 < s.status) = false := by rw [decide_eq_false_iff_not]; have := hbp.status; omega
  have k5 : decide (s.cur < 0) = false := by rw [decide_eq_false_iff_not]; have := hbp.cur; omega
  have k6 : decide (3 < s.cur) = false := by rw [decide_eq_false_iff_not]; have := hbp.cur; omega
  have k7 : decide (s.tax < 0) = false := by rw [decide_eq_false_iff_not]; have := hbp.tax; omega
  have k8 : decide (5000 < s.tax) = false := by rw [decide_eq_false_iff_not]; have := hbp.tax; omega
  have e1 : decide (s.events < 0) = false := by rw [decide_eq_false_iff_not]; have := hbp.events; omega
  have e2 : decide (1099511627776 < s.events) = false := by rw [decide_eq_false_iff_not]; have := hbp.events; omega
  have e3 : decide (s.refused < 0) = false := by rw [decide_eq_false_iff_not]; have := hbp.refused; omega
  have e4 : decide (s.events < s.refused) = false := by rw [decide_eq_false_iff_not]; have := hbp.events; have := hbp.refused; omega
  have e5 : decide (s.stamp < 0) = false := by rw [decide_eq_false_iff_not]; have := hbp.stamp; omega
  have e6 : decide (1099511627776 < s.stamp) = false := by rw [decide_eq_false_iff_not]; have := hbp.stamp; omega
  have q1 : decide (s.refunded < 0) = false := by rw [decide_eq_false_iff_not]; have := hbp.refunded; omega
  have q2 : decide (s.paid < s.refunded) = false := by rw [decide_eq_false_iff_not]; have := hbp.refunded; omega
  have q3 : decide (s.paid < 0) = false := by rw [decide_eq_false_iff_not]; have := hbp.refunded; omega
  have hn := (bounded_lined hf).2
  have hl := (bounded_lined hf).1
  obtain ⟨c, hc⟩ : ∃ c, c = evCheck 4 (evWho s.who) := ⟨_, rfl⟩
  have hcn : (c == 0) = namedB s.who := by rw [hc]; exact evWho_check 4 (.inl rfl) s.who
  have HC := Lib.hid (show ∀ W : World, Calls Tryd.prog 19 #[.int .i64 4, .agg #[.int .i64 1, .int .i64 1, .int .i64 0, .int .i64 0, .int .i64 0, .int .i64 0, .int .i64 0, .string ⟨s.who.toArray⟩, .int .i64 0, .string ⟨#[]⟩]] W (ChkPost c W) from fun W => hc ▸ refCheckB_any 4 (evWho s.who) W (evWho_ok s.who hw))
  have HLN := Lib.hid (show ∀ W : World, LnRow W lv s.lines → Calls Tryd.prog 20 #[stV s lv] W fun e w' => e = .returned (.bool (linedB s.lines)) ∧ Below W.heap.size W w' from fun W h => rlines_any s lv W h)
  have HE0 := Lib.hid (show StBlk (w.alloc (.cells (stCs s lv) 25)) w.heap.size s lv ∧ LnRow (w.alloc (.cells (stCs s lv) 25)) lv s.lines ∧ Below w.heap.size w (w.alloc (.cells (stCs s lv) 25)) from by
    have hb : Below w.heap.size w (w.alloc (.cells (stCs s lv) 25)) := (Below.refl _ _).alloc (Nat.le_refl _) _
    exact ⟨stBlk_alloc w s lv, hr.below hb, hb⟩)
  have c0 : (c != 0) = false := by rw [hn, beq_iff_eq] at hcn; rw [bne_eq_false_iff_eq]; exact hcn
  rw [hl] at HLN
  obtain ⟨D, hD⟩ : ∃ D, D = dueOf s := ⟨_, rfl⟩
  have HDU := Lib.hid (show ∀ W : World, LnRow W lv s.lines → Calls Tryd.prog 21 #[stV s lv] W fun e w' => e = .returned (.int .i64 D) ∧ Below W.heap.size W w' from fun W h => hD ▸ rdue_any s lv W h hbp.fine hbp.few hbp.tax.1 hbp.tax.2)
  have HSS := Lib.hid (show ∀ W : World, Calls Tryd.prog 22 #[stV s lv] W fun e w' => e = .returned (.int .i64 4) ∧ Below W.heap.size W w' from fun W => by have h := rstands_else s lv W (by omega); rw [hs] at h; exact h)
  have HUN := Lib.hid (show ∀ W : World, LnRow W lv s.lines → Calls Tryd.prog 23 #[stV s lv] W fun e w' => e = .returned (.bool (noneB s.lines)) ∧ Below W.heap.size W w' from fun W h => runtouched_any s lv W h hbp.fine)
  have HWH := Lib.hid (show ∀ W : World, LnRow W lv s.lines → Calls Tryd.prog 24 #[stV s lv] W fun e w' => e = .returned (.bool (wholeB s.lines)) ∧ Below W.heap.size W w' from fun W h => rwhole_any s lv W h hbp.fine)
  obtain ⟨nB, hnB⟩ : ∃ x, x = noneB s.lines := ⟨_, rfl⟩
  obtain ⟨wB, hwB⟩ : ∃ x, x = wholeB s.lines := ⟨_, rfl⟩
  rw [← hnB] at HUN
  rw [← hwB] at HWH
  rw [← hD] at hm g1
  rw [← hwB] at HVb
  have d1 : decide (D < s.paid) = false := decide_eq_false hm
  have hm2 : s.paid ≤ D := by omega
  have HS := Lib.hid hs
  have HP := Lib.hid hp
  obtain ⟨oa, cap, hlv, _, _, _⟩ := hr.shape
  have HLV := Lib.hid hlv
  clear hc hcn hn hl hr hw hf hbp hD hm hs hp hnB hwB hlv
  go_enter Tryd.func11, Tryd.ntmps11
  go_wp2_with (first
    | (go_at_call 19; (with_reducible refine (HC.out _).mono ?_); rintro x w1 ⟨rfl, hb1⟩; have HE1 := Lib.hid (show StBlk w1 w.heap.size s lv ∧ LnRow w1 lv s.lines ∧ Below w.heap.size w w1 from ⟨HE0.out.1.below hb1, HE0.out.2.1.below hb1, Below.next HE0.out.2.2 hb1⟩); clear hb1; have z0 := HE1.out.1.c0; have z1 := HE1.out.1.c1; have z2 := HE1.out.1.c2; have z3 := HE1.out.1.c3; have z4 := HE1.out.1.c4; have z5 := HE1.out.1.c5; have z6 := HE1.out.1.c6; have z7 := HE1.out.1.c7; have z8 := HE1.out.1.c8; have z9 := HE1.out.1.c9; have z10 := HE1.out.1.c10; have z11 := HE1.out.1.c11)
    | (with_reducible refine wpList_load_st rfl (.tmp 1) rfl w.heap.size s lv rfl HE1.out.1 ?_)
    | (go_at_call 20; refine (HLN.out _ HE1.out.2.1).mono ?_; rintro x w2 ⟨rfl, hb2⟩; have HE2 := Lib.hid (show StBlk w2 w.heap.size s lv ∧ LnRow w2 lv s.lines ∧ Below w.heap.size w w2 from ⟨HE1.out.1.below hb2, HE1.out.2.1.below hb2, Below.next HE1.out.2.2 hb2⟩); clear hb2))
  clear z0 z1 z2 z3 z4 z5 z6 z7 z8 z9 z10 z11 HE0 HE1 HC HLN
  refine wp_region_held_drew (S := fun w' => StBlk w' w.heap.size s lv ∧ LnRow w' lv s.lines ∧ Below w.heap.size w w') (by kernel_rfl) ⟨HE2.out.1, HE2.out.2.1, Below.next HE2.out.2.2 (below_drewN' _ 1)⟩ (fun hHeld => ?_)
  refine tk 0 rfl ?v_0_262 ?hy_0_262 ?r_0_262
  case hy_0_262 => intro w h; have k4 := h.1.c4; have k6 := h.1.c6; have k7 := h.1.c7; go_simp; try with_reducible rfl
  simp only [pA, pB, pC, pD]
  refine tk 1 rfl ?v_1_263 ?hy_1_263 ?r_1_263
  case hy_1_263 => intro w h; have k4 := h.1.c4; have k6 := h.1.c6; have k7 := h.1.c7; go_simp; try with_reducible rfl
  simp only [pA, pB, pC, pD]
  refine tk 2 rfl ?v_2_264 ?hy_2_264 ?r_2_264
  case hy_2_264 => intro w h; have k4 := h.1.c4; have k6 := h.1.c6; have k7 := h.1.c7; go_simp; try with_reducible rfl
  simp only [pA, pB, pC, pD]
  refine tk 3 rfl ?v_3_265 ?hy_3_265 ?r_3_265
  case hy_3_265 => intro w h; have k4 := h.1.c4; have k6 := h.1.c6; have k7 := h.1.c7; go_simp; try with_reducible rfl
  simp only [pA, pB, pC, pD]
  refine tk 4 rfl ?v_4_266 ?hy_4_266 ?r_4_266
  case hy_4_266 => intro w h; have k4 := h.1.c4; have k6 := h.1.c6; have k7 := h.1.c7; go_simp; try with_reducible rfl
  simp only [pA, pB, pC, pD]
  refine tk 5 rfl ?v_5_267 ?hy_5_267 ?r_5_267
  case hy_5_267 => intro w h; have k4 := h.1.c4; have k6 := h.1.c6; have k7 := h.1.c7; go_simp; try with_reducible rfl
  simp only [pA, pB, pC, pD]
  refine tk 6 rfl ?v_6_268 ?hy_6_268 ?r_6_268
  case hy_6_268 => intro w h; have k4 := h.1.c4; have k6 := h.1.c6; have k7 := h.1.c7; go_simp; try with_reducible rfl
  simp only [pA, pB, pC, pD]
  refine tk 7 rfl ?v_7_269 ?hy_7_269 ?r_7_269
  case hy_7_269 => intro w h; have k4 := h.1.c4; have k6 := h.1.c6; have k7 := h.1.c7; go_simp; try with_reducible rfl
  simp only [pA, pB, pC, pD]
  refine tk 8 rfl ?v_8_270 ?hy_8_270 ?r_8_270
  case hy_8_270 => intro w h; have k4 := h.1.c4; have k6 := h.1.c6; have k7 := h.1.c7; go_simp; try with_reducible rfl
  simp only [pA, pB, pC, pD]
  refine tk 9 rfl ?v_9_271 ?hy_9_271 ?r_9_271
  case hy_9_271 => intro w h; have k4 := h.1.c4; have k6 := h.1.c6; have k7 := h.1.c7; go_simp; try with_reducible rfl
  simp only [pA, pB, pC, pD]
  refine tk 10 rfl ?v_10_272 ?hy_10_272 ?r_10_272
  case hy_10_272 => intro w h; have k4 := h.1.c4; have k6 := h.1.c6; have k7 := h.1.c7; go_simp; try with_reducible rfl
  simp only [pA, pB, pC, pD]
  refine tk 11 rfl ?v_11_273 ?hy_11_273 ?r_11_273
  case hy_11_273 => intro w h; have k4 := h.1.c4; have k6 := h.1.c6; have k7 := h.1.c7; go_simp; try with_reducible rfl
  simp only [pA, pB, pC, pD]
  refine tk 12 rfl ?v_12_274 ?hy_12_274 ?r_12_274
  case hy_12_274 => intro w h; have k4 := h.1.c4; have k6 := h.1.c6; have k7 := h.1.c7; go_simp; try with_reducible rfl
  simp only [pA, pB, pC, pD]
  refine tk 13 rfl ?v_13_275 ?hy_13_275 ?r_13_275
  case hy_13_275 => intro w h; have k4 := h.1.c4; have k6 := h.1.c6; have k7 := h.1.c7; go_simp; try with_reducible rfl
  simp only [pA, pB, pC, pD]
  refine tk 14 rfl ?v_14_276 ?hy_14_276 ?r_14_276
  case hy_14_276 => intro w h; have k4 := h.1.c4; have k6 := h.1.c6; have k7 := h.1.c7; go_simp; try with_reducible rfl
  simp only [pA, pB, pC, pD]
  refine tk 15 rfl ?v_15_277 ?hy_15_277 ?r_15_277
  case hy_15_277 => intro w h; have k4 := h.1.c4; have k6 := h.1.c6; have k7 := h.1.c7; go_simp; try with_reducible rfl
  simp only [pA, pB, pC, pD]
  refine tk 16 rfl ?v_16_278 ?hy_16_278 ?r_16_278
  case hy_16_278 => intro w h; have k4 := h.1.c4; have k6 := h.1.c6; have k7 := h.1.c7; go_simp; try with_reducible rfl
  simp only [pA, pB, pC, pD]
  refine tk 17 rfl ?v_17_279 ?hy_17_279 ?r_17_279
  case hy_17_279 => intro w h; have k4 := h.1.c4; have k6 := h.1.c6; have k7 := h.1.c7; go_simp; try with_reducible rfl
  simp only [pA, pB, pC, pD]
  refine wpAnyH_take (i := 18) (oi := ⟨_, _, _, _, _, _⟩) (v := stV s lv) rfl (by kernel_rfl) (by kernel_rfl) (by kernel_rfl) (fun _ _ _ h => h) (yieldsIf_load_mid (by kernel_rfl) 25 (.tmp 1) rfl w.heap.size 0 rfl (stCs s lv).toList _ (fun w' h j v hv => by rw [Nat.zero_add, h.1.cell]; simpa using hv) Tryd.underlying25 rfl (by rw [stInfo]; rfl)) (by assumption) ?_
  simp only [pA, pB, pC, pD]
  refine wpAnyH_ready (rs := [19]) (by kernel_rfl) (by simp) ?_
  refine AllReadyH.cons rfl (fun K hK => ?_) AllReadyH.nil
  go_simp
  go_at_call 21
  obtain ⟨hSt, hLn, hBe⟩ := hHeld
  refine (HDU.out _ hLn).mono ?_
  rintro x w3 ⟨rfl, hb⟩
  go_wp2_with fail
  refine hK.out _ _ ⟨hSt.below hb, hLn.below hb, Below.next hBe hb⟩ (fun hHeld => ?_)
  clear hK K hSt hLn hBe hb
  refine tk 20 rfl ?v_20_280 ?hy_20_280 ?r_20_280
  case hy_20_280 => intro w h; have k4 := h.1.c4; have k6 := h.1.c6; have k7 := h.1.c7; go_simp; try with_reducible rfl
  simp only [pA, pB, pC, pD]
  refine tk 21 rfl ?v_21_281 ?hy_21_281 ?r_21_281
  case hy_21_281 => intro w h; have k4 := h.1.c4; have k6 := h.1.c6; have k7 := h.1.c7; go_simp; try with_reducible rfl
  simp only [pA, pB, pC, pD]
  refine wpAnyH_done (by kernel_rfl) ?_ _
  have c1 : w3.cell? ⟨w.heap.size, 1, none⟩ = some (.int .i64 4) := by rw [hHeld.1.cell 1, stCs, HS.out]; rfl
  have c2 : w3.cell? ⟨w.heap.size, 2, none⟩ = some (.int .i64 0) := by rw [hHeld.1.cell 2, stCs, HP.out]; rfl
  have HE := Lib.hid hHeld
  clear hHeld HE2 k1 k2 k3 k4 k5 k6 k7 k8 e1 e2 e3 e4 e5 e6 q1 q2 q3 c0
  go_wp2
  clear c1 c2
  refine wp_region_held_drew (S := fun w' => StBlk w' w.heap.size s lv ∧ LnRow w' lv s.lines ∧ Below w.heap.size w w') (by kernel_rfl) ⟨HE.out.1, HE.out.2.1, Below.next HE.out.2.2 (below_drewN' _ 1)⟩ (fun hHeld => ?_)
  refine tk 0 rfl ?v_0_282 ?hy_0_282 ?r_0_282
  case hy_0_282 => intro w h; have k4 := h.1.c4; have k6 := h.1.c6; have k7 := h.1.c7; go_simp; try with_reducible rfl
  simp only [pA, pB, pC, pD]
  refine tk 1 rfl ?v_1_283 ?hy_1_283 ?r_1_283
  case hy_1_283 => intro w h; have k4 := h.1.c4; have k6 := h.1.c6; have k7 := h.1.c7; go_simp; try with_reducible rfl
  simp only [pA, pB, pC, pD]
  refine tk 2 rfl ?v_2_284 ?hy_2_284 ?r_2_284
  case hy_2_284 => intro w h; have k4 := h.1.c4; have k6 := h.1.c6; have k7 := h.1.c7; go_simp; try with_reducible rfl
  simp only [pA, pB, pC, pD]
  refine tk 3 rfl ?v_3_285 ?hy_3_285 ?r_3_285
  case hy_3_285 => intro w h; have k4 := h.1.c4; have k6 := h.1.c6; have k7 := h.1.c7; go_simp; try with_reducible rfl
  simp only [pA, pB, pC, pD]
  refine tk 4 rfl ?v_4_286 ?hy_4_286 ?r_4_286
  case hy_4_286 => intro w h; have k4 := h.1.c4; have k6 := h.1.c6; have k7 := h.1.c7; go_simp; try with_reducible rfl
  simp only [pA, pB, pC, pD]
  refine tk 5 rfl ?v_5_287 ?hy_5_287 ?r_5_287
  case hy_5_287 => intro w h; have k4 := h.1.c4; have k6 := h.1.c6; have k7 := h.1.c7; go_simp; try with_reducible rfl
  simp only [pA, pB, pC, pD]
  refine wpAnyH_take (i := 6) (oi := ⟨_, _, _, _, _, _⟩) (v := stV s lv) rfl (by kernel_rfl) (by kernel_rfl) (by kernel_rfl) (fun _ _ _ h => h) (yieldsIf_load_mid (by kernel_rfl) 25 (.tmp 1) rfl w.heap.size 0 rfl (stCs s lv).toList _ (fun w' h j v hv => by rw [Nat.zero_add, h.1.cell]; simpa using hv) Tryd.underlying25 rfl (by rw [stInfo]; rfl)) (by assumption) ?_
  simp only [pA, pB, pC, pD]
  refine wpAnyH_ready (rs := [7]) (by kernel_rfl) (by simp) ?_
  refine AllReadyH.cons rfl (fun K hK => ?_) AllReadyH.nil
  go_simp
  go_at_call 21
  obtain ⟨hSt, hLn, hBe⟩ := hHeld
  refine (HDU.out _ hLn).mono ?_
  rintro x w4 ⟨rfl, hb⟩
  go_wp2_with fail
  refine hK.out _ _ ⟨hSt.below hb, hLn.below hb, Below.next hBe hb⟩ (fun hHeld => ?_)
  clear hK K hSt hLn hBe hb
  refine tk 8 rfl ?v_8_288 ?hy_8_288 ?r_8_288
  case hy_8_288 => intro w h; have k4 := h.1.c4; have k6 := h.1.c6; have k7 := h.1.c7; go_simp; try with_reducible rfl
  simp only [pA, pB, pC, pD]
  refine tk 9 rfl ?v_9_289 ?hy_9_289 ?r_9_289
  case hy_9_289 => intro w h; have k4 := h.1.c4; have k6 := h.1.c6; have k7 := h.1.c7; go_simp; try with_reducible rfl
  simp only [pA, pB, pC, pD]
  refine tk 10 rfl ?v_10_290 ?hy_10_290 ?r_10_290
  case hy_10_290 => intro w h; have k4 := h.1.c4; have k6 := h.1.c6; have k7 := h.1.c7; go_simp; try with_reducible rfl
  simp only [pA, pB, pC, pD]
  refine wpAnyH_done (by kernel_rfl) ?_ _
  have HE4 := Lib.hid hHeld
  clear hHeld HE HDU
  go_wp2_with (first
    | (with_reducible refine wpList_load_st rfl (.tmp 1) rfl w.heap.size s lv rfl HE4.out.1 ?_)
    | (go_at_call 22; refine (HSS.out _).mono ?_; rintro x w5 ⟨rfl, hb⟩; have HE5 := Lib.hid (show StBlk w5 w.heap.size s lv ∧ LnRow w5 lv s.lines ∧ Below w.heap.size w w5 from ⟨HE4.out.1.below hb, HE4.out.2.1.below hb, Below.next HE4.out.2.2 hb⟩); clear hb
       have z0 := HE5.out.1.c0; have z1 := HE5.out.1.c1; have z2 := HE5.out.1.c2; have z3 := HE5.out.1.c3; have z4 := HE5.out.1.c4; have z6 := HE5.out.1.c6; have z7 := HE5.out.1.c7; have z8 := HE5.out.1.c8; have z9 := HE5.out.1.c9; have z10 := HE5.out.1.c10; have z11 := HE5.out.1.c11; have z5 : w5.cell? ⟨w.heap.size, 5, none⟩ = some lv := HE5.out.1.cell 5))
  have HB := Lib.hid HE5.out.2.2
  go_ret
  exact ⟨by rw [HVb.out]; rfl, HB.out⟩

set_option maxRecDepth 100000 in
set_option maxHeartbeats 16000000 in
theorem rvok_4_0_2 (s : St) (lv : Value) (w : World) (hr : LnRow w lv s.lines) (hw : s.who.length ≤ 281474976710656) (hf : boundedB s = true) (hm : ¬ dueOf s < s.paid) (hs : s.status = 4) (hp : s.prior = 0) (g3 : decide (0 < s.paid) = true) (g1 : (s.paid == dueOf s) = true) :
    Calls Tryd.prog 11 #[stV s lv] w fun e w' => e = .returned (.bool (validB s)) ∧ Below w.heap.size w w' := by
  have HVb := Lib.hid (show validB s = (true && wholeB s.lines) by
    have h1 : validB s = standB s 4 := by unfold validB; rw [hf, decide_eq_true (by omega), hs, hp]; rfl
    have h2 : (s.paid == dueOf s && decide (0 < s.paid)) = true := by rw [g3, g1]; rfl
    rw [h1]; unfold standB; rw [h2]; rfl)
  have hbp := bounded_p hf
  have k1 : decide (s.order < 1) = false := by rw [decide_eq_false_iff_not]; have := hbp.order; omega
  have k2 : decide (1099511627776 < s.order) = false := by rw [decide_eq_false_iff_not]; have := hbp.order; omega
  have k3 : decide (s.status < 0) = false := by rw [decide_eq_false_iff_not]; have := hbp.status; omega
  have k4 : decide (5 < s.status) = false := by rw [decide_eq_false_iff_not]; have := hbp.status; omega
  have k5 : decide (s.cur < 0) = false := by rw [decide_eq_false_iff_not]; have := hbp.cur; omega
  have k6 : decide (3 < s.cur) = false := by rw [decide_eq_false_iff_not]; have := hbp.cur; omega
  have k7 : decide (s.tax < 0) = false := by rw [decide_eq_false_iff_not]; have := hbp.tax; omega
  have k8 : decide (5000 < s.tax) = false := by rw [decide_eq_false_iff_not]; have := hbp.tax; omega
  have e1 : decide (s.events < 0) = false := by rw [decide_eq_false_iff_not]; have := hbp.events; omega
  have e2 : decide (1099511627776 < s.events) = false := by rw [decide_eq_false_iff_not]; have := hbp.events; omega
  have e3 : decide (s.refused < 0) = false := by rw [decide_eq_false_iff_not]; have := hbp.refused; omega
  have e4 : decide (s.events < s.refused) = false := by rw [decide_eq_false_iff_not]; have := hbp.events; have := hbp.refused; omega
  have e5 : decide (s.stamp < 0) = false := by rw [decide_eq_false_iff_not]; have := hbp.stamp; omega
  have e6 : decide (1099511627776 < s.stamp) = false := by rw [decide_eq_false_iff_not]; have := hbp.stamp; omega
  have q1 : decide (s.refunded < 0) = false := by rw [decide_eq_false_iff_not]; have := hbp.refunded; omega
  have q2 : decide (s.paid < s.refunded) = false := by rw [decide_eq_false_iff_not]; have := hbp.refunded; omega
  have q3 : decide (s.paid < 0) = false := by rw [decide_eq_false_iff_not]; have := hbp.refunded; omega
  have hn := (bounded_lined hf).2
  have hl := (bounded_lined hf).1
  obtain ⟨c, hc⟩ : ∃ c, c = evCheck 4 (evWho s.who) := ⟨_, rfl⟩
  have hcn : (c == 0) = namedB s.who := by rw [hc]; exact evWho_check 4 (.inl rfl) s.who
  have HC := Lib.hid (show ∀ W : World, Calls Tryd.prog 19 #[.int .i64 4, .agg #[.int .i64 1, .int .i64 1, .int .i64 0, .int .i64 0, .int .i64 0, .int .i64 0, .int .i64 0, .string ⟨s.who.toArray⟩, .int .i64 0, .string ⟨#[]⟩]] W (ChkPost c W) from fun W => hc ▸ refCheckB_any 4 (evWho s.who) W (evWho_ok s.who hw))
  have HLN := Lib.hid (show ∀ W : World, LnRow W lv s.lines → Calls Tryd.prog 20 #[stV s lv] W fun e w' => e = .returned (.bool (linedB s.lines)) ∧ Below W.heap.size W w' from fun W h => rlines_any s lv W h)
  have HE0 := Lib.hid (show StBlk (w.alloc (.cells (stCs s lv) 25)) w.heap.size s lv ∧ LnRow (w.alloc (.cells (stCs s lv) 25)) lv s.lines ∧ Below w.heap.size w (w.alloc (.cells (stCs s lv) 25)) from by
    have hb : Below w.heap.size w (w.alloc (.cells (stCs s lv) 25)) := (Below.refl _ _).alloc (Nat.le_refl _) _
    exact ⟨stBlk_alloc w s lv, hr.below hb, hb⟩)
  have c0 : (c != 0) = false := by rw [hn, beq_iff_eq] at hcn; rw [bne_eq_false_iff_eq]; exact hcn
  rw [hl] at HLN
  obtain ⟨D, hD⟩ : ∃ D, D = dueOf s := ⟨_, rfl⟩
  have HDU := Lib.hid (show ∀ W : World, LnRow W lv s.lines → Calls Tryd.prog 21 #[stV s lv] W fun e w' => e = .returned (.int .i64 D) ∧ Below W.heap.size W w' from fun W h => hD ▸ rdue_any s lv W h hbp.fine hbp.few hbp.tax.1 hbp.tax.2)
  have HSS := Lib.hid (show ∀ W : World, Calls Tryd.prog 22 #[stV s lv] W fun e w' => e = .returned (.int .i64 4) ∧ Below W.heap.size W w' from fun W => by have h := rstands_else s lv W (by omega); rw [hs] at h; exact h)
  have HUN := Lib.hid (show ∀ W : World, LnRow W lv s.lines → Calls Tryd.prog 23 #[stV s lv] W fun e w' => e = .returned (.bool (noneB s.lines)) ∧ Below W.heap.size W w' from fun W h => runtouched_any s lv W h hbp.fine)
  have HWH := Lib.hid (show ∀ W : World, LnRow W lv s.lines → Calls Tryd.prog 24 #[stV s lv] W fun e w' => e = .returned (.bool (wholeB s.lines)) ∧ Below W.heap.size W w' from fun W h => rwhole_any s lv W h hbp.fine)
  obtain ⟨nB, hnB⟩ : ∃ x, x = noneB s.lines := ⟨_, rfl⟩
  obtain ⟨wB, hwB⟩ : ∃ x, x = wholeB s.lines := ⟨_, rfl⟩
  rw [← hnB] at HUN
  rw [← hwB] at HWH
  rw [← hD] at hm g1
  rw [← hwB] at HVb
  have d1 : decide (D < s.paid) = false := decide_eq_false hm
  have hm2 : s.paid ≤ D := by omega
  have HS := Lib.hid hs
  have HP := Lib.hid hp
  obtain ⟨oa, cap, hlv, _, _, _⟩ := hr.shape
  have HLV := Lib.hid hlv
  clear hc hcn hn hl hr hw hf hbp hD hm hs hp hnB hwB hlv
  go_enter Tryd.func11, Tryd.ntmps11
  go_wp2_with (first
    | (go_at_call 19; (with_reducible refine (HC.out _).mono ?_); rintro x w1 ⟨rfl, hb1⟩; have HE1 := Lib.hid (show StBlk w1 w.heap.size s lv ∧ LnRow w1 lv s.lines ∧ Below w.heap.size w w1 from ⟨HE0.out.1.below hb1, HE0.out.2.1.below hb1, Below.next HE0.out.2.2 hb1⟩); clear hb1; have z0 := HE1.out.1.c0; have z1 := HE1.out.1.c1; have z2 := HE1.out.1.c2; have z3 := HE1.out.1.c3; have z4 := HE1.out.1.c4; have z5 := HE1.out.1.c5; have z6 := HE1.out.1.c6; have z7 := HE1.out.1.c7; have z8 := HE1.out.1.c8; have z9 := HE1.out.1.c9; have z10 := HE1.out.1.c10; have z11 := HE1.out.1.c11)
    | (with_reducible refine wpList_load_st rfl (.tmp 1) rfl w.heap.size s lv rfl HE1.out.1 ?_)
    | (go_at_call 20; refine (HLN.out _ HE1.out.2.1).mono ?_; rintro x w2 ⟨rfl, hb2⟩; have HE2 := Lib.hid (show StBlk w2 w.heap.size s lv ∧ LnRow w2 lv s.lines ∧ Below w.heap.size w w2 from ⟨HE1.out.1.below hb2, HE1.out.2.1.below hb2, Below.next HE1.out.2.2 hb2⟩); clear hb2))
  clear z0 z1 z2 z3 z4 z5 z6 z7 z8 z9 z10 z11 HE0 HE1 HC HLN
  refine wp_region_held_drew (S := fun w' => StBlk w' w.heap.size s lv ∧ LnRow w' lv s.lines ∧ Below w.heap.size w w') (by kernel_rfl) ⟨HE2.out.1, HE2.out.2.1, Below.next HE2.out.2.2 (below_drewN' _ 1)⟩ (fun hHeld => ?_)
  refine tk 0 rfl ?v_0_291 ?hy_0_291 ?r_0_291
  case hy_0_291 => intro w h; have k4 := h.1.c4; have k6 := h.1.c6; have k7 := h.1.c7; go_simp; try with_reducible rfl
  simp only [pA, pB, pC, pD]
  refine tk 1 rfl ?v_1_292 ?hy_1_292 ?r_1_292
  case hy_1_292 => intro w h; have k4 := h.1.c4; have k6 := h.1.c6; have k7 := h.1.c7; go_simp; try with_reducible rfl
  simp only [pA, pB, pC, pD]
  refine tk 2 rfl ?v_2_293 ?hy_2_293 ?r_2_293
  case hy_2_293 => intro w h; have k4 := h.1.c4; have k6 := h.1.c6; have k7 := h.1.c7; go_simp; try with_reducible rfl
  simp only [pA, pB, pC, pD]
  refine tk 3 rfl ?v_3_294 ?hy_3_294 ?r_3_294
  case hy_3_294 => intro w h; have k4 := h.1.c4; have k6 := h.1.c6; have k7 := h.1.c7; go_simp; try with_reducible rfl
  simp only [pA, pB, pC, pD]
  refine tk 4 rfl ?v_4_295 ?hy_4_295 ?r_4_295
  case hy_4_295 => intro w h; have k4 := h.1.c4; have k6 := h.1.c6; have k7 := h.1.c7; go_simp; try with_reducible rfl
  simp only [pA, pB, pC, pD]
  refine tk 5 rfl ?v_5_296 ?hy_5_296 ?r_5_296
  case hy_5_296 => intro w h; have k4 := h.1.c4; have k6 := h.1.c6; have k7 := h.1.c7; go_simp; try with_reducible rfl
  simp only [pA, pB, pC, pD]
  refine tk 6 rfl ?v_6_297 ?hy_6_297 ?r_6_297
  case hy_6_297 => intro w h; have k4 := h.1.c4; have k6 := h.1.c6; have k7 := h.1.c7; go_simp; try with_reducible rfl
  simp only [pA, pB, pC, pD]
  refine tk 7 rfl ?v_7_298 ?hy_7_298 ?r_7_298
  case hy_7_298 => intro w h; have k4 := h.1.c4; have k6 := h.1.c6; have k7 := h.1.c7; go_simp; try with_reducible rfl
  simp only [pA, pB, pC, pD]
  refine tk 8 rfl ?v_8_299 ?hy_8_299 ?r_8_299
  case hy_8_299 => intro w h; have k4 := h.1.c4; have k6 := h.1.c6; have k7 := h.1.c7; go_simp; try with_reducible rfl
  simp only [pA, pB, pC, pD]
  refine tk 9 rfl ?v_9_300 ?hy_9_300 ?r_9_300
  case hy_9_300 => intro w h; have k4 := h.1.c4; have k6 := h.1.c6; have k7 := h.1.c7; go_simp; try with_reducible rfl
  simp only [pA, pB, pC, pD]
  refine tk 10 rfl ?v_10_301 ?hy_10_301 ?r_10_301
  case hy_10_301 => intro w h; have k4 := h.1.c4; have k6 := h.1.c6; have k7 := h.1.c7; go_simp; try with_reducible rfl
  simp only [pA, pB, pC, pD]
  refine tk 11 rfl ?v_11_302 ?hy_11_302 ?r_11_302
  case hy_11_302 => intro w h; have k4 := h.1.c4; have k6 := h.1.c6; have k7 := h.1.c7; go_simp; try with_reducible rfl
  simp only [pA, pB, pC, pD]
  refine tk 12 rfl ?v_12_303 ?hy_12_303 ?r_12_303
  case hy_12_303 => intro w h; have k4 := h.1.c4; have k6 := h.1.c6; have k7 := h.1.c7; go_simp; try with_reducible rfl
  simp only [pA, pB, pC, pD]
  refine tk 13 rfl ?v_13_304 ?hy_13_304 ?r_13_304
  case hy_13_304 => intro w h; have k4 := h.1.c4; have k6 := h.1.c6; have k7 := h.1.c7; go_simp; try with_reducible rfl
  simp only [pA, pB, pC, pD]
  refine tk 14 rfl ?v_14_305 ?hy_14_305 ?r_14_305
  case hy_14_305 => intro w h; have k4 := h.1.c4; have k6 := h.1.c6; have k7 := h.1.c7; go_simp; try with_reducible rfl
  simp only [pA, pB, pC, pD]
  refine tk 15 rfl ?v_15_306 ?hy_15_306 ?r_15_306
  case hy_15_306 => intro w h; have k4 := h.1.c4; have k6 := h.1.c6; have k7 := h.1.c7; go_simp; try with_reducible rfl
  simp only [pA, pB, pC, pD]
  refine tk 16 rfl ?v_16_307 ?hy_16_307 ?r_16_307
  case hy_16_307 => intro w h; have k4 := h.1.c4; have k6 := h.1.c6; have k7 := h.1.c7; go_simp; try with_reducible rfl
  simp only [pA, pB, pC, pD]
  refine tk 17 rfl ?v_17_308 ?hy_17_308 ?r_17_308
  case hy_17_308 => intro w h; have k4 := h.1.c4; have k6 := h.1.c6; have k7 := h.1.c7; go_simp; try with_reducible rfl
  simp only [pA, pB, pC, pD]
  refine wpAnyH_take (i := 18) (oi := ⟨_, _, _, _, _, _⟩) (v := stV s lv) rfl (by kernel_rfl) (by kernel_rfl) (by kernel_rfl) (fun _ _ _ h => h) (yieldsIf_load_mid (by kernel_rfl) 25 (.tmp 1) rfl w.heap.size 0 rfl (stCs s lv).toList _ (fun w' h j v hv => by rw [Nat.zero_add, h.1.cell]; simpa using hv) Tryd.underlying25 rfl (by rw [stInfo]; rfl)) (by assumption) ?_
  simp only [pA, pB, pC, pD]
  refine wpAnyH_ready (rs := [19]) (by kernel_rfl) (by simp) ?_
  refine AllReadyH.cons rfl (fun K hK => ?_) AllReadyH.nil
  go_simp
  go_at_call 21
  obtain ⟨hSt, hLn, hBe⟩ := hHeld
  refine (HDU.out _ hLn).mono ?_
  rintro x w3 ⟨rfl, hb⟩
  go_wp2_with fail
  refine hK.out _ _ ⟨hSt.below hb, hLn.below hb, Below.next hBe hb⟩ (fun hHeld => ?_)
  clear hK K hSt hLn hBe hb
  refine tk 20 rfl ?v_20_309 ?hy_20_309 ?r_20_309
  case hy_20_309 => intro w h; have k4 := h.1.c4; have k6 := h.1.c6; have k7 := h.1.c7; go_simp; try with_reducible rfl
  simp only [pA, pB, pC, pD]
  refine tk 21 rfl ?v_21_310 ?hy_21_310 ?r_21_310
  case hy_21_310 => intro w h; have k4 := h.1.c4; have k6 := h.1.c6; have k7 := h.1.c7; go_simp; try with_reducible rfl
  simp only [pA, pB, pC, pD]
  refine wpAnyH_done (by kernel_rfl) ?_ _
  have c1 : w3.cell? ⟨w.heap.size, 1, none⟩ = some (.int .i64 4) := by rw [hHeld.1.cell 1, stCs, HS.out]; rfl
  have c2 : w3.cell? ⟨w.heap.size, 2, none⟩ = some (.int .i64 0) := by rw [hHeld.1.cell 2, stCs, HP.out]; rfl
  have HE := Lib.hid hHeld
  clear hHeld HE2 k1 k2 k3 k4 k5 k6 k7 k8 e1 e2 e3 e4 e5 e6 q1 q2 q3 c0
  go_wp2
  clear c1 c2
  refine wp_region_held_drew (S := fun w' => StBlk w' w.heap.size s lv ∧ LnRow w' lv s.lines ∧ Below w.heap.size w w') (by kernel_rfl) ⟨HE.out.1, HE.out.2.1, Below.next HE.out.2.2 (below_drewN' _ 1)⟩ (fun hHeld => ?_)
  refine tk 0 rfl ?v_0_311 ?hy_0_311 ?r_0_311
  case hy_0_311 => intro w h; have k4 := h.1.c4; have k6 := h.1.c6; have k7 := h.1.c7; go_simp; try with_reducible rfl
  simp only [pA, pB, pC, pD]
  refine tk 1 rfl ?v_1_312 ?hy_1_312 ?r_1_312
  case hy_1_312 => intro w h; have k4 := h.1.c4; have k6 := h.1.c6; have k7 := h.1.c7; go_simp; try with_reducible rfl
  simp only [pA, pB, pC, pD]
  refine tk 2 rfl ?v_2_313 ?hy_2_313 ?r_2_313
  case hy_2_313 => intro w h; have k4 := h.1.c4; have k6 := h.1.c6; have k7 := h.1.c7; go_simp; try with_reducible rfl
  simp only [pA, pB, pC, pD]
  refine tk 3 rfl ?v_3_314 ?hy_3_314 ?r_3_314
  case hy_3_314 => intro w h; have k4 := h.1.c4; have k6 := h.1.c6; have k7 := h.1.c7; go_simp; try with_reducible rfl
  simp only [pA, pB, pC, pD]
  refine tk 4 rfl ?v_4_315 ?hy_4_315 ?r_4_315
  case hy_4_315 => intro w h; have k4 := h.1.c4; have k6 := h.1.c6; have k7 := h.1.c7; go_simp; try with_reducible rfl
  simp only [pA, pB, pC, pD]
  refine tk 5 rfl ?v_5_316 ?hy_5_316 ?r_5_316
  case hy_5_316 => intro w h; have k4 := h.1.c4; have k6 := h.1.c6; have k7 := h.1.c7; go_simp; try with_reducible rfl
  simp only [pA, pB, pC, pD]
  refine wpAnyH_take (i := 6) (oi := ⟨_, _, _, _, _, _⟩) (v := stV s lv) rfl (by kernel_rfl) (by kernel_rfl) (by kernel_rfl) (fun _ _ _ h => h) (yieldsIf_load_mid (by kernel_rfl) 25 (.tmp 1) rfl w.heap.size 0 rfl (stCs s lv).toList _ (fun w' h j v hv => by rw [Nat.zero_add, h.1.cell]; simpa using hv) Tryd.underlying25 rfl (by rw [stInfo]; rfl)) (by assumption) ?_
  simp only [pA, pB, pC, pD]
  refine wpAnyH_ready (rs := [7]) (by kernel_rfl) (by simp) ?_
  refine AllReadyH.cons rfl (fun K hK => ?_) AllReadyH.nil
  go_simp
  go_at_call 21
  obtain ⟨hSt, hLn, hBe⟩ := hHeld
  refine (HDU.out _ hLn).mono ?_
  rintro x w4 ⟨rfl, hb⟩
  go_wp2_with fail
  refine hK.out _ _ ⟨hSt.below hb, hLn.below hb, Below.next hBe hb⟩ (fun hHeld => ?_)
  clear hK K hSt hLn hBe hb
  refine tk 8 rfl ?v_8_317 ?hy_8_317 ?r_8_317
  case hy_8_317 => intro w h; have k4 := h.1.c4; have k6 := h.1.c6; have k7 := h.1.c7; go_simp; try with_reducible rfl
  simp only [pA, pB, pC, pD]
  refine tk 9 rfl ?v_9_318 ?hy_9_318 ?r_9_318
  case hy_9_318 => intro w h; have k4 := h.1.c4; have k6 := h.1.c6; have k7 := h.1.c7; go_simp; try with_reducible rfl
  simp only [pA, pB, pC, pD]
  refine tk 10 rfl ?v_10_319 ?hy_10_319 ?r_10_319
  case hy_10_319 => intro w h; have k4 := h.1.c4; have k6 := h.1.c6; have k7 := h.1.c7; go_simp; try with_reducible rfl
  simp only [pA, pB, pC, pD]
  refine wpAnyH_done (by kernel_rfl) ?_ _
  have HE4 := Lib.hid hHeld
  clear hHeld HE HDU
  cases wB
  · skip
    go_wp2_with (first
      | (with_reducible refine wpList_load_st rfl (.tmp 1) rfl w.heap.size s lv rfl HE4.out.1 ?_)
      | (go_at_call 22; refine (HSS.out _).mono ?_; rintro x w5 ⟨rfl, hb⟩; have HE5 := Lib.hid (show StBlk w5 w.heap.size s lv ∧ LnRow w5 lv s.lines ∧ Below w.heap.size w w5 from ⟨HE4.out.1.below hb, HE4.out.2.1.below hb, Below.next HE4.out.2.2 hb⟩); clear hb
         have z0 := HE5.out.1.c0; have z1 := HE5.out.1.c1; have z2 := HE5.out.1.c2; have z3 := HE5.out.1.c3; have z4 := HE5.out.1.c4; have z6 := HE5.out.1.c6; have z7 := HE5.out.1.c7; have z8 := HE5.out.1.c8; have z9 := HE5.out.1.c9; have z10 := HE5.out.1.c10; have z11 := HE5.out.1.c11; have z5 : w5.cell? ⟨w.heap.size, 5, none⟩ = some lv := HE5.out.1.cell 5)
      | (go_at_call 24; refine (HWH.out _ HE5.out.2.1).mono ?_; rintro x w6 ⟨rfl, hb⟩; have HB := Lib.hid (Below.next HE5.out.2.2 hb); clear hb))
    go_ret
    exact ⟨by rw [HVb.out]; rfl, HB.out⟩
  · skip
    go_wp2_with (first
      | (with_reducible refine wpList_load_st rfl (.tmp 1) rfl w.heap.size s lv rfl HE4.out.1 ?_)
      | (go_at_call 22; refine (HSS.out _).mono ?_; rintro x w5 ⟨rfl, hb⟩; have HE5 := Lib.hid (show StBlk w5 w.heap.size s lv ∧ LnRow w5 lv s.lines ∧ Below w.heap.size w w5 from ⟨HE4.out.1.below hb, HE4.out.2.1.below hb, Below.next HE4.out.2.2 hb⟩); clear hb
         have z0 := HE5.out.1.c0; have z1 := HE5.out.1.c1; have z2 := HE5.out.1.c2; have z3 := HE5.out.1.c3; have z4 := HE5.out.1.c4; have z6 := HE5.out.1.c6; have z7 := HE5.out.1.c7; have z8 := HE5.out.1.c8; have z9 := HE5.out.1.c9; have z10 := HE5.out.1.c10; have z11 := HE5.out.1.c11; have z5 : w5.cell? ⟨w.heap.size, 5, none⟩ = some lv := HE5.out.1.cell 5)
      | (go_at_call 24; refine (HWH.out _ HE5.out.2.1).mono ?_; rintro x w6 ⟨rfl, hb⟩; have HB := Lib.hid (Below.next HE5.out.2.2 hb); clear hb))
    go_ret
    exact ⟨by rw [HVb.out]; rfl, HB.out⟩

end Go.Proofs.YtlobohpbgghleaaDoor
