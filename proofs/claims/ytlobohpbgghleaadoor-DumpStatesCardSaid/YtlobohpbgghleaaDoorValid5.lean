import Derived.Test.YtlobohpbgghleaaDoorValid2
namespace Go.Proofs.YtlobohpbgghleaaDoor
open Go.RowKit

set_option maxRecDepth 100000 in
set_option maxHeartbeats 16000000 in
theorem oValid_2_1_0 (s : St) (lv : Value) (w : World) (hr : LnRow w lv s.lines) (hw : s.who.length ≤ 281474976710656) (hf : boundedB s = true) (hm : ¬ dueOf s < s.paid) (hs : s.status = 2) (hp : s.prior = 1) (g1 : (s.paid == dueOf s) = false) :
    Calls Tryd.prog 8 #[stV s lv] w fun e w' => e = .returned (.bool (validB s)) ∧ Below w.heap.size w w' := by
  have HVb := Lib.hid (show validB s = (noneB s.lines && !false && s.refunded == 0) by
    have h1 : validB s = standB s 1 := by unfold validB; rw [hf, decide_eq_true (by omega), hs, hp]; rfl
    have h2 : (s.paid == dueOf s && decide (0 < s.paid)) = false := by rw [g1]; rfl
    rw [h1]; unfold standB; rw [h2]; rfl)
  have hbp := bounded_p hf
  have HBO := Lib.hid (show ∀ W : World, LnRow W lv s.lines → Calls Tryd.prog 15 #[stV s lv] W fun e w' => e = .returned (.bool true) ∧ Below W.heap.size W w' from fun W h => hf ▸ obounded s lv W h hw)
  obtain ⟨D, hD⟩ : ∃ D, D = dueOf s := ⟨_, rfl⟩
  have HDU := Lib.hid (show ∀ W : World, LnRow W lv s.lines → Calls Tryd.prog 16 #[stV s lv] W fun e w' => e = .returned (.int .i64 D) ∧ Below W.heap.size W w' from fun W h => hD ▸ odue_any s lv W h hbp.fine hbp.few hbp.tax.1 hbp.tax.2)
  have HH := Lib.hid (show StBlk (w.alloc (.cells (stCs s lv) 25)).drew w.heap.size s lv ∧ LnRow (w.alloc (.cells (stCs s lv) 25)).drew lv s.lines ∧ Below w.heap.size w (w.alloc (.cells (stCs s lv) 25)).drew from by
    have hb : Below w.heap.size w (w.alloc (.cells (stCs s lv) 25)) := (Below.refl _ _).alloc (Nat.le_refl _) _
    exact ⟨stBlk_alloc w s lv, hr.below (Below.next hb (below_drewN' _ 1)), Below.next hb (below_drewN' _ 1)⟩)
  have HSH := Lib.hid (show ∀ W : World, LnRow W lv s.lines → Calls Tryd.prog 17 #[stV s lv] W fun e w' => e = .returned (.tuple #[.bool (noneB s.lines), .bool (wholeB s.lines)]) ∧ Below W.heap.size W w' from fun W h => oshipped_any s lv W h)
  obtain ⟨nB, hnB⟩ : ∃ x, x = noneB s.lines := ⟨_, rfl⟩
  obtain ⟨wB, hwB⟩ : ∃ x, x = wholeB s.lines := ⟨_, rfl⟩
  rw [← hnB, ← hwB] at HSH
  rw [← hD] at hm g1
  rw [← hnB] at HVb
  have d1 : decide (D < s.paid) = false := decide_eq_false hm
  have hm2 : s.paid ≤ D := by omega
  have HS := Lib.hid hs
  have HP := Lib.hid hp
  obtain ⟨oa, cap, hlv, _, _, _⟩ := hr.shape
  have HLV := Lib.hid hlv
  clear hr hw hf hbp hD hm hs hp hnB hwB hlv
  go_enter Tryd.func8, Tryd.ntmps8
  go_wp2
  refine wp_region_held_drew (S := fun w' => StBlk w' w.heap.size s lv ∧ LnRow w' lv s.lines ∧ Below w.heap.size w w') (by kernel_rfl) HH.out (fun hHeld => ?_)
  refine wpAnyH_take (i := 0) (oi := ⟨_, _, _, _, _, _⟩) (v := stV s lv) rfl (by kernel_rfl) (by kernel_rfl) (by kernel_rfl) (fun _ _ _ h => h) (yieldsIf_load_mid (by kernel_rfl) 25 (.tmp 1) rfl w.heap.size 0 rfl (stCs s lv).toList _ (fun w' h j v hv => by rw [Nat.zero_add, h.1.cell]; simpa using hv) Tryd.underlying25 rfl (by rw [stInfo]; rfl)) (by assumption) ?_
  simp only [pA, pB, pC, pD]
  refine wpAnyH_ready (rs := [1]) (by kernel_rfl) (by simp) ?_
  refine AllReadyH.cons rfl (fun K hK => ?_) AllReadyH.nil
  go_simp
  go_at_call 15
  obtain ⟨hSt, hLn, hBe⟩ := hHeld
  refine (HBO.out _ hLn).mono ?_
  rintro x w1 ⟨rfl, hb⟩
  go_wp2_with fail
  refine hK.out _ _ ⟨hSt.below hb, hLn.below hb, Below.next hBe hb⟩ (fun hHeld => ?_)
  clear hK K hSt hLn hBe hb
  refine tk 2 rfl ?v_2_148 ?hy_2_148 ?r_2_148
  case hy_2_148 => intro w h; have k1 := h.1.c1; have k6 := h.1.c6; go_simp; try with_reducible rfl
  simp only [pA, pB, pC, pD]
  refine tk 3 rfl ?v_3_149 ?hy_3_149 ?r_3_149
  case hy_3_149 => intro w h; have k1 := h.1.c1; have k6 := h.1.c6; go_simp; try with_reducible rfl
  simp only [pA, pB, pC, pD]
  refine tk 4 rfl ?v_4_150 ?hy_4_150 ?r_4_150
  case hy_4_150 => intro w h; have k1 := h.1.c1; have k6 := h.1.c6; go_simp; try with_reducible rfl
  simp only [pA, pB, pC, pD]
  refine tk 5 rfl ?v_5_151 ?hy_5_151 ?r_5_151
  case hy_5_151 => intro w h; have k1 := h.1.c1; have k6 := h.1.c6; go_simp; try with_reducible rfl
  simp only [pA, pB, pC, pD]
  refine wpAnyH_take (i := 6) (oi := ⟨_, _, _, _, _, _⟩) (v := stV s lv) rfl (by kernel_rfl) (by kernel_rfl) (by kernel_rfl) (fun _ _ _ h => h) (yieldsIf_load_mid (by kernel_rfl) 25 (.tmp 1) rfl w.heap.size 0 rfl (stCs s lv).toList _ (fun w' h j v hv => by rw [Nat.zero_add, h.1.cell]; simpa using hv) Tryd.underlying25 rfl (by rw [stInfo]; rfl)) (by assumption) ?_
  simp only [pA, pB, pC, pD]
  refine wpAnyH_ready (rs := [7]) (by kernel_rfl) (by simp) ?_
  refine AllReadyH.cons rfl (fun K hK => ?_) AllReadyH.nil
  go_simp
  go_at_call 16
  obtain ⟨hSt, hLn, hBe⟩ := hHeld
  refine (HDU.out _ hLn).mono ?_
  rintro x w2 ⟨rfl, hb⟩
  go_wp2_with fail
  refine hK.out _ _ ⟨hSt.below hb, hLn.below hb, Below.next hBe hb⟩ (fun hHeld => ?_)
  clear hK K hSt hLn hBe hb
  refine tk 8 rfl ?v_8_152 ?hy_8_152 ?r_8_152
  case hy_8_152 => intro w h; have k1 := h.1.c1; have k6 := h.1.c6; go_simp; try with_reducible rfl
  simp only [pA, pB, pC, pD]
  refine tk 9 rfl ?v_9_153 ?hy_9_153 ?r_9_153
  case hy_9_153 => intro w h; have k1 := h.1.c1; have k6 := h.1.c6; go_simp; try with_reducible rfl
  simp only [pA, pB, pC, pD]
  refine wpAnyH_done (by kernel_rfl) ?_ _
  have c1 : w2.cell? ⟨w.heap.size, 1, none⟩ = some (.int .i64 2) := by rw [hHeld.1.cell 1, stCs, HS.out]; rfl
  have c2 : w2.cell? ⟨w.heap.size, 2, none⟩ = some (.int .i64 1) := by rw [hHeld.1.cell 2, stCs, HP.out]; rfl
  have HE := Lib.hid hHeld
  clear hHeld HBO HH
  go_wp2_with (first
    | (with_reducible refine wpList_load_st rfl (.tmp 1) rfl w.heap.size s lv rfl HE.out.1 ?_)
    | (go_at_call 17; refine (HSH.out _ HE.out.2.1).mono ?_; rintro x w3 ⟨rfl, hb⟩; have HE3 := Lib.hid (show StBlk w3 w.heap.size s lv ∧ LnRow w3 lv s.lines ∧ Below w.heap.size w w3 from ⟨HE.out.1.below hb, HE.out.2.1.below hb, Below.next HE.out.2.2 hb⟩); clear hb))
  clear c1 c2 HE HSH
  refine wp_region_held_drew (S := fun w' => StBlk w' w.heap.size s lv ∧ LnRow w' lv s.lines ∧ Below w.heap.size w w') (by kernel_rfl) ⟨HE3.out.1, HE3.out.2.1, Below.next HE3.out.2.2 (below_drewN' _ 1)⟩ (fun hHeld => ?_)
  refine tk 0 rfl ?v_0_154 ?hy_0_154 ?r_0_154
  case hy_0_154 => intro w h; have k1 := h.1.c1; have k6 := h.1.c6; go_simp; try with_reducible rfl
  simp only [pA, pB, pC, pD]
  refine tk 1 rfl ?v_1_155 ?hy_1_155 ?r_1_155
  case hy_1_155 => intro w h; have k1 := h.1.c1; have k6 := h.1.c6; go_simp; try with_reducible rfl
  simp only [pA, pB, pC, pD]
  refine wpAnyH_take (i := 2) (oi := ⟨_, _, _, _, _, _⟩) (v := stV s lv) rfl (by kernel_rfl) (by kernel_rfl) (by kernel_rfl) (fun _ _ _ h => h) (yieldsIf_load_mid (by kernel_rfl) 25 (.tmp 1) rfl w.heap.size 0 rfl (stCs s lv).toList _ (fun w' h j v hv => by rw [Nat.zero_add, h.1.cell]; simpa using hv) Tryd.underlying25 rfl (by rw [stInfo]; rfl)) (by assumption) ?_
  simp only [pA, pB, pC, pD]
  refine wpAnyH_ready (rs := [3]) (by kernel_rfl) (by simp) ?_
  refine AllReadyH.cons rfl (fun K hK => ?_) AllReadyH.nil
  go_simp
  go_at_call 16
  obtain ⟨hSt, hLn, hBe⟩ := hHeld
  refine (HDU.out _ hLn).mono ?_
  rintro x w4 ⟨rfl, hb⟩
  go_wp2_with fail
  refine hK.out _ _ ⟨hSt.below hb, hLn.below hb, Below.next hBe hb⟩ (fun hHeld => ?_)
  clear hK K hSt hLn hBe hb
  refine tk 4 rfl ?v_4_156 ?hy_4_156 ?r_4_156
  case hy_4_156 => intro w h; have k1 := h.1.c1; have k6 := h.1.c6; go_simp; try with_reducible rfl
  simp only [pA, pB, pC, pD]
  refine tk 5 rfl ?v_5_157 ?hy_5_157 ?r_5_157
  case hy_5_157 => intro w h; have k1 := h.1.c1; have k6 := h.1.c6; go_simp; try with_reducible rfl
  simp only [pA, pB, pC, pD]
  refine tkn 6 rfl ?_
  simp only [pA, pB, pC, pD]
  refine tkn 7 rfl ?_
  simp only [pA, pB, pC, pD]
  refine tkn 8 rfl ?_
  simp only [pA, pB, pC, pD]
  refine tk 9 rfl ?v_9_158 ?hy_9_158 ?r_9_158
  case hy_9_158 => intro w h; have k1 := h.1.c1; have k6 := h.1.c6; go_simp; try with_reducible rfl
  simp only [pA, pB, pC, pD]
  refine tk 10 rfl ?v_10_159 ?hy_10_159 ?r_10_159
  case hy_10_159 => intro w h; have k1 := h.1.c1; have k6 := h.1.c6; go_simp; try with_reducible rfl
  simp only [pA, pB, pC, pD]
  refine wpAnyH_done (by kernel_rfl) ?_ _
  have HB := Lib.hid hHeld.2.2
  have d3 : w4.cell? ⟨w.heap.size, 3, none⟩ = some (.int .i64 s.cur) := hHeld.1.cell 3
  have d4 : w4.cell? ⟨w.heap.size, 4, none⟩ = some (.int .i64 s.tax) := hHeld.1.cell 4
  have d5 : w4.cell? ⟨w.heap.size, 5, none⟩ = some (.slice oa s.lines.length cap) := by rw [hHeld.1.cell 5, stCs, HLV.out]; rfl
  have d7 : w4.cell? ⟨w.heap.size, 7, none⟩ = some (.int .i64 s.refunded) := hHeld.1.cell 7
  have d8 : w4.cell? ⟨w.heap.size, 8, none⟩ = some (.int .i64 s.events) := hHeld.1.cell 8
  have d9 : w4.cell? ⟨w.heap.size, 9, none⟩ = some (.int .i64 s.refused) := hHeld.1.cell 9
  have d10 : w4.cell? ⟨w.heap.size, 10, none⟩ = some (.int .i64 s.stamp) := hHeld.1.cell 10
  have d11 : w4.cell? ⟨w.heap.size, 11, none⟩ = some (.string ⟨s.who.toArray⟩) := hHeld.1.cell 11
  clear hHeld HE3 HDU
  cases nB
  · skip
    go_wp2
    go_ret
    exact ⟨by rw [HVb.out]; rfl, HB.out⟩
  · by_cases hrf : s.refunded = 0
    · have r1 : (s.refunded == 0) = true := by rw [beq_iff_eq]; exact hrf
      clear hrf
      go_wp2
      go_ret
      exact ⟨by rw [HVb.out, r1]; rfl, HB.out⟩
    · have r1 : (s.refunded == 0) = false := by rw [beq_eq_false_iff_ne]; exact hrf
      clear hrf
      go_wp2
      go_ret
      exact ⟨by rw [HVb.out, r1]; rfl, HB.out⟩

set_option maxRecDepth 100000 in
set_option maxHeartbeats 16000000 in
theorem oValid_2_1_1 (s : St) (lv : Value) (w : World) (hr : LnRow w lv s.lines) (hw : s.who.length ≤ 281474976710656) (hf : boundedB s = true) (hm : ¬ dueOf s < s.paid) (hs : s.status = 2) (hp : s.prior = 1) (g1 : (s.paid == dueOf s) = true) (g3 : decide (0 < s.paid) = false) :
    Calls Tryd.prog 8 #[stV s lv] w fun e w' => e = .returned (.bool (validB s)) ∧ Below w.heap.size w w' := by
  have HVb := Lib.hid (show validB s = (noneB s.lines && !false && s.refunded == 0) by
    have h1 : validB s = standB s 1 := by unfold validB; rw [hf, decide_eq_true (by omega), hs, hp]; rfl
    have h2 : (s.paid == dueOf s && decide (0 < s.paid)) = false := by rw [g1, g3]; rfl
    rw [h1]; unfold standB; rw [h2]; rfl)
  have hbp := bounded_p hf
  have HBO := Lib.hid (show ∀ W : World, LnRow W lv s.lines → Calls Tryd.prog 15 #[stV s lv] W fun e w' => e = .returned (.bool true) ∧ Below W.heap.size W w' from fun W h => hf ▸ obounded s lv W h hw)
  obtain ⟨D, hD⟩ : ∃ D, D = dueOf s := ⟨_, rfl⟩
  have HDU := Lib.hid (show ∀ W : World, LnRow W lv s.lines → Calls Tryd.prog 16 #[stV s lv] W fun e w' => e = .returned (.int .i64 D) ∧ Below W.heap.size W w' from fun W h => hD ▸ odue_any s lv W h hbp.fine hbp.few hbp.tax.1 hbp.tax.2)
  have HH := Lib.hid (show StBlk (w.alloc (.cells (stCs s lv) 25)).drew w.heap.size s lv ∧ LnRow (w.alloc (.cells (stCs s lv) 25)).drew lv s.lines ∧ Below w.heap.size w (w.alloc (.cells (stCs s lv) 25)).drew from by
    have hb : Below w.heap.size w (w.alloc (.cells (stCs s lv) 25)) := (Below.refl _ _).alloc (Nat.le_refl _) _
    exact ⟨stBlk_alloc w s lv, hr.below (Below.next hb (below_drewN' _ 1)), Below.next hb (below_drewN' _ 1)⟩)
  have HSH := Lib.hid (show ∀ W : World, LnRow W lv s.lines → Calls Tryd.prog 17 #[stV s lv] W fun e w' => e = .returned (.tuple #[.bool (noneB s.lines), .bool (wholeB s.lines)]) ∧ Below W.heap.size W w' from fun W h => oshipped_any s lv W h)
  obtain ⟨nB, hnB⟩ : ∃ x, x = noneB s.lines := ⟨_, rfl⟩
  obtain ⟨wB, hwB⟩ : ∃ x, x = wholeB s.lines := ⟨_, rfl⟩
  rw [← hnB, ← hwB] at HSH
  rw [← hD] at hm g1
  rw [← hnB] at HVb
  have d1 : decide (D < s.paid) = false := decide_eq_false hm
  have hm2 : s.paid ≤ D := by omega
  have HS := Lib.hid hs
  have HP := Lib.hid hp
  obtain ⟨oa, cap, hlv, _, _, _⟩ := hr.shape
  have HLV := Lib.hid hlv
  clear hr hw hf hbp hD hm hs hp hnB hwB hlv
  go_enter Tryd.func8, Tryd.ntmps8
  go_wp2
  refine wp_region_held_drew (S := fun w' => StBlk w' w.heap.size s lv ∧ LnRow w' lv s.lines ∧ Below w.heap.size w w') (by kernel_rfl) HH.out (fun hHeld => ?_)
  refine wpAnyH_take (i := 0) (oi := ⟨_, _, _, _, _, _⟩) (v := stV s lv) rfl (by kernel_rfl) (by kernel_rfl) (by kernel_rfl) (fun _ _ _ h => h) (yieldsIf_load_mid (by kernel_rfl) 25 (.tmp 1) rfl w.heap.size 0 rfl (stCs s lv).toList _ (fun w' h j v hv => by rw [Nat.zero_add, h.1.cell]; simpa using hv) Tryd.underlying25 rfl (by rw [stInfo]; rfl)) (by assumption) ?_
  simp only [pA, pB, pC, pD]
  refine wpAnyH_ready (rs := [1]) (by kernel_rfl) (by simp) ?_
  refine AllReadyH.cons rfl (fun K hK => ?_) AllReadyH.nil
  go_simp
  go_at_call 15
  obtain ⟨hSt, hLn, hBe⟩ := hHeld
  refine (HBO.out _ hLn).mono ?_
  rintro x w1 ⟨rfl, hb⟩
  go_wp2_with fail
  refine hK.out _ _ ⟨hSt.below hb, hLn.below hb, Below.next hBe hb⟩ (fun hHeld => ?_)
  clear hK K hSt hLn hBe hb
  refine tk 2 rfl ?v_2_160 ?hy_2_160 ?r_2_160
  case hy_2_160 => intro w h; have k1 := h.1.c1; have k6 := h.1.c6; go_simp; try with_reducible rfl
  simp only [pA, pB, pC, pD]
  refine tk 3 rfl ?v_3_161 ?hy_3_161 ?r_3_161
  case hy_3_161 => intro w h; have k1 := h.1.c1; have k6 := h.1.c6; go_simp; try with_reducible rfl
  simp only [pA, pB, pC, pD]
  refine tk 4 rfl ?v_4_162 ?hy_4_162 ?r_4_162
  case hy_4_162 => intro w h; have k1 := h.1.c1; have k6 := h.1.c6; go_simp; try with_reducible rfl
  simp only [pA, pB, pC, pD]
  refine tk 5 rfl ?v_5_163 ?hy_5_163 ?r_5_163
  case hy_5_163 => intro w h; have k1 := h.1.c1; have k6 := h.1.c6; go_simp; try with_reducible rfl
  simp only [pA, pB, pC, pD]
  refine wpAnyH_take (i := 6) (oi := ⟨_, _, _, _, _, _⟩) (v := stV s lv) rfl (by kernel_rfl) (by kernel_rfl) (by kernel_rfl) (fun _ _ _ h => h) (yieldsIf_load_mid (by kernel_rfl) 25 (.tmp 1) rfl w.heap.size 0 rfl (stCs s lv).toList _ (fun w' h j v hv => by rw [Nat.zero_add, h.1.cell]; simpa using hv) Tryd.underlying25 rfl (by rw [stInfo]; rfl)) (by assumption) ?_
  simp only [pA, pB, pC, pD]
  refine wpAnyH_ready (rs := [7]) (by kernel_rfl) (by simp) ?_
  refine AllReadyH.cons rfl (fun K hK => ?_) AllReadyH.nil
  go_simp
  go_at_call 16
  obtain ⟨hSt, hLn, hBe⟩ := hHeld
  refine (HDU.out _ hLn).mono ?_
  rintro x w2 ⟨rfl, hb⟩
  go_wp2_with fail
  refine hK.out _ _ ⟨hSt.below hb, hLn.below hb, Below.next hBe hb⟩ (fun hHeld => ?_)
  clear hK K hSt hLn hBe hb
  refine tk 8 rfl ?v_8_164 ?hy_8_164 ?r_8_164
  case hy_8_164 => intro w h; have k1 := h.1.c1; have k6 := h.1.c6; go_simp; try with_reducible rfl
  simp only [pA, pB, pC, pD]
  refine tk 9 rfl ?v_9_165 ?hy_9_165 ?r_9_165
  case hy_9_165 => intro w h; have k1 := h.1.c1; have k6 := h.1.c6; go_simp; try with_reducible rfl
  simp only [pA, pB, pC, pD]
  refine wpAnyH_done (by kernel_rfl) ?_ _
  have c1 : w2.cell? ⟨w.heap.size, 1, none⟩ = some (.int .i64 2) := by rw [hHeld.1.cell 1, stCs, HS.out]; rfl
  have c2 : w2.cell? ⟨w.heap.size, 2, none⟩ = some (.int .i64 1) := by rw [hHeld.1.cell 2, stCs, HP.out]; rfl
  have HE := Lib.hid hHeld
  clear hHeld HBO HH
  go_wp2_with (first
    | (with_reducible refine wpList_load_st rfl (.tmp 1) rfl w.heap.size s lv rfl HE.out.1 ?_)
    | (go_at_call 17; refine (HSH.out _ HE.out.2.1).mono ?_; rintro x w3 ⟨rfl, hb⟩; have HE3 := Lib.hid (show StBlk w3 w.heap.size s lv ∧ LnRow w3 lv s.lines ∧ Below w.heap.size w w3 from ⟨HE.out.1.below hb, HE.out.2.1.below hb, Below.next HE.out.2.2 hb⟩); clear hb))
  clear c1 c2 HE HSH
  refine wp_region_held_drew (S := fun w' => StBlk w' w.heap.size s lv ∧ LnRow w' lv s.lines ∧ Below w.heap.size w w') (by kernel_rfl) ⟨HE3.out.1, HE3.out.2.1, Below.next HE3.out.2.2 (below_drewN' _ 1)⟩ (fun hHeld => ?_)
  refine tk 0 rfl ?v_0_166 ?hy_0_166 ?r_0_166
  case hy_0_166 => intro w h; have k1 := h.1.c1; have k6 := h.1.c6; go_simp; try with_reducible rfl
  simp only [pA, pB, pC, pD]
  refine tk 1 rfl ?v_1_167 ?hy_1_167 ?r_1_167
  case hy_1_167 => intro w h; have k1 := h.1.c1; have k6 := h.1.c6; go_simp; try with_reducible rfl
  simp only [pA, pB, pC, pD]
  refine wpAnyH_take (i := 2) (oi := ⟨_, _, _, _, _, _⟩) (v := stV s lv) rfl (by kernel_rfl) (by kernel_rfl) (by kernel_rfl) (fun _ _ _ h => h) (yieldsIf_load_mid (by kernel_rfl) 25 (.tmp 1) rfl w.heap.size 0 rfl (stCs s lv).toList _ (fun w' h j v hv => by rw [Nat.zero_add, h.1.cell]; simpa using hv) Tryd.underlying25 rfl (by rw [stInfo]; rfl)) (by assumption) ?_
  simp only [pA, pB, pC, pD]
  refine wpAnyH_ready (rs := [3]) (by kernel_rfl) (by simp) ?_
  refine AllReadyH.cons rfl (fun K hK => ?_) AllReadyH.nil
  go_simp
  go_at_call 16
  obtain ⟨hSt, hLn, hBe⟩ := hHeld
  refine (HDU.out _ hLn).mono ?_
  rintro x w4 ⟨rfl, hb⟩
  go_wp2_with fail
  refine hK.out _ _ ⟨hSt.below hb, hLn.below hb, Below.next hBe hb⟩ (fun hHeld => ?_)
  clear hK K hSt hLn hBe hb
  refine tk 4 rfl ?v_4_168 ?hy_4_168 ?r_4_168
  case hy_4_168 => intro w h; have k1 := h.1.c1; have k6 := h.1.c6; go_simp; try with_reducible rfl
  simp only [pA, pB, pC, pD]
  refine tk 5 rfl ?v_5_169 ?hy_5_169 ?r_5_169
  case hy_5_169 => intro w h; have k1 := h.1.c1; have k6 := h.1.c6; go_simp; try with_reducible rfl
  simp only [pA, pB, pC, pD]
  refine tk 6 rfl ?v_6_170 ?hy_6_170 ?r_6_170
  case hy_6_170 => intro w h; have k1 := h.1.c1; have k6 := h.1.c6; go_simp; try with_reducible rfl
  simp only [pA, pB, pC, pD]
  refine tk 7 rfl ?v_7_171 ?hy_7_171 ?r_7_171
  case hy_7_171 => intro w h; have k1 := h.1.c1; have k6 := h.1.c6; go_simp; try with_reducible rfl
  simp only [pA, pB, pC, pD]
  refine tk 8 rfl ?v_8_172 ?hy_8_172 ?r_8_172
  case hy_8_172 => intro w h; have k1 := h.1.c1; have k6 := h.1.c6; go_simp; try with_reducible rfl
  simp only [pA, pB, pC, pD]
  refine tk 9 rfl ?v_9_173 ?hy_9_173 ?r_9_173
  case hy_9_173 => intro w h; have k1 := h.1.c1; have k6 := h.1.c6; go_simp; try with_reducible rfl
  simp only [pA, pB, pC, pD]
  refine tk 10 rfl ?v_10_174 ?hy_10_174 ?r_10_174
  case hy_10_174 => intro w h; have k1 := h.1.c1; have k6 := h.1.c6; go_simp; try with_reducible rfl
  simp only [pA, pB, pC, pD]
  refine wpAnyH_done (by kernel_rfl) ?_ _
  have HB := Lib.hid hHeld.2.2
  have d3 : w4.cell? ⟨w.heap.size, 3, none⟩ = some (.int .i64 s.cur) := hHeld.1.cell 3
  have d4 : w4.cell? ⟨w.heap.size, 4, none⟩ = some (.int .i64 s.tax) := hHeld.1.cell 4
  have d5 : w4.cell? ⟨w.heap.size, 5, none⟩ = some (.slice oa s.lines.length cap) := by rw [hHeld.1.cell 5, stCs, HLV.out]; rfl
  have d7 : w4.cell? ⟨w.heap.size, 7, none⟩ = some (.int .i64 s.refunded) := hHeld.1.cell 7
  have d8 : w4.cell? ⟨w.heap.size, 8, none⟩ = some (.int .i64 s.events) := hHeld.1.cell 8
  have d9 : w4.cell? ⟨w.heap.size, 9, none⟩ = some (.int .i64 s.refused) := hHeld.1.cell 9
  have d10 : w4.cell? ⟨w.heap.size, 10, none⟩ = some (.int .i64 s.stamp) := hHeld.1.cell 10
  have d11 : w4.cell? ⟨w.heap.size, 11, none⟩ = some (.string ⟨s.who.toArray⟩) := hHeld.1.cell 11
  clear hHeld HE3 HDU
  cases nB
  · skip
    go_wp2
    go_ret
    exact ⟨by rw [HVb.out]; rfl, HB.out⟩
  · by_cases hrf : s.refunded = 0
    · have r1 : (s.refunded == 0) = true := by rw [beq_iff_eq]; exact hrf
      clear hrf
      go_wp2
      go_ret
      exact ⟨by rw [HVb.out, r1]; rfl, HB.out⟩
    · have r1 : (s.refunded == 0) = false := by rw [beq_eq_false_iff_ne]; exact hrf
      clear hrf
      go_wp2
      go_ret
      exact ⟨by rw [HVb.out, r1]; rfl, HB.out⟩

set_option maxRecDepth 100000 in
set_option maxHeartbeats 16000000 in
theorem oValid_2_1_2 (s : St) (lv : Value) (w : World) (hr : LnRow w lv s.lines) (hw : s.who.length ≤ 281474976710656) (hf : boundedB s = true) (hm : ¬ dueOf s < s.paid) (hs : s.status = 2) (hp : s.prior = 1) (g1 : (s.paid == dueOf s) = true) (g3 : decide (0 < s.paid) = true) :
    Calls Tryd.prog 8 #[stV s lv] w fun e w' => e = .returned (.bool (validB s)) ∧ Below w.heap.size w w' := by
  have HVb := Lib.hid (show validB s = (noneB s.lines && !true && s.refunded == 0) by
    have h1 : validB s = standB s 1 := by unfold validB; rw [hf, decide_eq_true (by omega), hs, hp]; rfl
    have h2 : (s.paid == dueOf s && decide (0 < s.paid)) = true := by rw [g1, g3]; rfl
    rw [h1]; unfold standB; rw [h2]; rfl)
  have hbp := bounded_p hf
  have HBO := Lib.hid (show ∀ W : World, LnRow W lv s.lines → Calls Tryd.prog 15 #[stV s lv] W fun e w' => e = .returned (.bool true) ∧ Below W.heap.size W w' from fun W h => hf ▸ obounded s lv W h hw)
  obtain ⟨D, hD⟩ : ∃ D, D = dueOf s := ⟨_, rfl⟩
  have HDU := Lib.hid (show ∀ W : World, LnRow W lv s.lines → Calls Tryd.prog 16 #[stV s lv] W fun e w' => e = .returned (.int .i64 D) ∧ Below W.heap.size W w' from fun W h => hD ▸ odue_any s lv W h hbp.fine hbp.few hbp.tax.1 hbp.tax.2)
  have HH := Lib.hid (show StBlk (w.alloc (.cells (stCs s lv) 25)).drew w.heap.size s lv ∧ LnRow (w.alloc (.cells (stCs s lv) 25)).drew lv s.lines ∧ Below w.heap.size w (w.alloc (.cells (stCs s lv) 25)).drew from by
    have hb : Below w.heap.size w (w.alloc (.cells (stCs s lv) 25)) := (Below.refl _ _).alloc (Nat.le_refl _) _
    exact ⟨stBlk_alloc w s lv, hr.below (Below.next hb (below_drewN' _ 1)), Below.next hb (below_drewN' _ 1)⟩)
  have HSH := Lib.hid (show ∀ W : World, LnRow W lv s.lines → Calls Tryd.prog 17 #[stV s lv] W fun e w' => e = .returned (.tuple #[.bool (noneB s.lines), .bool (wholeB s.lines)]) ∧ Below W.heap.size W w' from fun W h => oshipped_any s lv W h)
  obtain ⟨nB, hnB⟩ : ∃ x, x = noneB s.lines := ⟨_, rfl⟩
  obtain ⟨wB, hwB⟩ : ∃ x, x = wholeB s.lines := ⟨_, rfl⟩
  rw [← hnB, ← hwB] at HSH
  rw [← hD] at hm g1
  rw [← hnB] at HVb
  have d1 : decide (D < s.paid) = false := decide_eq_false hm
  have hm2 : s.paid ≤ D := by omega
  have HS := Lib.hid hs
  have HP := Lib.hid hp
  obtain ⟨oa, cap, hlv, _, _, _⟩ := hr.shape
  have HLV := Lib.hid hlv
  clear hr hw hf hbp hD hm hs hp hnB hwB hlv
  go_enter Tryd.func8, Tryd.ntmps8
  go_wp2
  refine wp_region_held_drew (S := fun w' => StBlk w' w.heap.size s lv ∧ LnRow w' lv s.lines ∧ Below w.heap.size w w') (by kernel_rfl) HH.out (fun hHeld => ?_)
  refine wpAnyH_take (i := 0) (oi := ⟨_, _, _, _, _, _⟩) (v := stV s lv) rfl (by kernel_rfl) (by kernel_rfl) (by kernel_rfl) (fun _ _ _ h => h) (yieldsIf_load_mid (by kernel_rfl) 25 (.tmp 1) rfl w.heap.size 0 rfl (stCs s lv).toList _ (fun w' h j v hv => by rw [Nat.zero_add, h.1.cell]; simpa using hv) Tryd.underlying25 rfl (by rw [stInfo]; rfl)) (by assumption) ?_
  simp only [pA, pB, pC, pD]
  refine wpAnyH_ready (rs := [1]) (by kernel_rfl) (by simp) ?_
  refine AllReadyH.cons rfl (fun K hK => ?_) AllReadyH.nil
  go_simp
  go_at_call 15
  obtain ⟨hSt, hLn, hBe⟩ := hHeld
  refine (HBO.out _ hLn).mono ?_
  rintro x w1 ⟨rfl, hb⟩
  go_wp2_with fail
  refine hK.out _ _ ⟨hSt.below hb, hLn.below hb, Below.next hBe hb⟩ (fun hHeld => ?_)
  clear hK K hSt hLn hBe hb
  refine tk 2 rfl ?v_2_175 ?hy_2_175 ?r_2_175
  case hy_2_175 => intro w h; have k1 := h.1.c1; have k6 := h.1.c6; go_simp; try with_reducible rfl
  simp only [pA, pB, pC, pD]
  refine tk 3 rfl ?v_3_176 ?hy_3_176 ?r_3_176
  case hy_3_176 => intro w h; have k1 := h.1.c1; have k6 := h.1.c6; go_simp; try with_reducible rfl
  simp only [pA, pB, pC, pD]
  refine tk 4 rfl ?v_4_177 ?hy_4_177 ?r_4_177
  case hy_4_177 => intro w h; have k1 := h.1.c1; have k6 := h.1.c6; go_simp; try with_reducible rfl
  simp only [pA, pB, pC, pD]
  refine tk 5 rfl ?v_5_178 ?hy_5_178 ?r_5_178
  case hy_5_178 => intro w h; have k1 := h.1.c1; have k6 := h.1.c6; go_simp; try with_reducible rfl
  simp only [pA, pB, pC, pD]
  refine wpAnyH_take (i := 6) (oi := ⟨_, _, _, _, _, _⟩) (v := stV s lv) rfl (by kernel_rfl) (by kernel_rfl) (by kernel_rfl) (fun _ _ _ h => h) (yieldsIf_load_mid (by kernel_rfl) 25 (.tmp 1) rfl w.heap.size 0 rfl (stCs s lv).toList _ (fun w' h j v hv => by rw [Nat.zero_add, h.1.cell]; simpa using hv) Tryd.underlying25 rfl (by rw [stInfo]; rfl)) (by assumption) ?_
  simp only [pA, pB, pC, pD]
  refine wpAnyH_ready (rs := [7]) (by kernel_rfl) (by simp) ?_
  refine AllReadyH.cons rfl (fun K hK => ?_) AllReadyH.nil
  go_simp
  go_at_call 16
  obtain ⟨hSt, hLn, hBe⟩ := hHeld
  refine (HDU.out _ hLn).mono ?_
  rintro x w2 ⟨rfl, hb⟩
  go_wp2_with fail
  refine hK.out _ _ ⟨hSt.below hb, hLn.below hb, Below.next hBe hb⟩ (fun hHeld => ?_)
  clear hK K hSt hLn hBe hb
  refine tk 8 rfl ?v_8_179 ?hy_8_179 ?r_8_179
  case hy_8_179 => intro w h; have k1 := h.1.c1; have k6 := h.1.c6; go_simp; try with_reducible rfl
  simp only [pA, pB, pC, pD]
  refine tk 9 rfl ?v_9_180 ?hy_9_180 ?r_9_180
  case hy_9_180 => intro w h; have k1 := h.1.c1; have k6 := h.1.c6; go_simp; try with_reducible rfl
  simp only [pA, pB, pC, pD]
  refine wpAnyH_done (by kernel_rfl) ?_ _
  have c1 : w2.cell? ⟨w.heap.size, 1, none⟩ = some (.int .i64 2) := by rw [hHeld.1.cell 1, stCs, HS.out]; rfl
  have c2 : w2.cell? ⟨w.heap.size, 2, none⟩ = some (.int .i64 1) := by rw [hHeld.1.cell 2, stCs, HP.out]; rfl
  have HE := Lib.hid hHeld
  clear hHeld HBO HH
  go_wp2_with (first
    | (with_reducible refine wpList_load_st rfl (.tmp 1) rfl w.heap.size s lv rfl HE.out.1 ?_)
    | (go_at_call 17; refine (HSH.out _ HE.out.2.1).mono ?_; rintro x w3 ⟨rfl, hb⟩; have HE3 := Lib.hid (show StBlk w3 w.heap.size s lv ∧ LnRow w3 lv s.lines ∧ Below w.heap.size w w3 from ⟨HE.out.1.below hb, HE.out.2.1.below hb, Below.next HE.out.2.2 hb⟩); clear hb))
  clear c1 c2 HE HSH
  refine wp_region_held_drew (S := fun w' => StBlk w' w.heap.size s lv ∧ LnRow w' lv s.lines ∧ Below w.heap.size w w') (by kernel_rfl) ⟨HE3.out.1, HE3.out.2.1, Below.next HE3.out.2.2 (below_drewN' _ 1)⟩ (fun hHeld => ?_)
  refine tk 0 rfl ?v_0_181 ?hy_0_181 ?r_0_181
  case hy_0_181 => intro w h; have k1 := h.1.c1; have k6 := h.1.c6; go_simp; try with_reducible rfl
  simp only [pA, pB, pC, pD]
  refine tk 1 rfl ?v_1_182 ?hy_1_182 ?r_1_182
  case hy_1_182 => intro w h; have k1 := h.1.c1; have k6 := h.1.c6; go_simp; try with_reducible rfl
  simp only [pA, pB, pC, pD]
  refine wpAnyH_take (i := 2) (oi := ⟨_, _, _, _, _, _⟩) (v := stV s lv) rfl (by kernel_rfl) (by kernel_rfl) (by kernel_rfl) (fun _ _ _ h => h) (yieldsIf_load_mid (by kernel_rfl) 25 (.tmp 1) rfl w.heap.size 0 rfl (stCs s lv).toList _ (fun w' h j v hv => by rw [Nat.zero_add, h.1.cell]; simpa using hv) Tryd.underlying25 rfl (by rw [stInfo]; rfl)) (by assumption) ?_
  simp only [pA, pB, pC, pD]
  refine wpAnyH_ready (rs := [3]) (by kernel_rfl) (by simp) ?_
  refine AllReadyH.cons rfl (fun K hK => ?_) AllReadyH.nil
  go_simp
  go_at_call 16
  obtain ⟨hSt, hLn, hBe⟩ := hHeld
  refine (HDU.out _ hLn).mono ?_
  rintro x w4 ⟨rfl, hb⟩
  go_wp2_with fail
  refine hK.out _ _ ⟨hSt.below hb, hLn.below hb, Below.next hBe hb⟩ (fun hHeld => ?_)
  clear hK K hSt hLn hBe hb
  refine tk 4 rfl ?v_4_183 ?hy_4_183 ?r_4_183
  case hy_4_183 => intro w h; have k1 := h.1.c1; have k6 := h.1.c6; go_simp; try with_reducible rfl
  simp only [pA, pB, pC, pD]
  refine tk 5 rfl ?v_5_184 ?hy_5_184 ?r_5_184
  case hy_5_184 => intro w h; have k1 := h.1.c1; have k6 := h.1.c6; go_simp; try with_reducible rfl
  simp only [pA, pB, pC, pD]
  refine tk 6 rfl ?v_6_185 ?hy_6_185 ?r_6_185
  case hy_6_185 => intro w h; have k1 := h.1.c1; have k6 := h.1.c6; go_simp; try with_reducible rfl
  simp only [pA, pB, pC, pD]
  refine tk 7 rfl ?v_7_186 ?hy_7_186 ?r_7_186
  case hy_7_186 => intro w h; have k1 := h.1.c1; have k6 := h.1.c6; go_simp; try with_reducible rfl
  simp only [pA, pB, pC, pD]
  refine tk 8 rfl ?v_8_187 ?hy_8_187 ?r_8_187
  case hy_8_187 => intro w h; have k1 := h.1.c1; have k6 := h.1.c6; go_simp; try with_reducible rfl
  simp only [pA, pB, pC, pD]
  refine tk 9 rfl ?v_9_188 ?hy_9_188 ?r_9_188
  case hy_9_188 => intro w h; have k1 := h.1.c1; have k6 := h.1.c6; go_simp; try with_reducible rfl
  simp only [pA, pB, pC, pD]
  refine tk 10 rfl ?v_10_189 ?hy_10_189 ?r_10_189
  case hy_10_189 => intro w h; have k1 := h.1.c1; have k6 := h.1.c6; go_simp; try with_reducible rfl
  simp only [pA, pB, pC, pD]
  refine wpAnyH_done (by kernel_rfl) ?_ _
  have HB := Lib.hid hHeld.2.2
  have d3 : w4.cell? ⟨w.heap.size, 3, none⟩ = some (.int .i64 s.cur) := hHeld.1.cell 3
  have d4 : w4.cell? ⟨w.heap.size, 4, none⟩ = some (.int .i64 s.tax) := hHeld.1.cell 4
  have d5 : w4.cell? ⟨w.heap.size, 5, none⟩ = some (.slice oa s.lines.length cap) := by rw [hHeld.1.cell 5, stCs, HLV.out]; rfl
  have d7 : w4.cell? ⟨w.heap.size, 7, none⟩ = some (.int .i64 s.refunded) := hHeld.1.cell 7
  have d8 : w4.cell? ⟨w.heap.size, 8, none⟩ = some (.int .i64 s.events) := hHeld.1.cell 8
  have d9 : w4.cell? ⟨w.heap.size, 9, none⟩ = some (.int .i64 s.refused) := hHeld.1.cell 9
  have d10 : w4.cell? ⟨w.heap.size, 10, none⟩ = some (.int .i64 s.stamp) := hHeld.1.cell 10
  have d11 : w4.cell? ⟨w.heap.size, 11, none⟩ = some (.string ⟨s.who.toArray⟩) := hHeld.1.cell 11
  clear hHeld HE3 HDU
  cases nB
  · skip
    go_wp2
    go_ret
    exact ⟨by rw [HVb.out]; rfl, HB.out⟩
  · skip
    go_wp2
    go_ret
    exact ⟨by rw [HVb.out]; rfl, HB.out⟩

set_option maxRecDepth 100000 in
set_option maxHeartbeats 16000000 in
theorem oValid_1_0_0 (s : St) (lv : Value) (w : World) (hr : LnRow w lv s.lines) (hw : s.who.length ≤ 281474976710656) (hf : boundedB s = true) (hm : ¬ dueOf s < s.paid) (hs : s.status = 1) (hp : s.prior = 0) (g1 : (s.paid == dueOf s) = false) :
    Calls Tryd.prog 8 #[stV s lv] w fun e w' => e = .returned (.bool (validB s)) ∧ Below w.heap.size w w' := by
  have HVb := Lib.hid (show validB s = (noneB s.lines && !false && s.refunded == 0) by
    have h1 : validB s = standB s 1 := by unfold validB; rw [hf, decide_eq_true (by omega), hs, hp]; rfl
    have h2 : (s.paid == dueOf s && decide (0 < s.paid)) = false := by rw [g1]; rfl
    rw [h1]; unfold standB; rw [h2]; rfl)
  have hbp := bounded_p hf
  have HBO := Lib.hid (show ∀ W : World, LnRow W lv s.lines → Calls Tryd.prog 15 #[stV s lv] W fun e w' => e = .returned (.bool true) ∧ Below W.heap.size W w' from fun W h => hf ▸ obounded s lv W h hw)
  obtain ⟨D, hD⟩ : ∃ D, D = dueOf s := ⟨_, rfl⟩
  have HDU := Lib.hid (show ∀ W : World, LnRow W lv s.lines → Calls Tryd.prog 16 #[stV s lv] W fun e w' => e = .returned (.int .i64 D) ∧ Below W.heap.size W w' from fun W h => hD ▸ odue_any s lv W h hbp.fine hbp.few hbp.tax.1 hbp.tax.2)
  have HH := Lib.hid (show StBlk (w.alloc (.cells (stCs s lv) 25)).drew w.heap.size s lv ∧ LnRow (w.alloc (.cells (stCs s lv) 25)).drew lv s.lines ∧ Below w.heap.size w (w.alloc (.cells (stCs s lv) 25)).drew from by
    have hb : Below w.heap.size w (w.alloc (.cells (stCs s lv) 25)) := (Below.refl _ _).alloc (Nat.le_refl _) _
    exact ⟨stBlk_alloc w s lv, hr.below (Below.next hb (below_drewN' _ 1)), Below.next hb (below_drewN' _ 1)⟩)
  have HSH := Lib.hid (show ∀ W : World, LnRow W lv s.lines → Calls Tryd.prog 17 #[stV s lv] W fun e w' => e = .returned (.tuple #[.bool (noneB s.lines), .bool (wholeB s.lines)]) ∧ Below W.heap.size W w' from fun W h => oshipped_any s lv W h)
  obtain ⟨nB, hnB⟩ : ∃ x, x = noneB s.lines := ⟨_, rfl⟩
  obtain ⟨wB, hwB⟩ : ∃ x, x = wholeB s.lines := ⟨_, rfl⟩
  rw [← hnB, ← hwB] at HSH
  rw [← hD] at hm g1
  rw [← hnB] at HVb
  have d1 : decide (D < s.paid) = false := decide_eq_false hm
  have hm2 : s.paid ≤ D := by omega
  have HS := Lib.hid hs
  have HP := Lib.hid hp
  obtain ⟨oa, cap, hlv, _, _, _⟩ := hr.shape
  have HLV := Lib.hid hlv
  clear hr hw hf hbp hD hm hs hp hnB hwB hlv
  go_enter Tryd.func8, Tryd.ntmps8
  go_wp2
  refine wp_region_held_drew (S := fun w' => StBlk w' w.heap.size s lv ∧ LnRow w' lv s.lines ∧ Below w.heap.size w w') (by kernel_rfl) HH.out (fun hHeld => ?_)
  refine wpAnyH_take (i := 0) (oi := ⟨_, _, _, _, _, _⟩) (v := stV s lv) rfl (by kernel_rfl) (by kernel_rfl) (by kernel_rfl) (fun _ _ _ h => h) (yieldsIf_load_mid (by kernel_rfl) 25 (.tmp 1) rfl w.heap.size 0 rfl (stCs s lv).toList _ (fun w' h j v hv => by rw [Nat.zero_add, h.1.cell]; simpa using hv) Tryd.underlying25 rfl (by rw [stInfo]; rfl)) (by assumption) ?_
  simp only [pA, pB, pC, pD]
  refine wpAnyH_ready (rs := [1]) (by kernel_rfl) (by simp) ?_
  refine AllReadyH.cons rfl (fun K hK => ?_) AllReadyH.nil
  go_simp
  go_at_call 15
  obtain ⟨hSt, hLn, hBe⟩ := hHeld
  refine (HBO.out _ hLn).mono ?_
  rintro x w1 ⟨rfl, hb⟩
  go_wp2_with fail
  refine hK.out _ _ ⟨hSt.below hb, hLn.below hb, Below.next hBe hb⟩ (fun hHeld => ?_)
  clear hK K hSt hLn hBe hb
  refine tk 2 rfl ?v_2_190 ?hy_2_190 ?r_2_190
  case hy_2_190 => intro w h; have k1 := h.1.c1; have k6 := h.1.c6; go_simp; try with_reducible rfl
  simp only [pA, pB, pC, pD]
  refine tk 3 rfl ?v_3_191 ?hy_3_191 ?r_3_191
  case hy_3_191 => intro w h; have k1 := h.1.c1; have k6 := h.1.c6; go_simp; try with_reducible rfl
  simp only [pA, pB, pC, pD]
  refine tk 4 rfl ?v_4_192 ?hy_4_192 ?r_4_192
  case hy_4_192 => intro w h; have k1 := h.1.c1; have k6 := h.1.c6; go_simp; try with_reducible rfl
  simp only [pA, pB, pC, pD]
  refine tk 5 rfl ?v_5_193 ?hy_5_193 ?r_5_193
  case hy_5_193 => intro w h; have k1 := h.1.c1; have k6 := h.1.c6; go_simp; try with_reducible rfl
  simp only [pA, pB, pC, pD]
  refine wpAnyH_take (i := 6) (oi := ⟨_, _, _, _, _, _⟩) (v := stV s lv) rfl (by kernel_rfl) (by kernel_rfl) (by kernel_rfl) (fun _ _ _ h => h) (yieldsIf_load_mid (by kernel_rfl) 25 (.tmp 1) rfl w.heap.size 0 rfl (stCs s lv).toList _ (fun w' h j v hv => by rw [Nat.zero_add, h.1.cell]; simpa using hv) Tryd.underlying25 rfl (by rw [stInfo]; rfl)) (by assumption) ?_
  simp only [pA, pB, pC, pD]
  refine wpAnyH_ready (rs := [7]) (by kernel_rfl) (by simp) ?_
  refine AllReadyH.cons rfl (fun K hK => ?_) AllReadyH.nil
  go_simp
  go_at_call 16
  obtain ⟨hSt, hLn, hBe⟩ := hHeld
  refine (HDU.out _ hLn).mono ?_
  rintro x w2 ⟨rfl, hb⟩
  go_wp2_with fail
  refine hK.out _ _ ⟨hSt.below hb, hLn.below hb, Below.next hBe hb⟩ (fun hHeld => ?_)
  clear hK K hSt hLn hBe hb
  refine tk 8 rfl ?v_8_194 ?hy_8_194 ?r_8_194
  case hy_8_194 => intro w h; have k1 := h.1.c1; have k6 := h.1.c6; go_simp; try with_reducible rfl
  simp only [pA, pB, pC, pD]
  refine tk 9 rfl ?v_9_195 ?hy_9_195 ?r_9_195
  case hy_9_195 => intro w h; have k1 := h.1.c1; have k6 := h.1.c6; go_simp; try with_reducible rfl
  simp only [pA, pB, pC, pD]
  refine wpAnyH_done (by kernel_rfl) ?_ _
  have c1 : w2.cell? ⟨w.heap.size, 1, none⟩ = some (.int .i64 1) := by rw [hHeld.1.cell 1, stCs, HS.out]; rfl
  have c2 : w2.cell? ⟨w.heap.size, 2, none⟩ = some (.int .i64 0) := by rw [hHeld.1.cell 2, stCs, HP.out]; rfl
  have HE := Lib.hid hHeld
  clear hHeld HBO HH
  go_wp2_with (first
    | (with_reducible refine wpList_load_st rfl (.tmp 1) rfl w.heap.size s lv rfl HE.out.1 ?_)
    | (go_at_call 17; refine (HSH.out _ HE.out.2.1).mono ?_; rintro x w3 ⟨rfl, hb⟩; have HE3 := Lib.hid (show StBlk w3 w.heap.size s lv ∧ LnRow w3 lv s.lines ∧ Below w.heap.size w w3 from ⟨HE.out.1.below hb, HE.out.2.1.below hb, Below.next HE.out.2.2 hb⟩); clear hb))
  clear c1 c2 HE HSH
  refine wp_region_held_drew (S := fun w' => StBlk w' w.heap.size s lv ∧ LnRow w' lv s.lines ∧ Below w.heap.size w w') (by kernel_rfl) ⟨HE3.out.1, HE3.out.2.1, Below.next HE3.out.2.2 (below_drewN' _ 1)⟩ (fun hHeld => ?_)
  refine tk 0 rfl ?v_0_196 ?hy_0_196 ?r_0_196
  case hy_0_196 => intro w h; have k1 := h.1.c1; have k6 := h.1.c6; go_simp; try with_reducible rfl
  simp only [pA, pB, pC, pD]
  refine tk 1 rfl ?v_1_197 ?hy_1_197 ?r_1_197
  case hy_1_197 => intro w h; have k1 := h.1.c1; have k6 := h.1.c6; go_simp; try with_reducible rfl
  simp only [pA, pB, pC, pD]
  refine wpAnyH_take (i := 2) (oi := ⟨_, _, _, _, _, _⟩) (v := stV s lv) rfl (by kernel_rfl) (by kernel_rfl) (by kernel_rfl) (fun _ _ _ h => h) (yieldsIf_load_mid (by kernel_rfl) 25 (.tmp 1) rfl w.heap.size 0 rfl (stCs s lv).toList _ (fun w' h j v hv => by rw [Nat.zero_add, h.1.cell]; simpa using hv) Tryd.underlying25 rfl (by rw [stInfo]; rfl)) (by assumption) ?_
  simp only [pA, pB, pC, pD]
  refine wpAnyH_ready (rs := [3]) (by kernel_rfl) (by simp) ?_
  refine AllReadyH.cons rfl (fun K hK => ?_) AllReadyH.nil
  go_simp
  go_at_call 16
  obtain ⟨hSt, hLn, hBe⟩ := hHeld
  refine (HDU.out _ hLn).mono ?_
  rintro x w4 ⟨rfl, hb⟩
  go_wp2_with fail
  refine hK.out _ _ ⟨hSt.below hb, hLn.below hb, Below.next hBe hb⟩ (fun hHeld => ?_)
  clear hK K hSt hLn hBe hb
  refine tk 4 rfl ?v_4_198 ?hy_4_198 ?r_4_198
  case hy_4_198 => intro w h; have k1 := h.1.c1; have k6 := h.1.c6; go_simp; try with_reducible rfl
  simp only [pA, pB, pC, pD]
  refine tk 5 rfl ?v_5_199 ?hy_5_199 ?r_5_199
  case hy_5_199 => intro w h; have k1 := h.1.c1; have k6 := h.1.c6; go_simp; try with_reducible rfl
  simp only [pA, pB, pC, pD]
  refine tkn 6 rfl ?_
  simp only [pA, pB, pC, pD]
  refine tkn 7 rfl ?_
  simp only [pA, pB, pC, pD]
  refine tkn 8 rfl ?_
  simp only [pA, pB, pC, pD]
  refine tk 9 rfl ?v_9_200 ?hy_9_200 ?r_9_200
  case hy_9_200 => intro w h; have k1 := h.1.c1; have k6 := h.1.c6; go_simp; try with_reducible rfl
  simp only [pA, pB, pC, pD]
  refine tk 10 rfl ?v_10_201 ?hy_10_201 ?r_10_201
  case hy_10_201 => intro w h; have k1 := h.1.c1; have k6 := h.1.c6; go_simp; try with_reducible rfl
  simp only [pA, pB, pC, pD]
  refine wpAnyH_done (by kernel_rfl) ?_ _
  have HB := Lib.hid hHeld.2.2
  have d3 : w4.cell? ⟨w.heap.size, 3, none⟩ = some (.int .i64 s.cur) := hHeld.1.cell 3
  have d4 : w4.cell? ⟨w.heap.size, 4, none⟩ = some (.int .i64 s.tax) := hHeld.1.cell 4
  have d5 : w4.cell? ⟨w.heap.size, 5, none⟩ = some (.slice oa s.lines.length cap) := by rw [hHeld.1.cell 5, stCs, HLV.out]; rfl
  have d7 : w4.cell? ⟨w.heap.size, 7, none⟩ = some (.int .i64 s.refunded) := hHeld.1.cell 7
  have d8 : w4.cell? ⟨w.heap.size, 8, none⟩ = some (.int .i64 s.events) := hHeld.1.cell 8
  have d9 : w4.cell? ⟨w.heap.size, 9, none⟩ = some (.int .i64 s.refused) := hHeld.1.cell 9
  have d10 : w4.cell? ⟨w.heap.size, 10, none⟩ = some (.int .i64 s.stamp) := hHeld.1.cell 10
  have d11 : w4.cell? ⟨w.heap.size, 11, none⟩ = some (.string ⟨s.who.toArray⟩) := hHeld.1.cell 11
  clear hHeld HE3 HDU
  cases nB
  · skip
    go_wp2
    go_ret
    exact ⟨by rw [HVb.out]; rfl, HB.out⟩
  · by_cases hrf : s.refunded = 0
    · have r1 : (s.refunded == 0) = true := by rw [beq_iff_eq]; exact hrf
      clear hrf
      go_wp2
      go_ret
      exact ⟨by rw [HVb.out, r1]; rfl, HB.out⟩
    · have r1 : (s.refunded == 0) = false := by rw [beq_eq_false_iff_ne]; exact hrf
      clear hrf
      go_wp2
      go_ret
      exact ⟨by rw [HVb.out, r1]; rfl, HB.out⟩

set_option maxRecDepth 100000 in
set_option maxHeartbeats 16000000 in
theorem oValid_1_0_1 (s : St) (lv : Value) (w : World) (hr : LnRow w lv s.lines) (hw : s.who.length ≤ 281474976710656) (hf : boundedB s = true) (hm : ¬ dueOf s < s.paid) (hs : s.status = 1) (hp : s.prior = 0) (g1 : (s.paid == dueOf s) = true) (g3 : decide (0 < s.paid) = false) :
    Calls Tryd.prog 8 #[stV s lv] w fun e w' => e = .returned (.bool (validB s)) ∧ Below w.heap.size w w' := by
  have HVb := Lib.hid (show validB s = (noneB s.lines && !false && s.refunded == 0) by
    have h1 : validB s = standB s 1 := by unfold validB; rw [hf, decide_eq_true (by omega), hs, hp]; rfl
    have h2 : (s.paid == dueOf s && decide (0 < s.paid)) = false := by rw [g1, g3]; rfl
    rw [h1]; unfold standB; rw [h2]; rfl)
  have hbp := bounded_p hf
  have HBO := Lib.hid (show ∀ W : World, LnRow W lv s.lines → Calls Tryd.prog 15 #[stV s lv] W fun e w' => e = .returned (.bool true) ∧ Below W.heap.size W w' from fun W h => hf ▸ obounded s lv W h hw)
  obtain ⟨D, hD⟩ : ∃ D, D = dueOf s := ⟨_, rfl⟩
  have HDU := Lib.hid (show ∀ W : World, LnRow W lv s.lines → Calls Tryd.prog 16 #[stV s lv] W fun e w' => e = .returned (.int .i64 D) ∧ Below W.heap.size W w' from fun W h => hD ▸ odue_any s lv W h hbp.fine hbp.few hbp.tax.1 hbp.tax.2)
  have HH := Lib.hid (show StBlk (w.alloc (.cells (stCs s lv) 25)).drew w.heap.size s lv ∧ LnRow (w.alloc (.cells (stCs s lv) 25)).drew lv s.lines ∧ Below w.heap.size w (w.alloc (.cells (stCs s lv) 25)).drew from by
    have hb : Below w.heap.size w (w.alloc (.cells (stCs s lv) 25)) := (Below.refl _ _).alloc (Nat.le_refl _) _
    exact ⟨stBlk_alloc w s lv, hr.below (Below.next hb (below_drewN' _ 1)), Below.next hb (below_drewN' _ 1)⟩)
  have HSH := Lib.hid (show ∀ W : World, LnRow W lv s.lines → Calls Tryd.prog 17 #[stV s lv] W fun e w' => e = .returned (.tuple #[.bool (noneB s.lines), .bool (wholeB s.lines)]) ∧ Below W.heap.size W w' from fun W h => oshipped_any s lv W h)
  obtain ⟨nB, hnB⟩ : ∃ x, x = noneB s.lines := ⟨_, rfl⟩
  obtain ⟨wB, hwB⟩ : ∃ x, x = wholeB s.lines := ⟨_, rfl⟩
  rw [← hnB, ← hwB] at HSH
  rw [← hD] at hm g1
  rw [← hnB] at HVb
  have d1 : decide (D < s.paid) = false := decide_eq_false hm
  have hm2 : s.paid ≤ D := by omega
  have HS := Lib.hid hs
  have HP := Lib.hid hp
  obtain ⟨oa, cap, hlv, _, _, _⟩ := hr.shape
  have HLV := Lib.hid hlv
  clear hr hw hf hbp hD hm hs hp hnB hwB hlv
  go_enter Tryd.func8, Tryd.ntmps8
  go_wp2
  refine wp_region_held_drew (S := fun w' => StBlk w' w.heap.size s lv ∧ LnRow w' lv s.lines ∧ Below w.heap.size w w') (by kernel_rfl) HH.out (fun hHeld => ?_)
  refine wpAnyH_take (i := 0) (oi := ⟨_, _, _, _, _, _⟩) (v := stV s lv) rfl (by kernel_rfl) (by kernel_rfl) (by kernel_rfl) (fun _ _ _ h => h) (yieldsIf_load_mid (by kernel_rfl) 25 (.tmp 1) rfl w.heap.size 0 rfl (stCs s lv).toList _ (fun w' h j v hv => by rw [Nat.zero_add, h.1.cell]; simpa using hv) Tryd.underlying25 rfl (by rw [stInfo]; rfl)) (by assumption) ?_
  simp only [pA, pB, pC, pD]
  refine wpAnyH_ready (rs := [1]) (by kernel_rfl) (by simp) ?_
  refine AllReadyH.cons rfl (fun K hK => ?_) AllReadyH.nil
  go_simp
  go_at_call 15
  obtain ⟨hSt, hLn, hBe⟩ := hHeld
  refine (HBO.out _ hLn).mono ?_
  rintro x w1 ⟨rfl, hb⟩
  go_wp2_with fail
  refine hK.out _ _ ⟨hSt.below hb, hLn.below hb, Below.next hBe hb⟩ (fun hHeld => ?_)
  clear hK K hSt hLn hBe hb
  refine tk 2 rfl ?v_2_202 ?hy_2_202 ?r_2_202
  case hy_2_202 => intro w h; have k1 := h.1.c1; have k6 := h.1.c6; go_simp; try with_reducible rfl
  simp only [pA, pB, pC, pD]
  refine tk 3 rfl ?v_3_203 ?hy_3_203 ?r_3_203
  case hy_3_203 => intro w h; have k1 := h.1.c1; have k6 := h.1.c6; go_simp; try with_reducible rfl
  simp only [pA, pB, pC, pD]
  refine tk 4 rfl ?v_4_204 ?hy_4_204 ?r_4_204
  case hy_4_204 => intro w h; have k1 := h.1.c1; have k6 := h.1.c6; go_simp; try with_reducible rfl
  simp only [pA, pB, pC, pD]
  refine tk 5 rfl ?v_5_205 ?hy_5_205 ?r_5_205
  case hy_5_205 => intro w h; have k1 := h.1.c1; have k6 := h.1.c6; go_simp; try with_reducible rfl
  simp only [pA, pB, pC, pD]
  refine wpAnyH_take (i := 6) (oi := ⟨_, _, _, _, _, _⟩) (v := stV s lv) rfl (by kernel_rfl) (by kernel_rfl) (by kernel_rfl) (fun _ _ _ h => h) (yieldsIf_load_mid (by kernel_rfl) 25 (.tmp 1) rfl w.heap.size 0 rfl (stCs s lv).toList _ (fun w' h j v hv => by rw [Nat.zero_add, h.1.cell]; simpa using hv) Tryd.underlying25 rfl (by rw [stInfo]; rfl)) (by assumption) ?_
  simp only [pA, pB, pC, pD]
  refine wpAnyH_ready (rs := [7]) (by kernel_rfl) (by simp) ?_
  refine AllReadyH.cons rfl (fun K hK => ?_) AllReadyH.nil
  go_simp
  go_at_call 16
  obtain ⟨hSt, hLn, hBe⟩ := hHeld
  refine (HDU.out _ hLn).mono ?_
  rintro x w2 ⟨rfl, hb⟩
  go_wp2_with fail
  refine hK.out _ _ ⟨hSt.below hb, hLn.below hb, Below.next hBe hb⟩ (fun hHeld => ?_)
  clear hK K hSt hLn hBe hb
  refine tk 8 rfl ?v_8_206 ?hy_8_206 ?r_8_206
  case hy_8_206 => intro w h; have k1 := h.1.c1; have k6 := h.1.c6; go_simp; try with_reducible rfl
  simp only [pA, pB, pC, pD]
  refine tk 9 rfl ?v_9_207 ?hy_9_207 ?r_9_207
  case hy_9_207 => intro w h; have k1 := h.1.c1; have k6 := h.1.c6; go_simp; try with_reducible rfl
  simp only [pA, pB, pC, pD]
  refine wpAnyH_done (by kernel_rfl) ?_ _
  have c1 : w2.cell? ⟨w.heap.size, 1, none⟩ = some (.int .i64 1) := by rw [hHeld.1.cell 1, stCs, HS.out]; rfl
  have c2 : w2.cell? ⟨w.heap.size, 2, none⟩ = some (.int .i64 0) := by rw [hHeld.1.cell 2, stCs, HP.out]; rfl
  have HE := Lib.hid hHeld
  clear hHeld HBO HH
  go_wp2_with (first
    | (with_reducible refine wpList_load_st rfl (.tmp 1) rfl w.heap.size s lv rfl HE.out.1 ?_)
    | (go_at_call 17; refine (HSH.out _ HE.out.2.1).mono ?_; rintro x w3 ⟨rfl, hb⟩; have HE3 := Lib.hid (show StBlk w3 w.heap.size s lv ∧ LnRow w3 lv s.lines ∧ Below w.heap.size w w3 from ⟨HE.out.1.below hb, HE.out.2.1.below hb, Below.next HE.out.2.2 hb⟩); clear hb))
  clear c1 c2 HE HSH
  refine wp_region_held_drew (S := fun w' => StBlk w' w.heap.size s lv ∧ LnRow w' lv s.lines ∧ Below w.heap.size w w') (by kernel_rfl) ⟨HE3.out.1, HE3.out.2.1, Below.next HE3.out.2.2 (below_drewN' _ 1)⟩ (fun hHeld => ?_)
  refine tk 0 rfl ?v_0_208 ?hy_0_208 ?r_0_208
  case hy_0_208 => intro w h; have k1 := h.1.c1; have k6 := h.1.c6; go_simp; try with_reducible rfl
  simp only [pA, pB, pC, pD]
  refine tk 1 rfl ?v_1_209 ?hy_1_209 ?r_1_209
  case hy_1_209 => intro w h; have k1 := h.1.c1; have k6 := h.1.c6; go_simp; try with_reducible rfl
  simp only [pA, pB, pC, pD]
  refine wpAnyH_take (i := 2) (oi := ⟨_, _, _, _, _, _⟩) (v := stV s lv) rfl (by kernel_rfl) (by kernel_rfl) (by kernel_rfl) (fun _ _ _ h => h) (yieldsIf_load_mid (by kernel_rfl) 25 (.tmp 1) rfl w.heap.size 0 rfl (stCs s lv).toList _ (fun w' h j v hv => by rw [Nat.zero_add, h.1.cell]; simpa using hv) Tryd.underlying25 rfl (by rw [stInfo]; rfl)) (by assumption) ?_
  simp only [pA, pB, pC, pD]
  refine wpAnyH_ready (rs := [3]) (by kernel_rfl) (by simp) ?_
  refine AllReadyH.cons rfl (fun K hK => ?_) AllReadyH.nil
  go_simp
  go_at_call 16
  obtain ⟨hSt, hLn, hBe⟩ := hHeld
  refine (HDU.out _ hLn).mono ?_
  rintro x w4 ⟨rfl, hb⟩
  go_wp2_with fail
  refine hK.out _ _ ⟨hSt.below hb, hLn.below hb, Below.next hBe hb⟩ (fun hHeld => ?_)
  clear hK K hSt hLn hBe hb
  refine tk 4 rfl ?v_4_210 ?hy_4_210 ?r_4_210
  case hy_4_210 => intro w h; have k1 := h.1.c1; have k6 := h.1.c6; go_simp; try with_reducible rfl
  simp only [pA, pB, pC, pD]
  refine tk 5 rfl ?v_5_211 ?hy_5_211 ?r_5_211
  case hy_5_211 => intro w h; have k1 := h.1.c1; have k6 := h.1.c6; go_simp; try with_reducible rfl
  simp only [pA, pB, pC, pD]
  refine tk 6 rfl ?v_6_212 ?hy_6_212 ?r_6_212
  case hy_6_212 => intro w h; have k1 := h.1.c1; have k6 := h.1.c6; go_simp; try with_reducible rfl
  simp only [pA, pB, pC, pD]
  refine tk 7 rfl ?v_7_213 ?hy_7_213 ?r_7_213
  case hy_7_213 => intro w h; have k1 := h.1.c1; have k6 := h.1.c6; go_simp; try with_reducible rfl
  simp only [pA, pB, pC, pD]
  refine tk 8 rfl ?v_8_214 ?hy_8_214 ?r_8_214
  case hy_8_214 => intro w h; have k1 := h.1.c1; have k6 := h.1.c6; go_simp; try with_reducible rfl
  simp only [pA, pB, pC, pD]
  refine tk 9 rfl ?v_9_215 ?hy_9_215 ?r_9_215
  case hy_9_215 => intro w h; have k1 := h.1.c1; have k6 := h.1.c6; go_simp; try with_reducible rfl
  simp only [pA, pB, pC, pD]
  refine tk 10 rfl ?v_10_216 ?hy_10_216 ?r_10_216
  case hy_10_216 => intro w h; have k1 := h.1.c1; have k6 := h.1.c6; go_simp; try with_reducible rfl
  simp only [pA, pB, pC, pD]
  refine wpAnyH_done (by kernel_rfl) ?_ _
  have HB := Lib.hid hHeld.2.2
  have d3 : w4.cell? ⟨w.heap.size, 3, none⟩ = some (.int .i64 s.cur) := hHeld.1.cell 3
  have d4 : w4.cell? ⟨w.heap.size, 4, none⟩ = some (.int .i64 s.tax) := hHeld.1.cell 4
  have d5 : w4.cell? ⟨w.heap.size, 5, none⟩ = some (.slice oa s.lines.length cap) := by rw [hHeld.1.cell 5, stCs, HLV.out]; rfl
  have d7 : w4.cell? ⟨w.heap.size, 7, none⟩ = some (.int .i64 s.refunded) := hHeld.1.cell 7
  have d8 : w4.cell? ⟨w.heap.size, 8, none⟩ = some (.int .i64 s.events) := hHeld.1.cell 8
  have d9 : w4.cell? ⟨w.heap.size, 9, none⟩ = some (.int .i64 s.refused) := hHeld.1.cell 9
  have d10 : w4.cell? ⟨w.heap.size, 10, none⟩ = some (.int .i64 s.stamp) := hHeld.1.cell 10
  have d11 : w4.cell? ⟨w.heap.size, 11, none⟩ = some (.string ⟨s.who.toArray⟩) := hHeld.1.cell 11
  clear hHeld HE3 HDU
  cases nB
  · skip
    go_wp2
    go_ret
    exact ⟨by rw [HVb.out]; rfl, HB.out⟩
  · by_cases hrf : s.refunded = 0
    · have r1 : (s.refunded == 0) = true := by rw [beq_iff_eq]; exact hrf
      clear hrf
      go_wp2
      go_ret
      exact ⟨by rw [HVb.out, r1]; rfl, HB.out⟩
    · have r1 : (s.refunded == 0) = false := by rw [beq_eq_false_iff_ne]; exact hrf
      clear hrf
      go_wp2
      go_ret
      exact ⟨by rw [HVb.out, r1]; rfl, HB.out⟩

set_option maxRecDepth 100000 in
set_option maxHeartbeats 16000000 in
theorem oValid_1_0_2 (s : St) (lv : Value) (w : World) (hr : LnRow w lv s.lines) (hw : s.who.length ≤ 281474976710656) (hf : boundedB s = true) (hm : ¬ dueOf s < s.paid) (hs : s.status = 1) (hp : s.prior = 0) (g1 : (s.paid == dueOf s) = true) (g3 : decide (0 < s.paid) = true) :
    Calls Tryd.prog 8 #[stV s lv] w fun e w' => e = .returned (.bool (validB s)) ∧ Below w.heap.size w w' := by
  have HVb := Lib.hid (show validB s = (noneB s.lines && !true && s.refunded == 0) by
    have h1 : validB s = standB s 1 := by unfold validB; rw [hf, decide_eq_true (by omega), hs, hp]; rfl
    have h2 : (s.paid == dueOf s && decide (0 < s.paid)) = true := by rw [g1, g3]; rfl
    rw [h1]; unfold standB; rw [h2]; rfl)
  have hbp := bounded_p hf
  have HBO := Lib.hid (show ∀ W : World, LnRow W lv s.lines → Calls Tryd.prog 15 #[stV s lv] W fun e w' => e = .returned (.bool true) ∧ Below W.heap.size W w' from fun W h => hf ▸ obounded s lv W h hw)
  obtain ⟨D, hD⟩ : ∃ D, D = dueOf s := ⟨_, rfl⟩
  have HDU := Lib.hid (show ∀ W : World, LnRow W lv s.lines → Calls Tryd.prog 16 #[stV s lv] W fun e w' => e = .returned (.int .i64 D) ∧ Below W.heap.size W w' from fun W h => hD ▸ odue_any s lv W h hbp.fine hbp.few hbp.tax.1 hbp.tax.2)
  have HH := Lib.hid (show StBlk (w.alloc (.cells (stCs s lv) 25)).drew w.heap.size s lv ∧ LnRow (w.alloc (.cells (stCs s lv) 25)).drew lv s.lines ∧ Below w.heap.size w (w.alloc (.cells (stCs s lv) 25)).drew from by
    have hb : Below w.heap.size w (w.alloc (.cells (stCs s lv) 25)) := (Below.refl _ _).alloc (Nat.le_refl _) _
    exact ⟨stBlk_alloc w s lv, hr.below (Below.next hb (below_drewN' _ 1)), Below.next hb (below_drewN' _ 1)⟩)
  have HSH := Lib.hid (show ∀ W : World, LnRow W lv s.lines → Calls Tryd.prog 17 #[stV s lv] W fun e w' => e = .returned (.tuple #[.bool (noneB s.lines), .bool (wholeB s.lines)]) ∧ Below W.heap.size W w' from fun W h => oshipped_any s lv W h)
  obtain ⟨nB, hnB⟩ : ∃ x, x = noneB s.lines := ⟨_, rfl⟩
  obtain ⟨wB, hwB⟩ : ∃ x, x = wholeB s.lines := ⟨_, rfl⟩
  rw [← hnB, ← hwB] at HSH
  rw [← hD] at hm g1
  rw [← hnB] at HVb
  have d1 : decide (D < s.paid) = false := decide_eq_false hm
  have hm2 : s.paid ≤ D := by omega
  have HS := Lib.hid hs
  have HP := Lib.hid hp
  obtain ⟨oa, cap, hlv, _, _, _⟩ := hr.shape
  have HLV := Lib.hid hlv
  clear hr hw hf hbp hD hm hs hp hnB hwB hlv
  go_enter Tryd.func8, Tryd.ntmps8
  go_wp2
  refine wp_region_held_drew (S := fun w' => StBlk w' w.heap.size s lv ∧ LnRow w' lv s.lines ∧ Below w.heap.size w w') (by kernel_rfl) HH.out (fun hHeld => ?_)
  refine wpAnyH_take (i := 0) (oi := ⟨_, _, _, _, _, _⟩) (v := stV s lv) rfl (by kernel_rfl) (by kernel_rfl) (by kernel_rfl) (fun _ _ _ h => h) (yieldsIf_load_mid (by kernel_rfl) 25 (.tmp 1) rfl w.heap.size 0 rfl (stCs s lv).toList _ (fun w' h j v hv => by rw [Nat.zero_add, h.1.cell]; simpa using hv) Tryd.underlying25 rfl (by rw [stInfo]; rfl)) (by assumption) ?_
  simp only [pA, pB, pC, pD]
  refine wpAnyH_ready (rs := [1]) (by kernel_rfl) (by simp) ?_
  refine AllReadyH.cons rfl (fun K hK => ?_) AllReadyH.nil
  go_simp
  go_at_call 15
  obtain ⟨hSt, hLn, hBe⟩ := hHeld
  refine (HBO.out _ hLn).mono ?_
  rintro x w1 ⟨rfl, hb⟩
  go_wp2_with fail
  refine hK.out _ _ ⟨hSt.below hb, hLn.below hb, Below.next hBe hb⟩ (fun hHeld => ?_)
  clear hK K hSt hLn hBe hb
  refine tk 2 rfl ?v_2_217 ?hy_2_217 ?r_2_217
  case hy_2_217 => intro w h; have k1 := h.1.c1; have k6 := h.1.c6; go_simp; try with_reducible rfl
  simp only [pA, pB, pC, pD]
  refine tk 3 rfl ?v_3_218 ?hy_3_218 ?r_3_218
  case hy_3_218 => intro w h; have k1 := h.1.c1; have k6 := h.1.c6; go_simp; try with_reducible rfl
  simp only [pA, pB, pC, pD]
  refine tk 4 rfl ?v_4_219 ?hy_4_219 ?r_4_219
  case hy_4_219 => intro w h; have k1 := h.1.c1; have k6 := h.1.c6; go_simp; try with_reducible rfl
  simp only [pA, pB, pC, pD]
  refine tk 5 rfl ?v_5_220 ?hy_5_220 ?r_5_220
  case hy_5_220 => intro w h; have k1 := h.1.c1; have k6 := h.1.c6; go_simp; try with_reducible rfl
  simp only [pA, pB, pC, pD]
  refine wpAnyH_take (i := 6) (oi := ⟨_, _, _, _, _, _⟩) (v := stV s lv) rfl (by kernel_rfl) (by kernel_rfl) (by kernel_rfl) (fun _ _ _ h => h) (yieldsIf_load_mid (by kernel_rfl) 25 (.tmp 1) rfl w.heap.size 0 rfl (stCs s lv).toList _ (fun w' h j v hv => by rw [Nat.zero_add, h.1.cell]; simpa using hv) Tryd.underlying25 rfl (by rw [stInfo]; rfl)) (by assumption) ?_
  simp only [pA, pB, pC, pD]
  refine wpAnyH_ready (rs := [7]) (by kernel_rfl) (by simp) ?_
  refine AllReadyH.cons rfl (fun K hK => ?_) AllReadyH.nil
  go_simp
  go_at_call 16
  obtain ⟨hSt, hLn, hBe⟩ := hHeld
  refine (HDU.out _ hLn).mono ?_
  rintro x w2 ⟨rfl, hb⟩
  go_wp2_with fail
  refine hK.out _ _ ⟨hSt.below hb, hLn.below hb, Below.next hBe hb⟩ (fun hHeld => ?_)
  clear hK K hSt hLn hBe hb
  refine tk 8 rfl ?v_8_221 ?hy_8_221 ?r_8_221
  case hy_8_221 => intro w h; have k1 := h.1.c1; have k6 := h.1.c6; go_simp; try with_reducible rfl
  simp only [pA, pB, pC, pD]
  refine tk 9 rfl ?v_9_222 ?hy_9_222 ?r_9_222
  case hy_9_222 => intro w h; have k1 := h.1.c1; have k6 := h.1.c6; go_simp; try with_reducible rfl
  simp only [pA, pB, pC, pD]
  refine wpAnyH_done (by kernel_rfl) ?_ _
  have c1 : w2.cell? ⟨w.heap.size, 1, none⟩ = some (.int .i64 1) := by rw [hHeld.1.cell 1, stCs, HS.out]; rfl
  have c2 : w2.cell? ⟨w.heap.size, 2, none⟩ = some (.int .i64 0) := by rw [hHeld.1.cell 2, stCs, HP.out]; rfl
  have HE := Lib.hid hHeld
  clear hHeld HBO HH
  go_wp2_with (first
    | (with_reducible refine wpList_load_st rfl (.tmp 1) rfl w.heap.size s lv rfl HE.out.1 ?_)
    | (go_at_call 17; refine (HSH.out _ HE.out.2.1).mono ?_; rintro x w3 ⟨rfl, hb⟩; have HE3 := Lib.hid (show StBlk w3 w.heap.size s lv ∧ LnRow w3 lv s.lines ∧ Below w.heap.size w w3 from ⟨HE.out.1.below hb, HE.out.2.1.below hb, Below.next HE.out.2.2 hb⟩); clear hb))
  clear c1 c2 HE HSH
  refine wp_region_held_drew (S := fun w' => StBlk w' w.heap.size s lv ∧ LnRow w' lv s.lines ∧ Below w.heap.size w w') (by kernel_rfl) ⟨HE3.out.1, HE3.out.2.1, Below.next HE3.out.2.2 (below_drewN' _ 1)⟩ (fun hHeld => ?_)
  refine tk 0 rfl ?v_0_223 ?hy_0_223 ?r_0_223
  case hy_0_223 => intro w h; have k1 := h.1.c1; have k6 := h.1.c6; go_simp; try with_reducible rfl
  simp only [pA, pB, pC, pD]
  refine tk 1 rfl ?v_1_224 ?hy_1_224 ?r_1_224
  case hy_1_224 => intro w h; have k1 := h.1.c1; have k6 := h.1.c6; go_simp; try with_reducible rfl
  simp only [pA, pB, pC, pD]
  refine wpAnyH_take (i := 2) (oi := ⟨_, _, _, _, _, _⟩) (v := stV s lv) rfl (by kernel_rfl) (by kernel_rfl) (by kernel_rfl) (fun _ _ _ h => h) (yieldsIf_load_mid (by kernel_rfl) 25 (.tmp 1) rfl w.heap.size 0 rfl (stCs s lv).toList _ (fun w' h j v hv => by rw [Nat.zero_add, h.1.cell]; simpa using hv) Tryd.underlying25 rfl (by rw [stInfo]; rfl)) (by assumption) ?_
  simp only [pA, pB, pC, pD]
  refine wpAnyH_ready (rs := [3]) (by kernel_rfl) (by simp) ?_
  refine AllReadyH.cons rfl (fun K hK => ?_) AllReadyH.nil
  go_simp
  go_at_call 16
  obtain ⟨hSt, hLn, hBe⟩ := hHeld
  refine (HDU.out _ hLn).mono ?_
  rintro x w4 ⟨rfl, hb⟩
  go_wp2_with fail
  refine hK.out _ _ ⟨hSt.below hb, hLn.below hb, Below.next hBe hb⟩ (fun hHeld => ?_)
  clear hK K hSt hLn hBe hb
  refine tk 4 rfl ?v_4_225 ?hy_4_225 ?r_4_225
  case hy_4_225 => intro w h; have k1 := h.1.c1; have k6 := h.1.c6; go_simp; try with_reducible rfl
  simp only [pA, pB, pC, pD]
  refine tk 5 rfl ?v_5_226 ?hy_5_226 ?r_5_226
  case hy_5_226 => intro w h; have k1 := h.1.c1; have k6 := h.1.c6; go_simp; try with_reducible rfl
  simp only [pA, pB, pC, pD]
  refine tk 6 rfl ?v_6_227 ?hy_6_227 ?r_6_227
  case hy_6_227 => intro w h; have k1 := h.1.c1; have k6 := h.1.c6; go_simp; try with_reducible rfl
  simp only [pA, pB, pC, pD]
  refine tk 7 rfl ?v_7_228 ?hy_7_228 ?r_7_228
  case hy_7_228 => intro w h; have k1 := h.1.c1; have k6 := h.1.c6; go_simp; try with_reducible rfl
  simp only [pA, pB, pC, pD]
  refine tk 8 rfl ?v_8_229 ?hy_8_229 ?r_8_229
  case hy_8_229 => intro w h; have k1 := h.1.c1; have k6 := h.1.c6; go_simp; try with_reducible rfl
  simp only [pA, pB, pC, pD]
  refine tk 9 rfl ?v_9_230 ?hy_9_230 ?r_9_230
  case hy_9_230 => intro w h; have k1 := h.1.c1; have k6 := h.1.c6; go_simp; try with_reducible rfl
  simp only [pA, pB, pC, pD]
  refine tk 10 rfl ?v_10_231 ?hy_10_231 ?r_10_231
  case hy_10_231 => intro w h; have k1 := h.1.c1; have k6 := h.1.c6; go_simp; try with_reducible rfl
  simp only [pA, pB, pC, pD]
  refine wpAnyH_done (by kernel_rfl) ?_ _
  have HB := Lib.hid hHeld.2.2
  have d3 : w4.cell? ⟨w.heap.size, 3, none⟩ = some (.int .i64 s.cur) := hHeld.1.cell 3
  have d4 : w4.cell? ⟨w.heap.size, 4, none⟩ = some (.int .i64 s.tax) := hHeld.1.cell 4
  have d5 : w4.cell? ⟨w.heap.size, 5, none⟩ = some (.slice oa s.lines.length cap) := by rw [hHeld.1.cell 5, stCs, HLV.out]; rfl
  have d7 : w4.cell? ⟨w.heap.size, 7, none⟩ = some (.int .i64 s.refunded) := hHeld.1.cell 7
  have d8 : w4.cell? ⟨w.heap.size, 8, none⟩ = some (.int .i64 s.events) := hHeld.1.cell 8
  have d9 : w4.cell? ⟨w.heap.size, 9, none⟩ = some (.int .i64 s.refused) := hHeld.1.cell 9
  have d10 : w4.cell? ⟨w.heap.size, 10, none⟩ = some (.int .i64 s.stamp) := hHeld.1.cell 10
  have d11 : w4.cell? ⟨w.heap.size, 11, none⟩ = some (.string ⟨s.who.toArray⟩) := hHeld.1.cell 11
  clear hHeld HE3 HDU
  cases nB
  · skip
    go_wp2
    go_ret
    exact ⟨by rw [HVb.out]; rfl, HB.out⟩
  · skip
    go_wp2
    go_ret
    exact ⟨by rw [HVb.out]; rfl, HB.out⟩

end Go.Proofs.YtlobohpbgghleaaDoor
