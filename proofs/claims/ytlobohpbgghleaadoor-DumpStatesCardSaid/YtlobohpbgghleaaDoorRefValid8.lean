import Derived.Test.YtlobohpbgghleaaDoorRefValid2
import Derived.Test.YtlobohpbgghleaaDoorRefValid1
import Derived.Test.YtlobohpbgghleaaDoorRefValid3
import Derived.Test.YtlobohpbgghleaaDoorRefValid4
import Derived.Test.YtlobohpbgghleaaDoorRefValid5
import Derived.Test.YtlobohpbgghleaaDoorRefValid6
namespace Go.Proofs.YtlobohpbgghleaaDoor
open Go.RowKit

theorem Bool.beq_comm (a b : Int) : (a == b) = (b == a) := by rw [Bool.eq_iff_iff, beq_iff_eq, beq_iff_eq]; exact eq_comm
theorem sixD (b1 b2 b3 b4 b5 b6 : Bool) : b1 = false ∨ (b1 = true ∧ b2 = false) ∨ (b1 = true ∧ b2 = true ∧ b3 = false) ∨ (b1 = true ∧ b2 = true ∧ b3 = true ∧ b4 = false) ∨ (b1 = true ∧ b2 = true ∧ b3 = true ∧ b4 = true ∧ b5 = false) ∨ (b1 = true ∧ b2 = true ∧ b3 = true ∧ b4 = true ∧ b5 = true ∧ b6 = false) ∨ (b1 = true ∧ b2 = true ∧ b3 = true ∧ b4 = true ∧ b5 = true ∧ b6 = true) := by
  cases b1 <;> cases b2 <;> cases b3 <;> cases b4 <;> cases b5 <;> cases b6 <;> decide

set_option maxRecDepth 100000 in
set_option maxHeartbeats 16000000 in
theorem rvok_0_0_0 (s : St) (lv : Value) (w : World) (hr : LnRow w lv s.lines) (hw : s.who.length ≤ 281474976710656) (hf : boundedB s = true) (hm : ¬ dueOf s < s.paid) (hs : s.status = 0) (hp : s.prior = 0) (g3 : decide (0 < s.paid) = false) :
    Calls Tryd.prog 11 #[stV s lv] w fun e w' => e = .returned (.bool (validB s)) ∧ Below w.heap.size w w' := by
  have HVb := Lib.hid (show validB s = (s.lines.isEmpty && s.cur == 0 && s.tax == 0 && s.events == s.refused && s.stamp == 0 && s.who.isEmpty) by
    have h1 : validB s = standB s 0 := by unfold validB; rw [hf, decide_eq_true (by omega), hs, hp]; rfl
    have h2 : (s.paid == dueOf s && decide (0 < s.paid)) = false := by rw [g3]; simp
    rw [h1]; unfold standB; rw [h2]; rfl)
  have hbp := bounded_p hf
  have k1 : decide (s.order < 1) = false := by rw [decide_eq_false_iff_not]; have := hbp.order; omega
  have k2 : decide (1099511627776 < s.order) = false := by rw [decide_eq_false_iff_not]; have := hbp.order; omega
  have k3 : decide (s.status < 0) = false := by rw [decide_eq_false_iff_not]; have := hbp.status; omega
  have k4 : decide (5 < s.status) = false := by rw [decide_eq_false_iff_not]; have := hbp.status; omega
  have k5 : decide (s.cur < 0) = false := by rw [decide_eq_false_iff_not]; have := hbp.cur; omega
  have k6 : decide (3 < s.cur) = false := by rw [decide_eq_false_iff_not]; have := hbp.cur; omega
  have k7 : decide (s.tax < 0) = false := by rw [decide_eq_false_iff_not]; have := hbp.tax; omega
  have k8 : decide (5000 < s.tax) = false := by rw [decide_eq_false_iff_not]; have := hbp.tax; omega
  have e1 : decide (s.events < 0) = false := by rw [decide_eq_false_iff_not]; have := hbp.events; omega
  have e2 : decide (1099511627776 < s.events) = false := by rw [decide_eq_false_iff_not]; have := hbp.events; omega
  have e3 : decide (s.refused < 0) = false := by rw [decide_eq_false_iff_not]; have := hbp.refused; omega
  have e4 : decide (s.events < s.refused) = false := by rw [decide_eq_false_iff_not]; have := hbp.events; have := hbp.refused; omega
  have e5 : decide (s.stamp < 0) = false := by rw [decide_eq_false_iff_not]; have := hbp.stamp; omega
  have e6 : decide (1099511627776 < s.stamp) = false := by rw [decide_eq_false_iff_not]; have := hbp.stamp; omega
  have q1 : decide (s.refunded < 0) = false := by rw [decide_eq_false_iff_not]; have := hbp.refunded; omega
  have q2 : decide (s.paid < s.refunded) = false := by rw [decide_eq_false_iff_not]; have := hbp.refunded; omega
  have q3 : decide (s.paid < 0) = false := by rw [decide_eq_false_iff_not]; have := hbp.refunded; omega
  have hn := (bounded_lined hf).2
  have hl := (bounded_lined hf).1
  obtain ⟨c, hc⟩ : ∃ c, c = evCheck 4 (evWho s.who) := ⟨_, rfl⟩
  have hcn : (c == 0) = namedB s.who := by rw [hc]; exact evWho_check 4 (.inl rfl) s.who
  have HC := Lib.hid (show ∀ W : World, Calls Tryd.prog 19 #[.int .i64 4, .agg #[.int .i64 1, .int .i64 1, .int .i64 0, .int .i64 0, .int .i64 0, .int .i64 0, .int .i64 0, .string ⟨s.who.toArray⟩, .int .i64 0, .string ⟨#[]⟩]] W (ChkPost c W) from fun W => hc ▸ refCheckB_any 4 (evWho s.who) W (evWho_ok s.who hw))
  have HLN := Lib.hid (show ∀ W : World, LnRow W lv s.lines → Calls Tryd.prog 20 #[stV s lv] W fun e w' => e = .returned (.bool (linedB s.lines)) ∧ Below W.heap.size W w' from fun W h => rlines_any s lv W h)
  have HE0 := Lib.hid (show StBlk (w.alloc (.cells (stCs s lv) 25)) w.heap.size s lv ∧ LnRow (w.alloc (.cells (stCs s lv) 25)) lv s.lines ∧ Below w.heap.size w (w.alloc (.cells (stCs s lv) 25)) from by
    have hb : Below w.heap.size w (w.alloc (.cells (stCs s lv) 25)) := (Below.refl _ _).alloc (Nat.le_refl _) _
    exact ⟨stBlk_alloc w s lv, hr.below hb, hb⟩)
  have c0 : (c != 0) = false := by rw [hn, beq_iff_eq] at hcn; rw [bne_eq_false_iff_eq]; exact hcn
  rw [hl] at HLN
  obtain ⟨D, hD⟩ : ∃ D, D = dueOf s := ⟨_, rfl⟩
  have HDU := Lib.hid (show ∀ W : World, LnRow W lv s.lines → Calls Tryd.prog 21 #[stV s lv] W fun e w' => e = .returned (.int .i64 D) ∧ Below W.heap.size W w' from fun W h => hD ▸ rdue_any s lv W h hbp.fine hbp.few hbp.tax.1 hbp.tax.2)
  have HSS := Lib.hid (show ∀ W : World, Calls Tryd.prog 22 #[stV s lv] W fun e w' => e = .returned (.int .i64 0) ∧ Below W.heap.size W w' from fun W => by have h := rstands_else s lv W (by omega); rw [hs] at h; exact h)
  have HUN := Lib.hid (show ∀ W : World, LnRow W lv s.lines → Calls Tryd.prog 23 #[stV s lv] W fun e w' => e = .returned (.bool (noneB s.lines)) ∧ Below W.heap.size W w' from fun W h => runtouched_any s lv W h hbp.fine)
  have HWH := Lib.hid (show ∀ W : World, LnRow W lv s.lines → Calls Tryd.prog 24 #[stV s lv] W fun e w' => e = .returned (.bool (wholeB s.lines)) ∧ Below W.heap.size W w' from fun W h => rwhole_any s lv W h hbp.fine)
  obtain ⟨nB, hnB⟩ : ∃ x, x = noneB s.lines := ⟨_, rfl⟩
  obtain ⟨wB, hwB⟩ : ∃ x, x = wholeB s.lines := ⟨_, rfl⟩
  rw [← hnB] at HUN
  rw [← hwB] at HWH
  rw [← hD] at hm
  have HPZ := Lib.hid (show s.lines.isEmpty = true → s.paid = 0 from fun he => by
    have h1 : s.lines = [] := List.isEmpty_iff.1 he
    have h2 : D = 0 := by rw [hD]; unfold dueOf; rw [h1]; simp [netOf]
    have h3 := hbp.refunded
    omega)
  have d1 : decide (D < s.paid) = false := decide_eq_false hm
  have hm2 : s.paid ≤ D := by omega
  have HS := Lib.hid hs
  have HP := Lib.hid hp
  obtain ⟨oa, cap, hlv, _, _, _⟩ := hr.shape
  have HLV := Lib.hid hlv
  clear hc hcn hn hl hr hw hf hbp hD hm hs hp hnB hwB hlv
  go_enter Tryd.func11, Tryd.ntmps11
  go_wp2_with (first
    | (go_at_call 19; (with_reducible refine (HC.out _).mono ?_); rintro x w1 ⟨rfl, hb1⟩; have HE1 := Lib.hid (show StBlk w1 w.heap.size s lv ∧ LnRow w1 lv s.lines ∧ Below w.heap.size w w1 from ⟨HE0.out.1.below hb1, HE0.out.2.1.below hb1, Below.next HE0.out.2.2 hb1⟩); clear hb1; have z0 := HE1.out.1.c0; have z1 := HE1.out.1.c1; have z2 := HE1.out.1.c2; have z3 := HE1.out.1.c3; have z4 := HE1.out.1.c4; have z5 := HE1.out.1.c5; have z6 := HE1.out.1.c6; have z7 := HE1.out.1.c7; have z8 := HE1.out.1.c8; have z9 := HE1.out.1.c9; have z10 := HE1.out.1.c10; have z11 := HE1.out.1.c11)
    | (with_reducible refine wpList_load_st rfl (.tmp 1) rfl w.heap.size s lv rfl HE1.out.1 ?_)
    | (go_at_call 20; refine (HLN.out _ HE1.out.2.1).mono ?_; rintro x w2 ⟨rfl, hb2⟩; have HE2 := Lib.hid (show StBlk w2 w.heap.size s lv ∧ LnRow w2 lv s.lines ∧ Below w.heap.size w w2 from ⟨HE1.out.1.below hb2, HE1.out.2.1.below hb2, Below.next HE1.out.2.2 hb2⟩); clear hb2))
  clear z0 z1 z2 z3 z4 z5 z6 z7 z8 z9 z10 z11 HE0 HE1 HC HLN
  refine wp_region_held_drew (S := fun w' => StBlk w' w.heap.size s lv ∧ LnRow w' lv s.lines ∧ Below w.heap.size w w') (by kernel_rfl) ⟨HE2.out.1, HE2.out.2.1, Below.next HE2.out.2.2 (below_drewN' _ 1)⟩ (fun hHeld => ?_)
  refine tk 0 rfl ?v_0_488 ?hy_0_488 ?r_0_488
  case hy_0_488 => intro w h; have k4 := h.1.c4; have k6 := h.1.c6; have k7 := h.1.c7; go_simp; try with_reducible rfl
  simp only [pA, pB, pC, pD]
  refine tk 1 rfl ?v_1_489 ?hy_1_489 ?r_1_489
  case hy_1_489 => intro w h; have k4 := h.1.c4; have k6 := h.1.c6; have k7 := h.1.c7; go_simp; try with_reducible rfl
  simp only [pA, pB, pC, pD]
  refine tk 2 rfl ?v_2_490 ?hy_2_490 ?r_2_490
  case hy_2_490 => intro w h; have k4 := h.1.c4; have k6 := h.1.c6; have k7 := h.1.c7; go_simp; try with_reducible rfl
  simp only [pA, pB, pC, pD]
  refine tk 3 rfl ?v_3_491 ?hy_3_491 ?r_3_491
  case hy_3_491 => intro w h; have k4 := h.1.c4; have k6 := h.1.c6; have k7 := h.1.c7; go_simp; try with_reducible rfl
  simp only [pA, pB, pC, pD]
  refine tk 4 rfl ?v_4_492 ?hy_4_492 ?r_4_492
  case hy_4_492 => intro w h; have k4 := h.1.c4; have k6 := h.1.c6; have k7 := h.1.c7; go_simp; try with_reducible rfl
  simp only [pA, pB, pC, pD]
  refine tk 5 rfl ?v_5_493 ?hy_5_493 ?r_5_493
  case hy_5_493 => intro w h; have k4 := h.1.c4; have k6 := h.1.c6; have k7 := h.1.c7; go_simp; try with_reducible rfl
  simp only [pA, pB, pC, pD]
  refine tk 6 rfl ?v_6_494 ?hy_6_494 ?r_6_494
  case hy_6_494 => intro w h; have k4 := h.1.c4; have k6 := h.1.c6; have k7 := h.1.c7; go_simp; try with_reducible rfl
  simp only [pA, pB, pC, pD]
  refine tk 7 rfl ?v_7_495 ?hy_7_495 ?r_7_495
  case hy_7_495 => intro w h; have k4 := h.1.c4; have k6 := h.1.c6; have k7 := h.1.c7; go_simp; try with_reducible rfl
  simp only [pA, pB, pC, pD]
  refine tk 8 rfl ?v_8_496 ?hy_8_496 ?r_8_496
  case hy_8_496 => intro w h; have k4 := h.1.c4; have k6 := h.1.c6; have k7 := h.1.c7; go_simp; try with_reducible rfl
  simp only [pA, pB, pC, pD]
  refine tk 9 rfl ?v_9_497 ?hy_9_497 ?r_9_497
  case hy_9_497 => intro w h; have k4 := h.1.c4; have k6 := h.1.c6; have k7 := h.1.c7; go_simp; try with_reducible rfl
  simp only [pA, pB, pC, pD]
  refine tk 10 rfl ?v_10_498 ?hy_10_498 ?r_10_498
  case hy_10_498 => intro w h; have k4 := h.1.c4; have k6 := h.1.c6; have k7 := h.1.c7; go_simp; try with_reducible rfl
  simp only [pA, pB, pC, pD]
  refine tk 11 rfl ?v_11_499 ?hy_11_499 ?r_11_499
  case hy_11_499 => intro w h; have k4 := h.1.c4; have k6 := h.1.c6; have k7 := h.1.c7; go_simp; try with_reducible rfl
  simp only [pA, pB, pC, pD]
  refine tk 12 rfl ?v_12_500 ?hy_12_500 ?r_12_500
  case hy_12_500 => intro w h; have k4 := h.1.c4; have k6 := h.1.c6; have k7 := h.1.c7; go_simp; try with_reducible rfl
  simp only [pA, pB, pC, pD]
  refine tk 13 rfl ?v_13_501 ?hy_13_501 ?r_13_501
  case hy_13_501 => intro w h; have k4 := h.1.c4; have k6 := h.1.c6; have k7 := h.1.c7; go_simp; try with_reducible rfl
  simp only [pA, pB, pC, pD]
  refine tk 14 rfl ?v_14_502 ?hy_14_502 ?r_14_502
  case hy_14_502 => intro w h; have k4 := h.1.c4; have k6 := h.1.c6; have k7 := h.1.c7; go_simp; try with_reducible rfl
  simp only [pA, pB, pC, pD]
  refine tk 15 rfl ?v_15_503 ?hy_15_503 ?r_15_503
  case hy_15_503 => intro w h; have k4 := h.1.c4; have k6 := h.1.c6; have k7 := h.1.c7; go_simp; try with_reducible rfl
  simp only [pA, pB, pC, pD]
  refine tk 16 rfl ?v_16_504 ?hy_16_504 ?r_16_504
  case hy_16_504 => intro w h; have k4 := h.1.c4; have k6 := h.1.c6; have k7 := h.1.c7; go_simp; try with_reducible rfl
  simp only [pA, pB, pC, pD]
  refine tk 17 rfl ?v_17_505 ?hy_17_505 ?r_17_505
  case hy_17_505 => intro w h; have k4 := h.1.c4; have k6 := h.1.c6; have k7 := h.1.c7; go_simp; try with_reducible rfl
  simp only [pA, pB, pC, pD]
  refine wpAnyH_take (i := 18) (oi := ⟨_, _, _, _, _, _⟩) (v := stV s lv) rfl (by kernel_rfl) (by kernel_rfl) (by kernel_rfl) (fun _ _ _ h => h) (yieldsIf_load_mid (by kernel_rfl) 25 (.tmp 1) rfl w.heap.size 0 rfl (stCs s lv).toList _ (fun w' h j v hv => by rw [Nat.zero_add, h.1.cell]; simpa using hv) Tryd.underlying25 rfl (by rw [stInfo]; rfl)) (by assumption) ?_
  simp only [pA, pB, pC, pD]
  refine wpAnyH_ready (rs := [19]) (by kernel_rfl) (by simp) ?_
  refine AllReadyH.cons rfl (fun K hK => ?_) AllReadyH.nil
  go_simp
  go_at_call 21
  obtain ⟨hSt, hLn, hBe⟩ := hHeld
  refine (HDU.out _ hLn).mono ?_
  rintro x w3 ⟨rfl, hb⟩
  go_wp2_with fail
  refine hK.out _ _ ⟨hSt.below hb, hLn.below hb, Below.next hBe hb⟩ (fun hHeld => ?_)
  clear hK K hSt hLn hBe hb
  refine tk 20 rfl ?v_20_506 ?hy_20_506 ?r_20_506
  case hy_20_506 => intro w h; have k4 := h.1.c4; have k6 := h.1.c6; have k7 := h.1.c7; go_simp; try with_reducible rfl
  simp only [pA, pB, pC, pD]
  refine tk 21 rfl ?v_21_507 ?hy_21_507 ?r_21_507
  case hy_21_507 => intro w h; have k4 := h.1.c4; have k6 := h.1.c6; have k7 := h.1.c7; go_simp; try with_reducible rfl
  simp only [pA, pB, pC, pD]
  refine wpAnyH_done (by kernel_rfl) ?_ _
  have c1 : w3.cell? ⟨w.heap.size, 1, none⟩ = some (.int .i64 0) := by rw [hHeld.1.cell 1, stCs, HS.out]; rfl
  have c2 : w3.cell? ⟨w.heap.size, 2, none⟩ = some (.int .i64 0) := by rw [hHeld.1.cell 2, stCs, HP.out]; rfl
  have HE := Lib.hid hHeld
  clear hHeld HE2 k1 k2 k3 k4 k5 k6 k7 k8 e1 e2 e3 e4 e5 e6 q1 q2 q3 c0
  go_wp2
  clear c1 c2
  refine wp_region_held_drew (S := fun w' => StBlk w' w.heap.size s lv ∧ LnRow w' lv s.lines ∧ Below w.heap.size w w') (by kernel_rfl) ⟨HE.out.1, HE.out.2.1, Below.next HE.out.2.2 (below_drewN' _ 1)⟩ (fun hHeld => ?_)
  refine tk 0 rfl ?v_0_508 ?hy_0_508 ?r_0_508
  case hy_0_508 => intro w h; have k4 := h.1.c4; have k6 := h.1.c6; have k7 := h.1.c7; go_simp; try with_reducible rfl
  simp only [pA, pB, pC, pD]
  refine tk 1 rfl ?v_1_509 ?hy_1_509 ?r_1_509
  case hy_1_509 => intro w h; have k4 := h.1.c4; have k6 := h.1.c6; have k7 := h.1.c7; go_simp; try with_reducible rfl
  simp only [pA, pB, pC, pD]
  refine tk 2 rfl ?v_2_510 ?hy_2_510 ?r_2_510
  case hy_2_510 => intro w h; have k4 := h.1.c4; have k6 := h.1.c6; have k7 := h.1.c7; go_simp; try with_reducible rfl
  simp only [pA, pB, pC, pD]
  refine tk 3 rfl ?v_3_511 ?hy_3_511 ?r_3_511
  case hy_3_511 => intro w h; have k4 := h.1.c4; have k6 := h.1.c6; have k7 := h.1.c7; go_simp; try with_reducible rfl
  simp only [pA, pB, pC, pD]
  refine tkn 4 rfl ?_
  simp only [pA, pB, pC, pD]
  refine tkn 5 rfl ?_
  simp only [pA, pB, pC, pD]
  refine tkn 6 rfl ?_
  simp only [pA, pB, pC, pD]
  refine tkn 7 rfl ?_
  simp only [pA, pB, pC, pD]
  refine tkn 8 rfl ?_
  simp only [pA, pB, pC, pD]
  refine tk 9 rfl ?v_9_512 ?hy_9_512 ?r_9_512
  case hy_9_512 => intro w h; have k4 := h.1.c4; have k6 := h.1.c6; have k7 := h.1.c7; go_simp; try with_reducible rfl
  simp only [pA, pB, pC, pD]
  refine tk 10 rfl ?v_10_513 ?hy_10_513 ?r_10_513
  case hy_10_513 => intro w h; have k4 := h.1.c4; have k6 := h.1.c6; have k7 := h.1.c7; go_simp; try with_reducible rfl
  simp only [pA, pB, pC, pD]
  refine wpAnyH_done (by kernel_rfl) ?_ _
  have HE4 := Lib.hid hHeld
  clear hHeld HE HDU
  generalize w3.drew = w4 at *
  have l1 : ((s.lines.length : Int) == 0) = s.lines.isEmpty := by cases s.lines <;> simp <;> omega
  rcases sixD s.lines.isEmpty (s.cur == 0) (s.tax == 0) (s.stamp == 0) s.who.isEmpty (s.events == s.refused) with k1 | ⟨k1, k2⟩ | ⟨k1, k2, k3⟩ | ⟨k1, k2, k3, k4⟩ | ⟨k1, k2, k3, k4, k5⟩ | ⟨k1, k2, k3, k4, k5, k6⟩ | ⟨k1, k2, k3, k4, k5, k6⟩
  · rw [k1] at l1
    go_wp2_with (first
      | (with_reducible refine wpList_load_st rfl (.tmp 1) rfl w.heap.size s lv rfl HE4.out.1 ?_)
      | (go_at_call 22; refine (HSS.out _).mono ?_; rintro x w5 ⟨rfl, hb⟩; have HE5 := Lib.hid (show StBlk w5 w.heap.size s lv ∧ LnRow w5 lv s.lines ∧ Below w.heap.size w w5 from ⟨HE4.out.1.below hb, HE4.out.2.1.below hb, Below.next HE4.out.2.2 hb⟩); clear hb
         have z0 := HE5.out.1.c0; have z1 := HE5.out.1.c1; have z2 := HE5.out.1.c2; have z3 := HE5.out.1.c3; have z4 := HE5.out.1.c4; have z6 := HE5.out.1.c6; have z7 := HE5.out.1.c7; have z8 := HE5.out.1.c8; have z9 := HE5.out.1.c9; have z10 := HE5.out.1.c10; have z11 := HE5.out.1.c11; have z5 : w5.cell? ⟨w.heap.size, 5, none⟩ = some (.slice oa s.lines.length cap) := by rw [HE5.out.1.cell 5, stCs, HLV.out]; rfl))
    have HB := Lib.hid HE5.out.2.2
    go_ret
    exact ⟨by rw [HVb.out, k1]; rfl, HB.out⟩
  · rw [k1] at l1
    have p0 : (s.paid == 0) = true := by rw [beq_iff_eq]; exact HPZ.out k1
    go_wp2_with (first
      | (with_reducible refine wpList_load_st rfl (.tmp 1) rfl w.heap.size s lv rfl HE4.out.1 ?_)
      | (go_at_call 22; refine (HSS.out _).mono ?_; rintro x w5 ⟨rfl, hb⟩; have HE5 := Lib.hid (show StBlk w5 w.heap.size s lv ∧ LnRow w5 lv s.lines ∧ Below w.heap.size w w5 from ⟨HE4.out.1.below hb, HE4.out.2.1.below hb, Below.next HE4.out.2.2 hb⟩); clear hb
         have z0 := HE5.out.1.c0; have z1 := HE5.out.1.c1; have z2 := HE5.out.1.c2; have z3 := HE5.out.1.c3; have z4 := HE5.out.1.c4; have z6 := HE5.out.1.c6; have z7 := HE5.out.1.c7; have z8 := HE5.out.1.c8; have z9 := HE5.out.1.c9; have z10 := HE5.out.1.c10; have z11 := HE5.out.1.c11; have z5 : w5.cell? ⟨w.heap.size, 5, none⟩ = some (.slice oa s.lines.length cap) := by rw [HE5.out.1.cell 5, stCs, HLV.out]; rfl))
    have HB := Lib.hid HE5.out.2.2
    go_ret
    exact ⟨by rw [HVb.out, k1, k2]; rfl, HB.out⟩
  · rw [k1] at l1
    have p0 : (s.paid == 0) = true := by rw [beq_iff_eq]; exact HPZ.out k1
    go_wp2_with (first
      | (with_reducible refine wpList_load_st rfl (.tmp 1) rfl w.heap.size s lv rfl HE4.out.1 ?_)
      | (go_at_call 22; refine (HSS.out _).mono ?_; rintro x w5 ⟨rfl, hb⟩; have HE5 := Lib.hid (show StBlk w5 w.heap.size s lv ∧ LnRow w5 lv s.lines ∧ Below w.heap.size w w5 from ⟨HE4.out.1.below hb, HE4.out.2.1.below hb, Below.next HE4.out.2.2 hb⟩); clear hb
         have z0 := HE5.out.1.c0; have z1 := HE5.out.1.c1; have z2 := HE5.out.1.c2; have z3 := HE5.out.1.c3; have z4 := HE5.out.1.c4; have z6 := HE5.out.1.c6; have z7 := HE5.out.1.c7; have z8 := HE5.out.1.c8; have z9 := HE5.out.1.c9; have z10 := HE5.out.1.c10; have z11 := HE5.out.1.c11; have z5 : w5.cell? ⟨w.heap.size, 5, none⟩ = some (.slice oa s.lines.length cap) := by rw [HE5.out.1.cell 5, stCs, HLV.out]; rfl))
    have HB := Lib.hid HE5.out.2.2
    go_ret
    exact ⟨by rw [HVb.out, k1, k2, k3]; rfl, HB.out⟩
  · rw [k1] at l1
    have p0 : (s.paid == 0) = true := by rw [beq_iff_eq]; exact HPZ.out k1
    go_wp2_with (first
      | (with_reducible refine wpList_load_st rfl (.tmp 1) rfl w.heap.size s lv rfl HE4.out.1 ?_)
      | (go_at_call 22; refine (HSS.out _).mono ?_; rintro x w5 ⟨rfl, hb⟩; have HE5 := Lib.hid (show StBlk w5 w.heap.size s lv ∧ LnRow w5 lv s.lines ∧ Below w.heap.size w w5 from ⟨HE4.out.1.below hb, HE4.out.2.1.below hb, Below.next HE4.out.2.2 hb⟩); clear hb
         have z0 := HE5.out.1.c0; have z1 := HE5.out.1.c1; have z2 := HE5.out.1.c2; have z3 := HE5.out.1.c3; have z4 := HE5.out.1.c4; have z6 := HE5.out.1.c6; have z7 := HE5.out.1.c7; have z8 := HE5.out.1.c8; have z9 := HE5.out.1.c9; have z10 := HE5.out.1.c10; have z11 := HE5.out.1.c11; have z5 : w5.cell? ⟨w.heap.size, 5, none⟩ = some (.slice oa s.lines.length cap) := by rw [HE5.out.1.cell 5, stCs, HLV.out]; rfl))
    have HB := Lib.hid HE5.out.2.2
    go_ret
    exact ⟨by rw [HVb.out, k1, k2, k3, k4]; simp, HB.out⟩
  · rw [k1] at l1
    have p0 : (s.paid == 0) = true := by rw [beq_iff_eq]; exact HPZ.out k1
    go_wp2_with (first
      | (with_reducible refine wpList_load_st rfl (.tmp 1) rfl w.heap.size s lv rfl HE4.out.1 ?_)
      | (go_at_call 22; refine (HSS.out _).mono ?_; rintro x w5 ⟨rfl, hb⟩; have HE5 := Lib.hid (show StBlk w5 w.heap.size s lv ∧ LnRow w5 lv s.lines ∧ Below w.heap.size w w5 from ⟨HE4.out.1.below hb, HE4.out.2.1.below hb, Below.next HE4.out.2.2 hb⟩); clear hb
         have z0 := HE5.out.1.c0; have z1 := HE5.out.1.c1; have z2 := HE5.out.1.c2; have z3 := HE5.out.1.c3; have z4 := HE5.out.1.c4; have z6 := HE5.out.1.c6; have z7 := HE5.out.1.c7; have z8 := HE5.out.1.c8; have z9 := HE5.out.1.c9; have z10 := HE5.out.1.c10; have z11 := HE5.out.1.c11; have z5 : w5.cell? ⟨w.heap.size, 5, none⟩ = some (.slice oa s.lines.length cap) := by rw [HE5.out.1.cell 5, stCs, HLV.out]; rfl))
    have HB := Lib.hid HE5.out.2.2
    go_ret
    exact ⟨by rw [HVb.out, k1, k2, k3, k4, k5]; simp, HB.out⟩
  · rw [k1] at l1
    have p0 : (s.paid == 0) = true := by rw [beq_iff_eq]; exact HPZ.out k1
    have k6' : (s.refused == s.events) = false := by rw [← k6, Bool.beq_comm]
    go_wp2_with (first
      | (with_reducible refine wpList_load_st rfl (.tmp 1) rfl w.heap.size s lv rfl HE4.out.1 ?_)
      | (go_at_call 22; refine (HSS.out _).mono ?_; rintro x w5 ⟨rfl, hb⟩; have HE5 := Lib.hid (show StBlk w5 w.heap.size s lv ∧ LnRow w5 lv s.lines ∧ Below w.heap.size w w5 from ⟨HE4.out.1.below hb, HE4.out.2.1.below hb, Below.next HE4.out.2.2 hb⟩); clear hb
         have z0 := HE5.out.1.c0; have z1 := HE5.out.1.c1; have z2 := HE5.out.1.c2; have z3 := HE5.out.1.c3; have z4 := HE5.out.1.c4; have z6 := HE5.out.1.c6; have z7 := HE5.out.1.c7; have z8 := HE5.out.1.c8; have z9 := HE5.out.1.c9; have z10 := HE5.out.1.c10; have z11 := HE5.out.1.c11; have z5 : w5.cell? ⟨w.heap.size, 5, none⟩ = some (.slice oa s.lines.length cap) := by rw [HE5.out.1.cell 5, stCs, HLV.out]; rfl))
    have HB := Lib.hid HE5.out.2.2
    go_ret
    exact ⟨by rw [HVb.out, k1, k2, k3, k4, k5, k6]; rfl, HB.out⟩
  · rw [k1] at l1
    have p0 : (s.paid == 0) = true := by rw [beq_iff_eq]; exact HPZ.out k1
    have k6' : (s.refused == s.events) = true := by rw [← k6, Bool.beq_comm]
    go_wp2_with (first
      | (with_reducible refine wpList_load_st rfl (.tmp 1) rfl w.heap.size s lv rfl HE4.out.1 ?_)
      | (go_at_call 22; refine (HSS.out _).mono ?_; rintro x w5 ⟨rfl, hb⟩; have HE5 := Lib.hid (show StBlk w5 w.heap.size s lv ∧ LnRow w5 lv s.lines ∧ Below w.heap.size w w5 from ⟨HE4.out.1.below hb, HE4.out.2.1.below hb, Below.next HE4.out.2.2 hb⟩); clear hb
         have z0 := HE5.out.1.c0; have z1 := HE5.out.1.c1; have z2 := HE5.out.1.c2; have z3 := HE5.out.1.c3; have z4 := HE5.out.1.c4; have z6 := HE5.out.1.c6; have z7 := HE5.out.1.c7; have z8 := HE5.out.1.c8; have z9 := HE5.out.1.c9; have z10 := HE5.out.1.c10; have z11 := HE5.out.1.c11; have z5 : w5.cell? ⟨w.heap.size, 5, none⟩ = some (.slice oa s.lines.length cap) := by rw [HE5.out.1.cell 5, stCs, HLV.out]; rfl))
    have HB := Lib.hid HE5.out.2.2
    go_ret
    exact ⟨by rw [HVb.out, k1, k2, k3, k4, k5, k6]; rfl, HB.out⟩

set_option maxRecDepth 100000 in
set_option maxHeartbeats 16000000 in
theorem rvok_0_0_1 (s : St) (lv : Value) (w : World) (hr : LnRow w lv s.lines) (hw : s.who.length ≤ 281474976710656) (hf : boundedB s = true) (hm : ¬ dueOf s < s.paid) (hs : s.status = 0) (hp : s.prior = 0) (g3 : decide (0 < s.paid) = true) (g1 : (s.paid == dueOf s) = false) :
    Calls Tryd.prog 11 #[stV s lv] w fun e w' => e = .returned (.bool (validB s)) ∧ Below w.heap.size w w' := by
  have HVb := Lib.hid (show validB s = (s.lines.isEmpty && s.cur == 0 && s.tax == 0 && s.events == s.refused && s.stamp == 0 && s.who.isEmpty) by
    have h1 : validB s = standB s 0 := by unfold validB; rw [hf, decide_eq_true (by omega), hs, hp]; rfl
    have h2 : (s.paid == dueOf s && decide (0 < s.paid)) = false := by rw [g3, g1]; rfl
    rw [h1]; unfold standB; rw [h2]; rfl)
  have hbp := bounded_p hf
  have k1 : decide (s.order < 1) = false := by rw [decide_eq_false_iff_not]; have := hbp.order; omega
  have k2 : decide (1099511627776 < s.order) = false := by rw [decide_eq_false_iff_not]; have := hbp.order; omega
  have k3 : decide (s.status < 0) = false := by rw [decide_eq_false_iff_not]; have := hbp.status; omega
  have k4 : decide (5 < s.status) = false := by rw [decide_eq_false_iff_not]; have := hbp.status; omega
  have k5 : decide (s.cur < 0) = false := by rw [decide_eq_false_iff_not]; have := hbp.cur; omega
  have k6 : decide (3 < s.cur) = false := by rw [decide_eq_false_iff_not]; have := hbp.cur; omega
  have k7 : decide (s.tax < 0) = false := by rw [decide_eq_false_iff_not]; have := hbp.tax; omega
  have k8 : decide (5000 < s.tax) = false := by rw [decide_eq_false_iff_not]; have := hbp.tax; omega
  have e1 : decide (s.events < 0) = false := by rw [decide_eq_false_iff_not]; have := hbp.events; omega
  have e2 : decide (1099511627776 < s.events) = false := by rw [decide_eq_false_iff_not]; have := hbp.events; omega
  have e3 : decide (s.refused < 0) = false := by rw [decide_eq_false_iff_not]; have := hbp.refused; omega
  have e4 : decide (s.events < s.refused) = false := by rw [decide_eq_false_iff_not]; have := hbp.events; have := hbp.refused; omega
  have e5 : decide (s.stamp < 0) = false := by rw [decide_eq_false_iff_not]; have := hbp.stamp; omega
  have e6 : decide (1099511627776 < s.stamp) = false := by rw [decide_eq_false_iff_not]; have := hbp.stamp; omega
  have q1 : decide (s.refunded < 0) = false := by rw [decide_eq_false_iff_not]; have := hbp.refunded; omega
  have q2 : decide (s.paid < s.refunded) = false := by rw [decide_eq_false_iff_not]; have := hbp.refunded; omega
  have q3 : decide (s.paid < 0) = false := by rw [decide_eq_false_iff_not]; have := hbp.refunded; omega
  have hn := (bounded_lined hf).2
  have hl := (bounded_lined hf).1
  obtain ⟨c, hc⟩ : ∃ c, c = evCheck 4 (evWho s.who) := ⟨_, rfl⟩
  have hcn : (c == 0) = namedB s.who := by rw [hc]; exact evWho_check 4 (.inl rfl) s.who
  have HC := Lib.hid (show ∀ W : World, Calls Tryd.prog 19 #[.int .i64 4, .agg #[.int .i64 1, .int .i64 1, .int .i64 0, .int .i64 0, .int .i64 0, .int .i64 0, .int .i64 0, .string ⟨s.who.toArray⟩, .int .i64 0, .string ⟨#[]⟩]] W (ChkPost c W) from fun W => hc ▸ refCheckB_any 4 (evWho s.who) W (evWho_ok s.who hw))
  have HLN := Lib.hid (show ∀ W : World, LnRow W lv s.lines → Calls Tryd.prog 20 #[stV s lv] W fun e w' => e = .returned (.bool (linedB s.lines)) ∧ Below W.heap.size W w' from fun W h => rlines_any s lv W h)
  have HE0 := Lib.hid (show StBlk (w.alloc (.cells (stCs s lv) 25)) w.heap.size s lv ∧ LnRow (w.alloc (.cells (stCs s lv) 25)) lv s.lines ∧ Below w.heap.size w (w.alloc (.cells (stCs s lv) 25)) from by
    have hb : Below w.heap.size w (w.alloc (.cells (stCs s lv) 25)) := (Below.refl _ _).alloc (Nat.le_refl _) _
    exact ⟨stBlk_alloc w s lv, hr.below hb, hb⟩)
  have c0 : (c != 0) = false := by rw [hn, beq_iff_eq] at hcn; rw [bne_eq_false_iff_eq]; exact hcn
  rw [hl] at HLN
  obtain ⟨D, hD⟩ : ∃ D, D = dueOf s := ⟨_, rfl⟩
  have HDU := Lib.hid (show ∀ W : World, LnRow W lv s.lines → Calls Tryd.prog 21 #[stV s lv] W fun e w' => e = .returned (.int .i64 D) ∧ Below W.heap.size W w' from fun W h => hD ▸ rdue_any s lv W h hbp.fine hbp.few hbp.tax.1 hbp.tax.2)
  have HSS := Lib.hid (show ∀ W : World, Calls Tryd.prog 22 #[stV s lv] W fun e w' => e = .returned (.int .i64 0) ∧ Below W.heap.size W w' from fun W => by have h := rstands_else s lv W (by omega); rw [hs] at h; exact h)
  have HUN := Lib.hid (show ∀ W : World, LnRow W lv s.lines → Calls Tryd.prog 23 #[stV s lv] W fun e w' => e = .returned (.bool (noneB s.lines)) ∧ Below W.heap.size W w' from fun W h => runtouched_any s lv W h hbp.fine)
  have HWH := Lib.hid (show ∀ W : World, LnRow W lv s.lines → Calls Tryd.prog 24 #[stV s lv] W fun e w' => e = .returned (.bool (wholeB s.lines)) ∧ Below W.heap.size W w' from fun W h => rwhole_any s lv W h hbp.fine)
  obtain ⟨nB, hnB⟩ : ∃ x, x = noneB s.lines := ⟨_, rfl⟩
  obtain ⟨wB, hwB⟩ : ∃ x, x = wholeB s.lines := ⟨_, rfl⟩
  rw [← hnB] at HUN
  rw [← hwB] at HWH
  rw [← hD] at hm g1
  have HPZ := Lib.hid (show s.lines.isEmpty = true → s.paid = 0 from fun he => by
    have h1 : s.lines = [] := List.isEmpty_iff.1 he
    have h2 : D = 0 := by rw [hD]; unfold dueOf; rw [h1]; simp [netOf]
    have h3 := hbp.refunded
    omega)
  have d1 : decide (D < s.paid) = false := decide_eq_false hm
  have hm2 : s.paid ≤ D := by omega
  have HS := Lib.hid hs
  have HP := Lib.hid hp
  obtain ⟨oa, cap, hlv, _, _, _⟩ := hr.shape
  have HLV := Lib.hid hlv
  clear hc hcn hn hl hr hw hf hbp hD hm hs hp hnB hwB hlv
  go_enter Tryd.func11, Tryd.ntmps11
  go_wp2_with (first
    | (go_at_call 19; (with_reducible refine (HC.out _).mono ?_); rintro x w1 ⟨rfl, hb1⟩; have HE1 := Lib.hid (show StBlk w1 w.heap.size s lv ∧ LnRow w1 lv s.lines ∧ Below w.heap.size w w1 from ⟨HE0.out.1.below hb1, HE0.out.2.1.below hb1, Below.next HE0.out.2.2 hb1⟩); clear hb1; have z0 := HE1.out.1.c0; have z1 := HE1.out.1.c1; have z2 := HE1.out.1.c2; have z3 := HE1.out.1.c3; have z4 := HE1.out.1.c4; have z5 := HE1.out.1.c5; have z6 := HE1.out.1.c6; have z7 := HE1.out.1.c7; have z8 := HE1.out.1.c8; have z9 := HE1.out.1.c9; have z10 := HE1.out.1.c10; have z11 := HE1.out.1.c11)
    | (with_reducible refine wpList_load_st rfl (.tmp 1) rfl w.heap.size s lv rfl HE1.out.1 ?_)
    | (go_at_call 20; refine (HLN.out _ HE1.out.2.1).mono ?_; rintro x w2 ⟨rfl, hb2⟩; have HE2 := Lib.hid (show StBlk w2 w.heap.size s lv ∧ LnRow w2 lv s.lines ∧ Below w.heap.size w w2 from ⟨HE1.out.1.below hb2, HE1.out.2.1.below hb2, Below.next HE1.out.2.2 hb2⟩); clear hb2))
  clear z0 z1 z2 z3 z4 z5 z6 z7 z8 z9 z10 z11 HE0 HE1 HC HLN
  refine wp_region_held_drew (S := fun w' => StBlk w' w.heap.size s lv ∧ LnRow w' lv s.lines ∧ Below w.heap.size w w') (by kernel_rfl) ⟨HE2.out.1, HE2.out.2.1, Below.next HE2.out.2.2 (below_drewN' _ 1)⟩ (fun hHeld => ?_)
  refine tk 0 rfl ?v_0_514 ?hy_0_514 ?r_0_514
  case hy_0_514 => intro w h; have k4 := h.1.c4; have k6 := h.1.c6; have k7 := h.1.c7; go_simp; try with_reducible rfl
  simp only [pA, pB, pC, pD]
  refine tk 1 rfl ?v_1_515 ?hy_1_515 ?r_1_515
  case hy_1_515 => intro w h; have k4 := h.1.c4; have k6 := h.1.c6; have k7 := h.1.c7; go_simp; try with_reducible rfl
  simp only [pA, pB, pC, pD]
  refine tk 2 rfl ?v_2_516 ?hy_2_516 ?r_2_516
  case hy_2_516 => intro w h; have k4 := h.1.c4; have k6 := h.1.c6; have k7 := h.1.c7; go_simp; try with_reducible rfl
  simp only [pA, pB, pC, pD]
  refine tk 3 rfl ?v_3_517 ?hy_3_517 ?r_3_517
  case hy_3_517 => intro w h; have k4 := h.1.c4; have k6 := h.1.c6; have k7 := h.1.c7; go_simp; try with_reducible rfl
  simp only [pA, pB, pC, pD]
  refine tk 4 rfl ?v_4_518 ?hy_4_518 ?r_4_518
  case hy_4_518 => intro w h; have k4 := h.1.c4; have k6 := h.1.c6; have k7 := h.1.c7; go_simp; try with_reducible rfl
  simp only [pA, pB, pC, pD]
  refine tk 5 rfl ?v_5_519 ?hy_5_519 ?r_5_519
  case hy_5_519 => intro w h; have k4 := h.1.c4; have k6 := h.1.c6; have k7 := h.1.c7; go_simp; try with_reducible rfl
  simp only [pA, pB, pC, pD]
  refine tk 6 rfl ?v_6_520 ?hy_6_520 ?r_6_520
  case hy_6_520 => intro w h; have k4 := h.1.c4; have k6 := h.1.c6; have k7 := h.1.c7; go_simp; try with_reducible rfl
  simp only [pA, pB, pC, pD]
  refine tk 7 rfl ?v_7_521 ?hy_7_521 ?r_7_521
  case hy_7_521 => intro w h; have k4 := h.1.c4; have k6 := h.1.c6; have k7 := h.1.c7; go_simp; try with_reducible rfl
  simp only [pA, pB, pC, pD]
  refine tk 8 rfl ?v_8_522 ?hy_8_522 ?r_8_522
  case hy_8_522 => intro w h; have k4 := h.1.c4; have k6 := h.1.c6; have k7 := h.1.c7; go_simp; try with_reducible rfl
  simp only [pA, pB, pC, pD]
  refine tk 9 rfl ?v_9_523 ?hy_9_523 ?r_9_523
  case hy_9_523 => intro w h; have k4 := h.1.c4; have k6 := h.1.c6; have k7 := h.1.c7; go_simp; try with_reducible rfl
  simp only [pA, pB, pC, pD]
  refine tk 10 rfl ?v_10_524 ?hy_10_524 ?r_10_524
  case hy_10_524 => intro w h; have k4 := h.1.c4; have k6 := h.1.c6; have k7 := h.1.c7; go_simp; try with_reducible rfl
  simp only [pA, pB, pC, pD]
  refine tk 11 rfl ?v_11_525 ?hy_11_525 ?r_11_525
  case hy_11_525 => intro w h; have k4 := h.1.c4; have k6 := h.1.c6; have k7 := h.1.c7; go_simp; try with_reducible rfl
  simp only [pA, pB, pC, pD]
  refine tk 12 rfl ?v_12_526 ?hy_12_526 ?r_12_526
  case hy_12_526 => intro w h; have k4 := h.1.c4; have k6 := h.1.c6; have k7 := h.1.c7; go_simp; try with_reducible rfl
  simp only [pA, pB, pC, pD]
  refine tk 13 rfl ?v_13_527 ?hy_13_527 ?r_13_527
  case hy_13_527 => intro w h; have k4 := h.1.c4; have k6 := h.1.c6; have k7 := h.1.c7; go_simp; try with_reducible rfl
  simp only [pA, pB, pC, pD]
  refine tk 14 rfl ?v_14_528 ?hy_14_528 ?r_14_528
  case hy_14_528 => intro w h; have k4 := h.1.c4; have k6 := h.1.c6; have k7 := h.1.c7; go_simp; try with_reducible rfl
  simp only [pA, pB, pC, pD]
  refine tk 15 rfl ?v_15_529 ?hy_15_529 ?r_15_529
  case hy_15_529 => intro w h; have k4 := h.1.c4; have k6 := h.1.c6; have k7 := h.1.c7; go_simp; try with_reducible rfl
  simp only [pA, pB, pC, pD]
  refine tk 16 rfl ?v_16_530 ?hy_16_530 ?r_16_530
  case hy_16_530 => intro w h; have k4 := h.1.c4; have k6 := h.1.c6; have k7 := h.1.c7; go_simp; try with_reducible rfl
  simp only [pA, pB, pC, pD]
  refine tk 17 rfl ?v_17_531 ?hy_17_531 ?r_17_531
  case hy_17_531 => intro w h; have k4 := h.1.c4; have k6 := h.1.c6; have k7 := h.1.c7; go_simp; try with_reducible rfl
  simp only [pA, pB, pC, pD]
  refine wpAnyH_take (i := 18) (oi := ⟨_, _, _, _, _, _⟩) (v := stV s lv) rfl (by kernel_rfl) (by kernel_rfl) (by kernel_rfl) (fun _ _ _ h => h) (yieldsIf_load_mid (by kernel_rfl) 25 (.tmp 1) rfl w.heap.size 0 rfl (stCs s lv).toList _ (fun w' h j v hv => by rw [Nat.zero_add, h.1.cell]; simpa using hv) Tryd.underlying25 rfl (by rw [stInfo]; rfl)) (by assumption) ?_
  simp only [pA, pB, pC, pD]
  refine wpAnyH_ready (rs := [19]) (by kernel_rfl) (by simp) ?_
  refine AllReadyH.cons rfl (fun K hK => ?_) AllReadyH.nil
  go_simp
  go_at_call 21
  obtain ⟨hSt, hLn, hBe⟩ := hHeld
  refine (HDU.out _ hLn).mono ?_
  rintro x w3 ⟨rfl, hb⟩
  go_wp2_with fail
  refine hK.out _ _ ⟨hSt.below hb, hLn.below hb, Below.next hBe hb⟩ (fun hHeld => ?_)
  clear hK K hSt hLn hBe hb
  refine tk 20 rfl ?v_20_532 ?hy_20_532 ?r_20_532
  case hy_20_532 => intro w h; have k4 := h.1.c4; have k6 := h.1.c6; have k7 := h.1.c7; go_simp; try with_reducible rfl
  simp only [pA, pB, pC, pD]
  refine tk 21 rfl ?v_21_533 ?hy_21_533 ?r_21_533
  case hy_21_533 => intro w h; have k4 := h.1.c4; have k6 := h.1.c6; have k7 := h.1.c7; go_simp; try with_reducible rfl
  simp only [pA, pB, pC, pD]
  refine wpAnyH_done (by kernel_rfl) ?_ _
  have c1 : w3.cell? ⟨w.heap.size, 1, none⟩ = some (.int .i64 0) := by rw [hHeld.1.cell 1, stCs, HS.out]; rfl
  have c2 : w3.cell? ⟨w.heap.size, 2, none⟩ = some (.int .i64 0) := by rw [hHeld.1.cell 2, stCs, HP.out]; rfl
  have HE := Lib.hid hHeld
  clear hHeld HE2 k1 k2 k3 k4 k5 k6 k7 k8 e1 e2 e3 e4 e5 e6 q1 q2 q3 c0
  go_wp2
  clear c1 c2
  refine wp_region_held_drew (S := fun w' => StBlk w' w.heap.size s lv ∧ LnRow w' lv s.lines ∧ Below w.heap.size w w') (by kernel_rfl) ⟨HE.out.1, HE.out.2.1, Below.next HE.out.2.2 (below_drewN' _ 1)⟩ (fun hHeld => ?_)
  refine tk 0 rfl ?v_0_534 ?hy_0_534 ?r_0_534
  case hy_0_534 => intro w h; have k4 := h.1.c4; have k6 := h.1.c6; have k7 := h.1.c7; go_simp; try with_reducible rfl
  simp only [pA, pB, pC, pD]
  refine tk 1 rfl ?v_1_535 ?hy_1_535 ?r_1_535
  case hy_1_535 => intro w h; have k4 := h.1.c4; have k6 := h.1.c6; have k7 := h.1.c7; go_simp; try with_reducible rfl
  simp only [pA, pB, pC, pD]
  refine tk 2 rfl ?v_2_536 ?hy_2_536 ?r_2_536
  case hy_2_536 => intro w h; have k4 := h.1.c4; have k6 := h.1.c6; have k7 := h.1.c7; go_simp; try with_reducible rfl
  simp only [pA, pB, pC, pD]
  refine tk 3 rfl ?v_3_537 ?hy_3_537 ?r_3_537
  case hy_3_537 => intro w h; have k4 := h.1.c4; have k6 := h.1.c6; have k7 := h.1.c7; go_simp; try with_reducible rfl
  simp only [pA, pB, pC, pD]
  refine tk 4 rfl ?v_4_538 ?hy_4_538 ?r_4_538
  case hy_4_538 => intro w h; have k4 := h.1.c4; have k6 := h.1.c6; have k7 := h.1.c7; go_simp; try with_reducible rfl
  simp only [pA, pB, pC, pD]
  refine tk 5 rfl ?v_5_539 ?hy_5_539 ?r_5_539
  case hy_5_539 => intro w h; have k4 := h.1.c4; have k6 := h.1.c6; have k7 := h.1.c7; go_simp; try with_reducible rfl
  simp only [pA, pB, pC, pD]
  refine wpAnyH_take (i := 6) (oi := ⟨_, _, _, _, _, _⟩) (v := stV s lv) rfl (by kernel_rfl) (by kernel_rfl) (by kernel_rfl) (fun _ _ _ h => h) (yieldsIf_load_mid (by kernel_rfl) 25 (.tmp 1) rfl w.heap.size 0 rfl (stCs s lv).toList _ (fun w' h j v hv => by rw [Nat.zero_add, h.1.cell]; simpa using hv) Tryd.underlying25 rfl (by rw [stInfo]; rfl)) (by assumption) ?_
  simp only [pA, pB, pC, pD]
  refine wpAnyH_ready (rs := [7]) (by kernel_rfl) (by simp) ?_
  refine AllReadyH.cons rfl (fun K hK => ?_) AllReadyH.nil
  go_simp
  go_at_call 21
  obtain ⟨hSt, hLn, hBe⟩ := hHeld
  refine (HDU.out _ hLn).mono ?_
  rintro x w4 ⟨rfl, hb⟩
  go_wp2_with fail
  refine hK.out _ _ ⟨hSt.below hb, hLn.below hb, Below.next hBe hb⟩ (fun hHeld => ?_)
  clear hK K hSt hLn hBe hb
  refine tk 8 rfl ?v_8_540 ?hy_8_540 ?r_8_540
  case hy_8_540 => intro w h; have k4 := h.1.c4; have k6 := h.1.c6; have k7 := h.1.c7; go_simp; try with_reducible rfl
  simp only [pA, pB, pC, pD]
  refine tk 9 rfl ?v_9_541 ?hy_9_541 ?r_9_541
  case hy_9_541 => intro w h; have k4 := h.1.c4; have k6 := h.1.c6; have k7 := h.1.c7; go_simp; try with_reducible rfl
  simp only [pA, pB, pC, pD]
  refine tk 10 rfl ?v_10_542 ?hy_10_542 ?r_10_542
  case hy_10_542 => intro w h; have k4 := h.1.c4; have k6 := h.1.c6; have k7 := h.1.c7; go_simp; try with_reducible rfl
  simp only [pA, pB, pC, pD]
  refine wpAnyH_done (by kernel_rfl) ?_ _
  have HE4 := Lib.hid hHeld
  clear hHeld HE HDU
  have l1 : ((s.lines.length : Int) == 0) = s.lines.isEmpty := by cases s.lines <;> simp <;> omega
  rcases sixD s.lines.isEmpty (s.cur == 0) (s.tax == 0) (s.stamp == 0) s.who.isEmpty (s.events == s.refused) with k1 | ⟨k1, k2⟩ | ⟨k1, k2, k3⟩ | ⟨k1, k2, k3, k4⟩ | ⟨k1, k2, k3, k4, k5⟩ | ⟨k1, k2, k3, k4, k5, k6⟩ | ⟨k1, k2, k3, k4, k5, k6⟩
  · rw [k1] at l1
    go_wp2_with (first
      | (with_reducible refine wpList_load_st rfl (.tmp 1) rfl w.heap.size s lv rfl HE4.out.1 ?_)
      | (go_at_call 22; refine (HSS.out _).mono ?_; rintro x w5 ⟨rfl, hb⟩; have HE5 := Lib.hid (show StBlk w5 w.heap.size s lv ∧ LnRow w5 lv s.lines ∧ Below w.heap.size w w5 from ⟨HE4.out.1.below hb, HE4.out.2.1.below hb, Below.next HE4.out.2.2 hb⟩); clear hb
         have z0 := HE5.out.1.c0; have z1 := HE5.out.1.c1; have z2 := HE5.out.1.c2; have z3 := HE5.out.1.c3; have z4 := HE5.out.1.c4; have z6 := HE5.out.1.c6; have z7 := HE5.out.1.c7; have z8 := HE5.out.1.c8; have z9 := HE5.out.1.c9; have z10 := HE5.out.1.c10; have z11 := HE5.out.1.c11; have z5 : w5.cell? ⟨w.heap.size, 5, none⟩ = some (.slice oa s.lines.length cap) := by rw [HE5.out.1.cell 5, stCs, HLV.out]; rfl))
    have HB := Lib.hid HE5.out.2.2
    go_ret
    exact ⟨by rw [HVb.out, k1]; rfl, HB.out⟩
  · rw [k1] at l1
    have p0 : (s.paid == 0) = true := by rw [beq_iff_eq]; exact HPZ.out k1
    go_wp2_with (first
      | (with_reducible refine wpList_load_st rfl (.tmp 1) rfl w.heap.size s lv rfl HE4.out.1 ?_)
      | (go_at_call 22; refine (HSS.out _).mono ?_; rintro x w5 ⟨rfl, hb⟩; have HE5 := Lib.hid (show StBlk w5 w.heap.size s lv ∧ LnRow w5 lv s.lines ∧ Below w.heap.size w w5 from ⟨HE4.out.1.below hb, HE4.out.2.1.below hb, Below.next HE4.out.2.2 hb⟩); clear hb
         have z0 := HE5.out.1.c0; have z1 := HE5.out.1.c1; have z2 := HE5.out.1.c2; have z3 := HE5.out.1.c3; have z4 := HE5.out.1.c4; have z6 := HE5.out.1.c6; have z7 := HE5.out.1.c7; have z8 := HE5.out.1.c8; have z9 := HE5.out.1.c9; have z10 := HE5.out.1.c10; have z11 := HE5.out.1.c11; have z5 : w5.cell? ⟨w.heap.size, 5, none⟩ = some (.slice oa s.lines.length cap) := by rw [HE5.out.1.cell 5, stCs, HLV.out]; rfl))
    have HB := Lib.hid HE5.out.2.2
    go_ret
    exact ⟨by rw [HVb.out, k1, k2]; rfl, HB.out⟩
  · rw [k1] at l1
    have p0 : (s.paid == 0) = true := by rw [beq_iff_eq]; exact HPZ.out k1
    go_wp2_with (first
      | (with_reducible refine wpList_load_st rfl (.tmp 1) rfl w.heap.size s lv rfl HE4.out.1 ?_)
      | (go_at_call 22; refine (HSS.out _).mono ?_; rintro x w5 ⟨rfl, hb⟩; have HE5 := Lib.hid (show StBlk w5 w.heap.size s lv ∧ LnRow w5 lv s.lines ∧ Below w.heap.size w w5 from ⟨HE4.out.1.below hb, HE4.out.2.1.below hb, Below.next HE4.out.2.2 hb⟩); clear hb
         have z0 := HE5.out.1.c0; have z1 := HE5.out.1.c1; have z2 := HE5.out.1.c2; have z3 := HE5.out.1.c3; have z4 := HE5.out.1.c4; have z6 := HE5.out.1.c6; have z7 := HE5.out.1.c7; have z8 := HE5.out.1.c8; have z9 := HE5.out.1.c9; have z10 := HE5.out.1.c10; have z11 := HE5.out.1.c11; have z5 : w5.cell? ⟨w.heap.size, 5, none⟩ = some (.slice oa s.lines.length cap) := by rw [HE5.out.1.cell 5, stCs, HLV.out]; rfl))
    have HB := Lib.hid HE5.out.2.2
    go_ret
    exact ⟨by rw [HVb.out, k1, k2, k3]; rfl, HB.out⟩
  · rw [k1] at l1
    have p0 : (s.paid == 0) = true := by rw [beq_iff_eq]; exact HPZ.out k1
    go_wp2_with (first
      | (with_reducible refine wpList_load_st rfl (.tmp 1) rfl w.heap.size s lv rfl HE4.out.1 ?_)
      | (go_at_call 22; refine (HSS.out _).mono ?_; rintro x w5 ⟨rfl, hb⟩; have HE5 := Lib.hid (show StBlk w5 w.heap.size s lv ∧ LnRow w5 lv s.lines ∧ Below w.heap.size w w5 from ⟨HE4.out.1.below hb, HE4.out.2.1.below hb, Below.next HE4.out.2.2 hb⟩); clear hb
         have z0 := HE5.out.1.c0; have z1 := HE5.out.1.c1; have z2 := HE5.out.1.c2; have z3 := HE5.out.1.c3; have z4 := HE5.out.1.c4; have z6 := HE5.out.1.c6; have z7 := HE5.out.1.c7; have z8 := HE5.out.1.c8; have z9 := HE5.out.1.c9; have z10 := HE5.out.1.c10; have z11 := HE5.out.1.c11; have z5 : w5.cell? ⟨w.heap.size, 5, none⟩ = some (.slice oa s.lines.length cap) := by rw [HE5.out.1.cell 5, stCs, HLV.out]; rfl))
    have HB := Lib.hid HE5.out.2.2
    go_ret
    exact ⟨by rw [HVb.out, k1, k2, k3, k4]; simp, HB.out⟩
  · rw [k1] at l1
    have p0 : (s.paid == 0) = true := by rw [beq_iff_eq]; exact HPZ.out k1
    go_wp2_with (first
      | (with_reducible refine wpList_load_st rfl (.tmp 1) rfl w.heap.size s lv rfl HE4.out.1 ?_)
      | (go_at_call 22; refine (HSS.out _).mono ?_; rintro x w5 ⟨rfl, hb⟩; have HE5 := Lib.hid (show StBlk w5 w.heap.size s lv ∧ LnRow w5 lv s.lines ∧ Below w.heap.size w w5 from ⟨HE4.out.1.below hb, HE4.out.2.1.below hb, Below.next HE4.out.2.2 hb⟩); clear hb
         have z0 := HE5.out.1.c0; have z1 := HE5.out.1.c1; have z2 := HE5.out.1.c2; have z3 := HE5.out.1.c3; have z4 := HE5.out.1.c4; have z6 := HE5.out.1.c6; have z7 := HE5.out.1.c7; have z8 := HE5.out.1.c8; have z9 := HE5.out.1.c9; have z10 := HE5.out.1.c10; have z11 := HE5.out.1.c11; have z5 : w5.cell? ⟨w.heap.size, 5, none⟩ = some (.slice oa s.lines.length cap) := by rw [HE5.out.1.cell 5, stCs, HLV.out]; rfl))
    have HB := Lib.hid HE5.out.2.2
    go_ret
    exact ⟨by rw [HVb.out, k1, k2, k3, k4, k5]; simp, HB.out⟩
  · rw [k1] at l1
    have p0 : (s.paid == 0) = true := by rw [beq_iff_eq]; exact HPZ.out k1
    have k6' : (s.refused == s.events) = false := by rw [← k6, Bool.beq_comm]
    go_wp2_with (first
      | (with_reducible refine wpList_load_st rfl (.tmp 1) rfl w.heap.size s lv rfl HE4.out.1 ?_)
      | (go_at_call 22; refine (HSS.out _).mono ?_; rintro x w5 ⟨rfl, hb⟩; have HE5 := Lib.hid (show StBlk w5 w.heap.size s lv ∧ LnRow w5 lv s.lines ∧ Below w.heap.size w w5 from ⟨HE4.out.1.below hb, HE4.out.2.1.below hb, Below.next HE4.out.2.2 hb⟩); clear hb
         have z0 := HE5.out.1.c0; have z1 := HE5.out.1.c1; have z2 := HE5.out.1.c2; have z3 := HE5.out.1.c3; have z4 := HE5.out.1.c4; have z6 := HE5.out.1.c6; have z7 := HE5.out.1.c7; have z8 := HE5.out.1.c8; have z9 := HE5.out.1.c9; have z10 := HE5.out.1.c10; have z11 := HE5.out.1.c11; have z5 : w5.cell? ⟨w.heap.size, 5, none⟩ = some (.slice oa s.lines.length cap) := by rw [HE5.out.1.cell 5, stCs, HLV.out]; rfl))
    have HB := Lib.hid HE5.out.2.2
    go_ret
    exact ⟨by rw [HVb.out, k1, k2, k3, k4, k5, k6]; rfl, HB.out⟩
  · rw [k1] at l1
    have p0 : (s.paid == 0) = true := by rw [beq_iff_eq]; exact HPZ.out k1
    have k6' : (s.refused == s.events) = true := by rw [← k6, Bool.beq_comm]
    go_wp2_with (first
      | (with_reducible refine wpList_load_st rfl (.tmp 1) rfl w.heap.size s lv rfl HE4.out.1 ?_)
      | (go_at_call 22; refine (HSS.out _).mono ?_; rintro x w5 ⟨rfl, hb⟩; have HE5 := Lib.hid (show StBlk w5 w.heap.size s lv ∧ LnRow w5 lv s.lines ∧ Below w.heap.size w w5 from ⟨HE4.out.1.below hb, HE4.out.2.1.below hb, Below.next HE4.out.2.2 hb⟩); clear hb
         have z0 := HE5.out.1.c0; have z1 := HE5.out.1.c1; have z2 := HE5.out.1.c2; have z3 := HE5.out.1.c3; have z4 := HE5.out.1.c4; have z6 := HE5.out.1.c6; have z7 := HE5.out.1.c7; have z8 := HE5.out.1.c8; have z9 := HE5.out.1.c9; have z10 := HE5.out.1.c10; have z11 := HE5.out.1.c11; have z5 : w5.cell? ⟨w.heap.size, 5, none⟩ = some (.slice oa s.lines.length cap) := by rw [HE5.out.1.cell 5, stCs, HLV.out]; rfl))
    have HB := Lib.hid HE5.out.2.2
    go_ret
    exact ⟨by rw [HVb.out, k1, k2, k3, k4, k5, k6]; rfl, HB.out⟩

set_option maxRecDepth 100000 in
set_option maxHeartbeats 16000000 in
theorem rvok_0_0_2 (s : St) (lv : Value) (w : World) (hr : LnRow w lv s.lines) (hw : s.who.length ≤ 281474976710656) (hf : boundedB s = true) (hm : ¬ dueOf s < s.paid) (hs : s.status = 0) (hp : s.prior = 0) (g3 : decide (0 < s.paid) = true) (g1 : (s.paid == dueOf s) = true) :
    Calls Tryd.prog 11 #[stV s lv] w fun e w' => e = .returned (.bool (validB s)) ∧ Below w.heap.size w w' := by
  have HVb := Lib.hid (show validB s = (s.lines.isEmpty && s.cur == 0 && s.tax == 0 && s.events == s.refused && s.stamp == 0 && s.who.isEmpty) by
    have h1 : validB s = standB s 0 := by unfold validB; rw [hf, decide_eq_true (by omega), hs, hp]; rfl
    have h2 : (s.paid == dueOf s && decide (0 < s.paid)) = true := by rw [g3, g1]; rfl
    rw [h1]; unfold standB; rw [h2]; rfl)
  have hbp := bounded_p hf
  have k1 : decide (s.order < 1) = false := by rw [decide_eq_false_iff_not]; have := hbp.order; omega
  have k2 : decide (1099511627776 < s.order) = false := by rw [decide_eq_false_iff_not]; have := hbp.order; omega
  have k3 : decide (s.status < 0) = false := by rw [decide_eq_false_iff_not]; have := hbp.status; omega
  have k4 : decide (5 < s.status) = false := by rw [decide_eq_false_iff_not]; have := hbp.status; omega
  have k5 : decide (s.cur < 0) = false := by rw [decide_eq_false_iff_not]; have := hbp.cur; omega
  have k6 : decide (3 < s.cur) = false := by rw [decide_eq_false_iff_not]; have := hbp.cur; omega
  have k7 : decide (s.tax < 0) = false := by rw [decide_eq_false_iff_not]; have := hbp.tax; omega
  have k8 : decide (5000 < s.tax) = false := by rw [decide_eq_false_iff_not]; have := hbp.tax; omega
  have e1 : decide (s.events < 0) = false := by rw [decide_eq_false_iff_not]; have := hbp.events; omega
  have e2 : decide (1099511627776 < s.events) = false := by rw [decide_eq_false_iff_not]; have := hbp.events; omega
  have e3 : decide (s.refused < 0) = false := by rw [decide_eq_false_iff_not]; have := hbp.refused; omega
  have e4 : decide (s.events < s.refused) = false := by rw [decide_eq_false_iff_not]; have := hbp.events; have := hbp.refused; omega
  have e5 : decide (s.stamp < 0) = false := by rw [decide_eq_false_iff_not]; have := hbp.stamp; omega
  have e6 : decide (1099511627776 < s.stamp) = false := by rw [decide_eq_false_iff_not]; have := hbp.stamp; omega
  have q1 : decide (s.refunded < 0) = false := by rw [decide_eq_false_iff_not]; have := hbp.refunded; omega
  have q2 : decide (s.paid < s.refunded) = false := by rw [decide_eq_false_iff_not]; have := hbp.refunded; omega
  have q3 : decide (s.paid < 0) = false := by rw [decide_eq_false_iff_not]; have := hbp.refunded; omega
  have hn := (bounded_lined hf).2
  have hl := (bounded_lined hf).1
  obtain ⟨c, hc⟩ : ∃ c, c = evCheck 4 (evWho s.who) := ⟨_, rfl⟩
  have hcn : (c == 0) = namedB s.who := by rw [hc]; exact evWho_check 4 (.inl rfl) s.who
  have HC := Lib.hid (show ∀ W : World, Calls Tryd.prog 19 #[.int .i64 4, .agg #[.int .i64 1, .int .i64 1, .int .i64 0, .int .i64 0, .int .i64 0, .int .i64 0, .int .i64 0, .string ⟨s.who.toArray⟩, .int .i64 0, .string ⟨#[]⟩]] W (ChkPost c W) from fun W => hc ▸ refCheckB_any 4 (evWho s.who) W (evWho_ok s.who hw))
  have HLN := Lib.hid (show ∀ W : World, LnRow W lv s.lines → Calls Tryd.prog 20 #[stV s lv] W fun e w' => e = .returned (.bool (linedB s.lines)) ∧ Below W.heap.size W w' from fun W h => rlines_any s lv W h)
  have HE0 := Lib.hid (show StBlk (w.alloc (.cells (stCs s lv) 25)) w.heap.size s lv ∧ LnRow (w.alloc (.cells (stCs s lv) 25)) lv s.lines ∧ Below w.heap.size w (w.alloc (.cells (stCs s lv) 25)) from by
    have hb : Below w.heap.size w (w.alloc (.cells (stCs s lv) 25)) := (Below.refl _ _).alloc (Nat.le_refl _) _
    exact ⟨stBlk_alloc w s lv, hr.below hb, hb⟩)
  have c0 : (c != 0) = false := by rw [hn, beq_iff_eq] at hcn; rw [bne_eq_false_iff_eq]; exact hcn
  rw [hl] at HLN
  obtain ⟨D, hD⟩ : ∃ D, D = dueOf s := ⟨_, rfl⟩
  have HDU := Lib.hid (show ∀ W : World, LnRow W lv s.lines → Calls Tryd.prog 21 #[stV s lv] W fun e w' => e = .returned (.int .i64 D) ∧ Below W.heap.size W w' from fun W h => hD ▸ rdue_any s lv W h hbp.fine hbp.few hbp.tax.1 hbp.tax.2)
  have HSS := Lib.hid (show ∀ W : World, Calls Tryd.prog 22 #[stV s lv] W fun e w' => e = .returned (.int .i64 0) ∧ Below W.heap.size W w' from fun W => by have h := rstands_else s lv W (by omega); rw [hs] at h; exact h)
  have HUN := Lib.hid (show ∀ W : World, LnRow W lv s.lines → Calls Tryd.prog 23 #[stV s lv] W fun e w' => e = .returned (.bool (noneB s.lines)) ∧ Below W.heap.size W w' from fun W h => runtouched_any s lv W h hbp.fine)
  have HWH := Lib.hid (show ∀ W : World, LnRow W lv s.lines → Calls Tryd.prog 24 #[stV s lv] W fun e w' => e = .returned (.bool (wholeB s.lines)) ∧ Below W.heap.size W w' from fun W h => rwhole_any s lv W h hbp.fine)
  obtain ⟨nB, hnB⟩ : ∃ x, x = noneB s.lines := ⟨_, rfl⟩
  obtain ⟨wB, hwB⟩ : ∃ x, x = wholeB s.lines := ⟨_, rfl⟩
  rw [← hnB] at HUN
  rw [← hwB] at HWH
  rw [← hD] at hm g1
  have HPZ := Lib.hid (show s.lines.isEmpty = true → s.paid = 0 from fun he => by
    have h1 : s.lines = [] := List.isEmpty_iff.1 he
    have h2 : D = 0 := by rw [hD]; unfold dueOf; rw [h1]; simp [netOf]
    have h3 := hbp.refunded
    omega)
  have d1 : decide (D < s.paid) = false := decide_eq_false hm
  have hm2 : s.paid ≤ D := by omega
  have HS := Lib.hid hs
  have HP := Lib.hid hp
  obtain ⟨oa, cap, hlv, _, _, _⟩ := hr.shape
  have HLV := Lib.hid hlv
  clear hc hcn hn hl hr hw hf hbp hD hm hs hp hnB hwB hlv
  go_enter Tryd.func11, Tryd.ntmps11
  go_wp2_with (first
    | (go_at_call 19; (with_reducible refine (HC.out _).mono ?_); rintro x w1 ⟨rfl, hb1⟩; have HE1 := Lib.hid (show StBlk w1 w.heap.size s lv ∧ LnRow w1 lv s.lines ∧ Below w.heap.size w w1 from ⟨HE0.out.1.below hb1, HE0.out.2.1.below hb1, Below.next HE0.out.2.2 hb1⟩); clear hb1; have z0 := HE1.out.1.c0; have z1 := HE1.out.1.c1; have z2 := HE1.out.1.c2; have z3 := HE1.out.1.c3; have z4 := HE1.out.1.c4; have z5 := HE1.out.1.c5; have z6 := HE1.out.1.c6; have z7 := HE1.out.1.c7; have z8 := HE1.out.1.c8; have z9 := HE1.out.1.c9; have z10 := HE1.out.1.c10; have z11 := HE1.out.1.c11)
    | (with_reducible refine wpList_load_st rfl (.tmp 1) rfl w.heap.size s lv rfl HE1.out.1 ?_)
    | (go_at_call 20; refine (HLN.out _ HE1.out.2.1).mono ?_; rintro x w2 ⟨rfl, hb2⟩; have HE2 := Lib.hid (show StBlk w2 w.heap.size s lv ∧ LnRow w2 lv s.lines ∧ Below w.heap.size w w2 from ⟨HE1.out.1.below hb2, HE1.out.2.1.below hb2, Below.next HE1.out.2.2 hb2⟩); clear hb2))
  clear z0 z1 z2 z3 z4 z5 z6 z7 z8 z9 z10 z11 HE0 HE1 HC HLN
  refine wp_region_held_drew (S := fun w' => StBlk w' w.heap.size s lv ∧ LnRow w' lv s.lines ∧ Below w.heap.size w w') (by kernel_rfl) ⟨HE2.out.1, HE2.out.2.1, Below.next HE2.out.2.2 (below_drewN' _ 1)⟩ (fun hHeld => ?_)
  refine tk 0 rfl ?v_0_543 ?hy_0_543 ?r_0_543
  case hy_0_543 => intro w h; have k4 := h.1.c4; have k6 := h.1.c6; have k7 := h.1.c7; go_simp; try with_reducible rfl
  simp only [pA, pB, pC, pD]
  refine tk 1 rfl ?v_1_544 ?hy_1_544 ?r_1_544
  case hy_1_544 => intro w h; have k4 := h.1.c4; have k6 := h.1.c6; have k7 := h.1.c7; go_simp; try with_reducible rfl
  simp only [pA, pB, pC, pD]
  refine tk 2 rfl ?v_2_545 ?hy_2_545 ?r_2_545
  case hy_2_545 => intro w h; have k4 := h.1.c4; have k6 := h.1.c6; have k7 := h.1.c7; go_simp; try with_reducible rfl
  simp only [pA, pB, pC, pD]
  refine tk 3 rfl ?v_3_546 ?hy_3_546 ?r_3_546
  case hy_3_546 => intro w h; have k4 := h.1.c4; have k6 := h.1.c6; have k7 := h.1.c7; go_simp; try with_reducible rfl
  simp only [pA, pB, pC, pD]
  refine tk 4 rfl ?v_4_547 ?hy_4_547 ?r_4_547
  case hy_4_547 => intro w h; have k4 := h.1.c4; have k6 := h.1.c6; have k7 := h.1.c7; go_simp; try with_reducible rfl
  simp only [pA, pB, pC, pD]
  refine tk 5 rfl ?v_5_548 ?hy_5_548 ?r_5_548
  case hy_5_548 => intro w h; have k4 := h.1.c4; have k6 := h.1.c6; have k7 := h.1.c7; go_simp; try with_reducible rfl
  simp only [pA, pB, pC, pD]
  refine tk 6 rfl ?v_6_549 ?hy_6_549 ?r_6_549
  case hy_6_549 => intro w h; have k4 := h.1.c4; have k6 := h.1.c6; have k7 := h.1.c7; go_simp; try with_reducible rfl
  simp only [pA, pB, pC, pD]
  refine tk 7 rfl ?v_7_550 ?hy_7_550 ?r_7_550
  case hy_7_550 => intro w h; have k4 := h.1.c4; have k6 := h.1.c6; have k7 := h.1.c7; go_simp; try with_reducible rfl
  simp only [pA, pB, pC, pD]
  refine tk 8 rfl ?v_8_551 ?hy_8_551 ?r_8_551
  case hy_8_551 => intro w h; have k4 := h.1.c4; have k6 := h.1.c6; have k7 := h.1.c7; go_simp; try with_reducible rfl
  simp only [pA, pB, pC, pD]
  refine tk 9 rfl ?v_9_552 ?hy_9_552 ?r_9_552
  case hy_9_552 => intro w h; have k4 := h.1.c4; have k6 := h.1.c6; have k7 := h.1.c7; go_simp; try with_reducible rfl
  simp only [pA, pB, pC, pD]
  refine tk 10 rfl ?v_10_553 ?hy_10_553 ?r_10_553
  case hy_10_553 => intro w h; have k4 := h.1.c4; have k6 := h.1.c6; have k7 := h.1.c7; go_simp; try with_reducible rfl
  simp only [pA, pB, pC, pD]
  refine tk 11 rfl ?v_11_554 ?hy_11_554 ?r_11_554
  case hy_11_554 => intro w h; have k4 := h.1.c4; have k6 := h.1.c6; have k7 := h.1.c7; go_simp; try with_reducible rfl
  simp only [pA, pB, pC, pD]
  refine tk 12 rfl ?v_12_555 ?hy_12_555 ?r_12_555
  case hy_12_555 => intro w h; have k4 := h.1.c4; have k6 := h.1.c6; have k7 := h.1.c7; go_simp; try with_reducible rfl
  simp only [pA, pB, pC, pD]
  refine tk 13 rfl ?v_13_556 ?hy_13_556 ?r_13_556
  case hy_13_556 => intro w h; have k4 := h.1.c4; have k6 := h.1.c6; have k7 := h.1.c7; go_simp; try with_reducible rfl
  simp only [pA, pB, pC, pD]
  refine tk 14 rfl ?v_14_557 ?hy_14_557 ?r_14_557
  case hy_14_557 => intro w h; have k4 := h.1.c4; have k6 := h.1.c6; have k7 := h.1.c7; go_simp; try with_reducible rfl
  simp only [pA, pB, pC, pD]
  refine tk 15 rfl ?v_15_558 ?hy_15_558 ?r_15_558
  case hy_15_558 => intro w h; have k4 := h.1.c4; have k6 := h.1.c6; have k7 := h.1.c7; go_simp; try with_reducible rfl
  simp only [pA, pB, pC, pD]
  refine tk 16 rfl ?v_16_559 ?hy_16_559 ?r_16_559
  case hy_16_559 => intro w h; have k4 := h.1.c4; have k6 := h.1.c6; have k7 := h.1.c7; go_simp; try with_reducible rfl
  simp only [pA, pB, pC, pD]
  refine tk 17 rfl ?v_17_560 ?hy_17_560 ?r_17_560
  case hy_17_560 => intro w h; have k4 := h.1.c4; have k6 := h.1.c6; have k7 := h.1.c7; go_simp; try with_reducible rfl
  simp only [pA, pB, pC, pD]
  refine wpAnyH_take (i := 18) (oi := ⟨_, _, _, _, _, _⟩) (v := stV s lv) rfl (by kernel_rfl) (by kernel_rfl) (by kernel_rfl) (fun _ _ _ h => h) (yieldsIf_load_mid (by kernel_rfl) 25 (.tmp 1) rfl w.heap.size 0 rfl (stCs s lv).toList _ (fun w' h j v hv => by rw [Nat.zero_add, h.1.cell]; simpa using hv) Tryd.underlying25 rfl (by rw [stInfo]; rfl)) (by assumption) ?_
  simp only [pA, pB, pC, pD]
  refine wpAnyH_ready (rs := [19]) (by kernel_rfl) (by simp) ?_
  refine AllReadyH.cons rfl (fun K hK => ?_) AllReadyH.nil
  go_simp
  go_at_call 21
  obtain ⟨hSt, hLn, hBe⟩ := hHeld
  refine (HDU.out _ hLn).mono ?_
  rintro x w3 ⟨rfl, hb⟩
  go_wp2_with fail
  refine hK.out _ _ ⟨hSt.below hb, hLn.below hb, Below.next hBe hb⟩ (fun hHeld => ?_)
  clear hK K hSt hLn hBe hb
  refine tk 20 rfl ?v_20_561 ?hy_20_561 ?r_20_561
  case hy_20_561 => intro w h; have k4 := h.1.c4; have k6 := h.1.c6; have k7 := h.1.c7; go_simp; try with_reducible rfl
  simp only [pA, pB, pC, pD]
  refine tk 21 rfl ?v_21_562 ?hy_21_562 ?r_21_562
  case hy_21_562 => intro w h; have k4 := h.1.c4; have k6 := h.1.c6; have k7 := h.1.c7; go_simp; try with_reducible rfl
  simp only [pA, pB, pC, pD]
  refine wpAnyH_done (by kernel_rfl) ?_ _
  have c1 : w3.cell? ⟨w.heap.size, 1, none⟩ = some (.int .i64 0) := by rw [hHeld.1.cell 1, stCs, HS.out]; rfl
  have c2 : w3.cell? ⟨w.heap.size, 2, none⟩ = some (.int .i64 0) := by rw [hHeld.1.cell 2, stCs, HP.out]; rfl
  have HE := Lib.hid hHeld
  clear hHeld HE2 k1 k2 k3 k4 k5 k6 k7 k8 e1 e2 e3 e4 e5 e6 q1 q2 q3 c0
  go_wp2
  clear c1 c2
  refine wp_region_held_drew (S := fun w' => StBlk w' w.heap.size s lv ∧ LnRow w' lv s.lines ∧ Below w.heap.size w w') (by kernel_rfl) ⟨HE.out.1, HE.out.2.1, Below.next HE.out.2.2 (below_drewN' _ 1)⟩ (fun hHeld => ?_)
  refine tk 0 rfl ?v_0_563 ?hy_0_563 ?r_0_563
  case hy_0_563 => intro w h; have k4 := h.1.c4; have k6 := h.1.c6; have k7 := h.1.c7; go_simp; try with_reducible rfl
  simp only [pA, pB, pC, pD]
  refine tk 1 rfl ?v_1_564 ?hy_1_564 ?r_1_564
  case hy_1_564 => intro w h; have k4 := h.1.c4; have k6 := h.1.c6; have k7 := h.1.c7; go_simp; try with_reducible rfl
  simp only [pA, pB, pC, pD]
  refine tk 2 rfl ?v_2_565 ?hy_2_565 ?r_2_565
  case hy_2_565 => intro w h; have k4 := h.1.c4; have k6 := h.1.c6; have k7 := h.1.c7; go_simp; try with_reducible rfl
  simp only [pA, pB, pC, pD]
  refine tk 3 rfl ?v_3_566 ?hy_3_566 ?r_3_566
  case hy_3_566 => intro w h; have k4 := h.1.c4; have k6 := h.1.c6; have k7 := h.1.c7; go_simp; try with_reducible rfl
  simp only [pA, pB, pC, pD]
  refine tk 4 rfl ?v_4_567 ?hy_4_567 ?r_4_567
  case hy_4_567 => intro w h; have k4 := h.1.c4; have k6 := h.1.c6; have k7 := h.1.c7; go_simp; try with_reducible rfl
  simp only [pA, pB, pC, pD]
  refine tk 5 rfl ?v_5_568 ?hy_5_568 ?r_5_568
  case hy_5_568 => intro w h; have k4 := h.1.c4; have k6 := h.1.c6; have k7 := h.1.c7; go_simp; try with_reducible rfl
  simp only [pA, pB, pC, pD]
  refine wpAnyH_take (i := 6) (oi := ⟨_, _, _, _, _, _⟩) (v := stV s lv) rfl (by kernel_rfl) (by kernel_rfl) (by kernel_rfl) (fun _ _ _ h => h) (yieldsIf_load_mid (by kernel_rfl) 25 (.tmp 1) rfl w.heap.size 0 rfl (stCs s lv).toList _ (fun w' h j v hv => by rw [Nat.zero_add, h.1.cell]; simpa using hv) Tryd.underlying25 rfl (by rw [stInfo]; rfl)) (by assumption) ?_
  simp only [pA, pB, pC, pD]
  refine wpAnyH_ready (rs := [7]) (by kernel_rfl) (by simp) ?_
  refine AllReadyH.cons rfl (fun K hK => ?_) AllReadyH.nil
  go_simp
  go_at_call 21
  obtain ⟨hSt, hLn, hBe⟩ := hHeld
  refine (HDU.out _ hLn).mono ?_
  rintro x w4 ⟨rfl, hb⟩
  go_wp2_with fail
  refine hK.out _ _ ⟨hSt.below hb, hLn.below hb, Below.next hBe hb⟩ (fun hHeld => ?_)
  clear hK K hSt hLn hBe hb
  refine tk 8 rfl ?v_8_569 ?hy_8_569 ?r_8_569
  case hy_8_569 => intro w h; have k4 := h.1.c4; have k6 := h.1.c6; have k7 := h.1.c7; go_simp; try with_reducible rfl
  simp only [pA, pB, pC, pD]
  refine tk 9 rfl ?v_9_570 ?hy_9_570 ?r_9_570
  case hy_9_570 => intro w h; have k4 := h.1.c4; have k6 := h.1.c6; have k7 := h.1.c7; go_simp; try with_reducible rfl
  simp only [pA, pB, pC, pD]
  refine tk 10 rfl ?v_10_571 ?hy_10_571 ?r_10_571
  case hy_10_571 => intro w h; have k4 := h.1.c4; have k6 := h.1.c6; have k7 := h.1.c7; go_simp; try with_reducible rfl
  simp only [pA, pB, pC, pD]
  refine wpAnyH_done (by kernel_rfl) ?_ _
  have HE4 := Lib.hid hHeld
  clear hHeld HE HDU
  have l1 : ((s.lines.length : Int) == 0) = s.lines.isEmpty := by cases s.lines <;> simp <;> omega
  rcases sixD s.lines.isEmpty (s.cur == 0) (s.tax == 0) (s.stamp == 0) s.who.isEmpty (s.events == s.refused) with k1 | ⟨k1, k2⟩ | ⟨k1, k2, k3⟩ | ⟨k1, k2, k3, k4⟩ | ⟨k1, k2, k3, k4, k5⟩ | ⟨k1, k2, k3, k4, k5, k6⟩ | ⟨k1, k2, k3, k4, k5, k6⟩
  · rw [k1] at l1
    go_wp2_with (first
      | (with_reducible refine wpList_load_st rfl (.tmp 1) rfl w.heap.size s lv rfl HE4.out.1 ?_)
      | (go_at_call 22; refine (HSS.out _).mono ?_; rintro x w5 ⟨rfl, hb⟩; have HE5 := Lib.hid (show StBlk w5 w.heap.size s lv ∧ LnRow w5 lv s.lines ∧ Below w.heap.size w w5 from ⟨HE4.out.1.below hb, HE4.out.2.1.below hb, Below.next HE4.out.2.2 hb⟩); clear hb
         have z0 := HE5.out.1.c0; have z1 := HE5.out.1.c1; have z2 := HE5.out.1.c2; have z3 := HE5.out.1.c3; have z4 := HE5.out.1.c4; have z6 := HE5.out.1.c6; have z7 := HE5.out.1.c7; have z8 := HE5.out.1.c8; have z9 := HE5.out.1.c9; have z10 := HE5.out.1.c10; have z11 := HE5.out.1.c11; have z5 : w5.cell? ⟨w.heap.size, 5, none⟩ = some (.slice oa s.lines.length cap) := by rw [HE5.out.1.cell 5, stCs, HLV.out]; rfl))
    have HB := Lib.hid HE5.out.2.2
    go_ret
    exact ⟨by rw [HVb.out, k1]; rfl, HB.out⟩
  · rw [k1] at l1
    have p0 : (s.paid == 0) = true := by rw [beq_iff_eq]; exact HPZ.out k1
    go_wp2_with (first
      | (with_reducible refine wpList_load_st rfl (.tmp 1) rfl w.heap.size s lv rfl HE4.out.1 ?_)
      | (go_at_call 22; refine (HSS.out _).mono ?_; rintro x w5 ⟨rfl, hb⟩; have HE5 := Lib.hid (show StBlk w5 w.heap.size s lv ∧ LnRow w5 lv s.lines ∧ Below w.heap.size w w5 from ⟨HE4.out.1.below hb, HE4.out.2.1.below hb, Below.next HE4.out.2.2 hb⟩); clear hb
         have z0 := HE5.out.1.c0; have z1 := HE5.out.1.c1; have z2 := HE5.out.1.c2; have z3 := HE5.out.1.c3; have z4 := HE5.out.1.c4; have z6 := HE5.out.1.c6; have z7 := HE5.out.1.c7; have z8 := HE5.out.1.c8; have z9 := HE5.out.1.c9; have z10 := HE5.out.1.c10; have z11 := HE5.out.1.c11; have z5 : w5.cell? ⟨w.heap.size, 5, none⟩ = some (.slice oa s.lines.length cap) := by rw [HE5.out.1.cell 5, stCs, HLV.out]; rfl))
    have HB := Lib.hid HE5.out.2.2
    go_ret
    exact ⟨by rw [HVb.out, k1, k2]; rfl, HB.out⟩
  · rw [k1] at l1
    have p0 : (s.paid == 0) = true := by rw [beq_iff_eq]; exact HPZ.out k1
    go_wp2_with (first
      | (with_reducible refine wpList_load_st rfl (.tmp 1) rfl w.heap.size s lv rfl HE4.out.1 ?_)
      | (go_at_call 22; refine (HSS.out _).mono ?_; rintro x w5 ⟨rfl, hb⟩; have HE5 := Lib.hid (show StBlk w5 w.heap.size s lv ∧ LnRow w5 lv s.lines ∧ Below w.heap.size w w5 from ⟨HE4.out.1.below hb, HE4.out.2.1.below hb, Below.next HE4.out.2.2 hb⟩); clear hb
         have z0 := HE5.out.1.c0; have z1 := HE5.out.1.c1; have z2 := HE5.out.1.c2; have z3 := HE5.out.1.c3; have z4 := HE5.out.1.c4; have z6 := HE5.out.1.c6; have z7 := HE5.out.1.c7; have z8 := HE5.out.1.c8; have z9 := HE5.out.1.c9; have z10 := HE5.out.1.c10; have z11 := HE5.out.1.c11; have z5 : w5.cell? ⟨w.heap.size, 5, none⟩ = some (.slice oa s.lines.length cap) := by rw [HE5.out.1.cell 5, stCs, HLV.out]; rfl))
    have HB := Lib.hid HE5.out.2.2
    go_ret
    exact ⟨by rw [HVb.out, k1, k2, k3]; rfl, HB.out⟩
  · rw [k1] at l1
    have p0 : (s.paid == 0) = true := by rw [beq_iff_eq]; exact HPZ.out k1
    go_wp2_with (first
      | (with_reducible refine wpList_load_st rfl (.tmp 1) rfl w.heap.size s lv rfl HE4.out.1 ?_)
      | (go_at_call 22; refine (HSS.out _).mono ?_; rintro x w5 ⟨rfl, hb⟩; have HE5 := Lib.hid (show StBlk w5 w.heap.size s lv ∧ LnRow w5 lv s.lines ∧ Below w.heap.size w w5 from ⟨HE4.out.1.below hb, HE4.out.2.1.below hb, Below.next HE4.out.2.2 hb⟩); clear hb
         have z0 := HE5.out.1.c0; have z1 := HE5.out.1.c1; have z2 := HE5.out.1.c2; have z3 := HE5.out.1.c3; have z4 := HE5.out.1.c4; have z6 := HE5.out.1.c6; have z7 := HE5.out.1.c7; have z8 := HE5.out.1.c8; have z9 := HE5.out.1.c9; have z10 := HE5.out.1.c10; have z11 := HE5.out.1.c11; have z5 : w5.cell? ⟨w.heap.size, 5, none⟩ = some (.slice oa s.lines.length cap) := by rw [HE5.out.1.cell 5, stCs, HLV.out]; rfl))
    have HB := Lib.hid HE5.out.2.2
    go_ret
    exact ⟨by rw [HVb.out, k1, k2, k3, k4]; simp, HB.out⟩
  · rw [k1] at l1
    have p0 : (s.paid == 0) = true := by rw [beq_iff_eq]; exact HPZ.out k1
    go_wp2_with (first
      | (with_reducible refine wpList_load_st rfl (.tmp 1) rfl w.heap.size s lv rfl HE4.out.1 ?_)
      | (go_at_call 22; refine (HSS.out _).mono ?_; rintro x w5 ⟨rfl, hb⟩; have HE5 := Lib.hid (show StBlk w5 w.heap.size s lv ∧ LnRow w5 lv s.lines ∧ Below w.heap.size w w5 from ⟨HE4.out.1.below hb, HE4.out.2.1.below hb, Below.next HE4.out.2.2 hb⟩); clear hb
         have z0 := HE5.out.1.c0; have z1 := HE5.out.1.c1; have z2 := HE5.out.1.c2; have z3 := HE5.out.1.c3; have z4 := HE5.out.1.c4; have z6 := HE5.out.1.c6; have z7 := HE5.out.1.c7; have z8 := HE5.out.1.c8; have z9 := HE5.out.1.c9; have z10 := HE5.out.1.c10; have z11 := HE5.out.1.c11; have z5 : w5.cell? ⟨w.heap.size, 5, none⟩ = some (.slice oa s.lines.length cap) := by rw [HE5.out.1.cell 5, stCs, HLV.out]; rfl))
    have HB := Lib.hid HE5.out.2.2
    go_ret
    exact ⟨by rw [HVb.out, k1, k2, k3, k4, k5]; simp, HB.out⟩
  · rw [k1] at l1
    have p0 : (s.paid == 0) = true := by rw [beq_iff_eq]; exact HPZ.out k1
    have k6' : (s.refused == s.events) = false := by rw [← k6, Bool.beq_comm]
    go_wp2_with (first
      | (with_reducible refine wpList_load_st rfl (.tmp 1) rfl w.heap.size s lv rfl HE4.out.1 ?_)
      | (go_at_call 22; refine (HSS.out _).mono ?_; rintro x w5 ⟨rfl, hb⟩; have HE5 := Lib.hid (show StBlk w5 w.heap.size s lv ∧ LnRow w5 lv s.lines ∧ Below w.heap.size w w5 from ⟨HE4.out.1.below hb, HE4.out.2.1.below hb, Below.next HE4.out.2.2 hb⟩); clear hb
         have z0 := HE5.out.1.c0; have z1 := HE5.out.1.c1; have z2 := HE5.out.1.c2; have z3 := HE5.out.1.c3; have z4 := HE5.out.1.c4; have z6 := HE5.out.1.c6; have z7 := HE5.out.1.c7; have z8 := HE5.out.1.c8; have z9 := HE5.out.1.c9; have z10 := HE5.out.1.c10; have z11 := HE5.out.1.c11; have z5 : w5.cell? ⟨w.heap.size, 5, none⟩ = some (.slice oa s.lines.length cap) := by rw [HE5.out.1.cell 5, stCs, HLV.out]; rfl))
    have HB := Lib.hid HE5.out.2.2
    go_ret
    exact ⟨by rw [HVb.out, k1, k2, k3, k4, k5, k6]; rfl, HB.out⟩
  · rw [k1] at l1
    have p0 : (s.paid == 0) = true := by rw [beq_iff_eq]; exact HPZ.out k1
    have k6' : (s.refused == s.events) = true := by rw [← k6, Bool.beq_comm]
    go_wp2_with (first
      | (with_reducible refine wpList_load_st rfl (.tmp 1) rfl w.heap.size s lv rfl HE4.out.1 ?_)
      | (go_at_call 22; refine (HSS.out _).mono ?_; rintro x w5 ⟨rfl, hb⟩; have HE5 := Lib.hid (show StBlk w5 w.heap.size s lv ∧ LnRow w5 lv s.lines ∧ Below w.heap.size w w5 from ⟨HE4.out.1.below hb, HE4.out.2.1.below hb, Below.next HE4.out.2.2 hb⟩); clear hb
         have z0 := HE5.out.1.c0; have z1 := HE5.out.1.c1; have z2 := HE5.out.1.c2; have z3 := HE5.out.1.c3; have z4 := HE5.out.1.c4; have z6 := HE5.out.1.c6; have z7 := HE5.out.1.c7; have z8 := HE5.out.1.c8; have z9 := HE5.out.1.c9; have z10 := HE5.out.1.c10; have z11 := HE5.out.1.c11; have z5 : w5.cell? ⟨w.heap.size, 5, none⟩ = some (.slice oa s.lines.length cap) := by rw [HE5.out.1.cell 5, stCs, HLV.out]; rfl))
    have HB := Lib.hid HE5.out.2.2
    go_ret
    exact ⟨by rw [HVb.out, k1, k2, k3, k4, k5, k6]; rfl, HB.out⟩

set_option maxRecDepth 100000 in
set_option maxHeartbeats 16000000 in
theorem rvok_2_3_0 (s : St) (lv : Value) (w : World) (hr : LnRow w lv s.lines) (hw : s.who.length ≤ 281474976710656) (hf : boundedB s = true) (hm : ¬ dueOf s < s.paid) (hs : s.status = 2) (hp : s.prior = 3) (g3 : decide (0 < s.paid) = false) :
    Calls Tryd.prog 11 #[stV s lv] w fun e w' => e = .returned (.bool (validB s)) ∧ Below w.heap.size w w' := by
  have HVb := Lib.hid (show validB s = (false && !wholeB s.lines) by
    have h1 : validB s = standB s 3 := by unfold validB; rw [hf, decide_eq_true (by omega), hs, hp]; rfl
    have h2 : (s.paid == dueOf s && decide (0 < s.paid)) = false := by rw [g3]; simp
    rw [h1]; unfold standB; rw [h2]; rfl)
  have hbp := bounded_p hf
  have k1 : decide (s.order < 1) = false := by rw [decide_eq_false_iff_not]; have := hbp.order; omega
  have k2 : decide (1099511627776 < s.order) = false := by rw [decide_eq_false_iff_not]; have := hbp.order; omega
  have k3 : decide (s.status < 0) = false := by rw [decide_eq_false_iff_not]; have := hbp.status; omega
  have k4 : decide (5 < s.status) = false := by rw [decide_eq_false_iff_not]; have := hbp.status; omega
  have k5 : decide (s.cur < 0) = false := by rw [decide_eq_false_iff_not]; have := hbp.cur; omega
  have k6 : decide (3 < s.cur) = false := by rw [decide_eq_false_iff_not]; have := hbp.cur; omega
  have k7 : decide (s.tax < 0) = false := by rw [decide_eq_false_iff_not]; have := hbp.tax; omega
  have k8 : decide (5000 < s.tax) = false := by rw [decide_eq_false_iff_not]; have := hbp.tax; omega
  have e1 : decide (s.events < 0) = false := by rw [decide_eq_false_iff_not]; have := hbp.events; omega
  have e2 : decide (1099511627776 < s.events) = false := by rw [decide_eq_false_iff_not]; have := hbp.events; omega
  have e3 : decide (s.refused < 0) = false := by rw [decide_eq_false_iff_not]; have := hbp.refused; omega
  have e4 : decide (s.events < s.refused) = false := by rw [decide_eq_false_iff_not]; have := hbp.events; have := hbp.refused; omega
  have e5 : decide (s.stamp < 0) = false := by rw [decide_eq_false_iff_not]; have := hbp.stamp; omega
  have e6 : decide (1099511627776 < s.stamp) = false := by rw [decide_eq_false_iff_not]; have := hbp.stamp; omega
  have q1 : decide (s.refunded < 0) = false := by rw [decide_eq_false_iff_not]; have := hbp.refunded; omega
  have q2 : decide (s.paid < s.refunded) = false := by rw [decide_eq_false_iff_not]; have := hbp.refunded; omega
  have q3 : decide (s.paid < 0) = false := by rw [decide_eq_false_iff_not]; have := hbp.refunded; omega
  have hn := (bounded_lined hf).2
  have hl := (bounded_lined hf).1
  obtain ⟨c, hc⟩ : ∃ c, c = evCheck 4 (evWho s.who) := ⟨_, rfl⟩
  have hcn : (c == 0) = namedB s.who := by rw [hc]; exact evWho_check 4 (.inl rfl) s.who
  have HC := Lib.hid (show ∀ W : World, Calls Tryd.prog 19 #[.int .i64 4, .agg #[.int .i64 1, .int .i64 1, .int .i64 0, .int .i64 0, .int .i64 0, .int .i64 0, .int .i64 0, .string ⟨s.who.toArray⟩, .int .i64 0, .string ⟨#[]⟩]] W (ChkPost c W) from fun W => hc ▸ refCheckB_any 4 (evWho s.who) W (evWho_ok s.who hw))
  have HLN := Lib.hid (show ∀ W : World, LnRow W lv s.lines → Calls Tryd.prog 20 #[stV s lv] W fun e w' => e = .returned (.bool (linedB s.lines)) ∧ Below W.heap.size W w' from fun W h => rlines_any s lv W h)
  have HE0 := Lib.hid (show StBlk (w.alloc (.cells (stCs s lv) 25)) w.heap.size s lv ∧ LnRow (w.alloc (.cells (stCs s lv) 25)) lv s.lines ∧ Below w.heap.size w (w.alloc (.cells (stCs s lv) 25)) from by
    have hb : Below w.heap.size w (w.alloc (.cells (stCs s lv) 25)) := (Below.refl _ _).alloc (Nat.le_refl _) _
    exact ⟨stBlk_alloc w s lv, hr.below hb, hb⟩)
  have c0 : (c != 0) = false := by rw [hn, beq_iff_eq] at hcn; rw [bne_eq_false_iff_eq]; exact hcn
  rw [hl] at HLN
  obtain ⟨D, hD⟩ : ∃ D, D = dueOf s := ⟨_, rfl⟩
  have HDU := Lib.hid (show ∀ W : World, LnRow W lv s.lines → Calls Tryd.prog 21 #[stV s lv] W fun e w' => e = .returned (.int .i64 D) ∧ Below W.heap.size W w' from fun W h => hD ▸ rdue_any s lv W h hbp.fine hbp.few hbp.tax.1 hbp.tax.2)
  have HSS := Lib.hid (show ∀ W : World, Calls Tryd.prog 22 #[stV s lv] W fun e w' => e = .returned (.int .i64 3) ∧ Below W.heap.size W w' from fun W => by have h := rstands_held s lv W hs; rw [hp] at h; exact h)
  have HUN := Lib.hid (show ∀ W : World, LnRow W lv s.lines → Calls Tryd.prog 23 #[stV s lv] W fun e w' => e = .returned (.bool (noneB s.lines)) ∧ Below W.heap.size W w' from fun W h => runtouched_any s lv W h hbp.fine)
  have HWH := Lib.hid (show ∀ W : World, LnRow W lv s.lines → Calls Tryd.prog 24 #[stV s lv] W fun e w' => e = .returned (.bool (wholeB s.lines)) ∧ Below W.heap.size W w' from fun W h => rwhole_any s lv W h hbp.fine)
  obtain ⟨nB, hnB⟩ : ∃ x, x = noneB s.lines := ⟨_, rfl⟩
  obtain ⟨wB, hwB⟩ : ∃ x, x = wholeB s.lines := ⟨_, rfl⟩
  rw [← hnB] at HUN
  rw [← hwB] at HWH
  rw [← hD] at hm
  rw [← hwB] at HVb
  have d1 : decide (D < s.paid) = false := decide_eq_false hm
  have hm2 : s.paid ≤ D := by omega
  have HS := Lib.hid hs
  have HP := Lib.hid hp
  obtain ⟨oa, cap, hlv, _, _, _⟩ := hr.shape
  have HLV := Lib.hid hlv
  clear hc hcn hn hl hr hw hf hbp hD hm hs hp hnB hwB hlv
  go_enter Tryd.func11, Tryd.ntmps11
  go_wp2_with (first
    | (go_at_call 19; (with_reducible refine (HC.out _).mono ?_); rintro x w1 ⟨rfl, hb1⟩; have HE1 := Lib.hid (show StBlk w1 w.heap.size s lv ∧ LnRow w1 lv s.lines ∧ Below w.heap.size w w1 from ⟨HE0.out.1.below hb1, HE0.out.2.1.below hb1, Below.next HE0.out.2.2 hb1⟩); clear hb1; have z0 := HE1.out.1.c0; have z1 := HE1.out.1.c1; have z2 := HE1.out.1.c2; have z3 := HE1.out.1.c3; have z4 := HE1.out.1.c4; have z5 := HE1.out.1.c5; have z6 := HE1.out.1.c6; have z7 := HE1.out.1.c7; have z8 := HE1.out.1.c8; have z9 := HE1.out.1.c9; have z10 := HE1.out.1.c10; have z11 := HE1.out.1.c11)
    | (with_reducible refine wpList_load_st rfl (.tmp 1) rfl w.heap.size s lv rfl HE1.out.1 ?_)
    | (go_at_call 20; refine (HLN.out _ HE1.out.2.1).mono ?_; rintro x w2 ⟨rfl, hb2⟩; have HE2 := Lib.hid (show StBlk w2 w.heap.size s lv ∧ LnRow w2 lv s.lines ∧ Below w.heap.size w w2 from ⟨HE1.out.1.below hb2, HE1.out.2.1.below hb2, Below.next HE1.out.2.2 hb2⟩); clear hb2))
  clear z0 z1 z2 z3 z4 z5 z6 z7 z8 z9 z10 z11 HE0 HE1 HC HLN
  refine wp_region_held_drew (S := fun w' => StBlk w' w.heap.size s lv ∧ LnRow w' lv s.lines ∧ Below w.heap.size w w') (by kernel_rfl) ⟨HE2.out.1, HE2.out.2.1, Below.next HE2.out.2.2 (below_drewN' _ 1)⟩ (fun hHeld => ?_)
  refine tk 0 rfl ?v_0_572 ?hy_0_572 ?r_0_572
  case hy_0_572 => intro w h; have k4 := h.1.c4; have k6 := h.1.c6; have k7 := h.1.c7; go_simp; try with_reducible rfl
  simp only [pA, pB, pC, pD]
  refine tk 1 rfl ?v_1_573 ?hy_1_573 ?r_1_573
  case hy_1_573 => intro w h; have k4 := h.1.c4; have k6 := h.1.c6; have k7 := h.1.c7; go_simp; try with_reducible rfl
  simp only [pA, pB, pC, pD]
  refine tk 2 rfl ?v_2_574 ?hy_2_574 ?r_2_574
  case hy_2_574 => intro w h; have k4 := h.1.c4; have k6 := h.1.c6; have k7 := h.1.c7; go_simp; try with_reducible rfl
  simp only [pA, pB, pC, pD]
  refine tk 3 rfl ?v_3_575 ?hy_3_575 ?r_3_575
  case hy_3_575 => intro w h; have k4 := h.1.c4; have k6 := h.1.c6; have k7 := h.1.c7; go_simp; try with_reducible rfl
  simp only [pA, pB, pC, pD]
  refine tk 4 rfl ?v_4_576 ?hy_4_576 ?r_4_576
  case hy_4_576 => intro w h; have k4 := h.1.c4; have k6 := h.1.c6; have k7 := h.1.c7; go_simp; try with_reducible rfl
  simp only [pA, pB, pC, pD]
  refine tk 5 rfl ?v_5_577 ?hy_5_577 ?r_5_577
  case hy_5_577 => intro w h; have k4 := h.1.c4; have k6 := h.1.c6; have k7 := h.1.c7; go_simp; try with_reducible rfl
  simp only [pA, pB, pC, pD]
  refine tk 6 rfl ?v_6_578 ?hy_6_578 ?r_6_578
  case hy_6_578 => intro w h; have k4 := h.1.c4; have k6 := h.1.c6; have k7 := h.1.c7; go_simp; try with_reducible rfl
  simp only [pA, pB, pC, pD]
  refine tk 7 rfl ?v_7_579 ?hy_7_579 ?r_7_579
  case hy_7_579 => intro w h; have k4 := h.1.c4; have k6 := h.1.c6; have k7 := h.1.c7; go_simp; try with_reducible rfl
  simp only [pA, pB, pC, pD]
  refine tk 8 rfl ?v_8_580 ?hy_8_580 ?r_8_580
  case hy_8_580 => intro w h; have k4 := h.1.c4; have k6 := h.1.c6; have k7 := h.1.c7; go_simp; try with_reducible rfl
  simp only [pA, pB, pC, pD]
  refine tk 9 rfl ?v_9_581 ?hy_9_581 ?r_9_581
  case hy_9_581 => intro w h; have k4 := h.1.c4; have k6 := h.1.c6; have k7 := h.1.c7; go_simp; try with_reducible rfl
  simp only [pA, pB, pC, pD]
  refine tk 10 rfl ?v_10_582 ?hy_10_582 ?r_10_582
  case hy_10_582 => intro w h; have k4 := h.1.c4; have k6 := h.1.c6; have k7 := h.1.c7; go_simp; try with_reducible rfl
  simp only [pA, pB, pC, pD]
  refine tk 11 rfl ?v_11_583 ?hy_11_583 ?r_11_583
  case hy_11_583 => intro w h; have k4 := h.1.c4; have k6 := h.1.c6; have k7 := h.1.c7; go_simp; try with_reducible rfl
  simp only [pA, pB, pC, pD]
  refine tk 12 rfl ?v_12_584 ?hy_12_584 ?r_12_584
  case hy_12_584 => intro w h; have k4 := h.1.c4; have k6 := h.1.c6; have k7 := h.1.c7; go_simp; try with_reducible rfl
  simp only [pA, pB, pC, pD]
  refine tk 13 rfl ?v_13_585 ?hy_13_585 ?r_13_585
  case hy_13_585 => intro w h; have k4 := h.1.c4; have k6 := h.1.c6; have k7 := h.1.c7; go_simp; try with_reducible rfl
  simp only [pA, pB, pC, pD]
  refine tk 14 rfl ?v_14_586 ?hy_14_586 ?r_14_586
  case hy_14_586 => intro w h; have k4 := h.1.c4; have k6 := h.1.c6; have k7 := h.1.c7; go_simp; try with_reducible rfl
  simp only [pA, pB, pC, pD]
  refine tk 15 rfl ?v_15_587 ?hy_15_587 ?r_15_587
  case hy_15_587 => intro w h; have k4 := h.1.c4; have k6 := h.1.c6; have k7 := h.1.c7; go_simp; try with_reducible rfl
  simp only [pA, pB, pC, pD]
  refine tk 16 rfl ?v_16_588 ?hy_16_588 ?r_16_588
  case hy_16_588 => intro w h; have k4 := h.1.c4; have k6 := h.1.c6; have k7 := h.1.c7; go_simp; try with_reducible rfl
  simp only [pA, pB, pC, pD]
  refine tk 17 rfl ?v_17_589 ?hy_17_589 ?r_17_589
  case hy_17_589 => intro w h; have k4 := h.1.c4; have k6 := h.1.c6; have k7 := h.1.c7; go_simp; try with_reducible rfl
  simp only [pA, pB, pC, pD]
  refine wpAnyH_take (i := 18) (oi := ⟨_, _, _, _, _, _⟩) (v := stV s lv) rfl (by kernel_rfl) (by kernel_rfl) (by kernel_rfl) (fun _ _ _ h => h) (yieldsIf_load_mid (by kernel_rfl) 25 (.tmp 1) rfl w.heap.size 0 rfl (stCs s lv).toList _ (fun w' h j v hv => by rw [Nat.zero_add, h.1.cell]; simpa using hv) Tryd.underlying25 rfl (by rw [stInfo]; rfl)) (by assumption) ?_
  simp only [pA, pB, pC, pD]
  refine wpAnyH_ready (rs := [19]) (by kernel_rfl) (by simp) ?_
  refine AllReadyH.cons rfl (fun K hK => ?_) AllReadyH.nil
  go_simp
  go_at_call 21
  obtain ⟨hSt, hLn, hBe⟩ := hHeld
  refine (HDU.out _ hLn).mono ?_
  rintro x w3 ⟨rfl, hb⟩
  go_wp2_with fail
  refine hK.out _ _ ⟨hSt.below hb, hLn.below hb, Below.next hBe hb⟩ (fun hHeld => ?_)
  clear hK K hSt hLn hBe hb
  refine tk 20 rfl ?v_20_590 ?hy_20_590 ?r_20_590
  case hy_20_590 => intro w h; have k4 := h.1.c4; have k6 := h.1.c6; have k7 := h.1.c7; go_simp; try with_reducible rfl
  simp only [pA, pB, pC, pD]
  refine tk 21 rfl ?v_21_591 ?hy_21_591 ?r_21_591
  case hy_21_591 => intro w h; have k4 := h.1.c4; have k6 := h.1.c6; have k7 := h.1.c7; go_simp; try with_reducible rfl
  simp only [pA, pB, pC, pD]
  refine wpAnyH_done (by kernel_rfl) ?_ _
  have c1 : w3.cell? ⟨w.heap.size, 1, none⟩ = some (.int .i64 2) := by rw [hHeld.1.cell 1, stCs, HS.out]; rfl
  have c2 : w3.cell? ⟨w.heap.size, 2, none⟩ = some (.int .i64 3) := by rw [hHeld.1.cell 2, stCs, HP.out]; rfl
  have HE := Lib.hid hHeld
  clear hHeld HE2 k1 k2 k3 k4 k5 k6 k7 k8 e1 e2 e3 e4 e5 e6 q1 q2 q3 c0
  go_wp2
  clear c1 c2
  refine wp_region_held_drew (S := fun w' => StBlk w' w.heap.size s lv ∧ LnRow w' lv s.lines ∧ Below w.heap.size w w') (by kernel_rfl) ⟨HE.out.1, HE.out.2.1, Below.next HE.out.2.2 (below_drewN' _ 1)⟩ (fun hHeld => ?_)
  refine tk 0 rfl ?v_0_592 ?hy_0_592 ?r_0_592
  case hy_0_592 => intro w h; have k4 := h.1.c4; have k6 := h.1.c6; have k7 := h.1.c7; go_simp; try with_reducible rfl
  simp only [pA, pB, pC, pD]
  refine tk 1 rfl ?v_1_593 ?hy_1_593 ?r_1_593
  case hy_1_593 => intro w h; have k4 := h.1.c4; have k6 := h.1.c6; have k7 := h.1.c7; go_simp; try with_reducible rfl
  simp only [pA, pB, pC, pD]
  refine tk 2 rfl ?v_2_594 ?hy_2_594 ?r_2_594
  case hy_2_594 => intro w h; have k4 := h.1.c4; have k6 := h.1.c6; have k7 := h.1.c7; go_simp; try with_reducible rfl
  simp only [pA, pB, pC, pD]
  refine tk 3 rfl ?v_3_595 ?hy_3_595 ?r_3_595
  case hy_3_595 => intro w h; have k4 := h.1.c4; have k6 := h.1.c6; have k7 := h.1.c7; go_simp; try with_reducible rfl
  simp only [pA, pB, pC, pD]
  refine tkn 4 rfl ?_
  simp only [pA, pB, pC, pD]
  refine tkn 5 rfl ?_
  simp only [pA, pB, pC, pD]
  refine tkn 6 rfl ?_
  simp only [pA, pB, pC, pD]
  refine tkn 7 rfl ?_
  simp only [pA, pB, pC, pD]
  refine tkn 8 rfl ?_
  simp only [pA, pB, pC, pD]
  refine tk 9 rfl ?v_9_596 ?hy_9_596 ?r_9_596
  case hy_9_596 => intro w h; have k4 := h.1.c4; have k6 := h.1.c6; have k7 := h.1.c7; go_simp; try with_reducible rfl
  simp only [pA, pB, pC, pD]
  refine tk 10 rfl ?v_10_597 ?hy_10_597 ?r_10_597
  case hy_10_597 => intro w h; have k4 := h.1.c4; have k6 := h.1.c6; have k7 := h.1.c7; go_simp; try with_reducible rfl
  simp only [pA, pB, pC, pD]
  refine wpAnyH_done (by kernel_rfl) ?_ _
  have HE4 := Lib.hid hHeld
  clear hHeld HE HDU
  generalize w3.drew = w4 at *
  go_wp2_with (first
    | (with_reducible refine wpList_load_st rfl (.tmp 1) rfl w.heap.size s lv rfl HE4.out.1 ?_)
    | (go_at_call 22; refine (HSS.out _).mono ?_; rintro x w5 ⟨rfl, hb⟩; have HE5 := Lib.hid (show StBlk w5 w.heap.size s lv ∧ LnRow w5 lv s.lines ∧ Below w.heap.size w w5 from ⟨HE4.out.1.below hb, HE4.out.2.1.below hb, Below.next HE4.out.2.2 hb⟩); clear hb
       have z0 := HE5.out.1.c0; have z1 := HE5.out.1.c1; have z2 := HE5.out.1.c2; have z3 := HE5.out.1.c3; have z4 := HE5.out.1.c4; have z6 := HE5.out.1.c6; have z7 := HE5.out.1.c7; have z8 := HE5.out.1.c8; have z9 := HE5.out.1.c9; have z10 := HE5.out.1.c10; have z11 := HE5.out.1.c11; have z5 : w5.cell? ⟨w.heap.size, 5, none⟩ = some lv := HE5.out.1.cell 5))
  have HB := Lib.hid HE5.out.2.2
  go_ret
  exact ⟨by rw [HVb.out]; rfl, HB.out⟩

set_option maxRecDepth 100000 in
set_option maxHeartbeats 16000000 in
theorem rvok_2_3_1 (s : St) (lv : Value) (w : World) (hr : LnRow w lv s.lines) (hw : s.who.length ≤ 281474976710656) (hf : boundedB s = true) (hm : ¬ dueOf s < s.paid) (hs : s.status = 2) (hp : s.prior = 3) (g3 : decide (0 < s.paid) = true) (g1 : (s.paid == dueOf s) = false) :
    Calls Tryd.prog 11 #[stV s lv] w fun e w' => e = .returned (.bool (validB s)) ∧ Below w.heap.size w w' := by
  have HVb := Lib.hid (show validB s = (false && !wholeB s.lines) by
    have h1 : validB s = standB s 3 := by unfold validB; rw [hf, decide_eq_true (by omega), hs, hp]; rfl
    have h2 : (s.paid == dueOf s && decide (0 < s.paid)) = false := by rw [g3, g1]; rfl
    rw [h1]; unfold standB; rw [h2]; rfl)
  have hbp := bounded_p hf
  have k1 : decide (s.order < 1) = false := by rw [decide_eq_false_iff_not]; have := hbp.order; omega
  have k2 : decide (1099511627776 < s.order) = false := by rw [decide_eq_false_iff_not]; have := hbp.order; omega
  have k3 : decide (s.status < 0) = false := by rw [decide_eq_false_iff_not]; have := hbp.status; omega
  have k4 : decide (5 < s.status) = false := by rw [decide_eq_false_iff_not]; have := hbp.status; omega
  have k5 : decide (s.cur < 0) = false := by rw [decide_eq_false_iff_not]; have := hbp.cur; omega
  have k6 : decide (3 < s.cur) = false := by rw [decide_eq_false_iff_not]; have := hbp.cur; omega
  have k7 : decide (s.tax < 0) = false := by rw [decide_eq_false_iff_not]; have := hbp.tax; omega
  have k8 : decide (5000 < s.tax) = false := by rw [decide_eq_false_iff_not]; have := hbp.tax; omega
  have e1 : decide (s.events < 0) = false := by rw [decide_eq_false_iff_not]; have := hbp.events; omega
  have e2 : decide (1099511627776 < s.events) = false := by rw [decide_eq_false_iff_not]; have := hbp.events; omega
  have e3 : decide (s.refused < 0) = false := by rw [decide_eq_false_iff_not]; have := hbp.refused; omega
  have e4 : decide (s.events < s.refused) = false := by rw [decide_eq_false_iff_not]; have := hbp.events; have := hbp.refused; omega
  have e5 : decide (s.stamp < 0) = false := by rw [decide_eq_false_iff_not]; have := hbp.stamp; omega
  have e6 : decide (1099511627776 < s.stamp) = false := by rw [decide_eq_false_iff_not]; have := hbp.stamp; omega
  have q1 : decide (s.refunded < 0) = false := by rw [decide_eq_false_iff_not]; have := hbp.refunded; omega
  have q2 : decide (s.paid < s.refunded) = false := by rw [decide_eq_false_iff_not]; have := hbp.refunded; omega
  have q3 : decide (s.paid < 0) = false := by rw [decide_eq_false_iff_not]; have := hbp.refunded; omega
  have hn := (bounded_lined hf).2
  have hl := (bounded_lined hf).1
  obtain ⟨c, hc⟩ : ∃ c, c = evCheck 4 (evWho s.who) := ⟨_, rfl⟩
  have hcn : (c == 0) = namedB s.who := by rw [hc]; exact evWho_check 4 (.inl rfl) s.who
  have HC := Lib.hid (show ∀ W : World, Calls Tryd.prog 19 #[.int .i64 4, .agg #[.int .i64 1, .int .i64 1, .int .i64 0, .int .i64 0, .int .i64 0, .int .i64 0, .int .i64 0, .string ⟨s.who.toArray⟩, .int .i64 0, .string ⟨#[]⟩]] W (ChkPost c W) from fun W => hc ▸ refCheckB_any 4 (evWho s.who) W (evWho_ok s.who hw))
  have HLN := Lib.hid (show ∀ W : World, LnRow W lv s.lines → Calls Tryd.prog 20 #[stV s lv] W fun e w' => e = .returned (.bool (linedB s.lines)) ∧ Below W.heap.size W w' from fun W h => rlines_any s lv W h)
  have HE0 := Lib.hid (show StBlk (w.alloc (.cells (stCs s lv) 25)) w.heap.size s lv ∧ LnRow (w.alloc (.cells (stCs s lv) 25)) lv s.lines ∧ Below w.heap.size w (w.alloc (.cells (stCs s lv) 25)) from by
    have hb : Below w.heap.size w (w.alloc (.cells (stCs s lv) 25)) := (Below.refl _ _).alloc (Nat.le_refl _) _
    exact ⟨stBlk_alloc w s lv, hr.below hb, hb⟩)
  have c0 : (c != 0) = false := by rw [hn, beq_iff_eq] at hcn; rw [bne_eq_false_iff_eq]; exact hcn
  rw [hl] at HLN
  obtain ⟨D, hD⟩ : ∃ D, D = dueOf s := ⟨_, rfl⟩
  have HDU := Lib.hid (show ∀ W : World, LnRow W lv s.lines → Calls Tryd.prog 21 #[stV s lv] W fun e w' => e = .returned (.int .i64 D) ∧ Below W.heap.size W w' from fun W h => hD ▸ rdue_any s lv W h hbp.fine hbp.few hbp.tax.1 hbp.tax.2)
  have HSS := Lib.hid (show ∀ W : World, Calls Tryd.prog 22 #[stV s lv] W fun e w' => e = .returned (.int .i64 3) ∧ Below W.heap.size W w' from fun W => by have h := rstands_held s lv W hs; rw [hp] at h; exact h)
  have HUN := Lib.hid (show ∀ W : World, LnRow W lv s.lines → Calls Tryd.prog 23 #[stV s lv] W fun e w' => e = .returned (.bool (noneB s.lines)) ∧ Below W.heap.size W w' from fun W h => runtouched_any s lv W h hbp.fine)
  have HWH := Lib.hid (show ∀ W : World, LnRow W lv s.lines → Calls Tryd.prog 24 #[stV s lv] W fun e w' => e = .returned (.bool (wholeB s.lines)) ∧ Below W.heap.size W w' from fun W h => rwhole_any s lv W h hbp.fine)
  obtain ⟨nB, hnB⟩ : ∃ x, x = noneB s.lines := ⟨_, rfl⟩
  obtain ⟨wB, hwB⟩ : ∃ x, x = wholeB s.lines := ⟨_, rfl⟩
  rw [← hnB] at HUN
  rw [← hwB] at HWH
  rw [← hD] at hm g1
  rw [← hwB] at HVb
  have d1 : decide (D < s.paid) = false := decide_eq_false hm
  have hm2 : s.paid ≤ D := by omega
  have HS := Lib.hid hs
  have HP := Lib.hid hp
  obtain ⟨oa, cap, hlv, _, _, _⟩ := hr.shape
  have HLV := Lib.hid hlv
  clear hc hcn hn hl hr hw hf hbp hD hm hs hp hnB hwB hlv
  go_enter Tryd.func11, Tryd.ntmps11
  go_wp2_with (first
    | (go_at_call 19; (with_reducible refine (HC.out _).mono ?_); rintro x w1 ⟨rfl, hb1⟩; have HE1 := Lib.hid (show StBlk w1 w.heap.size s lv ∧ LnRow w1 lv s.lines ∧ Below w.heap.size w w1 from ⟨HE0.out.1.below hb1, HE0.out.2.1.below hb1, Below.next HE0.out.2.2 hb1⟩); clear hb1; have z0 := HE1.out.1.c0; have z1 := HE1.out.1.c1; have z2 := HE1.out.1.c2; have z3 := HE1.out.1.c3; have z4 := HE1.out.1.c4; have z5 := HE1.out.1.c5; have z6 := HE1.out.1.c6; have z7 := HE1.out.1.c7; have z8 := HE1.out.1.c8; have z9 := HE1.out.1.c9; have z10 := HE1.out.1.c10; have z11 := HE1.out.1.c11)
    | (with_reducible refine wpList_load_st rfl (.tmp 1) rfl w.heap.size s lv rfl HE1.out.1 ?_)
    | (go_at_call 20; refine (HLN.out _ HE1.out.2.1).mono ?_; rintro x w2 ⟨rfl, hb2⟩; have HE2 := Lib.hid (show StBlk w2 w.heap.size s lv ∧ LnRow w2 lv s.lines ∧ Below w.heap.size w w2 from ⟨HE1.out.1.below hb2, HE1.out.2.1.below hb2, Below.next HE1.out.2.2 hb2⟩); clear hb2))
  clear z0 z1 z2 z3 z4 z5 z6 z7 z8 z9 z10 z11 HE0 HE1 HC HLN
  refine wp_region_held_drew (S := fun w' => StBlk w' w.heap.size s lv ∧ LnRow w' lv s.lines ∧ Below w.heap.size w w') (by kernel_rfl) ⟨HE2.out.1, HE2.out.2.1, Below.next HE2.out.2.2 (below_drewN' _ 1)⟩ (fun hHeld => ?_)
  refine tk 0 rfl ?v_0_598 ?hy_0_598 ?r_0_598
  case hy_0_598 => intro w h; have k4 := h.1.c4; have k6 := h.1.c6; have k7 := h.1.c7; go_simp; try with_reducible rfl
  simp only [pA, pB, pC, pD]
  refine tk 1 rfl ?v_1_599 ?hy_1_599 ?r_1_599
  case hy_1_599 => intro w h; have k4 := h.1.c4; have k6 := h.1.c6; have k7 := h.1.c7; go_simp; try with_reducible rfl
  simp only [pA, pB, pC, pD]
  refine tk 2 rfl ?v_2_600 ?hy_2_600 ?r_2_600
  case hy_2_600 => intro w h; have k4 := h.1.c4; have k6 := h.1.c6; have k7 := h.1.c7; go_simp; try with_reducible rfl
  simp only [pA, pB, pC, pD]
  refine tk 3 rfl ?v_3_601 ?hy_3_601 ?r_3_601
  case hy_3_601 => intro w h; have k4 := h.1.c4; have k6 := h.1.c6; have k7 := h.1.c7; go_simp; try with_reducible rfl
  simp only [pA, pB, pC, pD]
  refine tk 4 rfl ?v_4_602 ?hy_4_602 ?r_4_602
  case hy_4_602 => intro w h; have k4 := h.1.c4; have k6 := h.1.c6; have k7 := h.1.c7; go_simp; try with_reducible rfl
  simp only [pA, pB, pC, pD]
  refine tk 5 rfl ?v_5_603 ?hy_5_603 ?r_5_603
  case hy_5_603 => intro w h; have k4 := h.1.c4; have k6 := h.1.c6; have k7 := h.1.c7; go_simp; try with_reducible rfl
  simp only [pA, pB, pC, pD]
  refine tk 6 rfl ?v_6_604 ?hy_6_604 ?r_6_604
  case hy_6_604 => intro w h; have k4 := h.1.c4; have k6 := h.1.c6; have k7 := h.1.c7; go_simp; try with_reducible rfl
  simp only [pA, pB, pC, pD]
  refine tk 7 rfl ?v_7_605 ?hy_7_605 ?r_7_605
  case hy_7_605 => intro w h; have k4 := h.1.c4; have k6 := h.1.c6; have k7 := h.1.c7; go_simp; try with_reducible rfl
  simp only [pA, pB, pC, pD]
  refine tk 8 rfl ?v_8_606 ?hy_8_606 ?r_8_606
  case hy_8_606 => intro w h; have k4 := h.1.c4; have k6 := h.1.c6; have k7 := h.1.c7; go_simp; try with_reducible rfl
  simp only [pA, pB, pC, pD]
  refine tk 9 rfl ?v_9_607 ?hy_9_607 ?r_9_607
  case hy_9_607 => intro w h; have k4 := h.1.c4; have k6 := h.1.c6; have k7 := h.1.c7; go_simp; try with_reducible rfl
  simp only [pA, pB, pC, pD]
  refine tk 10 rfl ?v_10_608 ?hy_10_608 ?r_10_608
  case hy_10_608 => intro w h; have k4 := h.1.c4; have k6 := h.1.c6; have k7 := h.1.c7; go_simp; try with_reducible rfl
  simp only [pA, pB, pC, pD]
  refine tk 11 rfl ?v_11_609 ?hy_11_609 ?r_11_609
  case hy_11_609 => intro w h; have k4 := h.1.c4; have k6 := h.1.c6; have k7 := h.1.c7; go_simp; try with_reducible rfl
  simp only [pA, pB, pC, pD]
  refine tk 12 rfl ?v_12_610 ?hy_12_610 ?r_12_610
  case hy_12_610 => intro w h; have k4 := h.1.c4; have k6 := h.1.c6; have k7 := h.1.c7; go_simp; try with_reducible rfl
  simp only [pA, pB, pC, pD]
  refine tk 13 rfl ?v_13_611 ?hy_13_611 ?r_13_611
  case hy_13_611 => intro w h; have k4 := h.1.c4; have k6 := h.1.c6; have k7 := h.1.c7; go_simp; try with_reducible rfl
  simp only [pA, pB, pC, pD]
  refine tk 14 rfl ?v_14_612 ?hy_14_612 ?r_14_612
  case hy_14_612 => intro w h; have k4 := h.1.c4; have k6 := h.1.c6; have k7 := h.1.c7; go_simp; try with_reducible rfl
  simp only [pA, pB, pC, pD]
  refine tk 15 rfl ?v_15_613 ?hy_15_613 ?r_15_613
  case hy_15_613 => intro w h; have k4 := h.1.c4; have k6 := h.1.c6; have k7 := h.1.c7; go_simp; try with_reducible rfl
  simp only [pA, pB, pC, pD]
  refine tk 16 rfl ?v_16_614 ?hy_16_614 ?r_16_614
  case hy_16_614 => intro w h; have k4 := h.1.c4; have k6 := h.1.c6; have k7 := h.1.c7; go_simp; try with_reducible rfl
  simp only [pA, pB, pC, pD]
  refine tk 17 rfl ?v_17_615 ?hy_17_615 ?r_17_615
  case hy_17_615 => intro w h; have k4 := h.1.c4; have k6 := h.1.c6; have k7 := h.1.c7; go_simp; try with_reducible rfl
  simp only [pA, pB, pC, pD]
  refine wpAnyH_take (i := 18) (oi := ⟨_, _, _, _, _, _⟩) (v := stV s lv) rfl (by kernel_rfl) (by kernel_rfl) (by kernel_rfl) (fun _ _ _ h => h) (yieldsIf_load_mid (by kernel_rfl) 25 (.tmp 1) rfl w.heap.size 0 rfl (stCs s lv).toList _ (fun w' h j v hv => by rw [Nat.zero_add, h.1.cell]; simpa using hv) Tryd.underlying25 rfl (by rw [stInfo]; rfl)) (by assumption) ?_
  simp only [pA, pB, pC, pD]
  refine wpAnyH_ready (rs := [19]) (by kernel_rfl) (by simp) ?_
  refine AllReadyH.cons rfl (fun K hK => ?_) AllReadyH.nil
  go_simp
  go_at_call 21
  obtain ⟨hSt, hLn, hBe⟩ := hHeld
  refine (HDU.out _ hLn).mono ?_
  rintro x w3 ⟨rfl, hb⟩
  go_wp2_with fail
  refine hK.out _ _ ⟨hSt.below hb, hLn.below hb, Below.next hBe hb⟩ (fun hHeld => ?_)
  clear hK K hSt hLn hBe hb
  refine tk 20 rfl ?v_20_616 ?hy_20_616 ?r_20_616
  case hy_20_616 => intro w h; have k4 := h.1.c4; have k6 := h.1.c6; have k7 := h.1.c7; go_simp; try with_reducible rfl
  simp only [pA, pB, pC, pD]
  refine tk 21 rfl ?v_21_617 ?hy_21_617 ?r_21_617
  case hy_21_617 => intro w h; have k4 := h.1.c4; have k6 := h.1.c6; have k7 := h.1.c7; go_simp; try with_reducible rfl
  simp only [pA, pB, pC, pD]
  refine wpAnyH_done (by kernel_rfl) ?_ _
  have c1 : w3.cell? ⟨w.heap.size, 1, none⟩ = some (.int .i64 2) := by rw [hHeld.1.cell 1, stCs, HS.out]; rfl
  have c2 : w3.cell? ⟨w.heap.size, 2, none⟩ = some (.int .i64 3) := by rw [hHeld.1.cell 2, stCs, HP.out]; rfl
  have HE := Lib.hid hHeld
  clear hHeld HE2 k1 k2 k3 k4 k5 k6 k7 k8 e1 e2 e3 e4 e5 e6 q1 q2 q3 c0
  go_wp2
  clear c1 c2
  refine wp_region_held_drew (S := fun w' => StBlk w' w.heap.size s lv ∧ LnRow w' lv s.lines ∧ Below w.heap.size w w') (by kernel_rfl) ⟨HE.out.1, HE.out.2.1, Below.next HE.out.2.2 (below_drewN' _ 1)⟩ (fun hHeld => ?_)
  refine tk 0 rfl ?v_0_618 ?hy_0_618 ?r_0_618
  case hy_0_618 => intro w h; have k4 := h.1.c4; have k6 := h.1.c6; have k7 := h.1.c7; go_simp; try with_reducible rfl
  simp only [pA, pB, pC, pD]
  refine tk 1 rfl ?v_1_619 ?hy_1_619 ?r_1_619
  case hy_1_619 => intro w h; have k4 := h.1.c4; have k6 := h.1.c6; have k7 := h.1.c7; go_simp; try with_reducible rfl
  simp only [pA, pB, pC, pD]
  refine tk 2 rfl ?v_2_620 ?hy_2_620 ?r_2_620
  case hy_2_620 => intro w h; have k4 := h.1.c4; have k6 := h.1.c6; have k7 := h.1.c7; go_simp; try with_reducible rfl
  simp only [pA, pB, pC, pD]
  refine tk 3 rfl ?v_3_621 ?hy_3_621 ?r_3_621
  case hy_3_621 => intro w h; have k4 := h.1.c4; have k6 := h.1.c6; have k7 := h.1.c7; go_simp; try with_reducible rfl
  simp only [pA, pB, pC, pD]
  refine tk 4 rfl ?v_4_622 ?hy_4_622 ?r_4_622
  case hy_4_622 => intro w h; have k4 := h.1.c4; have k6 := h.1.c6; have k7 := h.1.c7; go_simp; try with_reducible rfl
  simp only [pA, pB, pC, pD]
  refine tk 5 rfl ?v_5_623 ?hy_5_623 ?r_5_623
  case hy_5_623 => intro w h; have k4 := h.1.c4; have k6 := h.1.c6; have k7 := h.1.c7; go_simp; try with_reducible rfl
  simp only [pA, pB, pC, pD]
  refine wpAnyH_take (i := 6) (oi := ⟨_, _, _, _, _, _⟩) (v := stV s lv) rfl (by kernel_rfl) (by kernel_rfl) (by kernel_rfl) (fun _ _ _ h => h) (yieldsIf_load_mid (by kernel_rfl) 25 (.tmp 1) rfl w.heap.size 0 rfl (stCs s lv).toList _ (fun w' h j v hv => by rw [Nat.zero_add, h.1.cell]; simpa using hv) Tryd.underlying25 rfl (by rw [stInfo]; rfl)) (by assumption) ?_
  simp only [pA, pB, pC, pD]
  refine wpAnyH_ready (rs := [7]) (by kernel_rfl) (by simp) ?_
  refine AllReadyH.cons rfl (fun K hK => ?_) AllReadyH.nil
  go_simp
  go_at_call 21
  obtain ⟨hSt, hLn, hBe⟩ := hHeld
  refine (HDU.out _ hLn).mono ?_
  rintro x w4 ⟨rfl, hb⟩
  go_wp2_with fail
  refine hK.out _ _ ⟨hSt.below hb, hLn.below hb, Below.next hBe hb⟩ (fun hHeld => ?_)
  clear hK K hSt hLn hBe hb
  refine tk 8 rfl ?v_8_624 ?hy_8_624 ?r_8_624
  case hy_8_624 => intro w h; have k4 := h.1.c4; have k6 := h.1.c6; have k7 := h.1.c7; go_simp; try with_reducible rfl
  simp only [pA, pB, pC, pD]
  refine tk 9 rfl ?v_9_625 ?hy_9_625 ?r_9_625
  case hy_9_625 => intro w h; have k4 := h.1.c4; have k6 := h.1.c6; have k7 := h.1.c7; go_simp; try with_reducible rfl
  simp only [pA, pB, pC, pD]
  refine tk 10 rfl ?v_10_626 ?hy_10_626 ?r_10_626
  case hy_10_626 => intro w h; have k4 := h.1.c4; have k6 := h.1.c6; have k7 := h.1.c7; go_simp; try with_reducible rfl
  simp only [pA, pB, pC, pD]
  refine wpAnyH_done (by kernel_rfl) ?_ _
  have HE4 := Lib.hid hHeld
  clear hHeld HE HDU
  go_wp2_with (first
    | (with_reducible refine wpList_load_st rfl (.tmp 1) rfl w.heap.size s lv rfl HE4.out.1 ?_)
    | (go_at_call 22; refine (HSS.out _).mono ?_; rintro x w5 ⟨rfl, hb⟩; have HE5 := Lib.hid (show StBlk w5 w.heap.size s lv ∧ LnRow w5 lv s.lines ∧ Below w.heap.size w w5 from ⟨HE4.out.1.below hb, HE4.out.2.1.below hb, Below.next HE4.out.2.2 hb⟩); clear hb
       have z0 := HE5.out.1.c0; have z1 := HE5.out.1.c1; have z2 := HE5.out.1.c2; have z3 := HE5.out.1.c3; have z4 := HE5.out.1.c4; have z6 := HE5.out.1.c6; have z7 := HE5.out.1.c7; have z8 := HE5.out.1.c8; have z9 := HE5.out.1.c9; have z10 := HE5.out.1.c10; have z11 := HE5.out.1.c11; have z5 : w5.cell? ⟨w.heap.size, 5, none⟩ = some lv := HE5.out.1.cell 5))
  have HB := Lib.hid HE5.out.2.2
  go_ret
  exact ⟨by rw [HVb.out]; rfl, HB.out⟩

set_option maxRecDepth 100000 in
set_option maxHeartbeats 16000000 in
theorem rvok_2_3_2 (s : St) (lv : Value) (w : World) (hr : LnRow w lv s.lines) (hw : s.who.length ≤ 281474976710656) (hf : boundedB s = true) (hm : ¬ dueOf s < s.paid) (hs : s.status = 2) (hp : s.prior = 3) (g3 : decide (0 < s.paid) = true) (g1 : (s.paid == dueOf s) = true) :
    Calls Tryd.prog 11 #[stV s lv] w fun e w' => e = .returned (.bool (validB s)) ∧ Below w.heap.size w w' := by
  have HVb := Lib.hid (show validB s = (true && !wholeB s.lines) by
    have h1 : validB s = standB s 3 := by unfold validB; rw [hf, decide_eq_true (by omega), hs, hp]; rfl
    have h2 : (s.paid == dueOf s && decide (0 < s.paid)) = true := by rw [g3, g1]; rfl
    rw [h1]; unfold standB; rw [h2]; rfl)
  have hbp := bounded_p hf
  have k1 : decide (s.order < 1) = false := by rw [decide_eq_false_iff_not]; have := hbp.order; omega
  have k2 : decide (1099511627776 < s.order) = false := by rw [decide_eq_false_iff_not]; have := hbp.order; omega
  have k3 : decide (s.status < 0) = false := by rw [decide_eq_false_iff_not]; have := hbp.status; omega
  have k4 : decide (5 < s.status) = false := by rw [decide_eq_false_iff_not]; have := hbp.status; omega
  have k5 : decide (s.cur < 0) = false := by rw [decide_eq_false_iff_not]; have := hbp.cur; omega
  have k6 : decide (3 < s.cur) = false := by rw [decide_eq_false_iff_not]; have := hbp.cur; omega
  have k7 : decide (s.tax < 0) = false := by rw [decide_eq_false_iff_not]; have := hbp.tax; omega
  have k8 : decide (5000 < s.tax) = false := by rw [decide_eq_false_iff_not]; have := hbp.tax; omega
  have e1 : decide (s.events < 0) = false := by rw [decide_eq_false_iff_not]; have := hbp.events; omega
  have e2 : decide (1099511627776 < s.events) = false := by rw [decide_eq_false_iff_not]; have := hbp.events; omega
  have e3 : decide (s.refused < 0) = false := by rw [decide_eq_false_iff_not]; have := hbp.refused; omega
  have e4 : decide (s.events < s.refused) = false := by rw [decide_eq_false_iff_not]; have := hbp.events; have := hbp.refused; omega
  have e5 : decide (s.stamp < 0) = false := by rw [decide_eq_false_iff_not]; have := hbp.stamp; omega
  have e6 : decide (1099511627776 < s.stamp) = false := by rw [decide_eq_false_iff_not]; have := hbp.stamp; omega
  have q1 : decide (s.refunded < 0) = false := by rw [decide_eq_false_iff_not]; have := hbp.refunded; omega
  have q2 : decide (s.paid < s.refunded) = false := by rw [decide_eq_false_iff_not]; have := hbp.refunded; omega
  have q3 : decide (s.paid < 0) = false := by rw [decide_eq_false_iff_not]; have := hbp.refunded; omega
  have hn := (bounded_lined hf).2
  have hl := (bounded_lined hf).1
  obtain ⟨c, hc⟩ : ∃ c, c = evCheck 4 (evWho s.who) := ⟨_, rfl⟩
  have hcn : (c == 0) = namedB s.who := by rw [hc]; exact evWho_check 4 (.inl rfl) s.who
  have HC := Lib.hid (show ∀ W : World, Calls Tryd.prog 19 #[.int .i64 4, .agg #[.int .i64 1, .int .i64 1, .int .i64 0, .int .i64 0, .int .i64 0, .int .i64 0, .int .i64 0, .string ⟨s.who.toArray⟩, .int .i64 0, .string ⟨#[]⟩]] W (ChkPost c W) from fun W => hc ▸ refCheckB_any 4 (evWho s.who) W (evWho_ok s.who hw))
  have HLN := Lib.hid (show ∀ W : World, LnRow W lv s.lines → Calls Tryd.prog 20 #[stV s lv] W fun e w' => e = .returned (.bool (linedB s.lines)) ∧ Below W.heap.size W w' from fun W h => rlines_any s lv W h)
  have HE0 := Lib.hid (show StBlk (w.alloc (.cells (stCs s lv) 25)) w.heap.size s lv ∧ LnRow (w.alloc (.cells (stCs s lv) 25)) lv s.lines ∧ Below w.heap.size w (w.alloc (.cells (stCs s lv) 25)) from by
    have hb : Below w.heap.size w (w.alloc (.cells (stCs s lv) 25)) := (Below.refl _ _).alloc (Nat.le_refl _) _
    exact ⟨stBlk_alloc w s lv, hr.below hb, hb⟩)
  have c0 : (c != 0) = false := by rw [hn, beq_iff_eq] at hcn; rw [bne_eq_false_iff_eq]; exact hcn
  rw [hl] at HLN
  obtain ⟨D, hD⟩ : ∃ D, D = dueOf s := ⟨_, rfl⟩
  have HDU := Lib.hid (show ∀ W : World, LnRow W lv s.lines → Calls Tryd.prog 21 #[stV s lv] W fun e w' => e = .returned (.int .i64 D) ∧ Below W.heap.size W w' from fun W h => hD ▸ rdue_any s lv W h hbp.fine hbp.few hbp.tax.1 hbp.tax.2)
  have HSS := Lib.hid (show ∀ W : World, Calls Tryd.prog 22 #[stV s lv] W fun e w' => e = .returned (.int .i64 3) ∧ Below W.heap.size W w' from fun W => by have h := rstands_held s lv W hs; rw [hp] at h; exact h)
  have HUN := Lib.hid (show ∀ W : World, LnRow W lv s.lines → Calls Tryd.prog 23 #[stV s lv] W fun e w' => e = .returned (.bool (noneB s.lines)) ∧ Below W.heap.size W w' from fun W h => runtouched_any s lv W h hbp.fine)
  have HWH := Lib.hid (show ∀ W : World, LnRow W lv s.lines → Calls Tryd.prog 24 #[stV s lv] W fun e w' => e = .returned (.bool (wholeB s.lines)) ∧ Below W.heap.size W w' from fun W h => rwhole_any s lv W h hbp.fine)
  obtain ⟨nB, hnB⟩ : ∃ x, x = noneB s.lines := ⟨_, rfl⟩
  obtain ⟨wB, hwB⟩ : ∃ x, x = wholeB s.lines := ⟨_, rfl⟩
  rw [← hnB] at HUN
  rw [← hwB] at HWH
  rw [← hD] at hm g1
  rw [← hwB] at HVb
  have d1 : decide (D < s.paid) = false := decide_eq_false hm
  have hm2 : s.paid ≤ D := by omega
  have HS := Lib.hid hs
  have HP := Lib.hid hp
  obtain ⟨oa, cap, hlv, _, _, _⟩ := hr.shape
  have HLV := Lib.hid hlv
  clear hc hcn hn hl hr hw hf hbp hD hm hs hp hnB hwB hlv
  go_enter Tryd.func11, Tryd.ntmps11
  go_wp2_with (first
    | (go_at_call 19; (with_reducible refine (HC.out _).mono ?_); rintro x w1 ⟨rfl, hb1⟩; have HE1 := Lib.hid (show StBlk w1 w.heap.size s lv ∧ LnRow w1 lv s.lines ∧ Below w.heap.size w w1 from ⟨HE0.out.1.below hb1, HE0.out.2.1.below hb1, Below.next HE0.out.2.2 hb1⟩); clear hb1; have z0 := HE1.out.1.c0; have z1 := HE1.out.1.c1; have z2 := HE1.out.1.c2; have z3 := HE1.out.1.c3; have z4 := HE1.out.1.c4; have z5 := HE1.out.1.c5; have z6 := HE1.out.1.c6; have z7 := HE1.out.1.c7; have z8 := HE1.out.1.c8; have z9 := HE1.out.1.c9; have z10 := HE1.out.1.c10; have z11 := HE1.out.1.c11)
    | (with_reducible refine wpList_load_st rfl (.tmp 1) rfl w.heap.size s lv rfl HE1.out.1 ?_)
    | (go_at_call 20; refine (HLN.out _ HE1.out.2.1).mono ?_; rintro x w2 ⟨rfl, hb2⟩; have HE2 := Lib.hid (show StBlk w2 w.heap.size s lv ∧ LnRow w2 lv s.lines ∧ Below w.heap.size w w2 from ⟨HE1.out.1.below hb2, HE1.out.2.1.below hb2, Below.next HE1.out.2.2 hb2⟩); clear hb2))
  clear z0 z1 z2 z3 z4 z5 z6 z7 z8 z9 z10 z11 HE0 HE1 HC HLN
  refine wp_region_held_drew (S := fun w' => StBlk w' w.heap.size s lv ∧ LnRow w' lv s.lines ∧ Below w.heap.size w w') (by kernel_rfl) ⟨HE2.out.1, HE2.out.2.1, Below.next HE2.out.2.2 (below_drewN' _ 1)⟩ (fun hHeld => ?_)
  refine tk 0 rfl ?v_0_627 ?hy_0_627 ?r_0_627
  case hy_0_627 => intro w h; have k4 := h.1.c4; have k6 := h.1.c6; have k7 := h.1.c7; go_simp; try with_reducible rfl
  simp only [pA, pB, pC, pD]
  refine tk 1 rfl ?v_1_628 ?hy_1_628 ?r_1_628
  case hy_1_628 => intro w h; have k4 := h.1.c4; have k6 := h.1.c6; have k7 := h.1.c7; go_simp; try with_reducible rfl
  simp only [pA, pB, pC, pD]
  refine tk 2 rfl ?v_2_629 ?hy_2_629 ?r_2_629
  case hy_2_629 => intro w h; have k4 := h.1.c4; have k6 := h.1.c6; have k7 := h.1.c7; go_simp; try with_reducible rfl
  simp only [pA, pB, pC, pD]
  refine tk 3 rfl ?v_3_630 ?hy_3_630 ?r_3_630
  case hy_3_630 => intro w h; have k4 := h.1.c4; have k6 := h.1.c6; have k7 := h.1.c7; go_simp; try with_reducible rfl
  simp only [pA, pB, pC, pD]
  refine tk 4 rfl ?v_4_631 ?hy_4_631 ?r_4_631
  case hy_4_631 => intro w h; have k4 := h.1.c4; have k6 := h.1.c6; have k7 := h.1.c7; go_simp; try with_reducible rfl
  simp only [pA, pB, pC, pD]
  refine tk 5 rfl ?v_5_632 ?hy_5_632 ?r_5_632
  case hy_5_632 => intro w h; have k4 := h.1.c4; have k6 := h.1.c6; have k7 := h.1.c7; go_simp; try with_reducible rfl
  simp only [pA, pB, pC, pD]
  refine tk 6 rfl ?v_6_633 ?hy_6_633 ?r_6_633
  case hy_6_633 => intro w h; have k4 := h.1.c4; have k6 := h.1.c6; have k7 := h.1.c7; go_simp; try with_reducible rfl
  simp only [pA, pB, pC, pD]
  refine tk 7 rfl ?v_7_634 ?hy_7_634 ?r_7_634
  case hy_7_634 => intro w h; have k4 := h.1.c4; have k6 := h.1.c6; have k7 := h.1.c7; go_simp; try with_reducible rfl
  simp only [pA, pB, pC, pD]
  refine tk 8 rfl ?v_8_635 ?hy_8_635 ?r_8_635
  case hy_8_635 => intro w h; have k4 := h.1.c4; have k6 := h.1.c6; have k7 := h.1.c7; go_simp; try with_reducible rfl
  simp only [pA, pB, pC, pD]
  refine tk 9 rfl ?v_9_636 ?hy_9_636 ?r_9_636
  case hy_9_636 => intro w h; have k4 := h.1.c4; have k6 := h.1.c6; have k7 := h.1.c7; go_simp; try with_reducible rfl
  simp only [pA, pB, pC, pD]
  refine tk 10 rfl ?v_10_637 ?hy_10_637 ?r_10_637
  case hy_10_637 => intro w h; have k4 := h.1.c4; have k6 := h.1.c6; have k7 := h.1.c7; go_simp; try with_reducible rfl
  simp only [pA, pB, pC, pD]
  refine tk 11 rfl ?v_11_638 ?hy_11_638 ?r_11_638
  case hy_11_638 => intro w h; have k4 := h.1.c4; have k6 := h.1.c6; have k7 := h.1.c7; go_simp; try with_reducible rfl
  simp only [pA, pB, pC, pD]
  refine tk 12 rfl ?v_12_639 ?hy_12_639 ?r_12_639
  case hy_12_639 => intro w h; have k4 := h.1.c4; have k6 := h.1.c6; have k7 := h.1.c7; go_simp; try with_reducible rfl
  simp only [pA, pB, pC, pD]
  refine tk 13 rfl ?v_13_640 ?hy_13_640 ?r_13_640
  case hy_13_640 => intro w h; have k4 := h.1.c4; have k6 := h.1.c6; have k7 := h.1.c7; go_simp; try with_reducible rfl
  simp only [pA, pB, pC, pD]
  refine tk 14 rfl ?v_14_641 ?hy_14_641 ?r_14_641
  case hy_14_641 => intro w h; have k4 := h.1.c4; have k6 := h.1.c6; have k7 := h.1.c7; go_simp; try with_reducible rfl
  simp only [pA, pB, pC, pD]
  refine tk 15 rfl ?v_15_642 ?hy_15_642 ?r_15_642
  case hy_15_642 => intro w h; have k4 := h.1.c4; have k6 := h.1.c6; have k7 := h.1.c7; go_simp; try with_reducible rfl
  simp only [pA, pB, pC, pD]
  refine tk 16 rfl ?v_16_643 ?hy_16_643 ?r_16_643
  case hy_16_643 => intro w h; have k4 := h.1.c4; have k6 := h.1.c6; have k7 := h.1.c7; go_simp; try with_reducible rfl
  simp only [pA, pB, pC, pD]
  refine tk 17 rfl ?v_17_644 ?hy_17_644 ?r_17_644
  case hy_17_644 => intro w h; have k4 := h.1.c4; have k6 := h.1.c6; have k7 := h.1.c7; go_simp; try with_reducible rfl
  simp only [pA, pB, pC, pD]
  refine wpAnyH_take (i := 18) (oi := ⟨_, _, _, _, _, _⟩) (v := stV s lv) rfl (by kernel_rfl) (by kernel_rfl) (by kernel_rfl) (fun _ _ _ h => h) (yieldsIf_load_mid (by kernel_rfl) 25 (.tmp 1) rfl w.heap.size 0 rfl (stCs s lv).toList _ (fun w' h j v hv => by rw [Nat.zero_add, h.1.cell]; simpa using hv) Tryd.underlying25 rfl (by rw [stInfo]; rfl)) (by assumption) ?_
  simp only [pA, pB, pC, pD]
  refine wpAnyH_ready (rs := [19]) (by kernel_rfl) (by simp) ?_
  refine AllReadyH.cons rfl (fun K hK => ?_) AllReadyH.nil
  go_simp
  go_at_call 21
  obtain ⟨hSt, hLn, hBe⟩ := hHeld
  refine (HDU.out _ hLn).mono ?_
  rintro x w3 ⟨rfl, hb⟩
  go_wp2_with fail
  refine hK.out _ _ ⟨hSt.below hb, hLn.below hb, Below.next hBe hb⟩ (fun hHeld => ?_)
  clear hK K hSt hLn hBe hb
  refine tk 20 rfl ?v_20_645 ?hy_20_645 ?r_20_645
  case hy_20_645 => intro w h; have k4 := h.1.c4; have k6 := h.1.c6; have k7 := h.1.c7; go_simp; try with_reducible rfl
  simp only [pA, pB, pC, pD]
  refine tk 21 rfl ?v_21_646 ?hy_21_646 ?r_21_646
  case hy_21_646 => intro w h; have k4 := h.1.c4; have k6 := h.1.c6; have k7 := h.1.c7; go_simp; try with_reducible rfl
  simp only [pA, pB, pC, pD]
  refine wpAnyH_done (by kernel_rfl) ?_ _
  have c1 : w3.cell? ⟨w.heap.size, 1, none⟩ = some (.int .i64 2) := by rw [hHeld.1.cell 1, stCs, HS.out]; rfl
  have c2 : w3.cell? ⟨w.heap.size, 2, none⟩ = some (.int .i64 3) := by rw [hHeld.1.cell 2, stCs, HP.out]; rfl
  have HE := Lib.hid hHeld
  clear hHeld HE2 k1 k2 k3 k4 k5 k6 k7 k8 e1 e2 e3 e4 e5 e6 q1 q2 q3 c0
  go_wp2
  clear c1 c2
  refine wp_region_held_drew (S := fun w' => StBlk w' w.heap.size s lv ∧ LnRow w' lv s.lines ∧ Below w.heap.size w w') (by kernel_rfl) ⟨HE.out.1, HE.out.2.1, Below.next HE.out.2.2 (below_drewN' _ 1)⟩ (fun hHeld => ?_)
  refine tk 0 rfl ?v_0_647 ?hy_0_647 ?r_0_647
  case hy_0_647 => intro w h; have k4 := h.1.c4; have k6 := h.1.c6; have k7 := h.1.c7; go_simp; try with_reducible rfl
  simp only [pA, pB, pC, pD]
  refine tk 1 rfl ?v_1_648 ?hy_1_648 ?r_1_648
  case hy_1_648 => intro w h; have k4 := h.1.c4; have k6 := h.1.c6; have k7 := h.1.c7; go_simp; try with_reducible rfl
  simp only [pA, pB, pC, pD]
  refine tk 2 rfl ?v_2_649 ?hy_2_649 ?r_2_649
  case hy_2_649 => intro w h; have k4 := h.1.c4; have k6 := h.1.c6; have k7 := h.1.c7; go_simp; try with_reducible rfl
  simp only [pA, pB, pC, pD]
  refine tk 3 rfl ?v_3_650 ?hy_3_650 ?r_3_650
  case hy_3_650 => intro w h; have k4 := h.1.c4; have k6 := h.1.c6; have k7 := h.1.c7; go_simp; try with_reducible rfl
  simp only [pA, pB, pC, pD]
  refine tk 4 rfl ?v_4_651 ?hy_4_651 ?r_4_651
  case hy_4_651 => intro w h; have k4 := h.1.c4; have k6 := h.1.c6; have k7 := h.1.c7; go_simp; try with_reducible rfl
  simp only [pA, pB, pC, pD]
  refine tk 5 rfl ?v_5_652 ?hy_5_652 ?r_5_652
  case hy_5_652 => intro w h; have k4 := h.1.c4; have k6 := h.1.c6; have k7 := h.1.c7; go_simp; try with_reducible rfl
  simp only [pA, pB, pC, pD]
  refine wpAnyH_take (i := 6) (oi := ⟨_, _, _, _, _, _⟩) (v := stV s lv) rfl (by kernel_rfl) (by kernel_rfl) (by kernel_rfl) (fun _ _ _ h => h) (yieldsIf_load_mid (by kernel_rfl) 25 (.tmp 1) rfl w.heap.size 0 rfl (stCs s lv).toList _ (fun w' h j v hv => by rw [Nat.zero_add, h.1.cell]; simpa using hv) Tryd.underlying25 rfl (by rw [stInfo]; rfl)) (by assumption) ?_
  simp only [pA, pB, pC, pD]
  refine wpAnyH_ready (rs := [7]) (by kernel_rfl) (by simp) ?_
  refine AllReadyH.cons rfl (fun K hK => ?_) AllReadyH.nil
  go_simp
  go_at_call 21
  obtain ⟨hSt, hLn, hBe⟩ := hHeld
  refine (HDU.out _ hLn).mono ?_
  rintro x w4 ⟨rfl, hb⟩
  go_wp2_with fail
  refine hK.out _ _ ⟨hSt.below hb, hLn.below hb, Below.next hBe hb⟩ (fun hHeld => ?_)
  clear hK K hSt hLn hBe hb
  refine tk 8 rfl ?v_8_653 ?hy_8_653 ?r_8_653
  case hy_8_653 => intro w h; have k4 := h.1.c4; have k6 := h.1.c6; have k7 := h.1.c7; go_simp; try with_reducible rfl
  simp only [pA, pB, pC, pD]
  refine tk 9 rfl ?v_9_654 ?hy_9_654 ?r_9_654
  case hy_9_654 => intro w h; have k4 := h.1.c4; have k6 := h.1.c6; have k7 := h.1.c7; go_simp; try with_reducible rfl
  simp only [pA, pB, pC, pD]
  refine tk 10 rfl ?v_10_655 ?hy_10_655 ?r_10_655
  case hy_10_655 => intro w h; have k4 := h.1.c4; have k6 := h.1.c6; have k7 := h.1.c7; go_simp; try with_reducible rfl
  simp only [pA, pB, pC, pD]
  refine wpAnyH_done (by kernel_rfl) ?_ _
  have HE4 := Lib.hid hHeld
  clear hHeld HE HDU
  cases wB
  · skip
    go_wp2_with (first
      | (with_reducible refine wpList_load_st rfl (.tmp 1) rfl w.heap.size s lv rfl HE4.out.1 ?_)
      | (go_at_call 22; refine (HSS.out _).mono ?_; rintro x w5 ⟨rfl, hb⟩; have HE5 := Lib.hid (show StBlk w5 w.heap.size s lv ∧ LnRow w5 lv s.lines ∧ Below w.heap.size w w5 from ⟨HE4.out.1.below hb, HE4.out.2.1.below hb, Below.next HE4.out.2.2 hb⟩); clear hb
         have z0 := HE5.out.1.c0; have z1 := HE5.out.1.c1; have z2 := HE5.out.1.c2; have z3 := HE5.out.1.c3; have z4 := HE5.out.1.c4; have z6 := HE5.out.1.c6; have z7 := HE5.out.1.c7; have z8 := HE5.out.1.c8; have z9 := HE5.out.1.c9; have z10 := HE5.out.1.c10; have z11 := HE5.out.1.c11; have z5 : w5.cell? ⟨w.heap.size, 5, none⟩ = some lv := HE5.out.1.cell 5)
      | (go_at_call 24; refine (HWH.out _ HE5.out.2.1).mono ?_; rintro x w6 ⟨rfl, hb⟩; have HB := Lib.hid (Below.next HE5.out.2.2 hb); clear hb))
    go_ret
    exact ⟨by rw [HVb.out]; rfl, HB.out⟩
  · skip
    go_wp2_with (first
      | (with_reducible refine wpList_load_st rfl (.tmp 1) rfl w.heap.size s lv rfl HE4.out.1 ?_)
      | (go_at_call 22; refine (HSS.out _).mono ?_; rintro x w5 ⟨rfl, hb⟩; have HE5 := Lib.hid (show StBlk w5 w.heap.size s lv ∧ LnRow w5 lv s.lines ∧ Below w.heap.size w w5 from ⟨HE4.out.1.below hb, HE4.out.2.1.below hb, Below.next HE4.out.2.2 hb⟩); clear hb
         have z0 := HE5.out.1.c0; have z1 := HE5.out.1.c1; have z2 := HE5.out.1.c2; have z3 := HE5.out.1.c3; have z4 := HE5.out.1.c4; have z6 := HE5.out.1.c6; have z7 := HE5.out.1.c7; have z8 := HE5.out.1.c8; have z9 := HE5.out.1.c9; have z10 := HE5.out.1.c10; have z11 := HE5.out.1.c11; have z5 : w5.cell? ⟨w.heap.size, 5, none⟩ = some lv := HE5.out.1.cell 5)
      | (go_at_call 24; refine (HWH.out _ HE5.out.2.1).mono ?_; rintro x w6 ⟨rfl, hb⟩; have HB := Lib.hid (Below.next HE5.out.2.2 hb); clear hb))
    go_ret
    exact ⟨by rw [HVb.out]; rfl, HB.out⟩

end Go.Proofs.YtlobohpbgghleaaDoor

namespace Go.Proofs.YtlobohpbgghleaaDoor
open Go.RowKit

theorem rValid_any (s : St) (lv : Value) (w : World) (hr : LnRow w lv s.lines) (hw : s.who.length ≤ 281474976710656) :
    Calls Tryd.prog 11 #[stV s lv] w fun e w' => e = .returned (.bool (validB s)) ∧ Below w.heap.size w w' := by
  rcases eightB (decide (s.order < 1)) (decide (1099511627776 < s.order)) (decide (s.status < 0)) (decide (5 < s.status)) (decide (s.cur < 0)) (decide (3 < s.cur)) (decide (s.tax < 0)) (decide (5000 < s.tax)) with k1 | ⟨k1, k2⟩ | ⟨k1, k2, k3⟩ | ⟨k1, k2, k3, k4⟩ | ⟨k1, k2, k3, k4, k5⟩ | ⟨k1, k2, k3, k4, k5, k6⟩ | ⟨k1, k2, k3, k4, k5, k6, k7⟩ | ⟨k1, k2, k3, k4, k5, k6, k7, k8⟩ | ⟨k1, k2, k3, k4, k5, k6, k7, k8⟩
  · exact rv1_1 s lv w k1
  · exact rv1_2 s lv w k1 k2
  · exact rv1_3 s lv w k1 k2 k3
  · exact rv1_4 s lv w k1 k2 k3 k4
  · exact rv1_5 s lv w k1 k2 k3 k4 k5
  · exact rv1_6 s lv w k1 k2 k3 k4 k5 k6
  · exact rv1_7 s lv w k1 k2 k3 k4 k5 k6 k7
  · exact rv1_8 s lv w k1 k2 k3 k4 k5 k6 k7 k8
  rcases sixC (decide (s.events < 0)) (decide (1099511627776 < s.events)) (decide (s.refused < 0)) (decide (s.events < s.refused)) (decide (s.stamp < 0)) (decide (1099511627776 < s.stamp)) with e1 | ⟨e1, e2⟩ | ⟨e1, e2, e3⟩ | ⟨e1, e2, e3, e4⟩ | ⟨e1, e2, e3, e4, e5⟩ | ⟨e1, e2, e3, e4, e5, e6⟩ | ⟨e1, e2, e3, e4, e5, e6⟩
  · exact rv3_1 s lv w k1 k2 k3 k4 k5 k6 k7 k8 e1
  · exact rv3_2 s lv w k1 k2 k3 k4 k5 k6 k7 k8 e1 e2
  · exact rv3_3 s lv w k1 k2 k3 k4 k5 k6 k7 k8 e1 e2 e3
  · exact rv3_4 s lv w k1 k2 k3 k4 k5 k6 k7 k8 e1 e2 e3 e4
  · exact rv3_5 s lv w k1 k2 k3 k4 k5 k6 k7 k8 e1 e2 e3 e4 e5
  · exact rv3_6 s lv w k1 k2 k3 k4 k5 k6 k7 k8 e1 e2 e3 e4 e5 e6
  cases hn : namedB s.who
  case false => exact rv5_1 s lv w hr hw k1 k2 k3 k4 k5 k6 k7 k8 e1 e2 e3 e4 e5 e6 hn
  case true =>
  cases hl : linedB s.lines
  case false => exact rv5_2 s lv w hr hw k1 k2 k3 k4 k5 k6 k7 k8 e1 e2 e3 e4 e5 e6 hn hl
  case true =>
  cases q1 : decide (s.refunded < 0)
  case true => exact rv7_1 s lv w hr hw k1 k2 k3 k4 k5 k6 k7 k8 e1 e2 e3 e4 e5 e6 hn hl q1
  case false =>
  cases q2 : decide (s.paid < s.refunded)
  case true => exact rv7_2 s lv w hr hw k1 k2 k3 k4 k5 k6 k7 k8 e1 e2 e3 e4 e5 e6 hn hl q1 q2
  case false =>
  cases q3 : decide (s.paid < 0)
  case true => exact rv7_3 s lv w hr hw k1 k2 k3 k4 k5 k6 k7 k8 e1 e2 e3 e4 e5 e6 hn hl q1 q2 q3
  case false =>
  have hf : boundedB s = true := by
    simp only [decide_eq_false_iff_not] at k1 k2 k3 k4 k5 k6 k7 k8 e1 e2 e3 e4 e5 e6 q1 q2 q3
    unfold boundedB
    rw [hn, hl]
    simp only [btw, Bool.and_eq_true, decide_eq_true_eq, Bool.and_true, true_and]
    omega
  by_cases hm : dueOf s < s.paid
  · exact rv7_4 s lv w hr hw hf hm
  have hst := (bounded_p hf).status
  have h7 : (s.status = 2 ∧ s.prior ≠ 1 ∧ s.prior ≠ 3) ∨ (s.status ≠ 2 ∧ s.prior ≠ 0) ∨ (s.status = 2 ∧ s.prior = 1) ∨ (s.status = 2 ∧ s.prior = 3) ∨ (s.status = 0 ∧ s.prior = 0) ∨ (s.status = 1 ∧ s.prior = 0) ∨ (s.status = 3 ∧ s.prior = 0) ∨ (s.status = 4 ∧ s.prior = 0) ∨ (s.status = 5 ∧ s.prior = 0) := by omega
  have hg : decide (0 < s.paid) = false ∨ (decide (0 < s.paid) = true ∧ (s.paid == dueOf s) = false) ∨ (decide (0 < s.paid) = true ∧ (s.paid == dueOf s) = true) := by
    cases decide (0 < s.paid) <;> cases (s.paid == dueOf s) <;> simp
  rcases h7 with ⟨hs, hp1, hp3⟩ | ⟨hs, hp⟩ | ⟨hs, hp⟩ | ⟨hs, hp⟩ | ⟨hs, hp⟩ | ⟨hs, hp⟩ | ⟨hs, hp⟩ | ⟨hs, hp⟩ | ⟨hs, hp⟩
  · exact rv9 s lv w hr hw hf hm hs hp1 hp3
  · exact rv11 s lv w hr hw hf hm hs hp
  · rcases hg with g3 | ⟨g3, g1⟩ | ⟨g3, g1⟩
    · exact rvok_2_1_0 s lv w hr hw hf hm hs hp g3
    · exact rvok_2_1_1 s lv w hr hw hf hm hs hp g3 g1
    · exact rvok_2_1_2 s lv w hr hw hf hm hs hp g3 g1
  · rcases hg with g3 | ⟨g3, g1⟩ | ⟨g3, g1⟩
    · exact rvok_2_3_0 s lv w hr hw hf hm hs hp g3
    · exact rvok_2_3_1 s lv w hr hw hf hm hs hp g3 g1
    · exact rvok_2_3_2 s lv w hr hw hf hm hs hp g3 g1
  · rcases hg with g3 | ⟨g3, g1⟩ | ⟨g3, g1⟩
    · exact rvok_0_0_0 s lv w hr hw hf hm hs hp g3
    · exact rvok_0_0_1 s lv w hr hw hf hm hs hp g3 g1
    · exact rvok_0_0_2 s lv w hr hw hf hm hs hp g3 g1
  · rcases hg with g3 | ⟨g3, g1⟩ | ⟨g3, g1⟩
    · exact rvok_1_0_0 s lv w hr hw hf hm hs hp g3
    · exact rvok_1_0_1 s lv w hr hw hf hm hs hp g3 g1
    · exact rvok_1_0_2 s lv w hr hw hf hm hs hp g3 g1
  · rcases hg with g3 | ⟨g3, g1⟩ | ⟨g3, g1⟩
    · exact rvok_3_0_0 s lv w hr hw hf hm hs hp g3
    · exact rvok_3_0_1 s lv w hr hw hf hm hs hp g3 g1
    · exact rvok_3_0_2 s lv w hr hw hf hm hs hp g3 g1
  · rcases hg with g3 | ⟨g3, g1⟩ | ⟨g3, g1⟩
    · exact rvok_4_0_0 s lv w hr hw hf hm hs hp g3
    · exact rvok_4_0_1 s lv w hr hw hf hm hs hp g3 g1
    · exact rvok_4_0_2 s lv w hr hw hf hm hs hp g3 g1
  · rcases hg with g3 | ⟨g3, g1⟩ | ⟨g3, g1⟩
    · exact rvok_5_0_0 s lv w hr hw hf hm hs hp g3
    · exact rvok_5_0_1 s lv w hr hw hf hm hs hp g3 g1
    · exact rvok_5_0_2 s lv w hr hw hf hm hs hp g3 g1

end Go.Proofs.YtlobohpbgghleaaDoor
