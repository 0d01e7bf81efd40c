import Derived.Test.YtlobohpbgghleaaDoorOrder2
namespace Go.Proofs.YtlobohpbgghleaaDoor
open Go.RowKit

theorem obounded (s : St) (lv : Value) (w : World) (hr : LnRow w lv s.lines) (hw : s.who.length ≤ 281474976710656) :
    Calls Tryd.prog 15 #[stV s lv] w fun e w' => e = .returned (.bool (boundedB s)) ∧ Below w.heap.size w w' :=
  obounded_any s lv w hw fun W hb => olined_any s.lines lv W (hr.below hb)

def StS (w0 : World) (g : Nat) (s : St) (lv : Value) (w : World) : Prop := StBlk w g s lv ∧ LnRow w lv s.lines ∧ Below w0.heap.size w0 w

/-- the three ways of 'full' -/
theorem fullWays (a b : Int) : ((a == b) = false ∧ (a == b && decide (0 < a)) = false) ∨ ((a == b) = true ∧ decide (0 < a) = false ∧ (a == b && decide (0 < a)) = false) ∨ ((a == b) = true ∧ decide (0 < a) = true ∧ (a == b && decide (0 < a)) = true) := by
  cases h1 : (a == b)
  · exact .inl ⟨rfl, rfl⟩
  · cases h2 : decide (0 < a)
    · exact .inr (.inl ⟨rfl, rfl, rfl⟩)
    · exact .inr (.inr ⟨rfl, rfl, rfl⟩)

set_option maxRecDepth 100000 in
set_option maxHeartbeats 16000000 in
theorem oValid_out (s : St) (lv : Value) (w : World) (hr : LnRow w lv s.lines) (hw : s.who.length ≤ 281474976710656) (hf : boundedB s = false) :
    Calls Tryd.prog 8 #[stV s lv] w fun e w' => e = .returned (.bool (validB s)) ∧ Below w.heap.size w w' := by
  have hv := Lib.hid (show validB s = false by unfold validB; rw [hf]; rfl)
  have HBO := Lib.hid (show ∀ W : World, LnRow W lv s.lines → Calls Tryd.prog 15 #[stV s lv] W fun e w' => e = .returned (.bool false) ∧ Below W.heap.size W w' from fun W h => hf ▸ obounded s lv W h hw)
  have HH := Lib.hid (show StBlk (w.alloc (.cells (stCs s lv) 25)).drew w.heap.size s lv ∧ LnRow (w.alloc (.cells (stCs s lv) 25)).drew lv s.lines ∧ Below w.heap.size w (w.alloc (.cells (stCs s lv) 25)).drew from by
    have hb : Below w.heap.size w (w.alloc (.cells (stCs s lv) 25)) := (Below.refl _ _).alloc (Nat.le_refl _) _
    exact ⟨stBlk_alloc w s lv, hr.below (Below.next hb (below_drewN' _ 1)), Below.next hb (below_drewN' _ 1)⟩)
  clear hr hw hf
  go_enter Tryd.func8, Tryd.ntmps8
  go_wp2
  refine wp_region_held_drew (S := fun w' => StBlk w' w.heap.size s lv ∧ LnRow w' lv s.lines ∧ Below w.heap.size w w') (by kernel_rfl) HH.out (fun hHeld => ?_)
  refine wpAnyH_take (i := 0) (oi := ⟨_, _, _, _, _, _⟩) (v := stV s lv) rfl (by kernel_rfl) (by kernel_rfl) (by kernel_rfl) (fun _ _ _ h => h) (yieldsIf_load_mid (by kernel_rfl) 25 (.tmp 1) rfl w.heap.size 0 rfl (stCs s lv).toList _ (fun w' h j v hv => by rw [Nat.zero_add, h.1.cell]; simpa using hv) Tryd.underlying25 rfl (by rw [stInfo]; rfl)) (by assumption) ?_
  simp only [pA, pB, pC, pD]
  refine wpAnyH_ready (rs := [1]) (by kernel_rfl) (by simp) ?_
  refine AllReadyH.cons rfl (fun K hK => ?_) AllReadyH.nil
  go_simp
  go_at_call 15
  obtain ⟨hSt, hLn, hBe⟩ := hHeld
  refine (HBO.out _ hLn).mono ?_
  rintro x w1 ⟨rfl, hb⟩
  go_wp2_with fail
  refine hK.out _ _ ⟨hSt.below hb, hLn.below hb, Below.next hBe hb⟩ (fun hHeld => ?_)
  clear hK K hSt hLn hBe hb
  refine tk 2 rfl ?v_2_1 ?hy_2_1 ?r_2_1
  case hy_2_1 => intro w h; have k1 := h.1.c1; have k6 := h.1.c6; go_simp; try with_reducible rfl
  simp only [pA, pB, pC, pD]
  refine tk 3 rfl ?v_3_2 ?hy_3_2 ?r_3_2
  case hy_3_2 => intro w h; have k1 := h.1.c1; have k6 := h.1.c6; go_simp; try with_reducible rfl
  simp only [pA, pB, pC, pD]
  refine tkn 4 rfl ?_
  simp only [pA, pB, pC, pD]
  refine tkn 5 rfl ?_
  simp only [pA, pB, pC, pD]
  refine tkn 6 rfl ?_
  simp only [pA, pB, pC, pD]
  refine tkn 7 rfl ?_
  simp only [pA, pB, pC, pD]
  refine tkn 8 rfl ?_
  simp only [pA, pB, pC, pD]
  refine tk 9 rfl ?v_9_3 ?hy_9_3 ?r_9_3
  case hy_9_3 => intro w h; have k1 := h.1.c1; have k6 := h.1.c6; go_simp; try with_reducible rfl
  simp only [pA, pB, pC, pD]
  refine wpAnyH_done (by kernel_rfl) ?_ _
  have HB := Lib.hid hHeld.2.2
  clear hHeld
  go_wp2
  go_ret
  exact ⟨by rw [hv.out]; rfl, HB.out⟩

end Go.Proofs.YtlobohpbgghleaaDoor

namespace Go.Proofs.YtlobohpbgghleaaDoor
open Go.RowKit

set_option maxRecDepth 100000 in
set_option maxHeartbeats 16000000 in
theorem oValid_much (s : St) (lv : Value) (w : World) (hr : LnRow w lv s.lines) (hw : s.who.length ≤ 281474976710656) (hf : boundedB s = true) (hm : dueOf s < s.paid) :
    Calls Tryd.prog 8 #[stV s lv] w fun e w' => e = .returned (.bool (validB s)) ∧ Below w.heap.size w w' := by
  have hv := Lib.hid (show validB s = false by unfold validB; rw [hf, decide_eq_false (by omega)]; rfl)
  have hbp := bounded_p hf
  have HBO := Lib.hid (show ∀ W : World, LnRow W lv s.lines → Calls Tryd.prog 15 #[stV s lv] W fun e w' => e = .returned (.bool true) ∧ Below W.heap.size W w' from fun W h => hf ▸ obounded s lv W h hw)
  obtain ⟨D, hD⟩ : ∃ D, D = dueOf s := ⟨_, rfl⟩
  have HDU := Lib.hid (show ∀ W : World, LnRow W lv s.lines → Calls Tryd.prog 16 #[stV s lv] W fun e w' => e = .returned (.int .i64 D) ∧ Below W.heap.size W w' from fun W h => hD ▸ odue_any s lv W h hbp.fine hbp.few hbp.tax.1 hbp.tax.2)
  have HH := Lib.hid (show StBlk (w.alloc (.cells (stCs s lv) 25)).drew w.heap.size s lv ∧ LnRow (w.alloc (.cells (stCs s lv) 25)).drew lv s.lines ∧ Below w.heap.size w (w.alloc (.cells (stCs s lv) 25)).drew from by
    have hb : Below w.heap.size w (w.alloc (.cells (stCs s lv) 25)) := (Below.refl _ _).alloc (Nat.le_refl _) _
    exact ⟨stBlk_alloc w s lv, hr.below (Below.next hb (below_drewN' _ 1)), Below.next hb (below_drewN' _ 1)⟩)
  rw [← hD] at hm
  have d1 : decide (D < s.paid) = true := decide_eq_true hm
  clear hr hw hf hbp hD hm
  go_enter Tryd.func8, Tryd.ntmps8
  go_wp2
  refine wp_region_held_drew (S := fun w' => StBlk w' w.heap.size s lv ∧ LnRow w' lv s.lines ∧ Below w.heap.size w w') (by kernel_rfl) HH.out (fun hHeld => ?_)
  refine wpAnyH_take (i := 0) (oi := ⟨_, _, _, _, _, _⟩) (v := stV s lv) rfl (by kernel_rfl) (by kernel_rfl) (by kernel_rfl) (fun _ _ _ h => h) (yieldsIf_load_mid (by kernel_rfl) 25 (.tmp 1) rfl w.heap.size 0 rfl (stCs s lv).toList _ (fun w' h j v hv => by rw [Nat.zero_add, h.1.cell]; simpa using hv) Tryd.underlying25 rfl (by rw [stInfo]; rfl)) (by assumption) ?_
  simp only [pA, pB, pC, pD]
  refine wpAnyH_ready (rs := [1]) (by kernel_rfl) (by simp) ?_
  refine AllReadyH.cons rfl (fun K hK => ?_) AllReadyH.nil
  go_simp
  go_at_call 15
  obtain ⟨hSt, hLn, hBe⟩ := hHeld
  refine (HBO.out _ hLn).mono ?_
  rintro x w1 ⟨rfl, hb⟩
  go_wp2_with fail
  refine hK.out _ _ ⟨hSt.below hb, hLn.below hb, Below.next hBe hb⟩ (fun hHeld => ?_)
  clear hK K hSt hLn hBe hb
  refine tk 2 rfl ?v_2_4 ?hy_2_4 ?r_2_4
  case hy_2_4 => intro w h; have k1 := h.1.c1; have k6 := h.1.c6; go_simp; try with_reducible rfl
  simp only [pA, pB, pC, pD]
  refine tk 3 rfl ?v_3_5 ?hy_3_5 ?r_3_5
  case hy_3_5 => intro w h; have k1 := h.1.c1; have k6 := h.1.c6; go_simp; try with_reducible rfl
  simp only [pA, pB, pC, pD]
  refine tk 4 rfl ?v_4_6 ?hy_4_6 ?r_4_6
  case hy_4_6 => intro w h; have k1 := h.1.c1; have k6 := h.1.c6; go_simp; try with_reducible rfl
  simp only [pA, pB, pC, pD]
  refine tk 5 rfl ?v_5_7 ?hy_5_7 ?r_5_7
  case hy_5_7 => intro w h; have k1 := h.1.c1; have k6 := h.1.c6; go_simp; try with_reducible rfl
  simp only [pA, pB, pC, pD]
  refine wpAnyH_take (i := 6) (oi := ⟨_, _, _, _, _, _⟩) (v := stV s lv) rfl (by kernel_rfl) (by kernel_rfl) (by kernel_rfl) (fun _ _ _ h => h) (yieldsIf_load_mid (by kernel_rfl) 25 (.tmp 1) rfl w.heap.size 0 rfl (stCs s lv).toList _ (fun w' h j v hv => by rw [Nat.zero_add, h.1.cell]; simpa using hv) Tryd.underlying25 rfl (by rw [stInfo]; rfl)) (by assumption) ?_
  simp only [pA, pB, pC, pD]
  refine wpAnyH_ready (rs := [7]) (by kernel_rfl) (by simp) ?_
  refine AllReadyH.cons rfl (fun K hK => ?_) AllReadyH.nil
  go_simp
  go_at_call 16
  obtain ⟨hSt, hLn, hBe⟩ := hHeld
  refine (HDU.out _ hLn).mono ?_
  rintro x w2 ⟨rfl, hb⟩
  go_wp2_with fail
  refine hK.out _ _ ⟨hSt.below hb, hLn.below hb, Below.next hBe hb⟩ (fun hHeld => ?_)
  clear hK K hSt hLn hBe hb
  refine tk 8 rfl ?v_8_8 ?hy_8_8 ?r_8_8
  case hy_8_8 => intro w h; have k1 := h.1.c1; have k6 := h.1.c6; go_simp; try with_reducible rfl
  simp only [pA, pB, pC, pD]
  refine tk 9 rfl ?v_9_9 ?hy_9_9 ?r_9_9
  case hy_9_9 => intro w h; have k1 := h.1.c1; have k6 := h.1.c6; go_simp; try with_reducible rfl
  simp only [pA, pB, pC, pD]
  refine wpAnyH_done (by kernel_rfl) ?_ _
  have HB := Lib.hid hHeld.2.2
  clear hHeld
  go_wp2
  go_ret
  exact ⟨by rw [hv.out]; rfl, HB.out⟩

set_option maxRecDepth 100000 in
set_option maxHeartbeats 16000000 in
theorem oValid_held (s : St) (lv : Value) (w : World) (hr : LnRow w lv s.lines) (hw : s.who.length ≤ 281474976710656) (hf : boundedB s = true) (hm : ¬ dueOf s < s.paid) (hs : s.status = 2) (hp1 : s.prior ≠ 1) (hp3 : s.prior ≠ 3) :
    Calls Tryd.prog 8 #[stV s lv] w fun e w' => e = .returned (.bool (validB s)) ∧ Below w.heap.size w w' := by
  have hv := Lib.hid (show validB s = false by unfold validB; rw [hf, if_pos hs]; simp [hp1, hp3])
  have hbp := bounded_p hf
  have HBO := Lib.hid (show ∀ W : World, LnRow W lv s.lines → Calls Tryd.prog 15 #[stV s lv] W fun e w' => e = .returned (.bool true) ∧ Below W.heap.size W w' from fun W h => hf ▸ obounded s lv W h hw)
  obtain ⟨D, hD⟩ : ∃ D, D = dueOf s := ⟨_, rfl⟩
  have HDU := Lib.hid (show ∀ W : World, LnRow W lv s.lines → Calls Tryd.prog 16 #[stV s lv] W fun e w' => e = .returned (.int .i64 D) ∧ Below W.heap.size W w' from fun W h => hD ▸ odue_any s lv W h hbp.fine hbp.few hbp.tax.1 hbp.tax.2)
  have HH := Lib.hid (show StBlk (w.alloc (.cells (stCs s lv) 25)).drew w.heap.size s lv ∧ LnRow (w.alloc (.cells (stCs s lv) 25)).drew lv s.lines ∧ Below w.heap.size w (w.alloc (.cells (stCs s lv) 25)).drew from by
    have hb : Below w.heap.size w (w.alloc (.cells (stCs s lv) 25)) := (Below.refl _ _).alloc (Nat.le_refl _) _
    exact ⟨stBlk_alloc w s lv, hr.below (Below.next hb (below_drewN' _ 1)), Below.next hb (below_drewN' _ 1)⟩)
  rw [← hD] at hm
  have d1 : decide (D < s.paid) = false := decide_eq_false hm
  have hm2 : s.paid ≤ D := by omega
  have HS := Lib.hid hs
  have e1 : (s.prior != 1) = true := by rw [bne_iff_ne]; exact hp1
  have e3 : (s.prior != 3) = true := by rw [bne_iff_ne]; exact hp3
  clear hr hw hf hbp hD hm hs hp1 hp3
  go_enter Tryd.func8, Tryd.ntmps8
  go_wp2
  refine wp_region_held_drew (S := fun w' => StBlk w' w.heap.size s lv ∧ LnRow w' lv s.lines ∧ Below w.heap.size w w') (by kernel_rfl) HH.out (fun hHeld => ?_)
  refine wpAnyH_take (i := 0) (oi := ⟨_, _, _, _, _, _⟩) (v := stV s lv) rfl (by kernel_rfl) (by kernel_rfl) (by kernel_rfl) (fun _ _ _ h => h) (yieldsIf_load_mid (by kernel_rfl) 25 (.tmp 1) rfl w.heap.size 0 rfl (stCs s lv).toList _ (fun w' h j v hv => by rw [Nat.zero_add, h.1.cell]; simpa using hv) Tryd.underlying25 rfl (by rw [stInfo]; rfl)) (by assumption) ?_
  simp only [pA, pB, pC, pD]
  refine wpAnyH_ready (rs := [1]) (by kernel_rfl) (by simp) ?_
  refine AllReadyH.cons rfl (fun K hK => ?_) AllReadyH.nil
  go_simp
  go_at_call 15
  obtain ⟨hSt, hLn, hBe⟩ := hHeld
  refine (HBO.out _ hLn).mono ?_
  rintro x w1 ⟨rfl, hb⟩
  go_wp2_with fail
  refine hK.out _ _ ⟨hSt.below hb, hLn.below hb, Below.next hBe hb⟩ (fun hHeld => ?_)
  clear hK K hSt hLn hBe hb
  refine tk 2 rfl ?v_2_10 ?hy_2_10 ?r_2_10
  case hy_2_10 => intro w h; have k1 := h.1.c1; have k6 := h.1.c6; go_simp; try with_reducible rfl
  simp only [pA, pB, pC, pD]
  refine tk 3 rfl ?v_3_11 ?hy_3_11 ?r_3_11
  case hy_3_11 => intro w h; have k1 := h.1.c1; have k6 := h.1.c6; go_simp; try with_reducible rfl
  simp only [pA, pB, pC, pD]
  refine tk 4 rfl ?v_4_12 ?hy_4_12 ?r_4_12
  case hy_4_12 => intro w h; have k1 := h.1.c1; have k6 := h.1.c6; go_simp; try with_reducible rfl
  simp only [pA, pB, pC, pD]
  refine tk 5 rfl ?v_5_13 ?hy_5_13 ?r_5_13
  case hy_5_13 => intro w h; have k1 := h.1.c1; have k6 := h.1.c6; go_simp; try with_reducible rfl
  simp only [pA, pB, pC, pD]
  refine wpAnyH_take (i := 6) (oi := ⟨_, _, _, _, _, _⟩) (v := stV s lv) rfl (by kernel_rfl) (by kernel_rfl) (by kernel_rfl) (fun _ _ _ h => h) (yieldsIf_load_mid (by kernel_rfl) 25 (.tmp 1) rfl w.heap.size 0 rfl (stCs s lv).toList _ (fun w' h j v hv => by rw [Nat.zero_add, h.1.cell]; simpa using hv) Tryd.underlying25 rfl (by rw [stInfo]; rfl)) (by assumption) ?_
  simp only [pA, pB, pC, pD]
  refine wpAnyH_ready (rs := [7]) (by kernel_rfl) (by simp) ?_
  refine AllReadyH.cons rfl (fun K hK => ?_) AllReadyH.nil
  go_simp
  go_at_call 16
  obtain ⟨hSt, hLn, hBe⟩ := hHeld
  refine (HDU.out _ hLn).mono ?_
  rintro x w2 ⟨rfl, hb⟩
  go_wp2_with fail
  refine hK.out _ _ ⟨hSt.below hb, hLn.below hb, Below.next hBe hb⟩ (fun hHeld => ?_)
  clear hK K hSt hLn hBe hb
  refine tk 8 rfl ?v_8_14 ?hy_8_14 ?r_8_14
  case hy_8_14 => intro w h; have k1 := h.1.c1; have k6 := h.1.c6; go_simp; try with_reducible rfl
  simp only [pA, pB, pC, pD]
  refine tk 9 rfl ?v_9_15 ?hy_9_15 ?r_9_15
  case hy_9_15 => intro w h; have k1 := h.1.c1; have k6 := h.1.c6; go_simp; try with_reducible rfl
  simp only [pA, pB, pC, pD]
  refine wpAnyH_done (by kernel_rfl) ?_ _
  have c1 : w2.cell? ⟨w.heap.size, 1, none⟩ = some (.int .i64 2) := by rw [hHeld.1.cell 1, stCs, HS.out]; rfl
  have c2 := hHeld.1.c2
  have HB := Lib.hid hHeld.2.2
  clear hHeld
  go_wp2
  go_ret
  exact ⟨by rw [hv.out]; rfl, HB.out⟩

set_option maxRecDepth 100000 in
set_option maxHeartbeats 16000000 in
theorem oValid_prior (s : St) (lv : Value) (w : World) (hr : LnRow w lv s.lines) (hw : s.who.length ≤ 281474976710656) (hf : boundedB s = true) (hm : ¬ dueOf s < s.paid) (hs : s.status ≠ 2) (hp : s.prior ≠ 0) :
    Calls Tryd.prog 8 #[stV s lv] w fun e w' => e = .returned (.bool (validB s)) ∧ Below w.heap.size w w' := by
  have hv := Lib.hid (show validB s = false by unfold validB; rw [hf, if_neg hs]; simp [hp])
  have hbp := bounded_p hf
  have HBO := Lib.hid (show ∀ W : World, LnRow W lv s.lines → Calls Tryd.prog 15 #[stV s lv] W fun e w' => e = .returned (.bool true) ∧ Below W.heap.size W w' from fun W h => hf ▸ obounded s lv W h hw)
  obtain ⟨D, hD⟩ : ∃ D, D = dueOf s := ⟨_, rfl⟩
  have HDU := Lib.hid (show ∀ W : World, LnRow W lv s.lines → Calls Tryd.prog 16 #[stV s lv] W fun e w' => e = .returned (.int .i64 D) ∧ Below W.heap.size W w' from fun W h => hD ▸ odue_any s lv W h hbp.fine hbp.few hbp.tax.1 hbp.tax.2)
  have HH := Lib.hid (show StBlk (w.alloc (.cells (stCs s lv) 25)).drew w.heap.size s lv ∧ LnRow (w.alloc (.cells (stCs s lv) 25)).drew lv s.lines ∧ Below w.heap.size w (w.alloc (.cells (stCs s lv) 25)).drew from by
    have hb : Below w.heap.size w (w.alloc (.cells (stCs s lv) 25)) := (Below.refl _ _).alloc (Nat.le_refl _) _
    exact ⟨stBlk_alloc w s lv, hr.below (Below.next hb (below_drewN' _ 1)), Below.next hb (below_drewN' _ 1)⟩)
  rw [← hD] at hm
  have d1 : decide (D < s.paid) = false := decide_eq_false hm
  have hm2 : s.paid ≤ D := by omega
  have e1 : (s.status == 2) = false := by rw [beq_eq_false_iff_ne]; exact hs
  have e3 : (s.prior != 0) = true := by rw [bne_iff_ne]; exact hp
  clear hr hw hf hbp hD hm hs hp
  go_enter Tryd.func8, Tryd.ntmps8
  go_wp2
  refine wp_region_held_drew (S := fun w' => StBlk w' w.heap.size s lv ∧ LnRow w' lv s.lines ∧ Below w.heap.size w w') (by kernel_rfl) HH.out (fun hHeld => ?_)
  refine wpAnyH_take (i := 0) (oi := ⟨_, _, _, _, _, _⟩) (v := stV s lv) rfl (by kernel_rfl) (by kernel_rfl) (by kernel_rfl) (fun _ _ _ h => h) (yieldsIf_load_mid (by kernel_rfl) 25 (.tmp 1) rfl w.heap.size 0 rfl (stCs s lv).toList _ (fun w' h j v hv => by rw [Nat.zero_add, h.1.cell]; simpa using hv) Tryd.underlying25 rfl (by rw [stInfo]; rfl)) (by assumption) ?_
  simp only [pA, pB, pC, pD]
  refine wpAnyH_ready (rs := [1]) (by kernel_rfl) (by simp) ?_
  refine AllReadyH.cons rfl (fun K hK => ?_) AllReadyH.nil
  go_simp
  go_at_call 15
  obtain ⟨hSt, hLn, hBe⟩ := hHeld
  refine (HBO.out _ hLn).mono ?_
  rintro x w1 ⟨rfl, hb⟩
  go_wp2_with fail
  refine hK.out _ _ ⟨hSt.below hb, hLn.below hb, Below.next hBe hb⟩ (fun hHeld => ?_)
  clear hK K hSt hLn hBe hb
  refine tk 2 rfl ?v_2_16 ?hy_2_16 ?r_2_16
  case hy_2_16 => intro w h; have k1 := h.1.c1; have k6 := h.1.c6; go_simp; try with_reducible rfl
  simp only [pA, pB, pC, pD]
  refine tk 3 rfl ?v_3_17 ?hy_3_17 ?r_3_17
  case hy_3_17 => intro w h; have k1 := h.1.c1; have k6 := h.1.c6; go_simp; try with_reducible rfl
  simp only [pA, pB, pC, pD]
  refine tk 4 rfl ?v_4_18 ?hy_4_18 ?r_4_18
  case hy_4_18 => intro w h; have k1 := h.1.c1; have k6 := h.1.c6; go_simp; try with_reducible rfl
  simp only [pA, pB, pC, pD]
  refine tk 5 rfl ?v_5_19 ?hy_5_19 ?r_5_19
  case hy_5_19 => intro w h; have k1 := h.1.c1; have k6 := h.1.c6; go_simp; try with_reducible rfl
  simp only [pA, pB, pC, pD]
  refine wpAnyH_take (i := 6) (oi := ⟨_, _, _, _, _, _⟩) (v := stV s lv) rfl (by kernel_rfl) (by kernel_rfl) (by kernel_rfl) (fun _ _ _ h => h) (yieldsIf_load_mid (by kernel_rfl) 25 (.tmp 1) rfl w.heap.size 0 rfl (stCs s lv).toList _ (fun w' h j v hv => by rw [Nat.zero_add, h.1.cell]; simpa using hv) Tryd.underlying25 rfl (by rw [stInfo]; rfl)) (by assumption) ?_
  simp only [pA, pB, pC, pD]
  refine wpAnyH_ready (rs := [7]) (by kernel_rfl) (by simp) ?_
  refine AllReadyH.cons rfl (fun K hK => ?_) AllReadyH.nil
  go_simp
  go_at_call 16
  obtain ⟨hSt, hLn, hBe⟩ := hHeld
  refine (HDU.out _ hLn).mono ?_
  rintro x w2 ⟨rfl, hb⟩
  go_wp2_with fail
  refine hK.out _ _ ⟨hSt.below hb, hLn.below hb, Below.next hBe hb⟩ (fun hHeld => ?_)
  clear hK K hSt hLn hBe hb
  refine tk 8 rfl ?v_8_20 ?hy_8_20 ?r_8_20
  case hy_8_20 => intro w h; have k1 := h.1.c1; have k6 := h.1.c6; go_simp; try with_reducible rfl
  simp only [pA, pB, pC, pD]
  refine tk 9 rfl ?v_9_21 ?hy_9_21 ?r_9_21
  case hy_9_21 => intro w h; have k1 := h.1.c1; have k6 := h.1.c6; go_simp; try with_reducible rfl
  simp only [pA, pB, pC, pD]
  refine wpAnyH_done (by kernel_rfl) ?_ _
  have c1 := hHeld.1.c1
  have c2 := hHeld.1.c2
  have HB := Lib.hid hHeld.2.2
  clear hHeld
  go_wp2
  go_ret
  exact ⟨by rw [hv.out]; rfl, HB.out⟩

end Go.Proofs.YtlobohpbgghleaaDoor
