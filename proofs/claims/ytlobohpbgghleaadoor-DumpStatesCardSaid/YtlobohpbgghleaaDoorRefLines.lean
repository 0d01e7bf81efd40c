import Derived.Test.YtlobohpbgghleaaDoorRefOrder
import Derived.Test.YtlobohpbgghleaaDoorOrder2
namespace Go.Proofs.YtlobohpbgghleaaDoor
open Go.RowKit

set_option maxRecDepth 100000 in
set_option maxHeartbeats 8000000 in
theorem rdue_any (s : St) (lv : Value) (w : World) (hr : LnRow w lv s.lines) (hf : ∀ l ∈ s.lines, lnFine l = true) (hn : s.lines.length ≤ 16) (h0 : 0 ≤ s.tax) (h1 : s.tax ≤ 5000) :
    Calls Tryd.prog 21 #[stV s lv] w fun e w' => e = .returned (.int .i64 (dueOf s)) ∧ Below w.heap.size w w' := by
  obtain ⟨n, t, d, hN, hT, hD, hn1, ht1, hd1, hm1, hd2⟩ := due_bound s hf hn h0 h1
  have HN := Lib.hid (show ∀ W : World, LnRow W lv s.lines → Calls Tryd.prog 35 #[stV s lv] W fun e w' => e = .returned (.int .i64 (n : Int)) ∧ Below W.heap.size W w' from fun W h => hN ▸ rnet_any s lv W h hf hn)
  have HM := Lib.hid (show ∀ W : World, Calls Tryd.prog 34 #[.int .i64 (n : Int), .int .i64 s.tax, .int .i64 10000] W fun e w' => e = .returned (.tuple #[.int .i64 ((n * t / 10000 : Nat) : Int), .bool true]) ∧ Below W.heap.size W w' from fun W => hT ▸ mulDivR_any n t 10000 W (by omega) (by omega) (by omega) (by omega) (by omega))
  obtain ⟨q, hq⟩ : ∃ q, q = n * t / 10000 := ⟨_, rfl⟩
  rw [← hq] at HM hd1
  have e1 : IntKind.i64.wrap ((n : Int) + (q : Int)) = (d : Int) := by rw [IntKind.wrap_i64]; omega
  have HH := Lib.hid (show StBlk (w.alloc (.cells (stCs s lv) 25)).drew w.heap.size s lv ∧ LnRow (w.alloc (.cells (stCs s lv) 25)).drew lv s.lines ∧ Below w.heap.size w (w.alloc (.cells (stCs s lv) 25)).drew from by
    have hb : Below w.heap.size w (w.alloc (.cells (stCs s lv) 25)) := (Below.refl _ _).alloc (Nat.le_refl _) _
    exact ⟨stBlk_alloc w s lv, hr.below (Below.next hb (below_drewN' _ 1)), Below.next hb (below_drewN' _ 1)⟩)
  rw [hD]
  clear hr hf hn h0 h1 hN hT hD hn1 ht1 hd1 hm1 hd2 hq
  go_enter Tryd.func21, Tryd.ntmps21
  go_wp2
  refine wp_region_held_drew (S := fun w' => StBlk w' w.heap.size s lv ∧ LnRow w' lv s.lines ∧ Below w.heap.size w w') (by kernel_rfl) HH.out (fun hHeld => ?_)
  refine wpAnyH_take (i := 0) (oi := ⟨_, _, _, _, _, _⟩) (v := stV s lv) rfl (by kernel_rfl) (by kernel_rfl) (by kernel_rfl) (fun _ _ _ h => h) (yieldsIf_load_mid (by kernel_rfl) 25 (.tmp 1) rfl w.heap.size 0 rfl (stCs s lv).toList _ (fun w' h j v hv => by rw [Nat.zero_add, h.1.cell]; simpa using hv) Tryd.underlying25 rfl (by rw [stInfo]; rfl)) (by assumption) ?_
  simp only [pA, pB, pC, pD]
  refine tk 2 rfl ?v_2_1 ?hy_2_1 ?r_2_1
  case hy_2_1 => intro w h; have k4 := h.1.c4; have k6 := h.1.c6; have k7 := h.1.c7; go_simp; try with_reducible rfl
  simp only [pA, pB, pC, pD]
  refine tk 3 rfl ?v_3_2 ?hy_3_2 ?r_3_2
  case hy_3_2 => intro w h; have k4 := h.1.c4; have k6 := h.1.c6; have k7 := h.1.c7; go_simp; try with_reducible rfl
  simp only [pA, pB, pC, pD]
  refine wpAnyH_ready (rs := [1]) (by kernel_rfl) (by simp) ?_
  refine AllReadyH.cons rfl (fun K hK => ?_) AllReadyH.nil
  go_simp
  go_at_call 35
  obtain ⟨hSt, hLn, hBe⟩ := hHeld
  refine (HN.out _ hLn).mono ?_
  rintro x w1 ⟨rfl, hb⟩
  go_wp2_with fail
  refine hK.out _ _ ⟨hSt.below hb, hLn.below hb, Below.next hBe hb⟩ (fun hHeld => ?_)
  clear hK K hSt hLn hBe hb
  refine wpAnyH_ready (rs := [4]) (by kernel_rfl) (by simp) ?_
  refine AllReadyH.cons rfl (fun K hK => ?_) AllReadyH.nil
  go_simp
  go_at_call 34
  obtain ⟨hSt, hLn, hBe⟩ := hHeld
  refine (HM.out _).mono ?_
  rintro x w2 ⟨rfl, hb⟩
  go_wp2_with fail
  refine hK.out _ _ ⟨hSt.below hb, hLn.below hb, Below.next hBe hb⟩ (fun hHeld => ?_)
  clear hK K hSt hLn hBe hb
  refine tk 5 rfl ?v_5_3 ?hy_5_3 ?r_5_3
  case hy_5_3 => intro w h; have k4 := h.1.c4; have k6 := h.1.c6; have k7 := h.1.c7; go_simp; try with_reducible rfl
  simp only [pA, pB, pC, pD]
  refine tk 6 rfl ?v_6_4 ?hy_6_4 ?r_6_4
  case hy_6_4 => intro w h; have k4 := h.1.c4; have k6 := h.1.c6; have k7 := h.1.c7; go_simp; try with_reducible rfl
  simp only [pA, pB, pC, pD]
  refine tk 7 rfl ?v_7_5 ?hy_7_5 ?r_7_5
  case hy_7_5 => intro w h; have k4 := h.1.c4; have k6 := h.1.c6; have k7 := h.1.c7; go_simp; try with_reducible rfl
  simp only [pA, pB, pC, pD]
  refine tk 8 rfl ?v_8_6 ?hy_8_6 ?r_8_6
  case hy_8_6 => intro w h; have k4 := h.1.c4; have k6 := h.1.c6; have k7 := h.1.c7; go_simp; try with_reducible rfl
  simp only [pA, pB, pC, pD]
  refine tk 9 rfl ?v_9_7 ?hy_9_7 ?r_9_7
  case hy_9_7 => intro w h; have k4 := h.1.c4; have k6 := h.1.c6; have k7 := h.1.c7; go_simp; try with_reducible rfl
  simp only [pA, pB, pC, pD]
  refine wpAnyH_done (by kernel_rfl) ?_ _
  have HE := Lib.hid hHeld
  clear hHeld HH
  go_wp2_with (first
    | (with_reducible refine wpList_load_st rfl (.tmp 1) rfl w.heap.size s lv rfl HE.out.1 ?_)
    | (go_at_call 35; refine (HN.out _ HE.out.2.1).mono ?_; rintro e w3 ⟨rfl, hb3⟩; have HB3 := Lib.hid (Below.next HE.out.2.2 hb3); clear hb3))
  go_ret
  exact ⟨rfl, HB3.out⟩

theorem eightB (b1 b2 b3 b4 b5 b6 b7 b8 : Bool) : (b1 = true) ∨ (b1 = false ∧ b2 = true) ∨ (b1 = false ∧ b2 = false ∧ b3 = true) ∨ (b1 = false ∧ b2 = false ∧ b3 = false ∧ b4 = true) ∨ (b1 = false ∧ b2 = false ∧ b3 = false ∧ b4 = false ∧ b5 = true) ∨ (b1 = false ∧ b2 = false ∧ b3 = false ∧ b4 = false ∧ b5 = false ∧ b6 = true) ∨ (b1 = false ∧ b2 = false ∧ b3 = false ∧ b4 = false ∧ b5 = false ∧ b6 = false ∧ b7 = true) ∨ (b1 = false ∧ b2 = false ∧ b3 = false ∧ b4 = false ∧ b5 = false ∧ b6 = false ∧ b7 = false ∧ b8 = true) ∨ (b1 = false ∧ b2 = false ∧ b3 = false ∧ b4 = false ∧ b5 = false ∧ b6 = false ∧ b7 = false ∧ b8 = false) := by
  cases b1 <;> simp <;> cases b2 <;> simp <;> cases b3 <;> simp <;> cases b4 <;> simp <;> cases b5 <;> simp <;> cases b6 <;> simp <;> cases b7 <;> simp <;> cases b8 <;> simp

set_option maxRecDepth 100000 in
set_option maxHeartbeats 16000000 in
theorem rlines_any (s : St) (lv : Value) (w : World) (hr : LnRow w lv s.lines) :
    Calls Tryd.prog 20 #[stV s lv] w fun e w' => e = .returned (.bool (linedB s.lines)) ∧ Below w.heap.size w w' := by
  obtain ⟨oa, cap, rfl, hl1, hl2, hcs⟩ := hr.shape
  have HC := Lib.hid hcs
  have HB0 := Lib.hid (show Below w.heap.size w (w.alloc (.cells (stCs s (.slice oa s.lines.length cap)) 25)) from (Below.refl _ _).alloc (Nat.le_refl _) _)
  have HE0 := Lib.hid (stBlk_alloc w s (.slice oa s.lines.length cap))
  clear hr hcs
  by_cases h16 : 16 < s.lines.length
  · have hf := Lib.hid (show linedB s.lines = false by unfold linedB; rw [decide_eq_false (by omega)]; rfl)
    have q1 : (16 : Int) < (s.lines.length : Int) := by omega
    go_enter Tryd.func20, Tryd.ntmps20
    go_wp2
    go_ret
    exact ⟨by rw [hf.out]; rfl, HB0.out⟩
  have HL := Lib.hid (show linedB s.lines = risen (-1) s.lines by unfold linedB; rw [decide_eq_true (by omega)]; rfl)
  have q16 : ¬ ((16 : Int) < (s.lines.length : Int)) := by omega
  go_enter Tryd.func20, Tryd.ntmps20
  go_wp2
  go_loopw [3, 13] (fun bv iv wr => ∃ (k : Nat), k ≤ s.lines.length ∧ iv = .int .i64 k ∧ bv = .int .i64 ((((s.lines.take k).getLast?).map (·.item)).getD (-1)) ∧ Hid (risen (-1) (s.lines.take k) = true) ∧ Hid (StBlk wr w.heap.size s (.slice oa s.lines.length cap) ∧ Below w.heap.size w wr)) (fun _ iv _ => s.lines.length - (intOf iv).toNat)
  case atStart => exact ⟨0, Nat.zero_le _, rfl, rfl, Lib.hid (by simp [risen]), Lib.hid ⟨HE0.out, HB0.out⟩⟩
  case round =>
    obtain ⟨k, hk, rfl, rfl, HRI, HW⟩ := hrel
    by_cases hlt : k < s.lines.length
    · obtain ⟨l, hl, htk, _⟩ := nth s.lines k hlt
      have q1 : (k : Int) < (s.lines.length : Int) := by omega
      obtain ⟨b, off, rfl, hcell⟩ := HC.out k l hl
      have HCE := Lib.hid (range_later hcell HW.out.2)
      have c5 : wr.cell? ⟨w.heap.size, 5, none⟩ = some (.slice (some ⟨b, off, none⟩) s.lines.length cap) := HW.out.1.cell 5
      have HSN := Lib.hid (show risen (-1) (s.lines.take (k + 1)) = (decide ((((s.lines.take k).getLast?).map (·.item)).getD (-1) < l.item) && lnFine l) by rw [htk, risen_snoc, HRI.out, Bool.true_and])
      have HFA := Lib.hid (show risen (-1) (s.lines.take (k + 1)) = false → linedB s.lines = false from fun h => by rw [HL.out]; exact risen_take_false s.lines _ _ h)
      have HLA := Lib.hid (show l.item = (((s.lines.take (k + 1)).getLast?).map (·.item)).getD (-1) by rw [htk]; simp)
      obtain ⟨bf, hbf⟩ : ∃ bf, bf = (((s.lines.take k).getLast?).map (·.item)).getD (-1) := ⟨_, rfl⟩
      have hbm : -1 ≤ bf := by
        rw [hbf]
        cases hg : (s.lines.take k).getLast? with
        | none => simp
        | some x =>
          have h1 := risen_all _ _ HRI.out x (List.mem_of_getLast? hg)
          simp only [lnFine, btw, Bool.and_eq_true, decide_eq_true_eq] at h1
          simp; omega
      rw [← hbf] at HSN ⊢
      have HA := Lib.hid (show Below wr.heap.size wr (wr.alloc (.cells (lnCs l) 40)) from (Below.refl _ _).alloc (Nat.le_refl _) _)
      clear hl htk hcell hbf
      rcases eightB (decide (l.item ≤ bf)) (decide (65535 < l.item)) (decide (l.price < 0)) (decide (100000000 < l.price)) (decide (l.qty < 1)) (decide (100000 < l.qty)) (decide (l.shipped < 0)) (decide (l.qty < l.shipped)) with k1 | ⟨k1, k2⟩ | ⟨k1, k2, k3⟩ | ⟨k1, k2, k3, k4⟩ | ⟨k1, k2, k3, k4, k5⟩ | ⟨k1, k2, k3, k4, k5, k6⟩ | ⟨k1, k2, k3, k4, k5, k6, k7⟩ | ⟨k1, k2, k3, k4, k5, k6, k7, k8⟩ | ⟨k1, k2, k3, k4, k5, k6, k7, k8⟩
      · have hfin := Lib.hid (HFA.out (by
          rw [HSN.out, Bool.eq_false_iff]
          intro h
          simp only [lnFine, btw, Bool.and_eq_true, decide_eq_true_eq] at h k1
          omega))
        go_wp2_with (with_reducible refine wpList_load_ln rfl (.tmp 19) rfl b (off + k * 4) l rfl HCE.out ?_)
        go_ret
        exact ⟨by rw [hfin.out]; rfl, Below.next HW.out.2 HA.out⟩
      · have hfin := Lib.hid (HFA.out (by
          rw [HSN.out, Bool.eq_false_iff]
          intro h
          simp only [lnFine, btw, Bool.and_eq_true, decide_eq_true_eq] at h k2
          omega))
        go_wp2_with (with_reducible refine wpList_load_ln rfl (.tmp 19) rfl b (off + k * 4) l rfl HCE.out ?_)
        go_ret
        exact ⟨by rw [hfin.out]; rfl, Below.next HW.out.2 HA.out⟩
      · have hfin := Lib.hid (HFA.out (by
          rw [HSN.out, Bool.eq_false_iff]
          intro h
          simp only [lnFine, btw, Bool.and_eq_true, decide_eq_true_eq] at h k3
          omega))
        go_wp2_with (with_reducible refine wpList_load_ln rfl (.tmp 19) rfl b (off + k * 4) l rfl HCE.out ?_)
        go_ret
        exact ⟨by rw [hfin.out]; rfl, Below.next HW.out.2 HA.out⟩
      · have hfin := Lib.hid (HFA.out (by
          rw [HSN.out, Bool.eq_false_iff]
          intro h
          simp only [lnFine, btw, Bool.and_eq_true, decide_eq_true_eq] at h k4
          omega))
        go_wp2_with (with_reducible refine wpList_load_ln rfl (.tmp 19) rfl b (off + k * 4) l rfl HCE.out ?_)
        go_ret
        exact ⟨by rw [hfin.out]; rfl, Below.next HW.out.2 HA.out⟩
      · have hfin := Lib.hid (HFA.out (by
          rw [HSN.out, Bool.eq_false_iff]
          intro h
          simp only [lnFine, btw, Bool.and_eq_true, decide_eq_true_eq] at h k5
          omega))
        go_wp2_with (with_reducible refine wpList_load_ln rfl (.tmp 19) rfl b (off + k * 4) l rfl HCE.out ?_)
        go_ret
        exact ⟨by rw [hfin.out]; rfl, Below.next HW.out.2 HA.out⟩
      · have hfin := Lib.hid (HFA.out (by
          rw [HSN.out, Bool.eq_false_iff]
          intro h
          simp only [lnFine, btw, Bool.and_eq_true, decide_eq_true_eq] at h k6
          omega))
        go_wp2_with (with_reducible refine wpList_load_ln rfl (.tmp 19) rfl b (off + k * 4) l rfl HCE.out ?_)
        go_ret
        exact ⟨by rw [hfin.out]; rfl, Below.next HW.out.2 HA.out⟩
      · have hfin := Lib.hid (HFA.out (by
          rw [HSN.out, Bool.eq_false_iff]
          intro h
          simp only [lnFine, btw, Bool.and_eq_true, decide_eq_true_eq] at h k7
          omega))
        go_wp2_with (with_reducible refine wpList_load_ln rfl (.tmp 19) rfl b (off + k * 4) l rfl HCE.out ?_)
        go_ret
        exact ⟨by rw [hfin.out]; rfl, Below.next HW.out.2 HA.out⟩
      · have hfin := Lib.hid (HFA.out (by
          rw [HSN.out, Bool.eq_false_iff]
          intro h
          simp only [lnFine, btw, Bool.and_eq_true, decide_eq_true_eq] at h k8
          omega))
        go_wp2_with (with_reducible refine wpList_load_ln rfl (.tmp 19) rfl b (off + k * 4) l rfl HCE.out ?_)
        go_ret
        exact ⟨by rw [hfin.out]; rfl, Below.next HW.out.2 HA.out⟩
      · have HR' := Lib.hid (show risen (-1) (s.lines.take (k + 1)) = true by
          rw [HSN.out]
          simp only [decide_eq_false_iff_not] at k1 k2 k3 k4 k5 k6 k7 k8
          simp only [lnFine, btw, Bool.and_eq_true, decide_eq_true_eq]
          omega)
        go_wp2_with (with_reducible refine wpList_load_ln rfl (.tmp 19) rfl b (off + k * 4) l rfl HCE.out ?_)
        go_roundw
        case rel => exact ⟨k + 1, by omega, by go_num, by rw [← HLA.out], HR', Lib.hid ⟨HW.out.1.below HA.out, Below.next HW.out.2 HA.out⟩⟩
        case measure => first | (simp [intOf]; done) | (simp [intOf]; omega)
    · obtain rfl : k = s.lines.length := by omega
      have hfin := Lib.hid (show linedB s.lines = true by rw [HL.out, ← HRI.out, List.take_length])
      go_wp2
      go_ret
      exact ⟨by rw [hfin.out]; rfl, HW.out.2⟩

end Go.Proofs.YtlobohpbgghleaaDoor
