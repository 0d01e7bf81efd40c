import Derived.Test.YtlobohpbgghleaaDoorRefCheck
namespace Go.Proofs.YtlobohpbgghleaaDoor
open Go.RowKit

set_option maxRecDepth 100000 in
set_option maxHeartbeats 8000000 in
theorem refCheck_rest (v : Int) (e : Ev) (w : World) (h0 : 1 ≤ v) (h1 : v ≤ 5) (h2 : 1 ≤ e.kind) (h3 : e.kind ≤ lastKind v) (hw : e.who.length ≤ 16) (hn : e.note.length ≤ 120) :
    Calls Tryd.prog 19 #[.int .i64 v, evV e] w (ChkPost (evCheck v e) w) := by
  have hf := Lib.hid (chkRest (e := e) (show ¬ (v < 1 ∨ 5 < v) by omega) (show ¬ (e.kind < 1 ∨ lastKind v < e.kind) by omega) (show ¬ (16 < e.who.length ∨ 120 < e.note.length) by omega))
  have hfit := Lib.hid (fits_iff v e h0 h1 h2 h3)
  unfold evV
  have d1 : decide (e.kind < 1) = false := by simpa using h2
  have d2 : decide (lastKind v < e.kind) = false := by simpa using h3
  have HL := Lib.hid (fun W => refLast_any v W h0 h1)
  have HH := Lib.hid (fun W => refHas_any v W h0 h1)
  have HNm := Lib.hid (refNums_any e)
  go_enter Tryd.func19, Tryd.ntmps19
  go_wp2
  have hE := evAt_alloc w e 49
  have hb1 : Below w.heap.size w (w.alloc (.cells #[.int .i64 e.kind, .int .i64 e.order, .int .i64 e.item, .int .i64 e.qty, .int .i64 e.price, .int .i64 e.cur, .int .i64 e.tax, .string ⟨e.who.toArray⟩, .int .i64 e.stamp, .string ⟨e.note.toArray⟩] 49)) := (Below.refl _ _).alloc (Nat.le_refl _) _
  have hsz0 : w.heap.size < (w.alloc (.cells #[.int .i64 e.kind, .int .i64 e.order, .int .i64 e.item, .int .i64 e.qty, .int .i64 e.price, .int .i64 e.cur, .int .i64 e.tax, .string ⟨e.who.toArray⟩, .int .i64 e.stamp, .string ⟨e.note.toArray⟩] 49)).heap.size := by simp
  generalize w.alloc (.cells #[.int .i64 e.kind, .int .i64 e.order, .int .i64 e.item, .int .i64 e.qty, .int .i64 e.price, .int .i64 e.cur, .int .i64 e.tax, .string ⟨e.who.toArray⟩, .int .i64 e.stamp, .string ⟨e.note.toArray⟩] 49) = w1 at *
  have HE := Lib.hid hE
  have HB1 := Lib.hid hb1
  have c0 := hE.c0
  clear hE hb1
  go_region_held3 (fun w' => w'.cell? ⟨w.heap.size, 0, none⟩ = some (.int .i64 e.kind)) (first | assumption | exact cell_later hb2 c0 | go_keep)
    (first | (go_at_call 31; refine (HL.out _).mono ?_; rintro x w2 ⟨rfl, hb2⟩))
  rename_i hHeld
  have HB2 := Lib.hid (show Below w.heap.size w w2 from Below.next HB1.out (Below.next ((Below.refl _ _).drew) hb2))
  have HE2 := Lib.hid (HE.out.below (Below.next ((Below.refl _ _).drew) hb2))
  have hsz2 : w.heap.size < w2.heap.size := by have := (Below.next ((Below.refl _ w1).drew) hb2).size; omega
  clear hb2 c0 HB1 HE hsz0
  obtain ⟨c0, c1, c2, c3, c4, c5, c6, c7, c8, c9⟩ := HE2.out
  by_cases hv3 : v < 3
  · by_cases hv1 : v = 1
    · have dv1 : (v == 1) = true := by simpa using hv1
      have hlw := Lib.hid (show lowL v = [0, 1, 1, 0, -10000, 0, 0, 0, 0, 0, 0] by unfold lowL; rw [if_pos hv3])
      have hhg := Lib.hid (show highL v = [0, 10, 1099511627776, 65535, 10000, 1000000, 3, 5000, 0, 1099511627776, 0] by unfold highL; rw [if_pos hv1])
      clear hv1
      go_wp2_with fail
      refine (HNm.out _).mono ?_
      rintro x w3 ⟨bn, rfl, hbn, hNums, hb3⟩
      have hbA := Below.next ((Below.refl _ w2).alloc (Nat.le_refl _) (.cells #[.int .i64 0, .int .i64 1, .int .i64 1, .int .i64 0, .int .i64 (-10000), .int .i64 0, .int .i64 0, .int .i64 0, .int .i64 0, .int .i64 0, .int .i64 0] 3)) (Below.next (((Below.refl _ _).alloc (Nat.le_refl _) (.cells #[.int .i64 0, .int .i64 10, .int .i64 1099511627776, .int .i64 65535, .int .i64 10000, .int .i64 1000000, .int .i64 3, .int .i64 5000, .int .i64 0, .int .i64 1099511627776, .int .i64 0] 3))) hb3)
      have HLow := Lib.hid (show IntsAt w3 w2.heap.size (lowL v) from (IntsAt.below (IntsAt.below (intsAt_of rfl (by rw [hlw.out]; rfl)) (((Below.refl _ _).alloc (Nat.le_refl _) _))) hb3))
      have HHigh := Lib.hid (show IntsAt w3 (w2.heap.size + 1) (highL v) from IntsAt.below (intsAt_of (by simp) (by rw [hhg.out]; rfl)) hb3)
      have HNums := Lib.hid hNums
      have HE3 := Lib.hid (HE2.out.below hbA)
      have HB3 := Lib.hid (Below.next HB2.out hbA)
      clear hbA hb3 hNums hbn hHeld HE2 HB2 HNm HL hlw hhg c0 c1 c2 c3 c4 c5 c6 c7 c8 c9
      obtain ⟨bl, hbl⟩ : ∃ bl, bl = w2.heap.size := ⟨_, rfl⟩
      rw [← hbl] at HLow HHigh ⊢
      clear hbl hsz2
      go_wp2_with fail
      go_loopw [8] (fun t wr => ∃ k : Nat, 1 ≤ k ∧ k ≤ 11 ∧ t = .int .i64 k ∧ Hid (∀ j, 1 ≤ j → j < k → ¬ tagBad v e j) ∧ Below w3.heap.size w3 wr) (fun t _ => 11 - (intOf t).toNat)
      case atStart => exact ⟨1, by omega, by omega, rfl, Lib.hid (fun j h1 h2 => by omega), Below.refl _ _⟩
      case round =>
        obtain ⟨k, hk1, hk2, rfl, HT, hb⟩ := hrel
        have HB := Lib.hid hb
        clear hb
        by_cases hk : k ≤ 10
        · obtain ⟨N, hN⟩ : ∃ N, N = (numsL e).getD k 0 := ⟨_, rfl⟩
          obtain ⟨L, hL⟩ : ∃ L, L = (lowL v).getD k 0 := ⟨_, rfl⟩
          obtain ⟨H, hH⟩ : ∃ H, H = (highL v).getD k 0 := ⟨_, rfl⟩
          have hbad : Hid (tagBad v e k ↔ hasOf v < k ∧ N ≠ 0 ∨ N < L ∨ H < N) := Lib.hid (by rw [tagBad, ← hN, ← hL, ← hH])
          have gN : Hid (∀ W, Below w3.heap.size w3 W → W.cell? ⟨bn, k, none⟩ = some (.int .i64 N)) := Lib.hid fun W h => cell_later h (HNums.out k N (by rw [hN, List.getD_eq_getElem?_getD, List.getElem?_eq_getElem (by show k < 11; omega)]; rfl))
          have gL : Hid (∀ W, Below w3.heap.size w3 W → W.cell? ⟨bl, k, none⟩ = some (.int .i64 L)) := Lib.hid fun W h => cell_later h (HLow.out k L (by rw [hL, List.getD_eq_getElem?_getD, List.getElem?_eq_getElem (by show k < 11; omega)]; rfl))
          have gH : Hid (∀ W, Below w3.heap.size w3 W → W.cell? ⟨bl + 1, k, none⟩ = some (.int .i64 H)) := Lib.hid fun W h => cell_later h (HHigh.out k H (by rw [hH, List.getD_eq_getElem?_getD, List.getElem?_eq_getElem (by show k < 11; omega)]; rfl))
          have q1 : (0 : Int) ≤ (k : Int) := by omega
          have q2 : (k : Int) < 11 := by omega
          have hok : Hid (¬ tagBad v e k → ∀ j, 1 ≤ j → j < k + 1 → ¬ tagBad v e j) := Lib.hid fun hb j h1 h2 => by
            by_cases hj : j = k
            · subst hj; exact hb
            · exact HT.out j h1 (by omega)
          have h32 : Hid (tagBad v e k → evCheck v e = 32) := Lib.hid fun hb => by
            rw [hf.out, if_neg]; intro hfit2; exact (hfit.out.1 hfit2).1 k hk1 hk hb
          clear hN hL hH
          go_wp2_with fail
          refine (HH.out _).mono ?_
          rintro x w4 ⟨rfl, hb4⟩
          have HB4 := Lib.hid (Below.next HB.out hb4)
          have cN := gN.out w4 HB4.out
          have cL := gL.out w4 HB4.out
          have cH := gH.out w4 HB4.out
          clear hb4
          by_cases hA : hasOf v < k ∧ N ≠ 0
          · have dA := decide_eq_true hA.1
            have dN : (N != 0) = true := by rw [bne_iff_ne]; exact hA.2
            have hfin := Lib.hid (h32.out (hbad.out.2 (.inl hA)))
            clear hA
            go_wp2
            go_ret
            exact ⟨by rw [hfin.out]; rfl, Below.next HB3.out HB4.out⟩
          · have HA := Lib.hid hA
            by_cases hLt : N < L
            · have dL := decide_eq_true hLt
              have hfin := Lib.hid (h32.out (hbad.out.2 (.inr (.inl hLt))))
              clear hA hLt
              by_cases hB : hasOf v < k
              · have dB := decide_eq_true hB
                have dN : (N != 0) = false := by
                  rw [bne_eq_false_iff_eq]; exact Classical.byContradiction fun h => HA.out ⟨hB, h⟩
                clear hB
                go_wp2
                go_quiet (fail)
                go_wp2
                go_ret
                exact ⟨by rw [hfin.out]; rfl, Below.next HB3.out (Below.next HB4.out (below_drewN' _ _))⟩
              · have dB := decide_eq_false hB
                clear hB
                go_wp2
                go_quiet (fail)
                go_wp2
                go_ret
                exact ⟨by rw [hfin.out]; rfl, Below.next HB3.out (Below.next HB4.out (below_drewN' _ _))⟩
            · have dL := decide_eq_false hLt
              by_cases hHt : H < N
              · have dH := decide_eq_true hHt
                have hfin := Lib.hid (h32.out (hbad.out.2 (.inr (.inr hHt))))
                clear hA hLt hHt
                by_cases hB : hasOf v < k
                · have dB := decide_eq_true hB
                  have dN : (N != 0) = false := by
                    rw [bne_eq_false_iff_eq]; exact Classical.byContradiction fun h => HA.out ⟨hB, h⟩
                  clear hB
                  go_wp2
                  go_quiet (fail)
                  go_wp2
                  go_ret
                  exact ⟨by rw [hfin.out]; rfl, Below.next HB3.out (Below.next HB4.out (below_drewN' _ _))⟩
                · have dB := decide_eq_false hB
                  clear hB
                  go_wp2
                  go_quiet (fail)
                  go_wp2
                  go_ret
                  exact ⟨by rw [hfin.out]; rfl, Below.next HB3.out (Below.next HB4.out (below_drewN' _ _))⟩
              · have dH := decide_eq_false hHt
                have hgo := Lib.hid (hok.out (fun h => by
                  rcases hbad.out.1 h with h | h | h
                  · exact hA h
                  · exact hLt h
                  · exact hHt h))
                clear hA hLt hHt
                by_cases hB : hasOf v < k
                · have dB := decide_eq_true hB
                  have dN : (N != 0) = false := by
                    rw [bne_eq_false_iff_eq]; exact Classical.byContradiction fun h => HA.out ⟨hB, h⟩
                  clear hB
                  go_wp2
                  go_quiet (fail)
                  go_wp2
                  go_roundw
                  case rel => exact ⟨k + 1, by omega, by omega, by go_num, hgo, Below.next HB4.out (below_drewN' _ _)⟩
                  case measure => simp [intOf]; omega
                · have dB := decide_eq_false hB
                  clear hB
                  go_wp2
                  go_quiet (fail)
                  go_wp2
                  go_roundw
                  case rel => exact ⟨k + 1, by omega, by omega, by go_num, hgo, Below.next HB4.out (below_drewN' _ _)⟩
                  case measure => simp [intOf]; omega
        · obtain rfl : k = 11 := by omega
          have hAll := Lib.hid (show ∀ j, 1 ≤ j → j ≤ 10 → ¬ tagBad v e j from fun j h1 h2 => HT.out j h1 (by omega))
          have HBw := Lib.hid (Below.next HB3.out HB.out)
          have HEw := Lib.hid (HE3.out.below HB.out)
          clear HE3 HB3 HLow HHigh HNums HH HT HB
          have c7 := HEw.out.c7
          have c9 := HEw.out.c9
          have dv4 : decide (v < 4) = true := by simp; omega
          have dv5 : decide (v < 5) = true := by simp; omega
          by_cases hwho : e.who = []
          · by_cases hnote : e.note = []
            · have hfin := Lib.hid (show evCheck v e = 0 by
                rw [hf.out, if_pos]
                exact hfit.out.2 ⟨hAll.out, by rintro (⟨_, h⟩ | ⟨_, h⟩); exact h hwho; exact h hnote, by rw [hwho]; rfl⟩)
              have kn : (!e.note.isEmpty) = false := by rw [hnote]; rfl
              have kl : e.who.length ≤ 0 := by rw [hwho]; exact Nat.le_refl _
              have kn2 : e.note.isEmpty = true := by rw [hnote]; rfl
              have kw2 : e.who.isEmpty = true := by rw [hwho]; rfl
              clear hnote
              go_wp2
              refine wp_loop_rounds 1 ?_
              rw [rounds_succ]
              go_wp2
              go_ret
              exact ⟨by rw [hfin.out]; rfl, HBw.out⟩
            · have hfin := Lib.hid (show evCheck v e = 32 by
                rw [hf.out, if_neg]; intro h; exact (hfit.out.1 h).2.1 (.inr ⟨by omega, hnote⟩))
              have kn : (!e.note.isEmpty) = true := by simpa using hnote
              have kn2 : e.note.isEmpty = false := by simpa using hnote
              clear hnote
              go_wp2
              go_ret
              exact ⟨by rw [hfin.out]; rfl, HBw.out⟩
          · have hfin := Lib.hid (show evCheck v e = 32 by
              rw [hf.out, if_neg]; intro h; exact (hfit.out.1 h).2.1 (.inl ⟨by omega, hwho⟩))
            go_wp2
            go_ret
            exact ⟨by rw [hfin.out]; rfl, HBw.out⟩
    · have dv1 : (v == 1) = false := by simpa using hv1
      have hlw := Lib.hid (show lowL v = [0, 1, 1, 0, -10000, 0, 0, 0, 0, 0, 0] by unfold lowL; rw [if_pos hv3])
      have hhg := Lib.hid (show highL v = [0, 10, 1099511627776, 65535, 10000, 100000000, 3, 5000, 0, 1099511627776, 0] by unfold highL; rw [if_neg hv1])
      clear hv1
      go_wp2_with fail
      refine (HNm.out _).mono ?_
      rintro x w3 ⟨bn, rfl, hbn, hNums, hb3⟩
      have hbA := Below.next ((Below.refl _ w2).alloc (Nat.le_refl _) (.cells #[.int .i64 0, .int .i64 1, .int .i64 1, .int .i64 0, .int .i64 (-10000), .int .i64 0, .int .i64 0, .int .i64 0, .int .i64 0, .int .i64 0, .int .i64 0] 3)) (Below.next (((Below.refl _ _).alloc (Nat.le_refl _) (.cells #[.int .i64 0, .int .i64 10, .int .i64 1099511627776, .int .i64 65535, .int .i64 10000, .int .i64 100000000, .int .i64 3, .int .i64 5000, .int .i64 0, .int .i64 1099511627776, .int .i64 0] 3))) hb3)
      have HLow := Lib.hid (show IntsAt w3 w2.heap.size (lowL v) from (IntsAt.below (IntsAt.below (intsAt_of rfl (by rw [hlw.out]; rfl)) (((Below.refl _ _).alloc (Nat.le_refl _) _))) hb3))
      have HHigh := Lib.hid (show IntsAt w3 (w2.heap.size + 1) (highL v) from IntsAt.below (intsAt_of (by simp) (by rw [hhg.out]; rfl)) hb3)
      have HNums := Lib.hid hNums
      have HE3 := Lib.hid (HE2.out.below hbA)
      have HB3 := Lib.hid (Below.next HB2.out hbA)
      clear hbA hb3 hNums hbn hHeld HE2 HB2 HNm HL hlw hhg c0 c1 c2 c3 c4 c5 c6 c7 c8 c9
      obtain ⟨bl, hbl⟩ : ∃ bl, bl = w2.heap.size := ⟨_, rfl⟩
      rw [← hbl] at HLow HHigh ⊢
      clear hbl hsz2
      go_wp2_with fail
      go_loopw [8] (fun t wr => ∃ k : Nat, 1 ≤ k ∧ k ≤ 11 ∧ t = .int .i64 k ∧ Hid (∀ j, 1 ≤ j → j < k → ¬ tagBad v e j) ∧ Below w3.heap.size w3 wr) (fun t _ => 11 - (intOf t).toNat)
      case atStart => exact ⟨1, by omega, by omega, rfl, Lib.hid (fun j h1 h2 => by omega), Below.refl _ _⟩
      case round =>
        obtain ⟨k, hk1, hk2, rfl, HT, hb⟩ := hrel
        have HB := Lib.hid hb
        clear hb
        by_cases hk : k ≤ 10
        · obtain ⟨N, hN⟩ : ∃ N, N = (numsL e).getD k 0 := ⟨_, rfl⟩
          obtain ⟨L, hL⟩ : ∃ L, L = (lowL v).getD k 0 := ⟨_, rfl⟩
          obtain ⟨H, hH⟩ : ∃ H, H = (highL v).getD k 0 := ⟨_, rfl⟩
          have hbad : Hid (tagBad v e k ↔ hasOf v < k ∧ N ≠ 0 ∨ N < L ∨ H < N) := Lib.hid (by rw [tagBad, ← hN, ← hL, ← hH])
          have gN : Hid (∀ W, Below w3.heap.size w3 W → W.cell? ⟨bn, k, none⟩ = some (.int .i64 N)) := Lib.hid fun W h => cell_later h (HNums.out k N (by rw [hN, List.getD_eq_getElem?_getD, List.getElem?_eq_getElem (by show k < 11; omega)]; rfl))
          have gL : Hid (∀ W, Below w3.heap.size w3 W → W.cell? ⟨bl, k, none⟩ = some (.int .i64 L)) := Lib.hid fun W h => cell_later h (HLow.out k L (by rw [hL, List.getD_eq_getElem?_getD, List.getElem?_eq_getElem (by show k < 11; omega)]; rfl))
          have gH : Hid (∀ W, Below w3.heap.size w3 W → W.cell? ⟨bl + 1, k, none⟩ = some (.int .i64 H)) := Lib.hid fun W h => cell_later h (HHigh.out k H (by rw [hH, List.getD_eq_getElem?_getD, List.getElem?_eq_getElem (by show k < 11; omega)]; rfl))
          have q1 : (0 : Int) ≤ (k : Int) := by omega
          have q2 : (k : Int) < 11 := by omega
          have hok : Hid (¬ tagBad v e k → ∀ j, 1 ≤ j → j < k + 1 → ¬ tagBad v e j) := Lib.hid fun hb j h1 h2 => by
            by_cases hj : j = k
            · subst hj; exact hb
            · exact HT.out j h1 (by omega)
          have h32 : Hid (tagBad v e k → evCheck v e = 32) := Lib.hid fun hb => by
            rw [hf.out, if_neg]; intro hfit2; exact (hfit.out.1 hfit2).1 k hk1 hk hb
          clear hN hL hH
          go_wp2_with fail
          refine (HH.out _).mono ?_
          rintro x w4 ⟨rfl, hb4⟩
          have HB4 := Lib.hid (Below.next HB.out hb4)
          have cN := gN.out w4 HB4.out
          have cL := gL.out w4 HB4.out
          have cH := gH.out w4 HB4.out
          clear hb4
          by_cases hA : hasOf v < k ∧ N ≠ 0
          · have dA := decide_eq_true hA.1
            have dN : (N != 0) = true := by rw [bne_iff_ne]; exact hA.2
            have hfin := Lib.hid (h32.out (hbad.out.2 (.inl hA)))
            clear hA
            go_wp2
            go_ret
            exact ⟨by rw [hfin.out]; rfl, Below.next HB3.out HB4.out⟩
          · have HA := Lib.hid hA
            by_cases hLt : N < L
            · have dL := decide_eq_true hLt
              have hfin := Lib.hid (h32.out (hbad.out.2 (.inr (.inl hLt))))
              clear hA hLt
              by_cases hB : hasOf v < k
              · have dB := decide_eq_true hB
                have dN : (N != 0) = false := by
                  rw [bne_eq_false_iff_eq]; exact Classical.byContradiction fun h => HA.out ⟨hB, h⟩
                clear hB
                go_wp2
                go_quiet (fail)
                go_wp2
                go_ret
                exact ⟨by rw [hfin.out]; rfl, Below.next HB3.out (Below.next HB4.out (below_drewN' _ _))⟩
              · have dB := decide_eq_false hB
                clear hB
                go_wp2
                go_quiet (fail)
                go_wp2
                go_ret
                exact ⟨by rw [hfin.out]; rfl, Below.next HB3.out (Below.next HB4.out (below_drewN' _ _))⟩
            · have dL := decide_eq_false hLt
              by_cases hHt : H < N
              · have dH := decide_eq_true hHt
                have hfin := Lib.hid (h32.out (hbad.out.2 (.inr (.inr hHt))))
                clear hA hLt hHt
                by_cases hB : hasOf v < k
                · have dB := decide_eq_true hB
                  have dN : (N != 0) = false := by
                    rw [bne_eq_false_iff_eq]; exact Classical.byContradiction fun h => HA.out ⟨hB, h⟩
                  clear hB
                  go_wp2
                  go_quiet (fail)
                  go_wp2
                  go_ret
                  exact ⟨by rw [hfin.out]; rfl, Below.next HB3.out (Below.next HB4.out (below_drewN' _ _))⟩
                · have dB := decide_eq_false hB
                  clear hB
                  go_wp2
                  go_quiet (fail)
                  go_wp2
                  go_ret
                  exact ⟨by rw [hfin.out]; rfl, Below.next HB3.out (Below.next HB4.out (below_drewN' _ _))⟩
              · have dH := decide_eq_false hHt
                have hgo := Lib.hid (hok.out (fun h => by
                  rcases hbad.out.1 h with h | h | h
                  · exact hA h
                  · exact hLt h
                  · exact hHt h))
                clear hA hLt hHt
                by_cases hB : hasOf v < k
                · have dB := decide_eq_true hB
                  have dN : (N != 0) = false := by
                    rw [bne_eq_false_iff_eq]; exact Classical.byContradiction fun h => HA.out ⟨hB, h⟩
                  clear hB
                  go_wp2
                  go_quiet (fail)
                  go_wp2
                  go_roundw
                  case rel => exact ⟨k + 1, by omega, by omega, by go_num, hgo, Below.next HB4.out (below_drewN' _ _)⟩
                  case measure => simp [intOf]; omega
                · have dB := decide_eq_false hB
                  clear hB
                  go_wp2
                  go_quiet (fail)
                  go_wp2
                  go_roundw
                  case rel => exact ⟨k + 1, by omega, by omega, by go_num, hgo, Below.next HB4.out (below_drewN' _ _)⟩
                  case measure => simp [intOf]; omega
        · obtain rfl : k = 11 := by omega
          have hAll := Lib.hid (show ∀ j, 1 ≤ j → j ≤ 10 → ¬ tagBad v e j from fun j h1 h2 => HT.out j h1 (by omega))
          have HBw := Lib.hid (Below.next HB3.out HB.out)
          have HEw := Lib.hid (HE3.out.below HB.out)
          clear HE3 HB3 HLow HHigh HNums HH HT HB
          have c7 := HEw.out.c7
          have c9 := HEw.out.c9
          have dv4 : decide (v < 4) = true := by simp; omega
          have dv5 : decide (v < 5) = true := by simp; omega
          by_cases hwho : e.who = []
          · by_cases hnote : e.note = []
            · have hfin := Lib.hid (show evCheck v e = 0 by
                rw [hf.out, if_pos]
                exact hfit.out.2 ⟨hAll.out, by rintro (⟨_, h⟩ | ⟨_, h⟩); exact h hwho; exact h hnote, by rw [hwho]; rfl⟩)
              have kn : (!e.note.isEmpty) = false := by rw [hnote]; rfl
              have kl : e.who.length ≤ 0 := by rw [hwho]; exact Nat.le_refl _
              have kn2 : e.note.isEmpty = true := by rw [hnote]; rfl
              have kw2 : e.who.isEmpty = true := by rw [hwho]; rfl
              clear hnote
              go_wp2
              refine wp_loop_rounds 1 ?_
              rw [rounds_succ]
              go_wp2
              go_ret
              exact ⟨by rw [hfin.out]; rfl, HBw.out⟩
            · have hfin := Lib.hid (show evCheck v e = 32 by
                rw [hf.out, if_neg]; intro h; exact (hfit.out.1 h).2.1 (.inr ⟨by omega, hnote⟩))
              have kn : (!e.note.isEmpty) = true := by simpa using hnote
              have kn2 : e.note.isEmpty = false := by simpa using hnote
              clear hnote
              go_wp2
              go_ret
              exact ⟨by rw [hfin.out]; rfl, HBw.out⟩
          · have hfin := Lib.hid (show evCheck v e = 32 by
              rw [hf.out, if_neg]; intro h; exact (hfit.out.1 h).2.1 (.inl ⟨by omega, hwho⟩))
            go_wp2
            go_ret
            exact ⟨by rw [hfin.out]; rfl, HBw.out⟩
  · have dv1 : (v == 1) = false := by simp; omega
    have hlw := Lib.hid (show lowL v = [0, 1, 1, 0, 0, 0, 0, 0, 0, 0, 0] by unfold lowL; rw [if_neg hv3])
    have hhg := Lib.hid (show highL v = [0, 10, 1099511627776, 65535, 10000, 100000000, 3, 5000, 0, 1099511627776, 0] by unfold highL; rw [if_neg (by omega)])
    go_wp2_with fail
    refine (HNm.out _).mono ?_
    rintro x w3 ⟨bn, rfl, hbn, hNums, hb3⟩
    have hbA := Below.next ((Below.refl _ w2).alloc (Nat.le_refl _) (.cells #[.int .i64 0, .int .i64 1, .int .i64 1, .int .i64 0, .int .i64 0, .int .i64 0, .int .i64 0, .int .i64 0, .int .i64 0, .int .i64 0, .int .i64 0] 3)) (Below.next (((Below.refl _ _).alloc (Nat.le_refl _) (.cells #[.int .i64 0, .int .i64 10, .int .i64 1099511627776, .int .i64 65535, .int .i64 10000, .int .i64 100000000, .int .i64 3, .int .i64 5000, .int .i64 0, .int .i64 1099511627776, .int .i64 0] 3))) hb3)
    have HLow := Lib.hid (show IntsAt w3 w2.heap.size (lowL v) from (IntsAt.below (IntsAt.below (intsAt_of rfl (by rw [hlw.out]; rfl)) (((Below.refl _ _).alloc (Nat.le_refl _) _))) hb3))
    have HHigh := Lib.hid (show IntsAt w3 (w2.heap.size + 1) (highL v) from IntsAt.below (intsAt_of (by simp) (by rw [hhg.out]; rfl)) hb3)
    have HNums := Lib.hid hNums
    have HE3 := Lib.hid (HE2.out.below hbA)
    have HB3 := Lib.hid (Below.next HB2.out hbA)
    clear hbA hb3 hNums hbn hHeld HE2 HB2 HNm HL hlw hhg c0 c1 c2 c3 c4 c5 c6 c7 c8 c9
    obtain ⟨bl, hbl⟩ : ∃ bl, bl = w2.heap.size := ⟨_, rfl⟩
    rw [← hbl] at HLow HHigh ⊢
    clear hbl hsz2
    go_wp2_with fail
    go_loopw [8] (fun t wr => ∃ k : Nat, 1 ≤ k ∧ k ≤ 11 ∧ t = .int .i64 k ∧ Hid (∀ j, 1 ≤ j → j < k → ¬ tagBad v e j) ∧ Below w3.heap.size w3 wr) (fun t _ => 11 - (intOf t).toNat)
    case atStart => exact ⟨1, by omega, by omega, rfl, Lib.hid (fun j h1 h2 => by omega), Below.refl _ _⟩
    case round =>
      obtain ⟨k, hk1, hk2, rfl, HT, hb⟩ := hrel
      have HB := Lib.hid hb
      clear hb
      by_cases hk : k ≤ 10
      · obtain ⟨N, hN⟩ : ∃ N, N = (numsL e).getD k 0 := ⟨_, rfl⟩
        obtain ⟨L, hL⟩ : ∃ L, L = (lowL v).getD k 0 := ⟨_, rfl⟩
        obtain ⟨H, hH⟩ : ∃ H, H = (highL v).getD k 0 := ⟨_, rfl⟩
        have hbad : Hid (tagBad v e k ↔ hasOf v < k ∧ N ≠ 0 ∨ N < L ∨ H < N) := Lib.hid (by rw [tagBad, ← hN, ← hL, ← hH])
        have gN : Hid (∀ W, Below w3.heap.size w3 W → W.cell? ⟨bn, k, none⟩ = some (.int .i64 N)) := Lib.hid fun W h => cell_later h (HNums.out k N (by rw [hN, List.getD_eq_getElem?_getD, List.getElem?_eq_getElem (by show k < 11; omega)]; rfl))
        have gL : Hid (∀ W, Below w3.heap.size w3 W → W.cell? ⟨bl, k, none⟩ = some (.int .i64 L)) := Lib.hid fun W h => cell_later h (HLow.out k L (by rw [hL, List.getD_eq_getElem?_getD, List.getElem?_eq_getElem (by show k < 11; omega)]; rfl))
        have gH : Hid (∀ W, Below w3.heap.size w3 W → W.cell? ⟨bl + 1, k, none⟩ = some (.int .i64 H)) := Lib.hid fun W h => cell_later h (HHigh.out k H (by rw [hH, List.getD_eq_getElem?_getD, List.getElem?_eq_getElem (by show k < 11; omega)]; rfl))
        have q1 : (0 : Int) ≤ (k : Int) := by omega
        have q2 : (k : Int) < 11 := by omega
        have hok : Hid (¬ tagBad v e k → ∀ j, 1 ≤ j → j < k + 1 → ¬ tagBad v e j) := Lib.hid fun hb j h1 h2 => by
          by_cases hj : j = k
          · subst hj; exact hb
          · exact HT.out j h1 (by omega)
        have h32 : Hid (tagBad v e k → evCheck v e = 32) := Lib.hid fun hb => by
          rw [hf.out, if_neg]; intro hfit2; exact (hfit.out.1 hfit2).1 k hk1 hk hb
        clear hN hL hH
        go_wp2_with fail
        refine (HH.out _).mono ?_
        rintro x w4 ⟨rfl, hb4⟩
        have HB4 := Lib.hid (Below.next HB.out hb4)
        have cN := gN.out w4 HB4.out
        have cL := gL.out w4 HB4.out
        have cH := gH.out w4 HB4.out
        clear hb4
        by_cases hA : hasOf v < k ∧ N ≠ 0
        · have dA := decide_eq_true hA.1
          have dN : (N != 0) = true := by rw [bne_iff_ne]; exact hA.2
          have hfin := Lib.hid (h32.out (hbad.out.2 (.inl hA)))
          clear hA
          go_wp2
          go_ret
          exact ⟨by rw [hfin.out]; rfl, Below.next HB3.out HB4.out⟩
        · have HA := Lib.hid hA
          by_cases hLt : N < L
          · have dL := decide_eq_true hLt
            have hfin := Lib.hid (h32.out (hbad.out.2 (.inr (.inl hLt))))
            clear hA hLt
            by_cases hB : hasOf v < k
            · have dB := decide_eq_true hB
              have dN : (N != 0) = false := by
                rw [bne_eq_false_iff_eq]; exact Classical.byContradiction fun h => HA.out ⟨hB, h⟩
              clear hB
              go_wp2
              go_quiet (fail)
              go_wp2
              go_ret
              exact ⟨by rw [hfin.out]; rfl, Below.next HB3.out (Below.next HB4.out (below_drewN' _ _))⟩
            · have dB := decide_eq_false hB
              clear hB
              go_wp2
              go_quiet (fail)
              go_wp2
              go_ret
              exact ⟨by rw [hfin.out]; rfl, Below.next HB3.out (Below.next HB4.out (below_drewN' _ _))⟩
          · have dL := decide_eq_false hLt
            by_cases hHt : H < N
            · have dH := decide_eq_true hHt
              have hfin := Lib.hid (h32.out (hbad.out.2 (.inr (.inr hHt))))
              clear hA hLt hHt
              by_cases hB : hasOf v < k
              · have dB := decide_eq_true hB
                have dN : (N != 0) = false := by
                  rw [bne_eq_false_iff_eq]; exact Classical.byContradiction fun h => HA.out ⟨hB, h⟩
                clear hB
                go_wp2
                go_quiet (fail)
                go_wp2
                go_ret
                exact ⟨by rw [hfin.out]; rfl, Below.next HB3.out (Below.next HB4.out (below_drewN' _ _))⟩
              · have dB := decide_eq_false hB
                clear hB
                go_wp2
                go_quiet (fail)
                go_wp2
                go_ret
                exact ⟨by rw [hfin.out]; rfl, Below.next HB3.out (Below.next HB4.out (below_drewN' _ _))⟩
            · have dH := decide_eq_false hHt
              have hgo := Lib.hid (hok.out (fun h => by
                rcases hbad.out.1 h with h | h | h
                · exact hA h
                · exact hLt h
                · exact hHt h))
              clear hA hLt hHt
              by_cases hB : hasOf v < k
              · have dB := decide_eq_true hB
                have dN : (N != 0) = false := by
                  rw [bne_eq_false_iff_eq]; exact Classical.byContradiction fun h => HA.out ⟨hB, h⟩
                clear hB
                go_wp2
                go_quiet (fail)
                go_wp2
                go_roundw
                case rel => exact ⟨k + 1, by omega, by omega, by go_num, hgo, Below.next HB4.out (below_drewN' _ _)⟩
                case measure => simp [intOf]; omega
              · have dB := decide_eq_false hB
                clear hB
                go_wp2
                go_quiet (fail)
                go_wp2
                go_roundw
                case rel => exact ⟨k + 1, by omega, by omega, by go_num, hgo, Below.next HB4.out (below_drewN' _ _)⟩
                case measure => simp [intOf]; omega
      · obtain rfl : k = 11 := by omega
        have hAll := Lib.hid (show ∀ j, 1 ≤ j → j ≤ 10 → ¬ tagBad v e j from fun j h1 h2 => HT.out j h1 (by omega))
        have HBw := Lib.hid (Below.next HB3.out HB.out)
        have HEw := Lib.hid (HE3.out.below HB.out)
        clear HE3 HB3 HLow HHigh HNums HH HT HB
        by_cases hv4 : v < 4
        · have c7 := HEw.out.c7
          have c9 := HEw.out.c9
          have dv4 : decide (v < 4) = true := by simp; omega
          have dv5 : decide (v < 5) = true := by simp; omega
          by_cases hwho : e.who = []
          · by_cases hnote : e.note = []
            · have hfin := Lib.hid (show evCheck v e = 0 by
                rw [hf.out, if_pos]
                exact hfit.out.2 ⟨hAll.out, by rintro (⟨_, h⟩ | ⟨_, h⟩); exact h hwho; exact h hnote, by rw [hwho]; rfl⟩)
              have kn : (!e.note.isEmpty) = false := by rw [hnote]; rfl
              have kl : e.who.length ≤ 0 := by rw [hwho]; exact Nat.le_refl _
              have kn2 : e.note.isEmpty = true := by rw [hnote]; rfl
              have kw2 : e.who.isEmpty = true := by rw [hwho]; rfl
              clear hnote
              go_wp2
              refine wp_loop_rounds 1 ?_
              rw [rounds_succ]
              go_wp2
              go_ret
              exact ⟨by rw [hfin.out]; rfl, HBw.out⟩
            · have hfin := Lib.hid (show evCheck v e = 32 by
                rw [hf.out, if_neg]; intro h; exact (hfit.out.1 h).2.1 (.inr ⟨by omega, hnote⟩))
              have kn : (!e.note.isEmpty) = true := by simpa using hnote
              have kn2 : e.note.isEmpty = false := by simpa using hnote
              clear hnote
              go_wp2
              go_ret
              exact ⟨by rw [hfin.out]; rfl, HBw.out⟩
          · have hfin := Lib.hid (show evCheck v e = 32 by
              rw [hf.out, if_neg]; intro h; exact (hfit.out.1 h).2.1 (.inl ⟨by omega, hwho⟩))
            go_wp2
            go_ret
            exact ⟨by rw [hfin.out]; rfl, HBw.out⟩
        · have c7 := HEw.out.c7
          have c9 := HEw.out.c9
          have dv4 : decide (v < 4) = false := by simp; omega
          by_cases hbad : v < 5 ∧ e.note ≠ []
          · have hfin := Lib.hid (show evCheck v e = 32 by
              rw [hf.out, if_neg]; intro h; exact (hfit.out.1 h).2.1 (.inr hbad))
            have dv5 := decide_eq_true hbad.1
            have kn : (!e.note.isEmpty) = true := by simpa using hbad.2
            have kn2 : e.note.isEmpty = false := by simpa using hbad.2
            clear hbad
            go_wp2
            go_ret
            exact ⟨by rw [hfin.out]; rfl, HBw.out⟩
          · have hplain : Hid (evCheck v e = if plainS e.who = true then 0 else 32) := Lib.hid (by
              rw [hf.out]
              by_cases hp : plainS e.who = true
              · rw [if_pos hp, if_pos]; exact hfit.out.2 ⟨hAll.out, by rintro (⟨h, _⟩ | h); omega; exact hbad h, hp⟩
              · rw [if_neg hp, if_neg]; intro h; exact hp (hfit.out.1 h).2.2)
            by_cases hv5 : v < 5
            · have dv5 := decide_eq_true hv5
              have hnote : e.note = [] := Classical.byContradiction fun h => hbad ⟨hv5, h⟩
              have kn : (!e.note.isEmpty) = false := by rw [hnote]; rfl
              have kn2 : e.note.isEmpty = true := by rw [hnote]; rfl
              clear hnote hbad
              go_wp2
              go_loopw [9] (fun i w5 => ∃ k : Nat, k ≤ e.who.length ∧ i = .int .i64 k ∧ Hid (plainS (e.who.take k) = true) ∧ Below wr.heap.size wr w5) (fun i _ => e.who.length - (intOf i).toNat)
              case atStart => exact ⟨0, by omega, rfl, Lib.hid rfl, Below.refl _ _⟩
              case round =>
                clear c7 c9
                obtain ⟨k, hk, rfl, HP, hb⟩ := hrel
                have HB5 := Lib.hid hb
                have c7 := (HEw.out.below hb).c7
                clear hb
                by_cases hlt : k < e.who.length
                · obtain ⟨x, hx, ht, hmem⟩ := nth e.who k hlt
                  have gx : ∀ hh, (⟨e.who.toArray⟩ : ByteArray)[k]'hh = x := ba_get hx
                  have HX := Lib.hid (show plainS (e.who.take (k + 1)) = plainC x by
                    rw [ht]; unfold plainS; rw [List.all_append]; have := HP.out; unfold plainS at this; rw [this]; simp)
                  have hxl := x.toNat_lt
                  have hno : Hid (plainC x = false → evCheck v e = 32) := Lib.hid fun h => by
                    rw [hplain.out, if_neg]; intro h2
                    have := List.all_eq_true.1 h2 x hmem
                    rw [h] at this; cases this
                  clear hx ht hmem
                  have hpc : Hid (plainC x = true ↔ x.toNat = 45 ∨ (48 ≤ x.toNat ∧ x.toNat ≤ 57) ∨ (97 ≤ x.toNat ∧ x.toNat ≤ 122)) := Lib.hid (by
                    simp only [plainC, Bool.or_eq_true, Bool.and_eq_true, beq_iff_eq, decide_eq_true_eq]; omega)
                  by_cases hp : plainC x = true
                  · have hpa := hpc.out.1 hp
                    have HP2 := Lib.hid (HX.out.trans hp)
                    clear hp
                    by_cases h45 : x.toNat = 45
                    · have k45 : ((x.toNat : Int) == 45) = true := by rw [beq_iff_eq]; omega
                      clear hpa h45
                      go_wp2
                      go_roundw
                      case rel => exact ⟨k + 1, by omega, by go_num, HP2, HB5.out⟩
                      case measure => simp [intOf]; omega
                    · have k45 : ((x.toNat : Int) == 45) = false := by rw [beq_eq_false_iff_ne]; omega
                      by_cases h57 : x.toNat ≤ 57
                      · have hr : 48 ≤ x.toNat := by omega
                        have t48 : decide ((48 : Int) ≤ x.toNat) = true := by simp; omega
                        have t57 : decide ((x.toNat : Int) ≤ 57) = true := by simp; omega
                        have t97 : decide ((97 : Int) ≤ x.toNat) = false := by simp; omega
                        have t122 : decide ((x.toNat : Int) ≤ 122) = true := by simp; omega
                        clear hpa h45 h57 hr
                        go_wp2
                        go_roundw
                        case rel => exact ⟨k + 1, by omega, by go_num, HP2, HB5.out⟩
                        case measure => simp [intOf]; omega
                      · have hr : 97 ≤ x.toNat ∧ x.toNat ≤ 122 := by omega
                        have t48 : decide ((48 : Int) ≤ x.toNat) = true := by simp; omega
                        have t57 : decide ((x.toNat : Int) ≤ 57) = false := by simp; omega
                        have t97 : decide ((97 : Int) ≤ x.toNat) = true := by simp; omega
                        have t122 : decide ((x.toNat : Int) ≤ 122) = true := by simp; omega
                        clear hpa h45 h57 hr
                        go_wp2
                        go_roundw
                        case rel => exact ⟨k + 1, by omega, by go_num, HP2, HB5.out⟩
                        case measure => simp [intOf]; omega
                  · have hpa : ¬ (x.toNat = 45 ∨ (48 ≤ x.toNat ∧ x.toNat ≤ 57) ∨ (97 ≤ x.toNat ∧ x.toNat ≤ 122)) := fun h => hp (hpc.out.2 h)
                    have hfin := Lib.hid (hno.out (by simpa using hp))
                    have k45 : ((x.toNat : Int) == 45) = false := by rw [beq_eq_false_iff_ne]; omega
                    clear hp
                    by_cases h48 : x.toNat < 48
                    · have hr : x.toNat < 48 := h48
                      have t48 : decide ((48 : Int) ≤ x.toNat) = false := by simp; omega
                      have t57 : decide ((x.toNat : Int) ≤ 57) = true := by simp; omega
                      have t97 : decide ((97 : Int) ≤ x.toNat) = false := by simp; omega
                      have t122 : decide ((x.toNat : Int) ≤ 122) = true := by simp; omega
                      clear hpa h48 hr
                      go_wp2
                      go_ret
                      exact ⟨by rw [hfin.out]; rfl, Below.next HBw.out HB5.out⟩
                    · by_cases h97 : x.toNat < 97
                      · have hr : 57 < x.toNat := by omega
                        have t48 : decide ((48 : Int) ≤ x.toNat) = true := by simp; omega
                        have t57 : decide ((x.toNat : Int) ≤ 57) = false := by simp; omega
                        have t97 : decide ((97 : Int) ≤ x.toNat) = false := by simp; omega
                        have t122 : decide ((x.toNat : Int) ≤ 122) = true := by simp; omega
                        clear hpa h48 h97 hr
                        go_wp2
                        go_ret
                        exact ⟨by rw [hfin.out]; rfl, Below.next HBw.out HB5.out⟩
                      · have hr : 122 < x.toNat := by omega
                        have t48 : decide ((48 : Int) ≤ x.toNat) = true := by simp; omega
                        have t57 : decide ((x.toNat : Int) ≤ 57) = false := by simp; omega
                        have t97 : decide ((97 : Int) ≤ x.toNat) = true := by simp; omega
                        have t122 : decide ((x.toNat : Int) ≤ 122) = false := by simp; omega
                        clear hpa h48 h97 hr
                        go_wp2
                        go_ret
                        exact ⟨by rw [hfin.out]; rfl, Below.next HBw.out HB5.out⟩
                · obtain rfl : k = e.who.length := by omega
                  have hfin := Lib.hid (show evCheck v e = 0 by rw [hplain.out, if_pos]; simpa using HP.out)
                  go_wp2
                  go_ret
                  exact ⟨by rw [hfin.out]; rfl, Below.next HBw.out HB5.out⟩
            · have dv5 := decide_eq_false hv5
              clear hbad
              go_wp2
              go_loopw [9] (fun i w5 => ∃ k : Nat, k ≤ e.who.length ∧ i = .int .i64 k ∧ Hid (plainS (e.who.take k) = true) ∧ Below wr.heap.size wr w5) (fun i _ => e.who.length - (intOf i).toNat)
              case atStart => exact ⟨0, by omega, rfl, Lib.hid rfl, Below.refl _ _⟩
              case round =>
                clear c7 c9
                obtain ⟨k, hk, rfl, HP, hb⟩ := hrel
                have HB5 := Lib.hid hb
                have c7 := (HEw.out.below hb).c7
                clear hb
                by_cases hlt : k < e.who.length
                · obtain ⟨x, hx, ht, hmem⟩ := nth e.who k hlt
                  have gx : ∀ hh, (⟨e.who.toArray⟩ : ByteArray)[k]'hh = x := ba_get hx
                  have HX := Lib.hid (show plainS (e.who.take (k + 1)) = plainC x by
                    rw [ht]; unfold plainS; rw [List.all_append]; have := HP.out; unfold plainS at this; rw [this]; simp)
                  have hxl := x.toNat_lt
                  have hno : Hid (plainC x = false → evCheck v e = 32) := Lib.hid fun h => by
                    rw [hplain.out, if_neg]; intro h2
                    have := List.all_eq_true.1 h2 x hmem
                    rw [h] at this; cases this
                  clear hx ht hmem
                  have hpc : Hid (plainC x = true ↔ x.toNat = 45 ∨ (48 ≤ x.toNat ∧ x.toNat ≤ 57) ∨ (97 ≤ x.toNat ∧ x.toNat ≤ 122)) := Lib.hid (by
                    simp only [plainC, Bool.or_eq_true, Bool.and_eq_true, beq_iff_eq, decide_eq_true_eq]; omega)
                  by_cases hp : plainC x = true
                  · have hpa := hpc.out.1 hp
                    have HP2 := Lib.hid (HX.out.trans hp)
                    clear hp
                    by_cases h45 : x.toNat = 45
                    · have k45 : ((x.toNat : Int) == 45) = true := by rw [beq_iff_eq]; omega
                      clear hpa h45
                      go_wp2
                      go_roundw
                      case rel => exact ⟨k + 1, by omega, by go_num, HP2, HB5.out⟩
                      case measure => simp [intOf]; omega
                    · have k45 : ((x.toNat : Int) == 45) = false := by rw [beq_eq_false_iff_ne]; omega
                      by_cases h57 : x.toNat ≤ 57
                      · have hr : 48 ≤ x.toNat := by omega
                        have t48 : decide ((48 : Int) ≤ x.toNat) = true := by simp; omega
                        have t57 : decide ((x.toNat : Int) ≤ 57) = true := by simp; omega
                        have t97 : decide ((97 : Int) ≤ x.toNat) = false := by simp; omega
                        have t122 : decide ((x.toNat : Int) ≤ 122) = true := by simp; omega
                        clear hpa h45 h57 hr
                        go_wp2
                        go_roundw
                        case rel => exact ⟨k + 1, by omega, by go_num, HP2, HB5.out⟩
                        case measure => simp [intOf]; omega
                      · have hr : 97 ≤ x.toNat ∧ x.toNat ≤ 122 := by omega
                        have t48 : decide ((48 : Int) ≤ x.toNat) = true := by simp; omega
                        have t57 : decide ((x.toNat : Int) ≤ 57) = false := by simp; omega
                        have t97 : decide ((97 : Int) ≤ x.toNat) = true := by simp; omega
                        have t122 : decide ((x.toNat : Int) ≤ 122) = true := by simp; omega
                        clear hpa h45 h57 hr
                        go_wp2
                        go_roundw
                        case rel => exact ⟨k + 1, by omega, by go_num, HP2, HB5.out⟩
                        case measure => simp [intOf]; omega
                  · have hpa : ¬ (x.toNat = 45 ∨ (48 ≤ x.toNat ∧ x.toNat ≤ 57) ∨ (97 ≤ x.toNat ∧ x.toNat ≤ 122)) := fun h => hp (hpc.out.2 h)
                    have hfin := Lib.hid (hno.out (by simpa using hp))
                    have k45 : ((x.toNat : Int) == 45) = false := by rw [beq_eq_false_iff_ne]; omega
                    clear hp
                    by_cases h48 : x.toNat < 48
                    · have hr : x.toNat < 48 := h48
                      have t48 : decide ((48 : Int) ≤ x.toNat) = false := by simp; omega
                      have t57 : decide ((x.toNat : Int) ≤ 57) = true := by simp; omega
                      have t97 : decide ((97 : Int) ≤ x.toNat) = false := by simp; omega
                      have t122 : decide ((x.toNat : Int) ≤ 122) = true := by simp; omega
                      clear hpa h48 hr
                      go_wp2
                      go_ret
                      exact ⟨by rw [hfin.out]; rfl, Below.next HBw.out HB5.out⟩
                    · by_cases h97 : x.toNat < 97
                      · have hr : 57 < x.toNat := by omega
                        have t48 : decide ((48 : Int) ≤ x.toNat) = true := by simp; omega
                        have t57 : decide ((x.toNat : Int) ≤ 57) = false := by simp; omega
                        have t97 : decide ((97 : Int) ≤ x.toNat) = false := by simp; omega
                        have t122 : decide ((x.toNat : Int) ≤ 122) = true := by simp; omega
                        clear hpa h48 h97 hr
                        go_wp2
                        go_ret
                        exact ⟨by rw [hfin.out]; rfl, Below.next HBw.out HB5.out⟩
                      · have hr : 122 < x.toNat := by omega
                        have t48 : decide ((48 : Int) ≤ x.toNat) = true := by simp; omega
                        have t57 : decide ((x.toNat : Int) ≤ 57) = false := by simp; omega
                        have t97 : decide ((97 : Int) ≤ x.toNat) = true := by simp; omega
                        have t122 : decide ((x.toNat : Int) ≤ 122) = false := by simp; omega
                        clear hpa h48 h97 hr
                        go_wp2
                        go_ret
                        exact ⟨by rw [hfin.out]; rfl, Below.next HBw.out HB5.out⟩
                · obtain rfl : k = e.who.length := by omega
                  have hfin := Lib.hid (show evCheck v e = 0 by rw [hplain.out, if_pos]; simpa using HP.out)
                  go_wp2
                  go_ret
                  exact ⟨by rw [hfin.out]; rfl, Below.next HBw.out HB5.out⟩

theorem refCheckB_any (v : Int) (e : Ev) (w : World) (hok : EvOk 281474976710656 e) : Calls Tryd.prog 19 #[.int .i64 v, evV e] w (ChkPost (evCheck v e) w) := by
  by_cases h1 : v < 1 ∨ 5 < v
  · exact refCheck_version v e w h1
  · by_cases h2 : e.kind < 1 ∨ lastKind v < e.kind
    · exact refCheck_kind v e w (by omega) (by omega) h2
    · by_cases h3 : 16 < e.who.length ∨ 120 < e.note.length
      · exact refCheck_long v e w ⟨hok.who, hok.note⟩ (by omega) (by omega) (by omega) (by omega) h3
      · exact refCheck_rest v e w (by omega) (by omega) (by omega) (by omega) (by omega) (by omega)
theorem refCheck_any (v : Int) (e : Ev) (w : World) (hok : EvOk 2097152 e) : Calls Tryd.prog 19 #[.int .i64 v, evV e] w (ChkPost (evCheck v e) w) :=
  refCheckB_any v e w ⟨hok.kind, hok.order, hok.item, hok.qty, hok.price, hok.cur, hok.tax, hok.stamp, Nat.le_trans hok.who (by decide), Nat.le_trans hok.note (by decide)⟩

end Go.Proofs.YtlobohpbgghleaaDoor
