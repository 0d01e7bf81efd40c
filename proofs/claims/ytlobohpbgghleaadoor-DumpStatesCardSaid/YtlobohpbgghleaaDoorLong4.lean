import Derived.Test.YtlobohpbgghleaaDoorLong
namespace Go.Proofs.YtlobohpbgghleaaDoor
open Go.RowKit

theorem take8_val (l : List Nat) (h : ∀ d ∈ l, d < 65536) : lval (l.take 8) < 65536 ^ 8 := by
  have h1 := lval_lt (l.take 8) fun d hd => h d (List.mem_of_mem_take hd)
  exact Nat.lt_of_lt_of_le h1 (Nat.pow_le_pow_right (by decide) (List.length_take_le _ _))

set_option maxRecDepth 100000 in
set_option maxHeartbeats 8000000 in
theorem times_any (b1 b2 : Bool) (x y : List Nat) (w : World) (hx : Digs x) (hy : Digs y) :
    Calls Tryd.prog 46 #[lgV b1 x, lgV b2 y] w fun e w' => ∃ z, e = .returned (lgV (!(b1 == b2)) z) ∧ Digs z ∧ lval z = lval (x.take 8) * lval (y.take 8) ∧ Below w.heap.size w w' := by
  have HX := Lib.hid hx
  have HY := Lib.hid hy
  clear hx hy
  go_enter Tryd.func46, Tryd.ntmps46
  go_wp2
  go_loopw [6] (fun iv wr => ∃ (i : Nat) (z : List Nat), i ≤ 8 ∧ iv = .int .i64 i ∧ Hid (Digs z ∧ lval z = lval (x.take i) * lval (y.take 8)) ∧ Hid (LgBlk wr w.heap.size b1 x ∧ LgBlk wr (w.heap.size + 1) b2 y ∧ LgBlk wr (w.heap.size + 1 + 1) false lg0 ∧ LgBlk wr (w.heap.size + 1 + 1 + 1) false z ∧ Below w.heap.size w wr)) (fun iv _ => 8 - (intOf iv).toNat)
  case atStart => exact ⟨0, lg0, by omega, rfl, Lib.hid ⟨lg0_digs, by rw [List.take_zero]; simp only [lval, Nat.zero_mul]; exact lval_zero 16⟩, Lib.hid (four_start w b1 b2 false false x y lg0 lg0 _ rfl)⟩
  case round =>
    obtain ⟨i, z, hi, rfl, HZ, HW⟩ := hrel
    by_cases hlt : i < 8
    · obtain ⟨a, ha, ha'⟩ := HX.out.at i (by omega)
      have q1 : (i : Int) < 8 := by omega
      have HA := Lib.hid ha'
      have HT := Lib.hid (lval_take x i a ha)
      have c1 := HW.out.1.dig ha
      have HCA := Lib.hid ha
      clear ha ha' c1
      go_wp2
      go_loopw [7, 8] (fun cv jv wr' => ∃ (j c : Nat) (z' : List Nat), j ≤ 8 ∧ jv = .int .i64 j ∧ cv = .int .u64 (c : Int) ∧ Hid (MulI (lval z + a * lval (y.take j) * 65536 ^ i) (i + j) z' c) ∧ Hid (LgBlk wr' w.heap.size b1 x ∧ LgBlk wr' (w.heap.size + 1) b2 y ∧ LgBlk wr' (w.heap.size + 1 + 1) false lg0 ∧ LgBlk wr' (w.heap.size + 1 + 1 + 1) false z' ∧ Below w.heap.size w wr')) (fun _ jv _ => 8 - (intOf jv).toNat)
      case atStart => exact ⟨0, 0, z, by omega, rfl, rfl, Lib.hid ⟨HZ.out.1, by omega, by simp [lval]⟩, HW⟩
      case round =>
        obtain ⟨j, c, z', hj, rfl, rfl, HM, HW'⟩ := hrel
        clear HW
        by_cases hlj : j < 8
        · obtain ⟨b, hb, hb'⟩ := HY.out.at j (by omega)
          obtain ⟨e, he, he'⟩ := HM.out.digs.at (i + j) (by omega)
          have q2 : (j : Int) < 8 := by omega
          have q3 : (i : Int) + (j : Int) < 16 := by omega
          have q4 : (i : Int) < 16 := by omega
          have q5 : (j : Int) < 16 := by omega
          have ew : IntKind.i64.wrap ((i : Int) + (j : Int)) = ((i + j : Nat) : Int) := by rw [IntKind.wrap_i64]; omega
          have q6 : ((i + j : Nat) : Int) < 16 := by omega
          have ha' := HA.out
          have c1 := HW'.out.1.dig HCA.out
          have c2 := HW'.out.2.1.dig hb
          have c3 := HW'.out.2.2.2.1.dig he
          have f3 := HW'.out.2.2.2.1.free (1 + (i + j))
          have hc := HM.out.carry
          obtain ⟨m, hm⟩ : ∃ m : Nat, m = a * b := ⟨_, rfl⟩
          have hmb : m ≤ 65535 * 65535 := by rw [hm]; exact Nat.mul_le_mul (by omega) (by omega)
          obtain ⟨s, hs⟩ : ∃ s : Nat, s = e + a * b + c := ⟨_, rfl⟩
          have e0 : IntKind.u64.wrap ((a : Int) * (b : Int)) = (m : Int) := by rw [← Int.natCast_mul, ← hm, IntKind.wrap_u64]; omega
          have e1 : IntKind.u64.wrap ((e : Int) + (m : Int)) = (e : Int) + m := by rw [IntKind.wrap_u64]; omega
          have e2 : IntKind.u64.wrap ((e : Int) + (m : Int) + (c : Int)) = (s : Int) := by rw [hs, ← hm, IntKind.wrap_u64]; omega
          have e3 : IntKind.u64.wrap ((s : Int) / 65536) = (s : Int) / 65536 := by rw [IntKind.wrap_u64]; omega
          have HS := Lib.hid (show MulI (lval z + a * lval (y.take (j + 1)) * 65536 ^ i) (i + (j + 1)) (z'.set (i + j) (s % 65536)) (s / 65536) by
            have h1 := HM.out.step he ha' hb'
            rw [← hs] at h1
            rw [lval_take y j b hb, Nat.mul_add, Nat.add_mul, ← Nat.add_assoc, show a * (b * 65536 ^ j) * 65536 ^ i = a * b * 65536 ^ (i + j) by rw [Nat.pow_add]; simp only [Nat.mul_assoc, Nat.mul_left_comm, Nat.mul_comm]]
            exact h1)
          have HP := Lib.hid (show ∀ n, LgBlk ((wr.drewN n).setCell ⟨w.heap.size + 1 + 1 + 1, 1 + (i + j), none⟩ (.int .u64 ((s : Int) % 65536))) (w.heap.size + 1 + 1 + 1) false (z'.set (i + j) (s % 65536)) from fun n => by
            have := LgBlk.put (w := wr.drewN n) HW'.out.2.2.2.1 (i + j) (s % 65536)
            rw [Int.natCast_emod] at this; exact this)
          clear hb hb' he he' ha' hc hm hmb hs
          go_wp2
          go_quiet (fail)
          go_wp2
          go_roundw
          case rel => exact ⟨j + 1, s / 65536, z'.set (i + j) (s % 65536), by omega, by go_num, rfl, HS, Lib.hid ⟨LgBlk.other (w := wr.drewN nq) HW'.out.1 (by omega) _ _, LgBlk.other (w := wr.drewN nq) HW'.out.2.1 (by omega) _ _, LgBlk.other (w := wr.drewN nq) HW'.out.2.2.1 (by omega) _ _, HP.out nq, (Below.next HW'.out.2.2.2.2 (below_drewN' wr nq)).setCell (p := ⟨w.heap.size + 1 + 1 + 1, 1 + (i + j), none⟩) (by show w.heap.size ≤ w.heap.size + 1 + 1 + 1; omega) _⟩⟩
          case measure => first | (simp [intOf]; done) | (simp [intOf]; omega)
        · obtain rfl : j = 8 := by omega
          obtain ⟨W, hW⟩ : ∃ W, W = lval z + a * lval (y.take 8) * 65536 ^ i := ⟨_, rfl⟩
          have HM2 := Lib.hid (show MulI W (i + 8) z' c from hW ▸ HM.out)
          have HF := Lib.hid (show W = lval (x.take (i + 1)) * lval (y.take 8) by rw [hW, HZ.out.2, HT.out, Nat.add_mul, Nat.mul_right_comm])
          have HL := Lib.hid (show W < 65536 ^ 16 by
            rw [HF.out]
            have h1 := take8_val y HY.out.2
            have h2 : lval (x.take (i + 1)) < 65536 ^ 8 := Nat.lt_of_lt_of_le (lval_lt (x.take (i + 1)) fun d hd => HX.out.2 d (List.mem_of_mem_take hd)) (Nat.pow_le_pow_right (by decide) (Nat.le_trans (List.length_take_le _ _) (by omega)))
            rw [show (65536 : Nat) ^ 16 = 65536 ^ 8 * 65536 ^ 8 by decide]
            exact Nat.mul_lt_mul_of_lt_of_lt h2 h1)
          have q8 : IntKind.i64.wrap ((i : Int) + 8) = ((i + 8 : Nat) : Int) := by rw [IntKind.wrap_i64]; omega
          clear hW HM
          go_wp2
          go_loopw [7, 10] (fun cv kv wr3 => ∃ (k c : Nat) (z3 : List Nat), k ≤ 16 ∧ kv = .int .i64 k ∧ cv = .int .u64 (c : Int) ∧ Hid (MulI W k z3 c) ∧ Hid (LgBlk wr3 w.heap.size b1 x ∧ LgBlk wr3 (w.heap.size + 1) b2 y ∧ LgBlk wr3 (w.heap.size + 1 + 1) false lg0 ∧ LgBlk wr3 (w.heap.size + 1 + 1 + 1) false z3 ∧ Below w.heap.size w wr3)) (fun _ kv _ => 16 - (intOf kv).toNat)
          case atStart => exact ⟨i + 8, c, z', by omega, by first | rfl | simp, rfl, HM2, HW'⟩
          case round =>
            clear HW' HM2 q8
            obtain ⟨k, c, z3, hk, rfl, rfl, HM3, HW3⟩ := hrel
            by_cases hgo : k < 16 ∧ 0 < c
            · obtain ⟨e, he, he'⟩ := HM3.out.digs.at k hgo.1
              have hc := HM3.out.carry
              have hk16 := hgo.1
              have hc0 := hgo.2
              have d1 : decide ((k : Int) < 16) = true := by rw [decide_eq_true_eq]; omega
              have d2 : decide ((0 : Int) < (c : Int)) = true := by rw [decide_eq_true_eq]; omega
              have q1 : (k : Int) < 16 := by omega
              have c3 := HW3.out.2.2.2.1.dig he
              have f3 := HW3.out.2.2.2.1.free (1 + k)
              obtain ⟨s, hs⟩ : ∃ s : Nat, s = e + c := ⟨_, rfl⟩
              have e1 : IntKind.u64.wrap ((e : Int) + (c : Int)) = (s : Int) := by rw [IntKind.wrap_u64]; omega
              have e3 : IntKind.u64.wrap ((s : Int) / 65536) = (s : Int) / 65536 := by rw [IntKind.wrap_u64]; omega
              have HS := Lib.hid (show MulI W (k + 1) (z3.set k (s % 65536)) (s / 65536) by
                have h1 := HM3.out.step he (a := 0) (b := 0) (by decide) (by decide)
                simp only [Nat.mul_zero, Nat.zero_mul, Nat.add_zero] at h1
                rw [hs]; exact h1)
              have HP := Lib.hid (show LgBlk (wr.setCell ⟨w.heap.size + 1 + 1 + 1, 1 + k, none⟩ (.int .u64 ((s : Int) % 65536))) (w.heap.size + 1 + 1 + 1) false (z3.set k (s % 65536)) from by
                have := LgBlk.put HW3.out.2.2.2.1 k (s % 65536)
                rw [Int.natCast_emod] at this; exact this)
              clear he he' hc hs hgo
              go_wp2
              go_roundw
              case rel => exact ⟨k + 1, s / 65536, z3.set k (s % 65536), by omega, by go_num, rfl, HS, Lib.hid ⟨LgBlk.other HW3.out.1 (by omega) _ _, LgBlk.other HW3.out.2.1 (by omega) _ _, LgBlk.other HW3.out.2.2.1 (by omega) _ _, HP.out, HW3.out.2.2.2.2.setCell (p := ⟨w.heap.size + 1 + 1 + 1, 1 + k, none⟩) (by show w.heap.size ≤ w.heap.size + 1 + 1 + 1; omega) _⟩⟩
              case measure => first | (simp [intOf]; done) | (simp [intOf]; omega)
            · have HD := Lib.hid HM3.out.digs
              have HV := Lib.hid (show lval z3 = lval (x.take (i + 1)) * lval (y.take 8) by rw [← HF.out]; exact HM3.out.done (by omega) HL.out)
              by_cases hk16 : k < 16
              · have d1 : decide ((k : Int) < 16) = true := by rw [decide_eq_true_eq]; omega
                obtain rfl : c = 0 := by omega
                have d2 : decide ((0 : Int) < ((0 : Nat) : Int)) = false := by decide
                clear hgo hk16
                go_wp2
                go_roundw
                case rel => exact ⟨i + 1, z3, by omega, by go_num, Lib.hid ⟨HD.out, HV.out⟩, HW3⟩
                case measure => first | (simp [intOf]; done) | (simp [intOf]; omega)
              · obtain rfl : k = 16 := by omega
                have d1 : decide (((16 : Nat) : Int) < 16) = false := by decide
                clear hgo hk16
                go_wp2
                go_roundw
                case rel => exact ⟨i + 1, z3, by omega, by go_num, Lib.hid ⟨HD.out, HV.out⟩, HW3⟩
                case measure => first | (simp [intOf]; done) | (simp [intOf]; omega)
    · obtain rfl : i = 8 := by omega
      have s1 := HW.out.1.sign
      have s2 := HW.out.2.1.sign
      have s3 := HW.out.2.2.2.1.sign
      have f3 := HW.out.2.2.2.1.free 0
      have HS := Lib.hid (HW.out.2.2.2.1.putSign (!(b1 == b2)))
      have HO := Lib.hid (show LgBlk (wr.setCell ⟨w.heap.size + 1 + 1 + 1, 0, none⟩ (.bool (!(b1 == b2)))) (w.heap.size + 1 + 1) false lg0 from LgBlk.other HW.out.2.2.1 (by omega) _ _)
      have HR := Lib.hid (LgBlk.row HO.out (!(b1 == b2)) z)
      have HB0 := (show Below w.heap.size w (wr.setCell ⟨w.heap.size + 1 + 1 + 1, 0, none⟩ (.bool (!(b1 == b2)))) from HW.out.2.2.2.2.setCell (p := ⟨w.heap.size + 1 + 1 + 1, 0, none⟩) (by show w.heap.size ≤ w.heap.size + 1 + 1 + 1; omega) _)
      have HB := Lib.hid (below_row HB0 (g := w.heap.size + 1 + 1) (by omega) (lgCs (!(b1 == b2)) z))
      clear HB0 hlt
      go_wp2_with (first
        | (with_reducible refine wpList_load_lg rfl (.tmp 5) rfl (w.heap.size + 1 + 1 + 1) (!(b1 == b2)) z rfl HS.out HZ.out.1 ?_)
        | (with_reducible refine wpList_store_lg rfl (.tmp 4) (.tmp 77) rfl (w.heap.size + 1 + 1) false (!(b1 == b2)) lg0 z rfl rfl HO.out lg0_digs HZ.out.1 ?_))
      exact bodyPost_ret (v := lgV (!(b1 == b2)) z) (results_lg rfl _ _ (w.heap.size + 1 + 1) (!(b1 == b2)) z rfl HR.out HZ.out.1) rfl ⟨z, rfl, HZ.out.1, HZ.out.2, HB.out⟩

end Go.Proofs.YtlobohpbgghleaaDoor
