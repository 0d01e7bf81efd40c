import Derived.Test.YtlobohpbgghleaaDoorLong5
import Derived.Test.YtlobohpbgghleaaDoorShelf
namespace Go.Proofs.YtlobohpbgghleaaDoor
open Go.RowKit

/-! ## products divided: the reference's and the program's, at numbers not below 0 -/

theorem take8_small {l : List Nat} (h : lval l < 65536 ^ 8) : lval (l.take 8) = lval l := by
  have h1 := lval_mod l 8
  rcases Nat.eq_zero_or_pos (lval (l.drop 8)) with h2 | h2
  · rw [h2] at h1; omega
  · have : 65536 ^ 8 ≤ 65536 ^ 8 * lval (l.drop 8) := Nat.le_mul_of_pos_right _ h2
    omega

set_option maxRecDepth 100000 in
set_option maxHeartbeats 4000000 in
theorem mulDivR_any (a b d : Nat) (w : World) (ha : a < 9223372036854775808) (hb : b < 9223372036854775808) (hd0 : 0 < d) (hd : d < 9223372036854775808) (hq : a * b / d < 9223372036854775808) :
    Calls Tryd.prog 34 #[.int .i64 (a : Int), .int .i64 (b : Int), .int .i64 (d : Int)] w fun e w' => e = .returned (.tuple #[.int .i64 ((a * b / d : Nat) : Int), .bool true]) ∧ Below w.heap.size w w' := by
  have HQ := Lib.hid hq
  have t0 : ((d : Int) == 0) = false := by rw [beq_eq_false_iff_ne]; omega
  have HA := Lib.hid ha
  have HB := Lib.hid hb
  have HD := Lib.hid hd
  have HD0 := Lib.hid hd0
  have e63 := Lib.hid (show (9223372036854775808 : Nat) < 65536 ^ 8 by decide)
  clear ha hb hd hq
  go_enter Tryd.func34, Tryd.ntmps34
  go_wp2_with fail
  refine (of_any a _ HA.out).mono ?_
  rintro x w1 ⟨la, rfl, hda, hva, hb1⟩
  have HDA := Lib.hid hda
  have HVA := Lib.hid hva
  have HB1 := Lib.hid hb1
  clear hda hva hb1
  go_wp2_with fail
  refine (of_any b _ HB.out).mono ?_
  rintro x w2 ⟨lb, rfl, hdb, hvb, hb2⟩
  have HDB := Lib.hid hdb
  have HVB := Lib.hid hvb
  have HB2 := Lib.hid (Below.next HB1.out hb2)
  clear hdb hvb hb2
  go_wp2_with fail
  refine (times_any false false la lb _ HDA.out HDB.out).mono ?_
  rintro x w3 ⟨lc, rfl, hdc, hvc, hb3⟩
  have HDC := Lib.hid hdc
  have HVC := Lib.hid (show lval lc = a * b by rw [hvc, take8_small (by rw [HVA.out]; have := HA.out; have := e63.out; omega), take8_small (by rw [HVB.out]; have := HB.out; have := e63.out; omega), HVA.out, HVB.out])
  have HB3 := Lib.hid (Below.next HB2.out hb3)
  clear hdc hvc hb3
  go_wp2_with fail
  refine (of_any d _ HD.out).mono ?_
  rintro x w4 ⟨ld, rfl, hdd, hvd, hb4⟩
  have HDD := Lib.hid hdd
  have HVD := Lib.hid hvd
  have HB4 := Lib.hid (Below.next HB3.out hb4)
  clear hdd hvd hb4
  go_wp2_with fail
  refine (over_any false false lc ld _ HDC.out HDD.out (by rw [HVD.out]; exact HD0.out) (by rw [HVD.out]; have := HD.out; omega)).mono ?_
  rintro x w5 ⟨lq, lr, rfl, hdq, hdr, hvq, hb5⟩
  have HDR := Lib.hid hdr
  have HDQ := Lib.hid hdq
  have HVQ := Lib.hid (show lval lq = a * b / d by rw [hvq, HVC.out, HVD.out])
  have HB5 := Lib.hid (Below.next HB4.out hb5)
  clear hdq hdr hvq hb5
  obtain ⟨W1, hW1⟩ : ∃ W1, W1 = (w5.alloc (.cells (lgCs false lg0) 78)).alloc (.cells (lgCs false lg0) 78) := ⟨_, rfl⟩
  have a0 : ∀ (w : World) (o : Obj), Below w.heap.size w (w.alloc o) := fun w o => (Below.refl _ _).alloc (Nat.le_refl _) _
  have HL1 := Lib.hid (show LgBlk W1 w5.heap.size false lg0 by rw [hW1]; exact (lgBlk_alloc w5 false lg0).below (a0 _ _))
  have HL2 := Lib.hid (show LgBlk W1 (w5.heap.size + 1) false lg0 by
    rw [hW1]
    have := lgBlk_alloc (w5.alloc (.cells (lgCs false lg0) 78)) false lg0
    simp only [show ∀ (w : World) (o : Obj), (w.alloc o).heap.size = w.heap.size + 1 from fun w o => by simp] at this
    exact this)
  have HBW := Lib.hid (show Below w5.heap.size w5 W1 by rw [hW1]; exact Below.next (a0 _ _) (a0 _ _))
  have HE1 := Lib.hid hW1
  have HR1 := Lib.hid (HL1.out.row false lq)
  have HR2 := Lib.hid (LgBlk.rowOther HL2.out (k := w5.heap.size) (by omega) (lgCs false lq))
  clear hW1 a0
  go_wp2_with (first
    | (with_reducible refine wpList_store_lgV rfl (.tmp 8) (.tmp 21) rfl w5.heap.size false false lg0 lq rfl rfl ?hs1 lg0_digs HDQ.out ?_
       (case hs1 => exact HE1.out ▸ HL1.out)
       intro W3 hW3 hL3
       have HQ3 := Lib.hid (show LgBlk W3 w5.heap.size false lq ∧ LgBlk W3 (w5.heap.size + 1) false lg0 ∧ Below w5.heap.size w5 W3 from ⟨hL3, by rw [hW3.out]; exact HE1.out ▸ HR2.out, by rw [hW3.out]; exact below_row (HE1.out ▸ HBW.out) (Nat.le_refl _) _⟩)
       clear hW3 hL3)
    | (with_reducible refine wpList_store_lgV rfl (.tmp 9) (.tmp 22) rfl (w5.heap.size + 1) false false lg0 lr rfl rfl HQ3.out.2.1 lg0_digs HDR.out ?_
       intro W4 hW4 hL4
       have HQ4 := Lib.hid (show LgBlk W4 w5.heap.size false lq ∧ Below w5.heap.size w5 W4 from ⟨by rw [hW4.out]; exact HQ3.out.1.rowOther (by omega) _, by rw [hW4.out]; exact below_row HQ3.out.2.2 (by omega) _⟩)
       clear hW4 hL4)
    | (with_reducible refine wpList_load_lg rfl (.tmp 8) rfl w5.heap.size false lq rfl HQ4.out.1 HDQ.out ?_)
    | (go_at_call 48; (with_reducible refine (fits_any lq _ HDQ.out (by rw [HVQ.out]; exact HQ.out)).mono ?_); rintro x w6 ⟨rfl, hb6⟩; have HB6 := Lib.hid (Below.next HB5.out (Below.next HQ4.out.2 hb6)); clear hb6))
  go_ret2
  exact ⟨by rw [HVQ.out]; rfl, HB6.out⟩

/-! ## the program's -/

theorem size_nat (a : Nat) (w : World) (ha : a < 9223372036854775808) : Calls Tryd.prog 37 #[.int .i64 (a : Int)] w fun e w' => e = .returned (.tuple #[.int .u64 (a : Int), .bool false]) ∧ w = w' := by
  have a0 : ¬ ((a : Int) < 0) := by omega
  have ea : IntKind.u64.wrap (a : Int) = (a : Int) := by rw [IntKind.wrap_u64]; omega
  go_enter Tryd.func37, Tryd.ntmps37
  go_wp2
  go_ret2
  exact ⟨rfl, rfl⟩
theorem signed_nat (q : Nat) (w : World) (hq : q < 9223372036854775808) : Calls Tryd.prog 40 #[.int .u64 (q : Int), .bool false] w fun e w' => e = .returned (.tuple #[.int .i64 (q : Int), .bool true]) ∧ w = w' := by
  have k7 : (q : Int) < 9223372036854775808 := by omega
  have k8 : decide ((q : Int) < 9223372036854775808) = true := by rw [decide_eq_true_eq]; exact k7
  have k6 : IntKind.i64.wrap (q : Int) = (q : Int) := by rw [IntKind.wrap_i64]; omega
  go_enter Tryd.func40, Tryd.ntmps40
  go_wp2
  go_ret2
  exact ⟨rfl, rfl⟩
set_option maxRecDepth 100000 in
theorem div64_small (p d : Nat) (w : World) (hp : p < 18446744073709551616) (hd0 : 0 < d) (hd : d < 18446744073709551616) :
    Calls Tryd.prog 39 #[.int .u64 0, .int .u64 (p : Int), .int .u64 (d : Int)] w fun e w' => e = .returned (.tuple #[.int .u64 ((p / d : Nat) : Int), .int .u64 ((p % d : Nat) : Int)]) ∧ Below w.heap.size w w' := by
  obtain ⟨q, hq⟩ : ∃ q, q = p / d := ⟨_, rfl⟩
  obtain ⟨r, hr⟩ : ∃ r, r = p % d := ⟨_, rfl⟩
  have hqb : q ≤ p := by rw [hq]; exact Nat.div_le_self _ _
  have hrb : r < d := by rw [hr]; exact Nat.mod_lt _ hd0
  have k1 : ¬ ((d : Int) ≤ 0) := by omega
  have k1' : ((d : Int) == 0) = false := by rw [beq_eq_false_iff_ne]; omega
  have k0 : ¬ (d = 0) := by omega
  have k2 : (p : Int) / (d : Int) = (q : Int) := by rw [hq]; rfl
  have k3 : (p : Int) % (d : Int) = (r : Int) := by rw [hr]; rfl
  have k2' : (p : Int).tdiv (d : Int) = (q : Int) := by rw [hq]; rfl
  have k3' : (p : Int).tmod (d : Int) = (r : Int) := by rw [hr]; rfl
  have k4 : IntKind.u64.wrap (q : Int) = (q : Int) := by rw [IntKind.wrap_u64]; omega
  have k5 : IntKind.u64.wrap (r : Int) = (r : Int) := by rw [IntKind.wrap_u64]; omega
  rw [← hq, ← hr]
  clear hq hr hqb hrb hp hd
  go_enter Tryd.func39, Tryd.ntmps39
  go_wp2
  go_quiet (fail)
  go_wp2
  go_ret2
  exact ⟨rfl, below_drewN' _ _⟩

set_option maxRecDepth 100000 in
set_option maxHeartbeats 4000000 in
theorem mulDivS_any (a b d : Nat) (w : World) (ha : a < 9223372036854775808) (hb : b < 9223372036854775808) (hd0 : 0 < d) (hd : d < 9223372036854775808) (hp : a * b < 9223372036854775808) :
    Calls Tryd.prog 29 #[.int .i64 (a : Int), .int .i64 (b : Int), .int .i64 (d : Int)] w fun e w' => e = .returned (.tuple #[.int .i64 ((a * b / d : Nat) : Int), .bool true]) ∧ Below w.heap.size w w' := by
  obtain ⟨p, hpp⟩ : ∃ p, p = a * b := ⟨_, rfl⟩
  rw [← hpp] at hp
  have h1 : a * b / 18446744073709551616 = 0 := by rw [← hpp]; omega
  have h2 : a * b % 18446744073709551616 = p := by rw [← hpp]; omega
  have HM := Lib.hid (fun W => Tryd.bits_Mul64 a b (by omega) (by omega) W)
  rw [h1, h2] at HM
  rw [← hpp]
  have HSA := Lib.hid (fun W => size_nat a W ha)
  have HSB := Lib.hid (fun W => size_nat b W hb)
  have HSD := Lib.hid (fun W => size_nat d W hd)
  have HDV := Lib.hid (fun W => div64_small p d W (by omega) hd0 (by omega))
  obtain ⟨q, hq⟩ : ∃ q, q = p / d := ⟨_, rfl⟩
  rw [← hq] at HDV ⊢
  have hqb : q ≤ p := by rw [hq]; exact Nat.div_le_self _ _
  have HSG := Lib.hid (fun W => signed_nat q W (by omega))
  have k1 : ¬ ((d : Int) ≤ 0) := by omega
  clear hpp h1 h2 hq hp hd0 hd ha hb hqb
  go_enter Tryd.func29, Tryd.ntmps29
  go_wp2_with (first
    | (go_at_call 38; (with_reducible refine (HM.out _).mono ?_); rintro e w1 ⟨rfl, rfl⟩)
    | (go_at_call 37; (with_reducible refine (HSA.out _).mono ?_); rintro e w1 ⟨rfl, rfl⟩)
    | (go_at_call 37; (with_reducible refine (HSB.out _).mono ?_); rintro e w1 ⟨rfl, rfl⟩)
    | (go_at_call 37; (with_reducible refine (HSD.out _).mono ?_); rintro e w1 ⟨rfl, rfl⟩)
    | (go_at_call 39; (with_reducible refine (HDV.out _).mono ?_); rintro e w1 ⟨rfl, hb1⟩)
    | (go_at_call 40; (with_reducible refine (HSG.out _).mono ?_); rintro e w1 ⟨rfl, rfl⟩))
  go_ret2
  exact ⟨rfl, hb1⟩

end Go.Proofs.YtlobohpbgghleaaDoor
