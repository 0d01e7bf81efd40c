import Derived.Test.YtlobohpbgghleaaDoorLong2
import Derived.Test.YtlobohpbgghleaaDoorLong3
import Derived.Test.YtlobohpbgghleaaDoorLong4
import Derived.Test.YtlobohpbgghleaaDoorCellV
import Derived.StillTailTactics
import Derived.Deep.RegionHeld3
import Derived.Deep.MidRow
namespace Go.Proofs.YtlobohpbgghleaaDoor
open Go.RowKit

structure OverW (w : World) (b1 b2 : Bool) (x y q r : List Nat) (wr : World) : Prop where
  hx : LgBlk wr w.heap.size b1 x
  hy : LgBlk wr (w.heap.size + 1) b2 y
  ho1 : LgBlk wr (w.heap.size + 1 + 1) false lg0
  ho2 : LgBlk wr (w.heap.size + 1 + 1 + 1) false lg0
  hq : LgBlk wr (w.heap.size + 1 + 1 + 1 + 1) false q
  hr : LgBlk wr (w.heap.size + 1 + 1 + 1 + 1 + 1) false r
  hz : LgBlk wr (w.heap.size + 1 + 1 + 1 + 1 + 1 + 1) false y
  hb : Below w.heap.size w wr

theorem OverW.keep {w : World} {b1 b2 : Bool} {x y q r : List Nat} {wr wr' : World} (h : OverW w b1 b2 x y q r wr) (hb : Below wr.heap.size wr wr') : OverW w b1 b2 x y q r wr' :=
  ⟨h.hx.below hb, h.hy.below hb, h.ho1.below hb, h.ho2.below hb, h.hq.below hb, h.hr.below hb, h.hz.below hb, Below.next h.hb hb⟩
/-- the rest's block turned -/
theorem OverW.setR {w : World} {b1 b2 : Bool} {x y q r : List Nat} {wr : World} (h : OverW w b1 b2 x y q r wr) (r' : List Nat) : OverW w b1 b2 x y q r' (wr.setRow (w.heap.size + 1 + 1 + 1 + 1 + 1) (lgCs false r')) :=
  ⟨h.hx.rowOther (by omega) _, h.hy.rowOther (by omega) _, h.ho1.rowOther (by omega) _, h.ho2.rowOther (by omega) _, h.hq.rowOther (by omega) _, h.hr.row _ _, h.hz.rowOther (by omega) _, below_row h.hb (by omega) _⟩
theorem OverW.putR {w : World} {b1 b2 : Bool} {x y q r : List Nat} {wr : World} (h : OverW w b1 b2 x y q r wr) (k d : Nat) : OverW w b1 b2 x y q (r.set k d) (wr.setCell ⟨w.heap.size + 1 + 1 + 1 + 1 + 1, 1 + k, none⟩ (.int .u64 (d : Int))) :=
  ⟨h.hx.other (by omega) _ _, h.hy.other (by omega) _ _, h.ho1.other (by omega) _ _, h.ho2.other (by omega) _ _, h.hq.other (by omega) _ _, h.hr.put k d, h.hz.other (by omega) _ _, h.hb.setCell (p := ⟨w.heap.size + 1 + 1 + 1 + 1 + 1, 1 + k, none⟩) (by simp only; omega) _⟩
theorem OverW.putQ {w : World} {b1 b2 : Bool} {x y q r : List Nat} {wr : World} (h : OverW w b1 b2 x y q r wr) (k d : Nat) : OverW w b1 b2 x y (q.set k d) r (wr.setCell ⟨w.heap.size + 1 + 1 + 1 + 1, 1 + k, none⟩ (.int .u64 (d : Int))) :=
  ⟨h.hx.other (by omega) _ _, h.hy.other (by omega) _ _, h.ho1.other (by omega) _ _, h.ho2.other (by omega) _ _, h.hq.put k d, h.hr.other (by omega) _ _, h.hz.other (by omega) _ _, h.hb.setCell (p := ⟨w.heap.size + 1 + 1 + 1 + 1, 1 + k, none⟩) (by simp only; omega) _⟩

theorem over_made (w : World) (b1 b2 : Bool) (x y : List Nat) : LgBlk ((((((w.alloc (.cells (lgCs b1 x) 78)).alloc (.cells (lgCs b2 y) 78)).alloc (.cells (lgCs false lg0) 78)).alloc (.cells (lgCs false lg0) 78)).alloc (.cells (lgCs false lg0) 78)).alloc (.cells (lgCs false lg0) 78)) (w.heap.size + 1) b2 y ∧ LgBlk (((((((w.alloc (.cells (lgCs b1 x) 78)).alloc (.cells (lgCs b2 y) 78)).alloc (.cells (lgCs false lg0) 78)).alloc (.cells (lgCs false lg0) 78)).alloc (.cells (lgCs false lg0) 78)).alloc (.cells (lgCs false lg0) 78)).alloc (.cells (lgCs false lg0) 78)) (w.heap.size + 1 + 1 + 1 + 1 + 1 + 1) false lg0 := by
  have a : ∀ (w : World) (o : Obj), Below w.heap.size w (w.alloc o) := fun w o => (Below.refl _ _).alloc (Nat.le_refl _) _
  have sz : ∀ (w : World) (o : Obj), (w.alloc o).heap.size = w.heap.size + 1 := fun w o => by simp
  have n : ∀ (w : World) (b : Bool) (l : List Nat) (g : Nat), g = w.heap.size → LgBlk (w.alloc (.cells (lgCs b l) 78)) g b l := fun w b l g e => e ▸ lgBlk_alloc w b l
  generalize h1 : w.alloc (.cells (lgCs b1 x) 78) = w1
  generalize h2 : w1.alloc (.cells (lgCs b2 y) 78) = w2
  generalize h3 : w2.alloc (.cells (lgCs false lg0) 78) = w3
  generalize h4 : w3.alloc (.cells (lgCs false lg0) 78) = w4
  generalize h5 : w4.alloc (.cells (lgCs false lg0) 78) = w5
  generalize h6 : w5.alloc (.cells (lgCs false lg0) 78) = w6
  generalize h7 : w6.alloc (.cells (lgCs false lg0) 78) = w7
  have s1 : w1.heap.size = w.heap.size + 1 := by rw [← h1, sz]
  have s2 : w2.heap.size = w.heap.size + 1 + 1 := by rw [← h2, sz, s1]
  have s3 : w3.heap.size = w.heap.size + 1 + 1 + 1 := by rw [← h3, sz, s2]
  have s4 : w4.heap.size = w.heap.size + 1 + 1 + 1 + 1 := by rw [← h4, sz, s3]
  have s5 : w5.heap.size = w.heap.size + 1 + 1 + 1 + 1 + 1 := by rw [← h5, sz, s4]
  have s6 : w6.heap.size = w.heap.size + 1 + 1 + 1 + 1 + 1 + 1 := by rw [← h6, sz, s5]
  have k6 : Below w5.heap.size w5 w6 := h6 ▸ a _ _
  have k5 : Below w4.heap.size w4 w6 := Below.next (h5 ▸ a _ _) k6
  have k4 : Below w3.heap.size w3 w6 := Below.next (h4 ▸ a _ _) k5
  have k3 : Below w2.heap.size w2 w6 := Below.next (h3 ▸ a _ _) k4
  have L2 := (h2 ▸ n w1 b2 y (w.heap.size + 1) s1.symm : LgBlk w2 (w.heap.size + 1) b2 y)
  have L7 := (h7 ▸ n w6 false lg0 (w.heap.size + 1 + 1 + 1 + 1 + 1 + 1) s6.symm : LgBlk w7 (w.heap.size + 1 + 1 + 1 + 1 + 1 + 1) false lg0)
  exact ⟨L2.below k3, L7⟩

theorem overW_start (w : World) (b1 b2 : Bool) (x y : List Nat) : OverW w b1 b2 x y lg0 lg0
    (((((((((w.alloc (.cells (lgCs b1 x) 78)).alloc (.cells (lgCs b2 y) 78)).alloc (.cells (lgCs false lg0) 78)).alloc (.cells (lgCs false lg0) 78)).alloc (.cells (lgCs false lg0) 78)).alloc (.cells (lgCs false lg0) 78)).alloc (.cells (lgCs false lg0) 78)).setRow (w.heap.size + 1 + 1 + 1 + 1 + 1 + 1) (lgCs b2 y)).setCell ⟨w.heap.size + 1 + 1 + 1 + 1 + 1 + 1, 0, none⟩ (.bool false)) := by
  have a : ∀ (w : World) (o : Obj), Below w.heap.size w (w.alloc o) := fun w o => (Below.refl _ _).alloc (Nat.le_refl _) _
  have sz : ∀ (w : World) (o : Obj), (w.alloc o).heap.size = w.heap.size + 1 := fun w o => by simp
  have n : ∀ (w : World) (b : Bool) (l : List Nat) (g : Nat), g = w.heap.size → LgBlk (w.alloc (.cells (lgCs b l) 78)) g b l := fun w b l g e => e ▸ lgBlk_alloc w b l
  generalize h1 : w.alloc (.cells (lgCs b1 x) 78) = w1
  generalize h2 : w1.alloc (.cells (lgCs b2 y) 78) = w2
  generalize h3 : w2.alloc (.cells (lgCs false lg0) 78) = w3
  generalize h4 : w3.alloc (.cells (lgCs false lg0) 78) = w4
  generalize h5 : w4.alloc (.cells (lgCs false lg0) 78) = w5
  generalize h6 : w5.alloc (.cells (lgCs false lg0) 78) = w6
  generalize h7 : w6.alloc (.cells (lgCs false lg0) 78) = w7
  have s1 : w1.heap.size = w.heap.size + 1 := by rw [← h1, sz]
  have s2 : w2.heap.size = w.heap.size + 1 + 1 := by rw [← h2, sz, s1]
  have s3 : w3.heap.size = w.heap.size + 1 + 1 + 1 := by rw [← h3, sz, s2]
  have s4 : w4.heap.size = w.heap.size + 1 + 1 + 1 + 1 := by rw [← h4, sz, s3]
  have s5 : w5.heap.size = w.heap.size + 1 + 1 + 1 + 1 + 1 := by rw [← h5, sz, s4]
  have s6 : w6.heap.size = w.heap.size + 1 + 1 + 1 + 1 + 1 + 1 := by rw [← h6, sz, s5]
  have k7 : Below w6.heap.size w6 w7 := h7 ▸ a _ _
  have k6 : Below w5.heap.size w5 w7 := Below.next (h6 ▸ a _ _) k7
  have k5 : Below w4.heap.size w4 w7 := Below.next (h5 ▸ a _ _) k6
  have k4 : Below w3.heap.size w3 w7 := Below.next (h4 ▸ a _ _) k5
  have k3 : Below w2.heap.size w2 w7 := Below.next (h3 ▸ a _ _) k4
  have k2 : Below w1.heap.size w1 w7 := Below.next (h2 ▸ a _ _) k3
  have k1 : Below w.heap.size w w7 := Below.next (h1 ▸ a _ _) k2
  have L1 := (h1 ▸ n w b1 x w.heap.size rfl : LgBlk w1 w.heap.size b1 x).below k2
  have L2 := (h2 ▸ n w1 b2 y (w.heap.size + 1) s1.symm : LgBlk w2 (w.heap.size + 1) b2 y).below k3
  have L3 := (h3 ▸ n w2 false lg0 (w.heap.size + 1 + 1) s2.symm : LgBlk w3 (w.heap.size + 1 + 1) false lg0).below k4
  have L4 := (h4 ▸ n w3 false lg0 (w.heap.size + 1 + 1 + 1) s3.symm : LgBlk w4 (w.heap.size + 1 + 1 + 1) false lg0).below k5
  have L5 := (h5 ▸ n w4 false lg0 (w.heap.size + 1 + 1 + 1 + 1) s4.symm : LgBlk w5 (w.heap.size + 1 + 1 + 1 + 1) false lg0).below k6
  have L6 := (h6 ▸ n w5 false lg0 (w.heap.size + 1 + 1 + 1 + 1 + 1) s5.symm : LgBlk w6 (w.heap.size + 1 + 1 + 1 + 1 + 1) false lg0).below k7
  have L7 := (h7 ▸ n w6 false lg0 (w.heap.size + 1 + 1 + 1 + 1 + 1 + 1) s6.symm : LgBlk w7 (w.heap.size + 1 + 1 + 1 + 1 + 1 + 1) false lg0)
  exact ⟨(L1.rowOther (by omega) _).other (by omega) _ _, (L2.rowOther (by omega) _).other (by omega) _ _, (L3.rowOther (by omega) _).other (by omega) _ _, (L4.rowOther (by omega) _).other (by omega) _ _, (L5.rowOther (by omega) _).other (by omega) _ _, (L6.rowOther (by omega) _).other (by omega) _ _, (L7.row b2 y).putSign false,
    (below_row k1 (by omega) _).setCell (p := ⟨w.heap.size + 1 + 1 + 1 + 1 + 1 + 1, 0, none⟩) (by simp only; omega) _⟩

theorem wpList_store_lgV {ops : Array Oper} {rest : List Oper} {o : Oper} {a : Act} {w : World} {Q : Exit → Act → World → Prop} (hgd : o.guard = none) (x y : Operand) (ho : o.op = .store 78 x y)
    (g : Nat) (b b' : Bool) (l l' : List Nat) (hx : a.eval x = .pointer (some ⟨g, 0, none⟩)) (hy : a.eval y = lgV b' l') (hE : LgBlk w g b l) (hd : Digs l) (hd' : Digs l')
    (h : ∀ W, Hid (W = w.setRow g (lgCs b' l')) → LgBlk W g b' l' → wpList Tryd.prog ops Q rest (a.put o.dst undef) W) : wpList Tryd.prog ops Q (o :: rest) a w :=
  wpList_store_lg hgd x y ho g b b' l l' hx hy hE hd hd' (h _ (Lib.hid rfl) (hE.row b' l'))

theorem bit_even {r d0 : Nat} {R : List Nat} (hR : Digs R) (h0 : R[0]? = some d0) (hv : lval R = 2 * r) : d0 % 2 = 0 ∧ d0 < 65536 := by
  have h1 := lval_digit R hR.2 0 d0 h0
  rw [Nat.pow_zero, Nat.div_one, hv] at h1
  have := hR.2 d0 (List.mem_of_getElem? h0)
  omega

set_option maxRecDepth 100000 in
set_option maxHeartbeats 16000000 in
theorem over_any (b1 b2 : Bool) (x y : List Nat) (w : World) (hx : Digs x) (hy : Digs y) (h0 : 0 < lval y) (hy' : lval y ≤ 18446744073709551616) :
    Calls Tryd.prog 45 #[lgV b1 x, lgV b2 y] w fun e w' => ∃ q r, e = .returned (.tuple #[lgV (!(b1 == b2)) q, lgV false r]) ∧ Digs q ∧ Digs r ∧ lval q = lval x / lval y ∧ Below w.heap.size w w' := by
  have HX := Lib.hid hx
  have HY := Lib.hid hy
  have H0 := Lib.hid h0
  have HY' := Lib.hid hy'
  clear hx hy h0 hy'
  have HM := Lib.hid (over_made w b1 b2 x y)
  have HS := Lib.hid (overW_start w b1 b2 x y)
  go_enter Tryd.func45, Tryd.ntmps45
  go_wp2_with (first
    | (with_reducible refine wpList_load_lg rfl (.tmp 3) rfl (w.heap.size + 1) b2 y rfl ?hl1 HY.out ?_)
    | (with_reducible refine wpList_store_lgV rfl (.tmp 8) (.tmp 12) rfl (w.heap.size + 1 + 1 + 1 + 1 + 1 + 1) false b2 lg0 y rfl rfl ?hl2 lg0_digs HY.out ?_
       (case hl2 => exact HM.out.2)
       intro W8 hW8 hL8
       have c80 := hL8.sign
       have f80 := hL8.free 0
       clear hL8))
  case hl1 => exact HM.out.1
  have HS8 := Lib.hid (show OverW w b1 b2 x y lg0 lg0 (W8.setCell ⟨w.heap.size + 1 + 1 + 1 + 1 + 1 + 1, 0, none⟩ (.bool false)) by rw [hW8.out]; exact HS.out)
  clear HS hW8 HM c80 f80
  go_loopw [9] (fun iv wr => ∃ (k : Nat) (q r : List Nat), k ≤ 256 ∧ iv = .int .i64 ((k : Int) - 1) ∧ Hid (DivI (lval x) (lval y) k q r) ∧ Hid (OverW w b1 b2 x y q r wr)) (fun iv _ => (intOf iv + 1).toNat)
  case atStart =>
    refine ⟨256, lg0, lg0, by omega, by rfl, Lib.hid ⟨lg0_digs, lg0_digs, ?_, ?_⟩, HS8⟩
    · have hx := HX.out.lt
      rw [show (65536 : Nat) ^ 16 = 2 ^ 256 by decide] at hx
      rw [Nat.div_eq_of_lt hx, Nat.zero_div, Nat.zero_mul]; exact lval_zero 16
    · have hx := HX.out.lt
      rw [show (65536 : Nat) ^ 16 = 2 ^ 256 by decide] at hx
      rw [Nat.div_eq_of_lt hx, Nat.zero_mod]; exact lval_zero 16
  case round =>
    clear HS8
    obtain ⟨k, q, r, hk, rfl, HD, HW⟩ := hrel
    by_cases hlt : 0 < k
    · obtain ⟨b, rfl⟩ : ∃ b, k = b + 1 := ⟨k - 1, by omega⟩
      have ej : ((b + 1 : Nat) : Int) - 1 = (b : Int) := by omega
      rw [ej]
      have q1 : (0 : Int) ≤ (b : Int) := by omega
      have HUP := Lib.hid (show lval r + lval r < 65536 ^ 16 by
        have h1 := Nat.mod_lt (lval x / 2 ^ (b + 1)) H0.out
        have h2 := HY'.out
        rw [← HD.out.rest] at h1
        have : (36893488147419103232 : Nat) < 65536 ^ 16 := by decide
        omega)
      have HRD := Lib.hid HD.out.dr
      clear hlt ej
      go_wp2_with (first
        | (with_reducible refine wpList_load_lg rfl (.tmp 7) rfl (w.heap.size + 1 + 1 + 1 + 1 + 1) false r rfl HW.out.hr HRD.out ?_)
        | (go_at_call 56; (with_reducible refine (up_any false false r r _ HRD.out HRD.out HUP.out).mono ?_); rintro e w1 ⟨r1, rfl, hd1, hv1, hb1⟩; have HD1 := Lib.hid hd1; have HV1 := Lib.hid hv1; have HW1 := Lib.hid (HW.out.keep hb1); clear hd1 hv1 hb1)
        | (with_reducible refine wpList_store_lgV rfl (.tmp 7) (.tmp 20) rfl (w.heap.size + 1 + 1 + 1 + 1 + 1) false false r r1 rfl rfl HW1.out.hr HRD.out HD1.out ?_
           intro W2 hW2 hL2
           have HW2 := Lib.hid (show OverW w b1 b2 x y q r1 W2 by rw [hW2.out]; exact HW1.out.setR r1)
           clear hW2 hL2))
      clear HW HW1
      obtain ⟨xd, hxd, hxd'⟩ := HX.out.at (b / 16) (by omega)
      obtain ⟨d0, hd0, hd0'⟩ := HD1.out.at 0 (by omega)
      have hev := bit_even HD1.out hd0 (r := lval r) (by rw [HV1.out]; omega)
      obtain ⟨kk, hkk⟩ : ∃ kk : Nat, kk = b / 16 := ⟨_, rfl⟩
      obtain ⟨mm, hmm⟩ : ∃ mm : Nat, mm = b % 16 := ⟨_, rfl⟩
      obtain ⟨f, hf⟩ : ∃ f : Nat, f = xd / 2 ^ mm % 2 := ⟨_, rfl⟩
      have hf2 : f < 2 := by rw [hf]; exact Nat.mod_lt _ (by decide)
      have HF := Lib.hid (show f = lval x / 2 ^ b % 2 by rw [hf, hmm]; exact bit_of HX.out.2 hxd)
      obtain ⟨ee, hee⟩ : ∃ ee : Nat, ee = xd / 2 ^ mm := ⟨_, rfl⟩
      have hee' : ee < 65536 := by rw [hee]; exact Nat.lt_of_le_of_lt (Nat.div_le_self _ _) hxd'
      obtain ⟨g, hg⟩ : ∃ g : Nat, g = d0 + f := ⟨_, rfl⟩
      have c1 := HW2.out.hx.dig hxd
      rw [← hkk] at c1
      have c2 := HW2.out.hr.dig hd0
      have f2 := HW2.out.hr.free (1 + 0)
      have t1 : (b : Int).tdiv 16 = (kk : Int) := by rw [Int.tdiv_eq_ediv_of_nonneg (by omega)]; omega
      have t1' : (b : Int) / 16 = (kk : Int) := by omega
      have t2 : (b : Int).tmod 16 = (mm : Int) := by rw [Int.tmod_eq_emod_of_nonneg (by omega)]; omega
      have t2' : (b : Int) % 16 = (mm : Int) := by omega
      have t3 : (xd : Int) / 2 ^ mm = (ee : Int) := by rw [hee]; simp
      have t4 : (ee : Int) % 2 = (f : Int) := by omega
      have t4' : (ee : Int).tmod 2 = (f : Int) := by rw [Int.tmod_eq_emod_of_nonneg (by omega)]; omega
      have w1 : IntKind.i64.wrap (kk : Int) = (kk : Int) := by rw [IntKind.wrap_i64]; omega
      have w2 : IntKind.i64.wrap (mm : Int) = (mm : Int) := by rw [IntKind.wrap_i64]; omega
      have w3 : IntKind.u64.wrap (f : Int) = (f : Int) := by rw [IntKind.wrap_u64]; omega
      have w4 : IntKind.u64.wrap ((d0 : Int) + (f : Int)) = (g : Int) := by rw [IntKind.wrap_u64]; omega
      have q2 : (kk : Int) < 16 := by omega
      have q3 : (mm : Int) ≤ 64 := by omega
      have hgl : g < 65536 := by omega
      have HD3 := Lib.hid (HD1.out.set 0 g hgl)
      have HV3 := Lib.hid (show lval (r1.set 0 g) = 2 * lval r + lval x / 2 ^ b % 2 by
        have h1 := lval_set r1 0 g d0 hd0
        rw [HV1.out, Nat.pow_zero, hg, HF.out] at h1
        rw [hg, HF.out]; omega)
      have HW3 := Lib.hid (show ∀ W, Below W2.heap.size W2 W → OverW w b1 b2 x y q (r1.set 0 g) (W.setCell ⟨w.heap.size + 1 + 1 + 1 + 1 + 1, 1 + 0, none⟩ (.int .u64 (g : Int))) from fun W hb => (HW2.out.keep hb).putR 0 g)
      clear hxd hxd' hd0 hd0' hev hf hf2 hee hee' hg hgl hkk hmm
      go_still_tail 15, (by kernel_rfl)
      refine wpList_store_cellV rfl 64 (.tmp 35) (.tmp 33) rfl (w.heap.size + 1 + 1 + 1 + 1 + 1) (1 + 0) (.int .u64 (g : Int)) (.int .u64 (d0 : Int)) (by kernel_rfl) rfl rfl rfl c2 f2 ?_
      intro W3 hW3
      have HW4 := Lib.hid (show OverW w b1 b2 x y q (r1.set 0 g) W3 by rw [hW3.out]; exact HW3.out W2.drew (below_drewN' W2 1))
      clear hW3 HW3 c1 c2 f2 t3 t4 t4' w3 w4 HW2
      obtain ⟨r3, hr3⟩ : ∃ r3, r3 = r1.set 0 g := ⟨_, rfl⟩
      rw [← hr3] at HD3 HV3 HW4
      clear hr3
      have HST := Lib.hid (div_step (lval x) (lval y) b H0.out)
      have HQD := Lib.hid HD.out.dq
      have HQV := Lib.hid HD.out.quo
      have HRV := Lib.hid (show lval r3 = 2 * (lval x / 2 ^ (b + 1) % lval y) + lval x / 2 ^ b % 2 by rw [HV3.out, HD.out.rest])
      clear HV3 HV1 HD1 HRD HUP HF HD
      by_cases hge : lval y ≤ lval r3
      · -- the rest holds the divisor
        have HC := Lib.hid ((cmpL_ge r3 y).2 hge)
        have HGE := Lib.hid hge
        obtain ⟨cv, hcv⟩ : ∃ cv, cv = cmpL r3 y := ⟨_, rfl⟩
        have hc0 : (0 : Int) ≤ cv := hcv ▸ HC.out
        have HCV := Lib.hid hcv
        obtain ⟨qd, hqd, hqd'⟩ := HQD.out.at (b / 16) (by omega)
        have HQA := Lib.hid hqd
        clear hge hcv hqd hqd'
        go_wp2_with (first
          | (with_reducible refine wpList_load_lg rfl (.tmp 7) rfl (w.heap.size + 1 + 1 + 1 + 1 + 1) false r3 rfl HW4.out.hr HD3.out ?_)
          | (with_reducible refine wpList_load_lg rfl (.tmp 8) rfl (w.heap.size + 1 + 1 + 1 + 1 + 1 + 1) false y rfl HW4.out.hz HY.out ?_)
          | (go_at_call 57; (with_reducible refine (cmp_any false false r3 y _ HD3.out HY.out).mono ?_); rintro e w5 ⟨rfl, hb5⟩; have HW5 := Lib.hid (HW4.out.keep hb5); clear hb5; rw [← HCV.out])
          | (with_reducible refine wpList_load_lg rfl (.tmp 7) rfl (w.heap.size + 1 + 1 + 1 + 1 + 1) false r3 rfl HW5.out.hr HD3.out ?_)
          | (with_reducible refine wpList_load_lg rfl (.tmp 8) rfl (w.heap.size + 1 + 1 + 1 + 1 + 1 + 1) false y rfl HW5.out.hz HY.out ?_)
          | (go_at_call 58; (with_reducible refine (down_any false false r3 y _ HD3.out HY.out HGE.out).mono ?_); rintro e w6 ⟨r6, rfl, hd6, hv6, hb6⟩; have HD6 := Lib.hid hd6; have HV6 := Lib.hid hv6; have HW6 := Lib.hid (HW5.out.keep hb6); clear hd6 hv6 hb6)
          | (with_reducible refine wpList_store_lgV rfl (.tmp 7) (.tmp 42) rfl (w.heap.size + 1 + 1 + 1 + 1 + 1) false false r3 r6 rfl rfl HW6.out.hr HD3.out HD6.out ?_
             intro W7 hW7 hL7
             have HW7 := Lib.hid (show OverW w b1 b2 x y q r6 W7 by rw [hW7.out]; exact HW6.out.setR r6)
             clear hW7 hL7))
        clear HW4 HW5 HW6 HC t1 t1' t2 t2' w1 w2 q2 q3
        obtain ⟨pp, hpp⟩ : ∃ pp : Nat, pp = 2 ^ (b % 16) := ⟨_, rfl⟩
        have hroom := bit_room HQD.out.2 HQA.out HQV.out
        rw [← hpp] at hroom
        obtain ⟨kk2, hkk2⟩ : ∃ kk2 : Nat, kk2 = b / 16 := ⟨_, rfl⟩
        obtain ⟨m2, hm2⟩ : ∃ m2 : Nat, m2 = b % 16 := ⟨_, rfl⟩
        obtain ⟨g2, hg2⟩ : ∃ g2 : Nat, g2 = qd + pp := ⟨_, rfl⟩
        have c1 := HW7.out.hq.dig HQA.out
        have f1 := HW7.out.hq.free (1 + b / 16)
        rw [← hkk2] at c1 f1
        have s1 : (b : Int).tdiv 16 = (kk2 : Int) := by rw [Int.tdiv_eq_ediv_of_nonneg (by omega)]; omega
        have s1' : (b : Int) / 16 = (kk2 : Int) := by omega
        have s2 : (b : Int).tmod 16 = (m2 : Int) := by rw [Int.tmod_eq_emod_of_nonneg (by omega)]; omega
        have s2' : (b : Int) % 16 = (m2 : Int) := by omega
        have v1 : IntKind.i64.wrap (kk2 : Int) = (kk2 : Int) := by rw [IntKind.wrap_i64]; omega
        have v2 : IntKind.i64.wrap (m2 : Int) = (m2 : Int) := by rw [IntKind.wrap_i64]; omega
        have v3 : (2 : Int) ^ m2 = (pp : Int) := by rw [hpp, hm2]; simp
        have v4 : IntKind.u64.wrap (pp : Int) = (pp : Int) := by rw [IntKind.wrap_u64]; omega
        have v5 : IntKind.u64.wrap ((qd : Int) + (pp : Int)) = (g2 : Int) := by rw [IntKind.wrap_u64]; omega
        have p2 : (kk2 : Int) < 16 := by omega
        have p3 : (m2 : Int) ≤ 64 := by omega
        have HDI := Lib.hid (show DivI (lval x) (lval y) b (q.set (b / 16) g2) r6 from by
          have hs := HST.out
          rw [if_pos (by rw [← HRV.out]; exact HGE.out), if_pos (by rw [← HRV.out]; exact HGE.out), ← HRV.out] at hs
          refine ⟨HQD.out.set _ _ (by omega), HD6.out, ?_, by rw [HV6.out, hs.1]⟩
          have h1 := lval_set q (b / 16) g2 qd HQA.out
          rw [hg2, HQV.out, Nat.add_mul] at h1
          rw [hg2, hs.2]
          have h2 := pow16 b
          rw [← hpp, Nat.mul_comm] at h2
          have h3 : (2 * (lval x / 2 ^ (b + 1) / lval y) + 1) * 2 ^ b = lval x / 2 ^ (b + 1) / lval y * 2 ^ (b + 1) + 2 ^ b := by
            rw [Nat.add_mul, Nat.one_mul, Nat.pow_succ]
            congr 1
            rw [Nat.mul_comm 2, Nat.mul_assoc, Nat.mul_comm 2]
          rw [h3]
          omega)
        have HP := Lib.hid (show OverW w b1 b2 x y (q.set (b / 16) g2) r6 (W7.drew.setCell ⟨w.heap.size + 1 + 1 + 1 + 1, 1 + kk2, none⟩ (.int .u64 (g2 : Int))) by
          rw [hkk2]; exact (HW7.out.keep (below_drewN' W7 1)).putQ (b / 16) g2)
        clear hpp hroom hkk2 hm2 hg2
        go_still_tail 11, (by kernel_rfl)
        refine wpList_store_cellV rfl 64 (.tmp 53) (.tmp 51) rfl (w.heap.size + 1 + 1 + 1 + 1) (1 + kk2) (.int .u64 (g2 : Int)) (.int .u64 (qd : Int)) (by kernel_rfl) rfl rfl rfl c1 f1 ?_
        intro W8' hW8
        have HW8 := Lib.hid (show OverW w b1 b2 x y (q.set (b / 16) g2) r6 W8' by rw [hW8.out]; exact HP.out)
        clear hW8 HP c1 f1
        go_wp2
        go_roundw
        case rel => exact ⟨b, _, _, by omega, by go_num, HDI, HW8⟩
        case measure => first | (simp [intOf]; done) | (simp [intOf]; omega)
      · have HC := Lib.hid (show ¬ (0 ≤ cmpL r3 y) from fun h => hge ((cmpL_ge r3 y).1 h))
        have HGE := Lib.hid hge
        obtain ⟨cv, hcv⟩ : ∃ cv, cv = cmpL r3 y := ⟨_, rfl⟩
        have hc0 : ¬ ((0 : Int) ≤ cv) := hcv ▸ HC.out
        have HCV := Lib.hid hcv
        have HDI := Lib.hid (show DivI (lval x) (lval y) b q r3 from by
          have hs := HST.out
          rw [if_neg (by rw [← HRV.out]; exact HGE.out), if_neg (by rw [← HRV.out]; exact HGE.out), ← HRV.out] at hs
          refine ⟨HQD.out, HD3.out, ?_, hs.1.symm⟩
          rw [HQV.out, hs.2, Nat.pow_succ]
          have key : ∀ A P : Nat, A * (P * 2) = 2 * A * P := fun A P => by rw [Nat.mul_comm P 2, ← Nat.mul_assoc, Nat.mul_comm A 2]
          exact key _ _)
        clear hge hcv
        go_wp2_with (first
          | (with_reducible refine wpList_load_lg rfl (.tmp 7) rfl (w.heap.size + 1 + 1 + 1 + 1 + 1) false r3 rfl HW4.out.hr HD3.out ?_)
          | (with_reducible refine wpList_load_lg rfl (.tmp 8) rfl (w.heap.size + 1 + 1 + 1 + 1 + 1 + 1) false y rfl HW4.out.hz HY.out ?_)
          | (go_at_call 57; (with_reducible refine (cmp_any false false r3 y _ HD3.out HY.out).mono ?_); rintro e w5 ⟨rfl, hb5⟩; have HW5 := Lib.hid (HW4.out.keep hb5); clear hb5; rw [← HCV.out]))
        go_roundw
        case rel => exact ⟨b, _, _, by omega, by go_num, HDI, HW5⟩
        case measure => first | (simp [intOf]; done) | (simp [intOf]; omega)
    · obtain rfl : k = 0 := by omega
      have s1 := HW.out.hx.sign
      have s2 := HW.out.hy.sign
      have s3 := HW.out.hq.sign
      have f3 := HW.out.hq.free 0
      have HQD := Lib.hid HD.out.dq
      have HQV := Lib.hid (show lval q = lval x / lval y by have := HD.out.quo; simpa using this)
      go_wp2_with (first
        | (refine wpList_store_cellV rfl 4 (.tmp 59) (.tmp 58) rfl (w.heap.size + 1 + 1 + 1 + 1) 0 (.bool (!(b1 == b2))) (.bool false) (by kernel_rfl) rfl rfl rfl s3 f3 ?_
           intro W3 hW3))
      obtain ⟨sg, hsg⟩ : ∃ sg, sg = (!(b1 == b2)) := ⟨_, rfl⟩
      have HW4 := Lib.hid (show LgBlk W3 (w.heap.size + 1 + 1 + 1 + 1) sg q ∧ LgBlk W3 (w.heap.size + 1 + 1 + 1 + 1 + 1) false r ∧ LgBlk W3 (w.heap.size + 1 + 1) false lg0 ∧ LgBlk W3 (w.heap.size + 1 + 1 + 1) false lg0 ∧ Below w.heap.size w W3 by
        rw [hW3.out, hsg]
        exact ⟨HW.out.hq.putSign _, HW.out.hr.other (by omega) _ _, HW.out.ho1.other (by omega) _ _, HW.out.ho2.other (by omega) _ _, HW.out.hb.setCell (p := ⟨w.heap.size + 1 + 1 + 1 + 1, 0, none⟩) (by simp only; omega) _⟩)
      have HRD := Lib.hid HD.out.dr
      refine wp_region_held_drew (S := fun w' => LgBlk w' (w.heap.size + 1 + 1 + 1 + 1) sg q ∧ LgBlk w' (w.heap.size + 1 + 1 + 1 + 1 + 1) false r) (by kernel_rfl) ⟨HW4.out.1, HW4.out.2.1⟩ (fun hHeld => ?_)
      refine wpAnyH_take (i := 0) (oi := ⟨_, _, _, _, _, _⟩) (v := lgV sg q) rfl (by kernel_rfl) (by kernel_rfl) (by kernel_rfl) (fun _ _ _ h => h) (yieldsIf_load_mid (by kernel_rfl) 78 (.tmp 6) rfl (w.heap.size + 1 + 1 + 1 + 1) 0 rfl (Value.bool sg :: q.map fun (d : Nat) => Value.int .u64 (d : Int)) _ (fun w' h j v hv => by rw [Nat.zero_add, h.1.cell, lgCs]; simpa using hv) Tryd.underlying78 rfl (by rw [lgInfo]; simp [HQD.out.1])) (by assumption) ?_
      simp only [Act.put, List.setIfInBounds_toArray, List.set_cons_zero, List.set_cons_succ]
      refine wpAnyH_take (i := 1) (oi := ⟨_, _, _, _, _, _⟩) (v := lgV false r) rfl (by kernel_rfl) (by kernel_rfl) (by kernel_rfl) (fun _ _ _ h => h) (yieldsIf_load_mid (by kernel_rfl) 78 (.tmp 7) rfl (w.heap.size + 1 + 1 + 1 + 1 + 1) 0 rfl (Value.bool false :: r.map fun (d : Nat) => Value.int .u64 (d : Int)) _ (fun w' h j v hv => by rw [Nat.zero_add, h.2.cell, lgCs]; simpa using hv) Tryd.underlying78 rfl (by rw [lgInfo]; simp [HRD.out.1])) (by assumption) ?_
      simp only [Act.put, List.setIfInBounds_toArray, List.set_cons_zero, List.set_cons_succ]
      refine wpAnyH_ready (rs := [2]) (by kernel_rfl) (by simp) ?_
      refine AllReadyH.cons rfl (fun K hK => ?_) AllReadyH.nil
      rw [if_pos (by kernel_rfl)]
      refine wp_store_row 78 (.tmp 4) (.tmp 60) rfl (w.heap.size + 1 + 1) (lgCs sg q) rfl rfl 78 (lgCs false lg0) HW4.out.2.2.1 (by rw [lgInfo, lgCs_size HQD.out]) (by rw [lgCs_size lg0_digs, lgCs_size HQD.out]) (lgCs_one _ _) ?_
      refine hK.out _ _ ⟨hHeld.1.rowOther (by omega) _, hHeld.2.rowOther (by omega) _⟩ (fun hHeld2 => ?_)
      clear hK K
      refine wpAnyH_ready (rs := [3]) (by kernel_rfl) (by simp) ?_
      refine AllReadyH.cons rfl (fun K hK => ?_) AllReadyH.nil
      rw [if_pos (by kernel_rfl)]
      have HO2 := Lib.hid (show LgBlk (W3.drew.setRow (w.heap.size + 1 + 1) (lgCs sg q)) (w.heap.size + 1 + 1 + 1) false lg0 from LgBlk.rowOther (w := W3.drew) HW4.out.2.2.2.1 (by omega) _)
      refine wp_store_row 78 (.tmp 5) (.tmp 61) rfl (w.heap.size + 1 + 1 + 1) (lgCs false r) rfl rfl 78 (lgCs false lg0) HO2.out (by rw [lgInfo, lgCs_size HRD.out]) (by rw [lgCs_size lg0_digs, lgCs_size HRD.out]) (lgCs_one _ _) ?_
      refine hK.out _ _ ⟨hHeld2.1.rowOther (by omega) _, hHeld2.2.rowOther (by omega) _⟩ (fun hHeld3 => ?_)
      clear hK K
      refine wpAnyH_done (by kernel_rfl) ?_ _
      have HR1 := Lib.hid (LgBlk.rowOther (LgBlk.row (w := W3.drew) HW4.out.2.2.1 sg q) (k := w.heap.size + 1 + 1 + 1) (by omega) (lgCs false r))
      have HR2 := Lib.hid (LgBlk.row HO2.out false r)
      have HBB := Lib.hid (below_row (below_row (w := W3.drew) (Below.next HW4.out.2.2.2.2 (below_drewN' W3 1)) (g := w.heap.size + 1 + 1) (by omega) (lgCs sg q)) (g := w.heap.size + 1 + 1 + 1) (by omega) (lgCs false r))
      have HSG := Lib.hid hsg
      clear hHeld hHeld2 hHeld3 hsg
      generalize (W3.drew.setRow (w.heap.size + 1 + 1) (lgCs sg q)).setRow (w.heap.size + 1 + 1 + 1) (lgCs false r) = W9 at *
      go_wp2
      exact bodyPost_ret (v := .tuple #[lgV sg q, lgV false r]) (results_lg2 rfl _ _ (w.heap.size + 1 + 1) (w.heap.size + 1 + 1 + 1) sg false q r rfl rfl HR1.out HR2.out HQD.out HRD.out) rfl ⟨q, r, by rw [HSG.out], HQD.out, HRD.out, HQV.out, HBB.out⟩

end Go.Proofs.YtlobohpbgghleaaDoor
