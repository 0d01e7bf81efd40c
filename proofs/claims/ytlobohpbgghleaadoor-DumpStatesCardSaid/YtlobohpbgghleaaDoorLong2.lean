import Derived.Test.YtlobohpbgghleaaDoorLong
namespace Go.Proofs.YtlobohpbgghleaaDoor
open Go.RowKit

set_option maxRecDepth 100000 in
set_option maxHeartbeats 4000000 in
theorem down_any (b1 b2 : Bool) (x y : List Nat) (w : World) (hx : Digs x) (hy : Digs y) (hle : lval y ≤ lval x) :
    Calls Tryd.prog 58 #[lgV b1 x, lgV b2 y] w fun e w' => ∃ z, e = .returned (lgV b1 z) ∧ Digs z ∧ lval z = lval x - lval y ∧ Below w.heap.size w w' := by
  have HX := Lib.hid hx
  have HY := Lib.hid hy
  have HLE := Lib.hid hle
  clear hx hy hle
  have s1 : (lgCs b1 x)[0]? = some (.bool b1) := rfl
  go_enter Tryd.func58, Tryd.ntmps58
  go_wp2
  clear s1
  go_loopw [6, 7] (fun cv iv wr => ∃ (k c : Nat) (z : List Nat), k ≤ 16 ∧ iv = .int .i64 k ∧ cv = .int .u64 (c : Int) ∧ Hid (DnI x y k z c) ∧ Hid (LgBlk wr w.heap.size b1 x ∧ LgBlk wr (w.heap.size + 1) b2 y ∧ LgBlk wr (w.heap.size + 1 + 1) false lg0 ∧ LgBlk wr (w.heap.size + 1 + 1 + 1) b1 z ∧ Below w.heap.size w wr)) (fun _ iv _ => 16 - (intOf iv).toNat)
  case atStart => exact ⟨0, 0, lg0, by omega, rfl, rfl, Lib.hid (dnI_start x y), Lib.hid (four_start w b1 b2 false b1 x y lg0 lg0 _ rfl)⟩
  case round =>
    obtain ⟨k, c, z, hk, rfl, rfl, HI, HW⟩ := hrel
    by_cases hlt : k < 16
    · obtain ⟨a, ha, ha'⟩ := HX.out.at k hlt
      obtain ⟨b, hb, hb'⟩ := HY.out.at k hlt
      have q1 : (k : Int) < 16 := by omega
      have c1 := HW.out.1.dig ha
      have c2 := HW.out.2.1.dig hb
      have c3 := HW.out.2.2.2.1.dig (HI.out.low k (Nat.le_refl _) hlt)
      have f3 := HW.out.2.2.2.1.free (1 + k)
      have hc := HI.out.carry
      have e0 : IntKind.u64.wrap ((a : Int) + 65536) = (a : Int) + 65536 := by rw [IntKind.wrap_u64]; omega
      have e1 : IntKind.u64.wrap ((a : Int) + 65536 - (b : Int)) = (a : Int) + 65536 - b := by rw [IntKind.wrap_u64]; omega
      obtain ⟨s, hs⟩ : ∃ s : Nat, s = a + 65536 - b - c := ⟨_, rfl⟩
      have e2 : IntKind.u64.wrap ((a : Int) + 65536 - (b : Int) - (c : Int)) = (s : Int) := by rw [IntKind.wrap_u64]; omega
      have e3 : IntKind.u64.wrap ((s : Int) / 65536) = (s : Int) / 65536 := by rw [IntKind.wrap_u64]; omega
      have e4 : IntKind.u64.wrap (1 - (s : Int) / 65536) = ((1 - s / 65536 : Nat) : Int) := by rw [IntKind.wrap_u64]; omega
      have HS := Lib.hid (hs ▸ HI.out.step hlt ha hb ha' hb')
      have HP := Lib.hid (show ∀ n, LgBlk ((wr.drewN n).setCell ⟨w.heap.size + 1 + 1 + 1, 1 + k, none⟩ (.int .u64 ((s : Int) % 65536))) (w.heap.size + 1 + 1 + 1) b1 (z.set k (s % 65536)) from fun n => by
        have := LgBlk.put (w := wr.drewN n) HW.out.2.2.2.1 k (s % 65536)
        rw [Int.natCast_emod] at this; exact this)
      clear ha hb ha' hb' hc hs
      go_wp2
      go_quiet (fail)
      go_wp2
      go_roundw
      case rel => exact ⟨k + 1, 1 - s / 65536, z.set k (s % 65536), by omega, by go_num, by first | rfl | rw [e4] | simp, HS, Lib.hid ⟨LgBlk.other (w := wr.drewN nq) HW.out.1 (by omega) _ _, LgBlk.other (w := wr.drewN nq) HW.out.2.1 (by omega) _ _, LgBlk.other (w := wr.drewN nq) HW.out.2.2.1 (by omega) _ _, HP.out nq, (Below.next HW.out.2.2.2.2 (below_drewN' wr nq)).setCell (p := ⟨w.heap.size + 1 + 1 + 1, 1 + k, none⟩) (by show w.heap.size ≤ w.heap.size + 1 + 1 + 1; omega) _⟩⟩
      case measure => simp [intOf]; omega
    · obtain rfl : k = 16 := by omega
      have HD := Lib.hid HI.out.digs
      have HV := Lib.hid (HI.out.done HX.out HY.out HLE.out)
      have HR := Lib.hid (LgBlk.row HW.out.2.2.1 b1 z)
      have HB := Lib.hid (show Below w.heap.size w (wr.setRow (w.heap.size + 1 + 1) (lgCs b1 z)) from below_row HW.out.2.2.2.2 (by omega) _)
      go_wp2_with (first
        | (with_reducible refine wpList_load_lg rfl (.tmp 5) rfl (w.heap.size + 1 + 1 + 1) b1 z rfl HW.out.2.2.2.1 HD.out ?_)
        | (with_reducible refine wpList_store_lg rfl (.tmp 4) (.tmp 36) rfl (w.heap.size + 1 + 1) false b1 lg0 z rfl rfl HW.out.2.2.1 lg0_digs HD.out ?_))
      exact bodyPost_ret (v := lgV b1 z) (results_lg rfl _ _ (w.heap.size + 1 + 1) b1 z rfl HR.out HD.out) rfl ⟨z, rfl, HD.out, HV.out, HB.out⟩

/-! ## the order of the sizes -/

def cmpL (x y : List Nat) : Int := if lval x < lval y then -1 else if lval y < lval x then 1 else 0
theorem cmpL_lt {x y : List Nat} (h : lval x < lval y) : cmpL x y = -1 := by unfold cmpL; rw [if_pos h]
theorem cmpL_gt {x y : List Nat} (h : lval y < lval x) : cmpL x y = 1 := by unfold cmpL; rw [if_neg (by omega), if_pos h]
theorem cmpL_eq {x : List Nat} : cmpL x x = 0 := by unfold cmpL; rw [if_neg (by omega), if_neg (by omega)]
theorem cmpL_ge (x y : List Nat) : (0 ≤ cmpL x y) ↔ lval y ≤ lval x := by unfold cmpL; split <;> (try split) <;> omega

set_option maxRecDepth 100000 in
set_option maxHeartbeats 4000000 in
theorem cmp_any (b1 b2 : Bool) (x y : List Nat) (w : World) (hx : Digs x) (hy : Digs y) :
    Calls Tryd.prog 57 #[lgV b1 x, lgV b2 y] w fun e w' => e = .returned (.int .i64 (cmpL x y)) ∧ Below w.heap.size w w' := by
  have HX := Lib.hid hx
  have HY := Lib.hid hy
  clear hx hy
  go_enter Tryd.func57, Tryd.ntmps57
  go_wp2
  go_loopw [5] (fun iv wr => ∃ (k : Nat), k ≤ 16 ∧ iv = .int .i64 ((k : Int) - 1) ∧ Hid (x.drop k = y.drop k) ∧ Hid (LgBlk wr w.heap.size b1 x ∧ LgBlk wr (w.heap.size + 1) b2 y ∧ Below w.heap.size w wr)) (fun iv _ => (intOf iv + 1).toNat)
  case atStart =>
    refine ⟨16, by omega, by rfl, Lib.hid (by rw [List.drop_eq_nil_of_le (by rw [HX.out.1]; omega), List.drop_eq_nil_of_le (by rw [HY.out.1]; omega)]), Lib.hid ?_⟩
    have h1 := lgBlk_alloc w b1 x
    have h2 := lgBlk_alloc (w.alloc (.cells (lgCs b1 x) 78)) b2 y
    have a : ∀ (w : World) (o : Obj), Below w.heap.size w (w.alloc o) := fun w o => (Below.refl _ _).alloc (Nat.le_refl _) _
    simp only [show ∀ (w : World) (o : Obj), (w.alloc o).heap.size = w.heap.size + 1 from fun w o => by simp] at h2
    exact ⟨h1.below (a _ _), h2, Below.next (a _ _) (a _ _)⟩
  case round =>
    obtain ⟨k, hk, rfl, HE, HW⟩ := hrel
    by_cases hlt : 0 < k
    · obtain ⟨j, rfl⟩ : ∃ j, k = j + 1 := ⟨k - 1, by omega⟩
      obtain ⟨a, ha, ha'⟩ := HX.out.at j (by omega)
      obtain ⟨b, hb, hb'⟩ := HY.out.at j (by omega)
      have c1 := HW.out.1.dig ha
      have c2 := HW.out.2.1.dig hb
      have HB := Lib.hid HW.out.2.2
      have ej : ((j + 1 : Nat) : Int) - 1 = (j : Int) := by omega
      rw [ej]
      have q1 : (0 : Int) ≤ (j : Int) := by omega
      have q16 : (j : Int) < 16 := by omega
      rcases Nat.lt_trichotomy a b with h | h | h
      · have HV := Lib.hid (cmpL_lt (lval_high x y j a b (by rw [HX.out.1, HY.out.1]) HX.out.2 HY.out.2 HE.out ha hb h))
        have q2 : (a : Int) < (b : Int) := by omega
        clear ha hb ha' hb' h ej
        go_wp2
        go_quiet (fail)
        go_wp2
        go_ret
        exact ⟨by rw [HV.out]; rfl, Below.next HB.out (below_drewN' wr _)⟩
      · subst h
        have HE' := Lib.hid (show x.drop j = y.drop j by
          have h1 := List.getElem?_eq_some_iff.1 ha
          have h2 := List.getElem?_eq_some_iff.1 hb
          rw [List.drop_eq_getElem_cons h1.1, List.drop_eq_getElem_cons h2.1, h1.2, h2.2, HE.out])
        have q2 : ¬ ((a : Int) < (a : Int)) := by omega
        clear ha hb ha' hb'
        go_wp2
        go_quiet (fail)
        go_wp2
        go_quiet (fail)
        go_wp2
        go_roundw
        case rel => exact ⟨j, by omega, by go_num, HE', Lib.hid ⟨LgBlk.below HW.out.1 (below_drewN' wr _), LgBlk.below HW.out.2.1 (below_drewN' wr _), Below.next HB.out (below_drewN' wr _)⟩⟩
        case measure => first | (simp [intOf]; done) | (simp [intOf]; omega)
      · have HV := Lib.hid (cmpL_gt (lval_high y x j b a (by rw [HX.out.1, HY.out.1]) HY.out.2 HX.out.2 HE.out.symm hb ha h))
        have q2 : ¬ ((a : Int) < (b : Int)) := by omega
        have q3 : (b : Int) < (a : Int) := by omega
        clear ha hb ha' hb' h ej
        go_wp2
        go_quiet (fail)
        go_wp2
        go_quiet (fail)
        go_wp2
        go_ret
        exact ⟨by rw [HV.out]; rfl, Below.next HB.out (Below.next (below_drewN' wr _) (below_drewN' _ _))⟩
    · obtain rfl : k = 0 := by omega
      have HV := Lib.hid (show cmpL x y = 0 by
        have : x = y := by simpa using HE.out
        subst this; exact cmpL_eq)
      have HB := Lib.hid HW.out.2.2
      go_wp2
      go_ret
      exact ⟨by rw [HV.out]; rfl, HB.out⟩

end Go.Proofs.YtlobohpbgghleaaDoor
