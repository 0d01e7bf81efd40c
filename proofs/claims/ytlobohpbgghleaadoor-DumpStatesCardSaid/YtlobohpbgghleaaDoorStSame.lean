import Derived.Test.YtlobohpbgghleaaDoorState
import Derived.Laws.StructEq
import Derived.Deep.QuietTactic
import Derived.BigQuiet
namespace Go.Proofs.YtlobohpbgghleaaDoor
open Go.RowKit

/-! ## the same state -/

def lnSame (a b : Ln) : Bool := a.item == b.item && (a.price == b.price && (a.qty == b.qty && a.shipped == b.shipped))
theorem lnSame_iff (a b : Ln) : lnSame a b = true ↔ a = b := by
  unfold lnSame
  simp only [Bool.and_eq_true, beq_iff_eq]
  constructor
  · rintro ⟨h0, h1, h2, h3⟩; exact Ln.ext' h0 h1 h2 h3
  · rintro rfl; simp
set_option maxHeartbeats 1000000 in
theorem run_lnEqual (a b : Ln) (w : World) : (Op.equalIn 10000 40 (lnV a) (lnV b)).run Tryd.prog w = .ok (lnSame a b) w := by
  have hS : Tryd.prog.underlying 40 = some (.struct (Tryd.prog.fieldsOf 40)) := by kernel_rfl
  have hp : Tryd.prog.stoodInHeld 40 = false := by kernel_rfl
  unfold lnV
  rw [show (10000 : Nat) = 9999 + 1 from rfl, run_equalIn_agg w 9999 40 _ _ hS hp]
  simp only [Program.fieldsOf, Tryd.underlying40]
  go_simp
  unfold lnSame
  by_cases h0 : a.item = b.item
  case neg => simp [h0]
  rw [if_pos h0]
  by_cases h1 : a.price = b.price
  case neg => simp [h1]
  rw [if_pos h1]
  by_cases h2 : a.qty = b.qty
  case neg => simp [h2]
  rw [if_pos h2]
  by_cases h3 : a.shipped = b.shipped
  case neg => simp [h3]
  rw [if_pos h3]
  simp [h0, h1, h2, h3]
theorem run_lnNeq (a b : Ln) (w : World) : (binOp .neq 40 (lnV a) (lnV b)).run Tryd.prog w = .ok (.bool (!lnSame a b)) w := by
  unfold lnV; rw [run_neq_struct]; have := run_lnEqual a b w; unfold lnV at this; rw [this]; rfl

theorem sevenS (b1 b2 b3 b4 b5 b6 b7 : Bool) : (b1 = true) ∨ (b1 = false ∧ b2 = true) ∨ (b1 = false ∧ b2 = false ∧ b3 = true) ∨ (b1 = false ∧ b2 = false ∧ b3 = false ∧ b4 = true) ∨ (b1 = false ∧ b2 = false ∧ b3 = false ∧ b4 = false ∧ b5 = true) ∨ (b1 = false ∧ b2 = false ∧ b3 = false ∧ b4 = false ∧ b5 = false ∧ b6 = true) ∨ (b1 = false ∧ b2 = false ∧ b3 = false ∧ b4 = false ∧ b5 = false ∧ b6 = false ∧ b7 = true) ∨ (b1 = false ∧ b2 = false ∧ b3 = false ∧ b4 = false ∧ b5 = false ∧ b6 = false ∧ b7 = false) := by
  cases b1 <;> simp <;> cases b2 <;> simp <;> cases b3 <;> simp <;> cases b4 <;> simp <;> cases b5 <;> simp <;> cases b6 <;> simp <;> cases b7 <;> simp
theorem fiveS (b1 b2 b3 b4 b5 : Bool) : (b1 = true) ∨ (b1 = false ∧ b2 = true) ∨ (b1 = false ∧ b2 = false ∧ b3 = true) ∨ (b1 = false ∧ b2 = false ∧ b3 = false ∧ b4 = true) ∨ (b1 = false ∧ b2 = false ∧ b3 = false ∧ b4 = false ∧ b5 = true) ∨ (b1 = false ∧ b2 = false ∧ b3 = false ∧ b4 = false ∧ b5 = false) := by
  cases b1 <;> simp <;> cases b2 <;> simp <;> cases b3 <;> simp <;> cases b4 <;> simp <;> cases b5 <;> simp

def SamePost (s t : St) (w : World) (e : Ending) (w' : World) : Prop := ∃ b, e = .returned (.bool b) ∧ (b = true ↔ s = t) ∧ Below w.heap.size w w'
theorem two_start (w : World) (s t : St) (lv lv' : Value) : StBlk ((w.alloc (.cells (stCs s lv) 25)).alloc (.cells (stCs t lv') 25)) w.heap.size s lv ∧ StBlk ((w.alloc (.cells (stCs s lv) 25)).alloc (.cells (stCs t lv') 25)) (w.heap.size + 1) t lv' ∧ Below w.heap.size w ((w.alloc (.cells (stCs s lv) 25)).alloc (.cells (stCs t lv') 25)) := by
  have a : ∀ (w : World) (o : Obj), Below w.heap.size w (w.alloc o) := fun w o => (Below.refl _ _).alloc (Nat.le_refl _) _
  have h2 := stBlk_alloc (w.alloc (.cells (stCs s lv) 25)) t lv'
  simp only [show ∀ (w : World) (o : Obj), (w.alloc o).heap.size = w.heap.size + 1 from fun w o => by simp] at h2
  exact ⟨(stBlk_alloc w s lv).below (a _ _), h2, Below.next (a _ _) (a _ _)⟩

set_option maxRecDepth 100000 in
set_option maxHeartbeats 16000000 in
theorem stSame_any (s t : St) (lv lv' : Value) (w : World) (hr : LnRow w lv s.lines) (hr' : LnRow w lv' t.lines) :
    Calls Tryd.prog 7 #[stV s lv, stV t lv'] w (SamePost s t w) := by
  obtain ⟨oa, cap, rfl, hl1, hl2, hcs⟩ := hr.shape
  obtain ⟨oa', cap', rfl, hl1', hl2', hcs'⟩ := hr'.shape
  have HC := Lib.hid hcs
  have HC' := Lib.hid hcs'
  have HS := Lib.hid (two_start w s t (.slice oa s.lines.length cap) (.slice oa' t.lines.length cap'))
  clear hr hcs hr' hcs'
  rcases sevenS (s.order != t.order) (s.status != t.status) (s.prior != t.prior) (s.cur != t.cur) (s.tax != t.tax) (s.paid != t.paid) (s.refunded != t.refunded) with k1 | ⟨k1, k2⟩ | ⟨k1, k2, k3⟩ | ⟨k1, k2, k3, k4⟩ | ⟨k1, k2, k3, k4, k5⟩ | ⟨k1, k2, k3, k4, k5, k6⟩ | ⟨k1, k2, k3, k4, k5, k6, k7⟩ | ⟨k1, k2, k3, k4, k5, k6, k7⟩
  · have hne := Lib.hid (show (false = true ↔ s = t) from ⟨fun h => (by cases h), fun h => by subst h; simp at k1⟩)
    go_enter Tryd.func7, Tryd.ntmps7
    go_wp2
    go_ret
    exact ⟨_, rfl, hne.out, HS.out.2.2⟩
  · have hne := Lib.hid (show (false = true ↔ s = t) from ⟨fun h => (by cases h), fun h => by subst h; simp at k2⟩)
    go_enter Tryd.func7, Tryd.ntmps7
    go_wp2
    go_ret
    exact ⟨_, rfl, hne.out, HS.out.2.2⟩
  · have hne := Lib.hid (show (false = true ↔ s = t) from ⟨fun h => (by cases h), fun h => by subst h; simp at k3⟩)
    go_enter Tryd.func7, Tryd.ntmps7
    go_wp2
    go_ret
    exact ⟨_, rfl, hne.out, HS.out.2.2⟩
  · have hne := Lib.hid (show (false = true ↔ s = t) from ⟨fun h => (by cases h), fun h => by subst h; simp at k4⟩)
    go_enter Tryd.func7, Tryd.ntmps7
    go_wp2
    go_ret
    exact ⟨_, rfl, hne.out, HS.out.2.2⟩
  · have hne := Lib.hid (show (false = true ↔ s = t) from ⟨fun h => (by cases h), fun h => by subst h; simp at k5⟩)
    go_enter Tryd.func7, Tryd.ntmps7
    go_wp2
    go_ret
    exact ⟨_, rfl, hne.out, HS.out.2.2⟩
  · have hne := Lib.hid (show (false = true ↔ s = t) from ⟨fun h => (by cases h), fun h => by subst h; simp at k6⟩)
    go_enter Tryd.func7, Tryd.ntmps7
    go_wp2
    go_ret
    exact ⟨_, rfl, hne.out, HS.out.2.2⟩
  · have hne := Lib.hid (show (false = true ↔ s = t) from ⟨fun h => (by cases h), fun h => by subst h; simp at k7⟩)
    go_enter Tryd.func7, Tryd.ntmps7
    go_wp2
    go_ret
    exact ⟨_, rfl, hne.out, HS.out.2.2⟩
  rcases fiveS (s.events != t.events) (s.refused != t.refused) (s.stamp != t.stamp) (s.who != t.who) ((s.lines.length : Int) != (t.lines.length : Int)) with e1 | ⟨e1, e2⟩ | ⟨e1, e2, e3⟩ | ⟨e1, e2, e3, e4⟩ | ⟨e1, e2, e3, e4, e5⟩ | ⟨e1, e2, e3, e4, e5⟩
  · have hne := Lib.hid (show (false = true ↔ s = t) from ⟨fun h => (by cases h), fun h => by subst h; simp at e1⟩)
    go_enter Tryd.func7, Tryd.ntmps7
    go_wp2
    go_ret
    exact ⟨_, rfl, hne.out, HS.out.2.2⟩
  · have hne := Lib.hid (show (false = true ↔ s = t) from ⟨fun h => (by cases h), fun h => by subst h; simp at e2⟩)
    go_enter Tryd.func7, Tryd.ntmps7
    go_wp2
    go_ret
    exact ⟨_, rfl, hne.out, HS.out.2.2⟩
  · have hne := Lib.hid (show (false = true ↔ s = t) from ⟨fun h => (by cases h), fun h => by subst h; simp at e3⟩)
    go_enter Tryd.func7, Tryd.ntmps7
    go_wp2
    go_ret
    exact ⟨_, rfl, hne.out, HS.out.2.2⟩
  · have hne := Lib.hid (show (false = true ↔ s = t) from ⟨fun h => (by cases h), fun h => by subst h; simp at e4⟩)
    have w4 : ¬ (s.who = t.who) := by rw [bne_iff_ne] at e4; exact e4
    have w5 : (s.who == t.who) = false := by rw [beq_eq_false_iff_ne]; exact w4
    go_enter Tryd.func7, Tryd.ntmps7
    go_wp2
    go_ret
    exact ⟨_, rfl, hne.out, HS.out.2.2⟩
  · have hne := Lib.hid (show (false = true ↔ s = t) from ⟨fun h => (by cases h), fun h => by subst h; simp at e5⟩)
    have hw4 : s.who = t.who := by rw [bne_eq_false_iff_eq] at e4; exact e4
    have HS2 := HS.out.2.2
    simp only [stCs, hw4] at HS2
    go_enter Tryd.func7, Tryd.ntmps7
    go_wp2
    go_ret
    exact ⟨_, rfl, hne.out, HS2⟩
  have hlen : s.lines.length = t.lines.length := by rw [bne_eq_false_iff_eq] at e5; omega
  have HEQ := Lib.hid (show s.lines = t.lines → s = t from fun h => by
    rw [bne_eq_false_iff_eq] at k1 k2 k3 k4 k5 k6 k7 e1 e2 e3 e4
    exact St.ext' k1 k2 k3 k4 k5 h k6 k7 e1 e2 e3 e4)
  have hw4 : s.who = t.who := by rw [bne_eq_false_iff_eq] at e4; exact e4
  have HW4 := Lib.hid hw4
  have HLEN := Lib.hid hlen
  go_enter Tryd.func7, Tryd.ntmps7
  go_wp2
  clear hw4
  clear k1 k2 k3 k4 k5 k6 k7 e1 e2 e3 e4 e5
  go_loopw [91] (fun iv wr => ∃ (k : Nat), k ≤ s.lines.length ∧ iv = .int .i64 k ∧ Hid (s.lines.take k = t.lines.take k) ∧ Hid (StBlk wr w.heap.size s (.slice oa s.lines.length cap) ∧ StBlk wr (w.heap.size + 1) t (.slice oa' t.lines.length cap') ∧ Below w.heap.size w wr)) (fun iv _ => s.lines.length - (intOf iv).toNat)
  case atStart => exact ⟨0, Nat.zero_le _, rfl, Lib.hid rfl, Lib.hid (by have h := HS.out; simp only [stCs, HW4.out, HLEN.out] at h ⊢; exact h)⟩
  case round =>
    obtain ⟨k, hk, rfl, HT, HW⟩ := hrel
    clear HS
    by_cases hlt : k < s.lines.length
    · obtain ⟨l, hl, htk, _⟩ := nth s.lines k hlt
      obtain ⟨m, hm, htk', _⟩ := nth t.lines k (by omega)
      have q1 : (k : Int) < (s.lines.length : Int) := by omega
      have q2 : (k : Int) < (t.lines.length : Int) := by omega
      obtain ⟨b, off, rfl, hcell⟩ := HC.out k l hl
      obtain ⟨b', off', rfl, hcell'⟩ := HC'.out k m hm
      have hc := range_later hcell HW.out.2.2
      have hc' := range_later hcell' HW.out.2.2
      have c0 : wr.cell? ⟨b, off + k * 4, none⟩ = some (.int .i64 l.item) := hc 0 _ rfl
      have c1 : wr.cell? ⟨b, off + k * 4 + 1, none⟩ = some (.int .i64 l.price) := hc 1 _ rfl
      have c2 : wr.cell? ⟨b, off + k * 4 + 2, none⟩ = some (.int .i64 l.qty) := hc 2 _ rfl
      have c3 : wr.cell? ⟨b, off + k * 4 + 3, none⟩ = some (.int .i64 l.shipped) := hc 3 _ rfl
      have d0 : wr.cell? ⟨b', off' + k * 4, none⟩ = some (.int .i64 m.item) := hc' 0 _ rfl
      have d1 : wr.cell? ⟨b', off' + k * 4 + 1, none⟩ = some (.int .i64 m.price) := hc' 1 _ rfl
      have d2 : wr.cell? ⟨b', off' + k * 4 + 2, none⟩ = some (.int .i64 m.qty) := hc' 2 _ rfl
      have d3 : wr.cell? ⟨b', off' + k * 4 + 3, none⟩ = some (.int .i64 m.shipped) := hc' 3 _ rfl
      have f1 : wr.cell? ⟨w.heap.size, 5, none⟩ = some (.slice (some ⟨b, off, none⟩) s.lines.length cap) := HW.out.1.cell 5
      have f2 : wr.cell? ⟨w.heap.size + 1, 5, none⟩ = some (.slice (some ⟨b', off', none⟩) t.lines.length cap') := HW.out.2.1.cell 5
      have hq := run_lnNeq l m
      cases hsm : lnSame l m
      · have hne := Lib.hid (show (false = true ↔ s = t) from ⟨fun h => (by cases h), fun h => (by
          subst h
          rw [hl] at hm
          have hlm : l = m := Option.some.inj hm
          rw [(lnSame_iff l m).2 hlm] at hsm; cases hsm)⟩)
        rw [hsm] at hq
        clear hl hm htk htk' hcell hcell' hc hc' hsm
        go_wp2
        go_quiet (fail)
        go_wp2
        go_ret
        exact ⟨_, rfl, hne.out, Below.next HW.out.2.2 (below_drewN' wr _)⟩
      · have HT' := Lib.hid (show s.lines.take (k + 1) = t.lines.take (k + 1) by rw [htk, htk', HT.out, (lnSame_iff l m).1 hsm])
        rw [hsm] at hq
        clear hl hm htk htk' hcell hcell' hc hc' hsm
        go_wp2
        go_quiet (fail)
        go_wp2
        go_roundw
        case rel => exact ⟨k + 1, by omega, by go_num, HT', Lib.hid ⟨HW.out.1.below (below_drewN' wr _), HW.out.2.1.below (below_drewN' wr _), Below.next HW.out.2.2 (below_drewN' wr _)⟩⟩
        case measure => first | (simp [intOf]; done) | (simp [intOf]; omega)
    · obtain rfl : k = s.lines.length := by omega
      have hfin := Lib.hid (show (true = true ↔ s = t) from ⟨fun _ => HEQ.out (by have h0 := HT.out; rw [List.take_length, hlen, List.take_length] at h0; exact h0), fun _ => rfl⟩)
      go_wp2
      go_ret
      exact ⟨_, rfl, by simpa using hfin.out, HW.out.2.2⟩

end Go.Proofs.YtlobohpbgghleaaDoor
