import Derived.Test.YtecmpmnidlfgnaaGreatDoorScriptNums
import Derived.Test.YtecmpmnidlfgnaaGreatDoorFields
import Derived.Deep.QuietTactic
import Derived.BigQuiet
namespace Go.Proofs.YtecmpmnidlfgnaaGreatDoor
open Go.RowKit

/-! ## the reference's Same, at one command in two places -/

theorem conv_nil (w : World) (oa : Option Addr) (cap : Nat) : (convert 57 9 (.slice oa 0 cap)).run Tryz.prog w = .ok (.string ⟨#[]⟩) w := by
  cases oa with
  | none => kernel_rfl
  | some ad => kernel_rfl
theorem conv_brow {w : World} {oa : Option Addr} {cap : Nat} {l : List UInt8} (h : BRow w (.slice oa l.length cap) l) : (convert 57 9 (.slice oa l.length cap)).run Tryz.prog w = .ok (.string ⟨l.toArray⟩) w := by
  by_cases hn : l = []
  · subst hn; exact conv_nil w oa cap
  · obtain ⟨oa', cap', h1, _, h3⟩ := h
    simp only [Value.slice.injEq] at h1
    obtain ⟨rfl, _, rfl⟩ := h1
    obtain ⟨b, off, rfl, hc⟩ := h3 hn
    exact conv_cells w b off l cap hc

set_option maxRecDepth 100000 in
set_option maxHeartbeats 8000000 in
theorem sameCmd_any (c : Cmd) (nv1 rv1 nv2 rv2 : Value) (w : World) (h1 : CmSl w c nv1 rv1) (h2 : CmSl w c nv2 rv2) :
    Calls Tryz.prog 31 #[cmV c nv1 rv1, cmV c nv2 rv2] w fun x w' => x = .returned (.bool true) ∧ Below w.heap.size w w' := by
  obtain ⟨oa1, cap1, rfl, hl1, hm1⟩ := h1.1.at
  obtain ⟨ob1, cb1, rfl, hr1⟩ := h1.2.at
  obtain ⟨oa2, cap2, rfl, hl2, hm2⟩ := h2.1.at
  obtain ⟨ob2, cb2, rfl, hr2⟩ := h2.2.at
  unfold maxLen at hm1 hm2
  have hA := (show Below w.heap.size w (w.alloc (.cells (cmCs c (.slice oa1 c.nums.length cap1) (.slice ob1 c.raw.length cb1)) 59)) from (Below.refl _ _).alloc (Nat.le_refl _) _)
  have hCA := cmBlk_alloc w c (.slice oa1 c.nums.length cap1) (.slice ob1 c.raw.length cb1)
  have hsz : (w.alloc (.cells (cmCs c (.slice oa1 c.nums.length cap1) (.slice ob1 c.raw.length cb1)) 59)).heap.size = w.heap.size + 1 := by simp
  have hB := (show Below (w.alloc (.cells (cmCs c (.slice oa1 c.nums.length cap1) (.slice ob1 c.raw.length cb1)) 59)).heap.size _ ((w.alloc (.cells (cmCs c (.slice oa1 c.nums.length cap1) (.slice ob1 c.raw.length cb1)) 59)).alloc (.cells (cmCs c (.slice oa2 c.nums.length cap2) (.slice ob2 c.raw.length cb2)) 59)) from (Below.refl _ _).alloc (Nat.le_refl _) _)
  have hCB := cmBlk_alloc (w.alloc (.cells (cmCs c (.slice oa1 c.nums.length cap1) (.slice ob1 c.raw.length cb1)) 59)) c (.slice oa2 c.nums.length cap2) (.slice ob2 c.raw.length cb2)
  rw [hsz] at hCB
  have HB0 := Lib.hid (Below.next hA hB)
  have HC := Lib.hid (hCA.below hB)
  have HD := Lib.hid hCB
  have HS1 := Lib.hid (h1.below HB0.out)
  have HS2 := Lib.hid (h2.below HB0.out)
  unfold cmCs at HB0 HC HD HS1 HS2
  clear h1 h2 hA hCA hsz hB hCB
  go_enter Tryz.func31, Tryz.ntmps31
  have q : (c.verb != c.verb) = false := by simp
  have heq : ∀ w : World, (binOp .neq 24 (.agg #[.int .i64 c.ev.kind, .int .i64 c.ev.order, .int .i64 c.ev.item, .int .i64 c.ev.qty, .int .i64 c.ev.price, .int .i64 c.ev.cur, .int .i64 c.ev.tax, .string ⟨c.ev.who.toArray⟩, .int .i64 c.ev.stamp, .string ⟨c.ev.note.toArray⟩]) (.agg #[.int .i64 c.ev.kind, .int .i64 c.ev.order, .int .i64 c.ev.item, .int .i64 c.ev.qty, .int .i64 c.ev.price, .int .i64 c.ev.cur, .int .i64 c.ev.tax, .string ⟨c.ev.who.toArray⟩, .int .i64 c.ev.stamp, .string ⟨c.ev.note.toArray⟩])).run Tryz.prog w = .ok (.bool false) w := fun w => by
    have h := run_evNeq c.ev c.ev w
    rw [(evSame_iff _ _).2 rfl] at h
    exact h
  have hcv1 := conv_brow HS1.out.2
  have hcv2 := conv_brow HS2.out.2
  obtain ⟨f0, f1, f2, f3, f4, f5, f6, f7, f8, f9⟩ := HC.out.evs
  obtain ⟨g0, g1, g2, g3, g4, g5, g6, g7, g8, g9⟩ := HD.out.evs
  have c0 := HC.out.cell 0
  have c1 := HC.out.cell 1
  have c12 := HC.out.cell 12
  have d0 := HD.out.cell 0
  have d1 := HD.out.cell 1
  have d12 := HD.out.cell 12
  simp only [cmCs, List.getElem?_toArray, List.getElem?_cons_zero, List.getElem?_cons_succ] at c0 c1 c12 d0 d1 d12
  go_wp2_with (first | rw [heq] | rw [hcv1] | rw [hcv2])
  clear hcv1 hcv2 f0 f1 f2 f3 f4 f5 f6 f7 f8 f9 g0 g1 g2 g3 g4 g5 g6 g7 g8 g9 c0 c1 c12 d0 d1 d12 heq q
  generalize (w.alloc (.cells #[.string ⟨c.verb.toArray⟩, .slice oa1 c.nums.length cap1, .int .i64 c.ev.kind, .int .i64 c.ev.order, .int .i64 c.ev.item, .int .i64 c.ev.qty, .int .i64 c.ev.price, .int .i64 c.ev.cur, .int .i64 c.ev.tax, .string ⟨c.ev.who.toArray⟩, .int .i64 c.ev.stamp, .string ⟨c.ev.note.toArray⟩, .slice ob1 c.raw.length cb1] 59)).alloc (.cells #[.string ⟨c.verb.toArray⟩, .slice oa2 c.nums.length cap2, .int .i64 c.ev.kind, .int .i64 c.ev.order, .int .i64 c.ev.item, .int .i64 c.ev.qty, .int .i64 c.ev.price, .int .i64 c.ev.cur, .int .i64 c.ev.tax, .string ⟨c.ev.who.toArray⟩, .int .i64 c.ev.stamp, .string ⟨c.ev.note.toArray⟩, .slice ob2 c.raw.length cb2] 59) = w0 at *
  go_loopw [39] (fun iv wr => ∃ k : Nat, k ≤ c.nums.length ∧ iv = .int .i64 k ∧ Below w0.heap.size w0 wr) (fun iv _ => c.nums.length - (intOf iv).toNat)
  case atStart => exact ⟨0, Nat.zero_le _, rfl, Below.refl _ _⟩
  case round =>
    obtain ⟨k, hk, rfl, hb⟩ := hrel
    have HB := Lib.hid hb
    clear hb
    by_cases hlt : k < c.nums.length
    · obtain ⟨x, hx, _, _⟩ := nth c.nums k hlt
      have hne : c.nums ≠ [] := by intro h; rw [h] at hlt; simp at hlt
      obtain ⟨b1, o1, rfl, hcs1⟩ := HS1.out.1.cells hne
      obtain ⟨b2, o2, rfl, hcs2⟩ := HS2.out.1.cells hne
      have e1 := cell_later HB.out (hcs1 k x hx)
      have e2 := cell_later HB.out (hcs2 k x hx)
      have c1 : wr.cell? ⟨w.heap.size, 1, none⟩ = some (.slice (some ⟨b1, o1, none⟩) c.nums.length cap1) := cell_later HB.out (HC.out.cell 1)
      have d1 : wr.cell? ⟨w.heap.size + 1, 1, none⟩ = some (.slice (some ⟨b2, o2, none⟩) c.nums.length cap2) := cell_later HB.out (HD.out.cell 1)
      have q1 : (k : Int) < (c.nums.length : Int) := by omega
      have t1 : (x != x) = false := by simp
      clear hx hne hcs1 hcs2
      go_wp2
      go_quiet (fail)
      go_wp2
      go_roundw
      case rel => exact ⟨k + 1, by omega, by go_num, Below.next HB.out (below_drewN' _ _)⟩
      case measure => simp [intOf]; omega
    · obtain rfl : k = c.nums.length := by omega
      go_wp2
      go_ret
      exact ⟨rfl, Below.next HB0.out HB.out⟩

end Go.Proofs.YtecmpmnidlfgnaaGreatDoor
