import Derived.Test.YtlobohpbgghleaaDoorState
import Derived.Test.YtlobohpbgghleaaDoorMulDiv
import Derived.Test.YtlobohpbgghleaaDoorRefCheck2
import Derived.Test.YtlobohpbgghleaaDoorOrder2
import Derived.Deep.QuietTactic
import Derived.BigQuiet
namespace Go.Proofs.YtlobohpbgghleaaDoor
open Go.RowKit

/-! ## the reference's order -/

set_option maxRecDepth 100000 in
set_option maxHeartbeats 4000000 in
theorem rnet_any (s : St) (lv : Value) (w : World) (hr : LnRow w lv s.lines) (hf : ∀ l ∈ s.lines, lnFine l = true) (hn : s.lines.length ≤ 16) :
    Calls Tryd.prog 35 #[stV s lv] w fun e w' => e = .returned (.int .i64 (netOf s.lines)) ∧ Below w.heap.size w w' := by
  obtain ⟨oa, cap, rfl, hl1, hl2, hcs⟩ := hr.shape
  have HC := Lib.hid hcs
  have HF := Lib.hid hf
  have HN := Lib.hid hn
  have HB0 := Lib.hid (show Below w.heap.size w (w.alloc (.cells (stCs s (.slice oa s.lines.length cap)) 25)) from (Below.refl _ _).alloc (Nat.le_refl _) _)
  have HE0 := Lib.hid (stBlk_alloc w s (.slice oa s.lines.length cap))
  clear hr hcs hf
  go_enter Tryd.func35, Tryd.ntmps35
  go_wp2
  go_loopw [3, 8] (fun nv iv wr => ∃ (k : Nat), k ≤ s.lines.length ∧ iv = .int .i64 k ∧ nv = .int .i64 (netOf (s.lines.take k)) ∧ Hid (StBlk wr w.heap.size s (.slice oa s.lines.length cap) ∧ Below w.heap.size w wr)) (fun _ iv _ => s.lines.length - (intOf iv).toNat)
  case atStart => exact ⟨0, Nat.zero_le _, rfl, rfl, Lib.hid ⟨HE0.out, HB0.out⟩⟩
  case round =>
    obtain ⟨k, hk, rfl, rfl, HW⟩ := hrel
    by_cases hlt : k < s.lines.length
    · obtain ⟨l, hl, _, hmem⟩ := nth s.lines k hlt
      have q1 : (k : Int) < (s.lines.length : Int) := by omega
      obtain ⟨b, off, rfl, hcell⟩ := HC.out k l hl
      have hc := range_later hcell HW.out.2
      have c2 : wr.cell? ⟨b, off + k * 4 + 2, none⟩ = some (.int .i64 l.qty) := hc 2 _ rfl
      have c1 : wr.cell? ⟨b, off + k * 4 + 1, none⟩ = some (.int .i64 l.price) := hc 1 _ rfl
      have c5 : wr.cell? ⟨w.heap.size, 5, none⟩ = some (.slice (some ⟨b, off, none⟩) s.lines.length cap) := HW.out.1.cell 5
      have hfl := HF.out l hmem
      have hnt := net_take s.lines k l hl
      have hb1 := net_bound (s.lines.take k) fun x hx => HF.out x (List.mem_of_mem_take hx)
      have hb2 := net_bound (s.lines.take (k + 1)) fun x hx => HF.out x (List.mem_of_mem_take hx)
      have hlen : ((s.lines.take k).length : Int) ≤ 16 := by have := HN.out; simp only [List.length_take]; omega
      have hlen2 : ((s.lines.take (k + 1)).length : Int) ≤ 16 := by have := HN.out; simp only [List.length_take]; omega
      obtain ⟨n, hnn⟩ : ∃ n, n = netOf (s.lines.take k) := ⟨_, rfl⟩
      obtain ⟨n', hnn'⟩ : ∃ n', n' = netOf (s.lines.take (k + 1)) := ⟨_, rfl⟩
      obtain ⟨m, hm⟩ : ∃ m, m = l.qty * l.price := ⟨_, rfl⟩
      rw [← hnn, ← hm, ← hnn'] at hnt
      rw [← hnn] at hb1 ⊢
      rw [← hnn'] at hb2
      have e1 : IntKind.i64.wrap (l.qty * l.price) = m := by rw [← hm, IntKind.wrap_i64]; omega
      have e2 : IntKind.i64.wrap (n + m) = n' := by rw [IntKind.wrap_i64]; omega
      have HNN := Lib.hid hnn'
      clear hl hmem hcell hc hfl hnt hb1 hb2 hlen hlen2 hnn hnn' hm
      go_wp2
      go_quiet (fail)
      go_wp2
      go_roundw
      case rel => exact ⟨k + 1, by omega, by go_num, by rw [HNN.out], Lib.hid ⟨HW.out.1.below (below_drewN' wr _), Below.next HW.out.2 (below_drewN' wr _)⟩⟩
      case measure => first | (simp [intOf]; done) | (simp [intOf]; omega)
    · obtain rfl : k = s.lines.length := by omega
      rw [List.take_length]
      go_wp2
      go_ret
      exact ⟨rfl, HW.out.2⟩

set_option maxRecDepth 100000 in
set_option maxHeartbeats 4000000 in
theorem runtouched_any (s : St) (lv : Value) (w : World) (hr : LnRow w lv s.lines) (hf : ∀ l ∈ s.lines, lnFine l = true) :
    Calls Tryd.prog 23 #[stV s lv] w fun e w' => e = .returned (.bool (noneB s.lines)) ∧ Below w.heap.size w w' := by
  obtain ⟨oa, cap, rfl, hl1, hl2, hcs⟩ := hr.shape
  have HC := Lib.hid hcs
  have HF := Lib.hid hf
  have HB0 := Lib.hid (show Below w.heap.size w (w.alloc (.cells (stCs s (.slice oa s.lines.length cap)) 25)) from (Below.refl _ _).alloc (Nat.le_refl _) _)
  have HE0 := Lib.hid (stBlk_alloc w s (.slice oa s.lines.length cap))
  clear hr hcs hf
  go_enter Tryd.func23, Tryd.ntmps23
  go_wp2
  go_loopw [7] (fun iv wr => ∃ (k : Nat), k ≤ s.lines.length ∧ iv = .int .i64 k ∧ Hid (noneB (s.lines.take k) = true) ∧ wr = w.alloc (.cells (stCs s (.slice oa s.lines.length cap)) 25)) (fun iv _ => s.lines.length - (intOf iv).toNat)
  case atStart => exact ⟨0, Nat.zero_le _, rfl, Lib.hid rfl, rfl⟩
  case round =>
    obtain ⟨k, hk, rfl, HN, rfl⟩ := hrel
    by_cases hlt : k < s.lines.length
    · obtain ⟨l, hl, htk, hmem⟩ := nth s.lines k hlt
      have q1 : (k : Int) < (s.lines.length : Int) := by omega
      obtain ⟨b, off, rfl, hcell⟩ := HC.out k l hl
      have hc := range_later hcell HB0.out
      have c3 : (w.alloc (.cells (stCs s (.slice (some ⟨b, off, none⟩) s.lines.length cap)) 25)).cell? ⟨b, off + k * 4 + 3, none⟩ = some (.int .i64 l.shipped) := hc 3 _ rfl
      have c5 : (w.alloc (.cells (stCs s (.slice (some ⟨b, off, none⟩) s.lines.length cap)) 25)).cell? ⟨w.heap.size, 5, none⟩ = some (.slice (some ⟨b, off, none⟩) s.lines.length cap) := HE0.out.cell 5
      have hfl := HF.out l hmem
      simp only [lnFine, btw, Bool.and_eq_true, decide_eq_true_eq] at hfl
      have hge := hfl.2.1
      have htn : noneB (s.lines.take (k + 1)) = (noneB (s.lines.take k) && (l.shipped == 0)) := by rw [htk]; simp [noneB]
      by_cases hz : l.shipped = 0
      · have HN' := Lib.hid (show noneB (s.lines.take (k + 1)) = true by rw [htn, HN.out, hz]; rfl)
        have d1 : ¬ ((0 : Int) < l.shipped) := by omega
        clear hl htk hmem hcell hc hfl hge htn hz
        go_wp2
        go_roundw
        case rel => exact ⟨k + 1, by omega, by go_num, HN', trivial⟩
        case measure => first | (simp [intOf]; done) | (simp [intOf]; omega)
      · have hfin := Lib.hid (show noneB s.lines = false by
          have h1 : noneB (s.lines.take (k + 1)) = false := by
            have hb : (l.shipped == 0) = false := by rw [beq_eq_false_iff_ne]; exact hz
            rw [htn, hb, Bool.and_false]
          rw [← List.take_append_drop (k + 1) s.lines]
          unfold noneB at h1 ⊢
          rw [List.all_append, h1, Bool.false_and])
        have d1 : (0 : Int) < l.shipped := by omega
        clear hl htk hmem hcell hc hfl hge htn hz
        go_wp2
        go_ret
        exact ⟨by rw [hfin.out]; rfl, HB0.out⟩
    · obtain rfl : k = s.lines.length := by omega
      have hfin := Lib.hid (show noneB s.lines = true by rw [← HN.out, List.take_length])
      go_wp2
      go_ret
      exact ⟨by rw [hfin.out]; rfl, HB0.out⟩

set_option maxRecDepth 100000 in
set_option maxHeartbeats 4000000 in
theorem rwhole_any (s : St) (lv : Value) (w : World) (hr : LnRow w lv s.lines) (hf : ∀ l ∈ s.lines, lnFine l = true) :
    Calls Tryd.prog 24 #[stV s lv] w fun e w' => e = .returned (.bool (wholeB s.lines)) ∧ Below w.heap.size w w' := by
  obtain ⟨oa, cap, rfl, hl1, hl2, hcs⟩ := hr.shape
  have HC := Lib.hid hcs
  have HF := Lib.hid hf
  have HB0 := Lib.hid (show Below w.heap.size w (w.alloc (.cells (stCs s (.slice oa s.lines.length cap)) 25)) from (Below.refl _ _).alloc (Nat.le_refl _) _)
  have HE0 := Lib.hid (stBlk_alloc w s (.slice oa s.lines.length cap))
  clear hr hcs hf
  go_enter Tryd.func24, Tryd.ntmps24
  go_wp2
  go_loopw [7] (fun iv wr => ∃ (k : Nat), k ≤ s.lines.length ∧ iv = .int .i64 k ∧ Hid (wholeB (s.lines.take k) = true) ∧ Hid (StBlk wr w.heap.size s (.slice oa s.lines.length cap) ∧ Below w.heap.size w wr)) (fun iv _ => s.lines.length - (intOf iv).toNat)
  case atStart => exact ⟨0, Nat.zero_le _, rfl, Lib.hid rfl, Lib.hid ⟨HE0.out, HB0.out⟩⟩
  case round =>
    obtain ⟨k, hk, rfl, HN, HW⟩ := hrel
    by_cases hlt : k < s.lines.length
    · obtain ⟨l, hl, htk, hmem⟩ := nth s.lines k hlt
      have q1 : (k : Int) < (s.lines.length : Int) := by omega
      obtain ⟨b, off, rfl, hcell⟩ := HC.out k l hl
      have hc := range_later hcell HW.out.2
      have c3 : wr.cell? ⟨b, off + k * 4 + 3, none⟩ = some (.int .i64 l.shipped) := hc 3 _ rfl
      have c2 : wr.cell? ⟨b, off + k * 4 + 2, none⟩ = some (.int .i64 l.qty) := hc 2 _ rfl
      have c5 : wr.cell? ⟨w.heap.size, 5, none⟩ = some (.slice (some ⟨b, off, none⟩) s.lines.length cap) := HW.out.1.cell 5
      have hfl := HF.out l hmem
      simp only [lnFine, btw, Bool.and_eq_true, decide_eq_true_eq] at hfl
      have hge := hfl.2.2
      have htn : wholeB (s.lines.take (k + 1)) = (wholeB (s.lines.take k) && (l.shipped == l.qty)) := by rw [htk]; simp [wholeB]
      by_cases hz : l.shipped = l.qty
      · have HN' := Lib.hid (show wholeB (s.lines.take (k + 1)) = true by rw [htn, HN.out, hz]; simp)
        have d1 : ¬ (l.shipped < l.qty) := by omega
        clear hl htk hmem hcell hc hfl hge htn hz
        go_wp2
        go_quiet (fail)
        go_wp2
        go_roundw
        case rel => exact ⟨k + 1, by omega, by go_num, HN', Lib.hid ⟨HW.out.1.below (below_drewN' wr _), Below.next HW.out.2 (below_drewN' wr _)⟩⟩
        case measure => first | (simp [intOf]; done) | (simp [intOf]; omega)
      · have hfin := Lib.hid (show wholeB s.lines = false by
          have h1 : wholeB (s.lines.take (k + 1)) = false := by
            have hb : (l.shipped == l.qty) = false := by rw [beq_eq_false_iff_ne]; exact hz
            rw [htn, hb, Bool.and_false]
          rw [← List.take_append_drop (k + 1) s.lines]
          unfold wholeB at h1 ⊢
          rw [List.all_append, h1, Bool.false_and])
        have d1 : l.shipped < l.qty := by omega
        clear hl htk hmem hcell hc hfl hge htn hz
        go_wp2
        go_quiet (fail)
        go_wp2
        go_ret
        exact ⟨by rw [hfin.out]; rfl, Below.next HW.out.2 (below_drewN' wr _)⟩
    · obtain rfl : k = s.lines.length := by omega
      have hfin := Lib.hid (show wholeB s.lines = true by rw [← HN.out, List.take_length])
      go_wp2
      go_ret
      exact ⟨by rw [hfin.out]; rfl, HW.out.2⟩

theorem rstands_held (s : St) (lv : Value) (w : World) (h : s.status = 2) :
    Calls Tryd.prog 22 #[stV s lv] w fun e w' => e = .returned (.int .i64 s.prior) ∧ Below w.heap.size w w' := by
  have d1 : (s.status == 2) = true := by rw [beq_iff_eq]; exact h
  clear h
  go_enter Tryd.func22, Tryd.ntmps22
  go_wp2
  go_ret
  exact ⟨rfl, (Below.refl _ _).alloc (Nat.le_refl _) _⟩
theorem rstands_else (s : St) (lv : Value) (w : World) (h : s.status ≠ 2) :
    Calls Tryd.prog 22 #[stV s lv] w fun e w' => e = .returned (.int .i64 s.status) ∧ Below w.heap.size w w' := by
  have d1 : (s.status == 2) = false := by rw [beq_eq_false_iff_ne]; exact h
  clear h
  go_enter Tryd.func22, Tryd.ntmps22
  go_wp2
  go_ret
  exact ⟨rfl, (Below.refl _ _).alloc (Nat.le_refl _) _⟩

end Go.Proofs.YtlobohpbgghleaaDoor
