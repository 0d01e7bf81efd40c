import Derived.Test.YtecmpmnidlfgnaaGreatDoorRefCheck0
import Derived.Laws.StructEq
namespace Go.Proofs.YtecmpmnidlfgnaaGreatDoor
open Go.RowKit

def evSame (a b : Ev) : Bool := a.kind == b.kind && (a.order == b.order && (a.item == b.item && (a.qty == b.qty && (a.price == b.price && (a.cur == b.cur && (a.tax == b.tax && (a.who == b.who && (a.stamp == b.stamp && a.note == b.note))))))))

theorem evSame_iff (a b : Ev) : evSame a b = true ↔ a = b := by
  unfold evSame
  simp only [Bool.and_eq_true, beq_iff_eq]
  constructor
  · rintro ⟨h0, h1, h2, h3, h4, h5, h6, h7, h8, h9⟩
    exact Ev.ext' h0 h1 h2 h3 h4 h5 h6 h7 h8 h9
  · rintro rfl; simp

set_option maxHeartbeats 1000000 in
theorem run_evEqual (a b : Ev) (w : World) : (Op.equalIn 10000 24 (evV a) (evV b)).run Tryz.prog w = .ok (evSame a b) w := by
  have hS : Tryz.prog.underlying 24 = some (.struct (Tryz.prog.fieldsOf 24)) := by kernel_rfl
  have hp : Tryz.prog.stoodInHeld 24 = false := by kernel_rfl
  unfold evV
  rw [show (10000 : Nat) = 9999 + 1 from rfl, run_equalIn_agg w 9999 24 _ _ hS hp]
  simp only [Program.fieldsOf, Tryz.underlying24]
  go_simp
  unfold evSame
  by_cases h0 : a.kind = b.kind
  case neg => simp [h0]
  rw [if_pos h0]
  by_cases h1 : a.order = b.order
  case neg => simp [h1]
  rw [if_pos h1]
  by_cases h2 : a.item = b.item
  case neg => simp [h2]
  rw [if_pos h2]
  by_cases h3 : a.qty = b.qty
  case neg => simp [h3]
  rw [if_pos h3]
  by_cases h4 : a.price = b.price
  case neg => simp [h4]
  rw [if_pos h4]
  by_cases h5 : a.cur = b.cur
  case neg => simp [h5]
  rw [if_pos h5]
  by_cases h6 : a.tax = b.tax
  case neg => simp [h6]
  rw [if_pos h6]
  by_cases h7 : a.who = b.who
  case neg => simp [h7]
  rw [if_pos h7]
  by_cases h8 : a.stamp = b.stamp
  case neg => simp [h8]
  rw [if_pos h8]
  by_cases h9 : a.note = b.note
  case neg => simp [h9]
  rw [if_pos h9]
  simp [h0, h1, h2, h3, h4, h5, h6, h7, h8, h9]

theorem run_evEql (a b : Ev) (w : World) : (binOp .eql 24 (evV a) (evV b)).run Tryz.prog w = .ok (.bool (evSame a b)) w := by
  unfold evV; rw [run_eql_struct]; have := run_evEqual a b w; unfold evV at this; rw [this]; rfl
theorem run_evNeq (a b : Ev) (w : World) : (binOp .neq 24 (evV a) (evV b)).run Tryz.prog w = .ok (.bool (!evSame a b)) w := by
  unfold evV; rw [run_neq_struct]; have := run_evEqual a b w; unfold evV at this; rw [this]; rfl

end Go.Proofs.YtecmpmnidlfgnaaGreatDoor
