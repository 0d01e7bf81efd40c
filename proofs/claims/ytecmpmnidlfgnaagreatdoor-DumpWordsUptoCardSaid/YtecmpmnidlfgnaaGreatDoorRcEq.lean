import Derived.Test.YtecmpmnidlfgnaaGreatDoorRec
namespace Go.Proofs.YtecmpmnidlfgnaaGreatDoor
open Go.RowKit

def recSame (a b : Rec) : Bool := a.1 == b.1 && evSame a.2 b.2
theorem recSame_iff (a b : Rec) : recSame a b = true ↔ a = b := by
  unfold recSame
  simp only [Bool.and_eq_true, beq_iff_eq, evSame_iff]
  constructor
  · rintro ⟨h1, h2⟩; exact Prod.ext h1 h2
  · rintro rfl; exact ⟨rfl, rfl⟩

set_option maxHeartbeats 1000000 in
theorem run_rcEqual (a b : Rec) (w : World) : (Op.equalIn 10000 37 (recV a) (recV b)).run Tryz.prog w = .ok (recSame a b) w := by
  have hS : Tryz.prog.underlying 37 = some (.struct (Tryz.prog.fieldsOf 37)) := by kernel_rfl
  have hp : Tryz.prog.stoodInHeld 37 = false := by kernel_rfl
  unfold recV
  rw [show (10000 : Nat) = 9999 + 1 from rfl, run_equalIn_agg w 9999 37 _ _ hS hp]
  simp only [Program.fieldsOf, Tryz.underlying37]
  go_simp
  unfold recSame
  by_cases h0 : a.1 = b.1
  case neg => simp [h0]
  rw [if_pos h0]
  unfold evSame
  by_cases k0 : a.2.kind = b.2.kind
  case neg => simp [k0]
  rw [if_pos k0]
  by_cases k1 : a.2.order = b.2.order
  case neg => simp [k1]
  rw [if_pos k1]
  by_cases k2 : a.2.item = b.2.item
  case neg => simp [k2]
  rw [if_pos k2]
  by_cases k3 : a.2.qty = b.2.qty
  case neg => simp [k3]
  rw [if_pos k3]
  by_cases k4 : a.2.price = b.2.price
  case neg => simp [k4]
  rw [if_pos k4]
  by_cases k5 : a.2.cur = b.2.cur
  case neg => simp [k5]
  rw [if_pos k5]
  by_cases k6 : a.2.tax = b.2.tax
  case neg => simp [k6]
  rw [if_pos k6]
  by_cases k7 : a.2.who = b.2.who
  case neg => simp [k7]
  rw [if_pos k7]
  by_cases k8 : a.2.stamp = b.2.stamp
  case neg => simp [k8]
  rw [if_pos k8]
  by_cases k9 : a.2.note = b.2.note
  case neg => simp [k9]
  rw [if_pos k9]
  simp [h0, k0, k1, k2, k3, k4, k5, k6, k7, k8, k9]

theorem run_rcEql (a b : Rec) (w : World) : (binOp .eql 37 (recV a) (recV b)).run Tryz.prog w = .ok (.bool (recSame a b)) w := by
  unfold recV; rw [run_eql_struct]; have := run_rcEqual a b w; unfold recV at this; rw [this]; rfl
theorem run_rcNeq (a b : Rec) (w : World) : (binOp .neq 37 (recV a) (recV b)).run Tryz.prog w = .ok (.bool (!recSame a b)) w := by
  unfold recV; rw [run_neq_struct]; have := run_rcEqual a b w; unfold recV at this; rw [this]; rfl

end Go.Proofs.YtecmpmnidlfgnaaGreatDoor
