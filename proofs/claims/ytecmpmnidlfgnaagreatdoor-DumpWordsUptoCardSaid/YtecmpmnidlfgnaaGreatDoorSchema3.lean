import Derived.Test.YtecmpmnidlfgnaaGreatDoorSchema2
import Derived.Test.YtecmpmnidlfgnaaGreatDoorRefCheck
namespace Go.Proofs.YtecmpmnidlfgnaaGreatDoor
open Go.RowKit

/-! ## schema.Check -/

theorem m1last (k : Nat) (e : Ev) (w : World) : (Go.method (k + 1) 142 (v1V e) "daybook/schema.last").run Tryz.prog w = .ok (172, v1V e) w := by kernel_rfl
theorem m2last (k : Nat) (e : Ev) (w : World) : (Go.method (k + 1) 144 (v2V e) "daybook/schema.last").run Tryz.prog w = .ok (172, v1V e) w := by kernel_rfl
theorem m3last (k : Nat) (e : Ev) (w : World) : (Go.method (k + 1) 146 (v3V e) "daybook/schema.last").run Tryz.prog w = .ok (181, v3V e) w := by kernel_rfl
theorem m4last (k : Nat) (e : Ev) (w : World) : (Go.method (k + 1) 148 (v4V e) "daybook/schema.last").run Tryz.prog w = .ok (185, v4V e) w := by kernel_rfl
theorem m5last (k : Nat) (e : Ev) (w : World) : (Go.method (k + 1) 150 (v5V e) "daybook/schema.last").run Tryz.prog w = .ok (190, v5V e) w := by kernel_rfl
theorem m1fits (k : Nat) (e : Ev) (w : World) : (Go.method (k + 1) 142 (v1V e) "daybook/schema.fits").run Tryz.prog w = .ok (171, v1V e) w := by kernel_rfl
theorem m2fits (k : Nat) (e : Ev) (w : World) : (Go.method (k + 1) 144 (v2V e) "daybook/schema.fits").run Tryz.prog w = .ok (177, v2V e) w := by kernel_rfl
theorem m3fits (k : Nat) (e : Ev) (w : World) : (Go.method (k + 1) 146 (v3V e) "daybook/schema.fits").run Tryz.prog w = .ok (180, v3V e) w := by kernel_rfl
theorem m4fits (k : Nat) (e : Ev) (w : World) : (Go.method (k + 1) 148 (v4V e) "daybook/schema.fits").run Tryz.prog w = .ok (184, v4V e) w := by kernel_rfl
theorem m5fits (k : Nat) (e : Ev) (w : World) : (Go.method (k + 1) 150 (v5V e) "daybook/schema.fits").run Tryz.prog w = .ok (189, v5V e) w := by kernel_rfl
theorem m1event (k : Nat) (e : Ev) (w : World) : (Go.method (k + 1) 142 (v1V e) "Event").run Tryz.prog w = .ok (169, v1V e) w := by kernel_rfl
theorem m2event (k : Nat) (e : Ev) (w : World) : (Go.method (k + 1) 144 (v2V e) "Event").run Tryz.prog w = .ok (176, v2V e) w := by kernel_rfl
theorem m3event (k : Nat) (e : Ev) (w : World) : (Go.method (k + 1) 146 (v3V e) "Event").run Tryz.prog w = .ok (179, v3V e) w := by kernel_rfl
theorem m4event (k : Nat) (e : Ev) (w : World) : (Go.method (k + 1) 148 (v4V e) "Event").run Tryz.prog w = .ok (183, v4V e) w := by kernel_rfl
theorem m5event (k : Nat) (e : Ev) (w : World) : (Go.method (k + 1) 150 (v5V e) "Event").run Tryz.prog w = .ok (188, v5V e) w := by kernel_rfl

def typedV (v : Int) (e : Ev) : Value :=
  if v = 1 then .iface 142 (v1V e) else if v = 2 then .iface 144 (v2V e) else if v = 3 then .iface 146 (v3V e) else if v = 4 then .iface 148 (v4V e) else if v = 5 then .iface 150 (v5V e) else .nilIface

set_option maxHeartbeats 1000000 in
theorem typed_any (v : Int) (e : Ev) (w : World) : Calls Tryz.prog 64 #[.int .i64 v, evV e] w fun x w' => x = .returned (typedV v e) ∧ Below w.heap.size w w' := by
  have HL := Lib.hid (lift_x e)
  unfold evV
  have hE := evAt_alloc w e 24
  have HE := Lib.hid hE
  clear hE
  by_cases h : 1 ≤ v ∧ v ≤ 5
  · rcases (show v = 1 ∨ v = 2 ∨ v = 3 ∨ v = 4 ∨ v = 5 by omega) with rfl | rfl | rfl | rfl | rfl
    all_goals
      clear h
      go_enter Tryz.func64, Tryz.ntmps64
      go_wp2_with fail
      refine (HL.out _).mono ?_
      rintro x w2 ⟨rfl, hb⟩
      have HB := Lib.hid (Below.next ((Below.refl _ _).alloc (Nat.le_refl _) _) hb)
      clear hb
      go_wp2
      go_ret
      exact ⟨rfl, Below.next HB.out ((Below.refl _ _).alloc (Nat.le_refl _) _)⟩
  · have d1 : (v == 1) = false := by simp; omega
    have d2 : (v == 2) = false := by simp; omega
    have d3 : (v == 3) = false := by simp; omega
    have d4 : (v == 4) = false := by simp; omega
    have d5 : (v == 5) = false := by simp; omega
    have hv := Lib.hid (show typedV v e = .nilIface by unfold typedV; rw [if_neg (by omega), if_neg (by omega), if_neg (by omega), if_neg (by omega), if_neg (by omega)])
    clear h
    go_enter Tryz.func64, Tryz.ntmps64
    go_wp2_with fail
    refine (HL.out _).mono ?_
    rintro x w2 ⟨rfl, hb⟩
    have HB := Lib.hid (Below.next ((Below.refl _ _).alloc (Nat.le_refl _) _) hb)
    clear hb
    go_wp2
    go_ret
    exact ⟨by rw [hv.out]; rfl, Below.next HB.out ((Below.refl _ _).alloc (Nat.le_refl _) _)⟩

end Go.Proofs.YtecmpmnidlfgnaaGreatDoor
