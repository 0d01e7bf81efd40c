import Derived.Test.YtecmpmnidlfgnaaGreatDoorRefCheck0
namespace Go.Proofs.YtecmpmnidlfgnaaGreatDoor
open Go.RowKit

/-! ## schema: bounds -/

theorem within_any (x lo hi : Int) (w : World) : Calls Tryz.prog 175 #[.int .i64 x, .int .i64 lo, .int .i64 hi] w fun e w' => e = .returned (.bool (btw x lo hi)) ∧ w = w' := by
  by_cases h1 : lo ≤ x
  · by_cases h2 : x ≤ hi
    · have hr := Lib.hid (show btw x lo hi = true by simp [btw, h1, h2])
      have d1 := decide_eq_true h1
      have d2 := decide_eq_true h2
      go_enter Tryz.func175, Tryz.ntmps175
      go_wp2
      go_ret
      exact ⟨by rw [hr.out]; rfl, rfl⟩
    · have hr := Lib.hid (show btw x lo hi = false by simp [btw, h2])
      have d1 := decide_eq_true h1
      have d2 := decide_eq_false h2
      go_enter Tryz.func175, Tryz.ntmps175
      go_wp2
      go_ret
      exact ⟨by rw [hr.out]; rfl, rfl⟩
  · have hr := Lib.hid (show btw x lo hi = false by simp [btw, h1])
    have d1 := decide_eq_false h1
    go_enter Tryz.func175, Tryz.ntmps175
    go_wp2
    go_ret
    exact ⟨by rw [hr.out]; rfl, rfl⟩

def coreB (e : Ev) (least dear : Int) : Bool := btw e.order 1 1099511627776 && btw e.item 0 65535 && btw e.qty least 10000 && btw e.price 0 dear
@[reducible] def v1V (e : Ev) : Value := .agg #[.int .i64 e.kind, .int .i64 e.order, .int .i64 e.item, .int .i64 e.qty, .int .i64 e.price]
@[reducible] def v2V (e : Ev) : Value := .agg #[.int .i64 e.kind, .int .i64 e.order, .int .i64 e.item, .int .i64 e.qty, .int .i64 e.price, .int .i64 e.cur]
@[reducible] def v3V (e : Ev) : Value := .agg #[.int .i64 e.kind, .int .i64 e.order, .int .i64 e.item, .int .i64 e.qty, .int .i64 e.price, .int .i64 e.cur, .int .i64 e.tax]
@[reducible] def v4V (e : Ev) : Value := .agg #[.int .i64 e.kind, .int .i64 e.order, .int .i64 e.item, .int .i64 e.qty, .int .i64 e.price, .int .i64 e.cur, .int .i64 e.tax, .string ⟨e.who.toArray⟩]
@[reducible] def v5V (e : Ev) : Value := .agg #[.int .i64 e.kind, .int .i64 e.order, .int .i64 e.item, .int .i64 e.qty, .int .i64 e.price, .int .i64 e.cur, .int .i64 e.tax, .string ⟨e.who.toArray⟩, .int .i64 e.stamp, .string ⟨e.note.toArray⟩]

set_option maxHeartbeats 1000000 in
theorem core_any (e : Ev) (least dear : Int) (w : World) : Calls Tryz.prog 174 #[v1V e, .int .i64 least, .int .i64 dear] w fun x w' => x = .returned (.bool (coreB e least dear)) ∧ Below w.heap.size w w' := by
  obtain ⟨b1, hb1⟩ : ∃ b, b = btw e.order 1 1099511627776 := ⟨_, rfl⟩
  obtain ⟨b2, hb2⟩ : ∃ b, b = btw e.item 0 65535 := ⟨_, rfl⟩
  obtain ⟨b3, hb3⟩ : ∃ b, b = btw e.qty least 10000 := ⟨_, rfl⟩
  obtain ⟨b4, hb4⟩ : ∃ b, b = btw e.price 0 dear := ⟨_, rfl⟩
  have hr := Lib.hid (show coreB e least dear = (b1 && b2 && b3 && b4) by rw [coreB, hb1, hb2, hb3, hb4])
  have W1 := Lib.hid (fun W => hb1 ▸ within_any e.order 1 1099511627776 W)
  have W2 := Lib.hid (fun W => hb2 ▸ within_any e.item 0 65535 W)
  have W3 := Lib.hid (fun W => hb3 ▸ within_any e.qty least 10000 W)
  have W4 := Lib.hid (fun W => hb4 ▸ within_any e.price 0 dear W)
  clear hb1 hb2 hb3 hb4
  cases b1 <;> cases b2 <;> cases b3 <;> cases b4
  all_goals
    go_enter Tryz.func174, Tryz.ntmps174
    go_wp2_with (first
      | (go_at_call 175; (with_reducible refine (W1.out _).mono ?_); rintro x w' ⟨rfl, rfl⟩)
      | (go_at_call 175; (with_reducible refine (W2.out _).mono ?_); rintro x w' ⟨rfl, rfl⟩)
      | (go_at_call 175; (with_reducible refine (W3.out _).mono ?_); rintro x w' ⟨rfl, rfl⟩)
      | (go_at_call 175; (with_reducible refine (W4.out _).mono ?_); rintro x w' ⟨rfl, rfl⟩))
    go_ret
    exact ⟨by rw [hr.out]; rfl, (Below.refl _ _).alloc (Nat.le_refl _) _⟩

end Go.Proofs.YtecmpmnidlfgnaaGreatDoor
