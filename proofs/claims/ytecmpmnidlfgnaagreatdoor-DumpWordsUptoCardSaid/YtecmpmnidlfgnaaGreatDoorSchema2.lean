import Derived.Test.YtecmpmnidlfgnaaGreatDoorSchema1
namespace Go.Proofs.YtecmpmnidlfgnaaGreatDoor
open Go.RowKit

/-! ## schema: the plain form -/

def ev1 (e : Ev) : Ev := { e with cur := 0, tax := 0, who := [], stamp := 0, note := [] }
def ev2 (e : Ev) : Ev := { e with tax := 0, who := [], stamp := 0, note := [] }
def ev3 (e : Ev) : Ev := { e with who := [], stamp := 0, note := [] }
def ev4 (e : Ev) : Ev := { e with stamp := 0, note := [] }

theorem event1_x (e : Ev) (w : World) : Calls Tryz.prog 169 #[v1V e] w fun x w' => x = .returned (evV (ev1 e)) ∧ ((w.alloc (.cells #[.int .i64 e.kind, .int .i64 e.order, .int .i64 e.item, .int .i64 e.qty, .int .i64 e.price] 142)).alloc (.cells #[.int .i64 e.kind, .int .i64 e.order, .int .i64 e.item, .int .i64 e.qty, .int .i64 e.price, .int .i64 0, .int .i64 0, .string ⟨#[]⟩, .int .i64 0, .string ⟨#[]⟩] 24)) = w' := by
  unfold v1V
  go_enter Tryz.func169, Tryz.ntmps169
  go_wp2
  refine bodyPost_ret (v := .agg #[.int .i64 e.kind, .int .i64 e.order, .int .i64 e.item, .int .i64 e.qty, .int .i64 e.price, .int .i64 0, .int .i64 0, .string ⟨#[]⟩, .int .i64 0, .string ⟨#[]⟩]) (by simp [results, Tryz.results169, go_sem]) rfl ⟨rfl, rfl⟩
theorem event2_x (e : Ev) (w : World) : Calls Tryz.prog 176 #[v2V e] w fun x w' => x = .returned (evV (ev2 e)) ∧ (((((w.alloc (.cells #[.int .i64 e.kind, .int .i64 e.order, .int .i64 e.item, .int .i64 e.qty, .int .i64 e.price, .int .i64 e.cur] 144)).alloc (.cells #[.int .i64 e.kind, .int .i64 e.order, .int .i64 e.item, .int .i64 e.qty, .int .i64 e.price, .int .i64 e.cur, .int .i64 0, .string ⟨#[]⟩, .int .i64 0, .string ⟨#[]⟩] 24)).alloc (.cells #[.int .i64 e.kind, .int .i64 e.order, .int .i64 e.item, .int .i64 e.qty, .int .i64 e.price] 142)).alloc (.cells #[.int .i64 e.kind, .int .i64 e.order, .int .i64 e.item, .int .i64 e.qty, .int .i64 e.price, .int .i64 0, .int .i64 0, .string ⟨#[]⟩, .int .i64 0, .string ⟨#[]⟩] 24)).alloc (.cells #[.int .i64 e.kind, .int .i64 e.order, .int .i64 e.item, .int .i64 e.qty, .int .i64 e.price, .int .i64 e.cur, .int .i64 0, .string ⟨#[]⟩, .int .i64 0, .string ⟨#[]⟩] 24)) = w' := by
  unfold v2V
  go_enter Tryz.func176, Tryz.ntmps176
  go_wp2_with (go_at_call 169; (with_reducible refine (event1_x e _).mono ?_); rintro x w' ⟨rfl, rfl⟩)
  refine bodyPost_ret (v := .agg #[.int .i64 e.kind, .int .i64 e.order, .int .i64 e.item, .int .i64 e.qty, .int .i64 e.price, .int .i64 e.cur, .int .i64 0, .string ⟨#[]⟩, .int .i64 0, .string ⟨#[]⟩]) (by simp [results, Tryz.results176, go_sem, ev1]) rfl ⟨rfl, rfl⟩
theorem event3_x (e : Ev) (w : World) : Calls Tryz.prog 179 #[v3V e] w fun x w' => x = .returned (evV (ev3 e)) ∧ ((((((((w.alloc (.cells #[.int .i64 e.kind, .int .i64 e.order, .int .i64 e.item, .int .i64 e.qty, .int .i64 e.price, .int .i64 e.cur, .int .i64 e.tax] 146)).alloc (.cells #[.int .i64 e.kind, .int .i64 e.order, .int .i64 e.item, .int .i64 e.qty, .int .i64 e.price, .int .i64 e.cur, .int .i64 e.tax, .string ⟨#[]⟩, .int .i64 0, .string ⟨#[]⟩] 24)).alloc (.cells #[.int .i64 e.kind, .int .i64 e.order, .int .i64 e.item, .int .i64 e.qty, .int .i64 e.price, .int .i64 e.cur] 144)).alloc (.cells #[.int .i64 e.kind, .int .i64 e.order, .int .i64 e.item, .int .i64 e.qty, .int .i64 e.price, .int .i64 e.cur, .int .i64 0, .string ⟨#[]⟩, .int .i64 0, .string ⟨#[]⟩] 24)).alloc (.cells #[.int .i64 e.kind, .int .i64 e.order, .int .i64 e.item, .int .i64 e.qty, .int .i64 e.price] 142)).alloc (.cells #[.int .i64 e.kind, .int .i64 e.order, .int .i64 e.item, .int .i64 e.qty, .int .i64 e.price, .int .i64 0, .int .i64 0, .string ⟨#[]⟩, .int .i64 0, .string ⟨#[]⟩] 24)).alloc (.cells #[.int .i64 e.kind, .int .i64 e.order, .int .i64 e.item, .int .i64 e.qty, .int .i64 e.price, .int .i64 e.cur, .int .i64 0, .string ⟨#[]⟩, .int .i64 0, .string ⟨#[]⟩] 24)).alloc (.cells #[.int .i64 e.kind, .int .i64 e.order, .int .i64 e.item, .int .i64 e.qty, .int .i64 e.price, .int .i64 e.cur, .int .i64 e.tax, .string ⟨#[]⟩, .int .i64 0, .string ⟨#[]⟩] 24)) = w' := by
  unfold v3V
  go_enter Tryz.func179, Tryz.ntmps179
  go_wp2_with (go_at_call 176; (with_reducible refine (event2_x e _).mono ?_); rintro x w' ⟨rfl, rfl⟩)
  refine bodyPost_ret (v := .agg #[.int .i64 e.kind, .int .i64 e.order, .int .i64 e.item, .int .i64 e.qty, .int .i64 e.price, .int .i64 e.cur, .int .i64 e.tax, .string ⟨#[]⟩, .int .i64 0, .string ⟨#[]⟩]) (by simp [results, Tryz.results179, go_sem, ev2]) rfl ⟨rfl, rfl⟩
theorem event4_x (e : Ev) (w : World) : Calls Tryz.prog 183 #[v4V e] w fun x w' => x = .returned (evV (ev4 e)) ∧ (((((((((((w.alloc (.cells #[.int .i64 e.kind, .int .i64 e.order, .int .i64 e.item, .int .i64 e.qty, .int .i64 e.price, .int .i64 e.cur, .int .i64 e.tax, .string ⟨e.who.toArray⟩] 148)).alloc (.cells #[.int .i64 e.kind, .int .i64 e.order, .int .i64 e.item, .int .i64 e.qty, .int .i64 e.price, .int .i64 e.cur, .int .i64 e.tax, .string ⟨e.who.toArray⟩, .int .i64 0, .string ⟨#[]⟩] 24)).alloc (.cells #[.int .i64 e.kind, .int .i64 e.order, .int .i64 e.item, .int .i64 e.qty, .int .i64 e.price, .int .i64 e.cur, .int .i64 e.tax] 146)).alloc (.cells #[.int .i64 e.kind, .int .i64 e.order, .int .i64 e.item, .int .i64 e.qty, .int .i64 e.price, .int .i64 e.cur, .int .i64 e.tax, .string ⟨#[]⟩, .int .i64 0, .string ⟨#[]⟩] 24)).alloc (.cells #[.int .i64 e.kind, .int .i64 e.order, .int .i64 e.item, .int .i64 e.qty, .int .i64 e.price, .int .i64 e.cur] 144)).alloc (.cells #[.int .i64 e.kind, .int .i64 e.order, .int .i64 e.item, .int .i64 e.qty, .int .i64 e.price, .int .i64 e.cur, .int .i64 0, .string ⟨#[]⟩, .int .i64 0, .string ⟨#[]⟩] 24)).alloc (.cells #[.int .i64 e.kind, .int .i64 e.order, .int .i64 e.item, .int .i64 e.qty, .int .i64 e.price] 142)).alloc (.cells #[.int .i64 e.kind, .int .i64 e.order, .int .i64 e.item, .int .i64 e.qty, .int .i64 e.price, .int .i64 0, .int .i64 0, .string ⟨#[]⟩, .int .i64 0, .string ⟨#[]⟩] 24)).alloc (.cells #[.int .i64 e.kind, .int .i64 e.order, .int .i64 e.item, .int .i64 e.qty, .int .i64 e.price, .int .i64 e.cur, .int .i64 0, .string ⟨#[]⟩, .int .i64 0, .string ⟨#[]⟩] 24)).alloc (.cells #[.int .i64 e.kind, .int .i64 e.order, .int .i64 e.item, .int .i64 e.qty, .int .i64 e.price, .int .i64 e.cur, .int .i64 e.tax, .string ⟨#[]⟩, .int .i64 0, .string ⟨#[]⟩] 24)).alloc (.cells #[.int .i64 e.kind, .int .i64 e.order, .int .i64 e.item, .int .i64 e.qty, .int .i64 e.price, .int .i64 e.cur, .int .i64 e.tax, .string ⟨e.who.toArray⟩, .int .i64 0, .string ⟨#[]⟩] 24)) = w' := by
  unfold v4V
  go_enter Tryz.func183, Tryz.ntmps183
  go_wp2_with (go_at_call 179; (with_reducible refine (event3_x e _).mono ?_); rintro x w' ⟨rfl, rfl⟩)
  refine bodyPost_ret (v := .agg #[.int .i64 e.kind, .int .i64 e.order, .int .i64 e.item, .int .i64 e.qty, .int .i64 e.price, .int .i64 e.cur, .int .i64 e.tax, .string ⟨e.who.toArray⟩, .int .i64 0, .string ⟨#[]⟩]) (by simp [results, Tryz.results183, go_sem, ev3]) rfl ⟨rfl, rfl⟩
theorem event5_x (e : Ev) (w : World) : Calls Tryz.prog 188 #[v5V e] w fun x w' => x = .returned (evV e) ∧ ((((((((((((((w.alloc (.cells #[.int .i64 e.kind, .int .i64 e.order, .int .i64 e.item, .int .i64 e.qty, .int .i64 e.price, .int .i64 e.cur, .int .i64 e.tax, .string ⟨e.who.toArray⟩, .int .i64 e.stamp, .string ⟨e.note.toArray⟩] 150)).alloc (.cells #[.int .i64 e.kind, .int .i64 e.order, .int .i64 e.item, .int .i64 e.qty, .int .i64 e.price, .int .i64 e.cur, .int .i64 e.tax, .string ⟨e.who.toArray⟩, .int .i64 e.stamp, .string ⟨e.note.toArray⟩] 24)).alloc (.cells #[.int .i64 e.kind, .int .i64 e.order, .int .i64 e.item, .int .i64 e.qty, .int .i64 e.price, .int .i64 e.cur, .int .i64 e.tax, .string ⟨e.who.toArray⟩] 148)).alloc (.cells #[.int .i64 e.kind, .int .i64 e.order, .int .i64 e.item, .int .i64 e.qty, .int .i64 e.price, .int .i64 e.cur, .int .i64 e.tax, .string ⟨e.who.toArray⟩, .int .i64 0, .string ⟨#[]⟩] 24)).alloc (.cells #[.int .i64 e.kind, .int .i64 e.order, .int .i64 e.item, .int .i64 e.qty, .int .i64 e.price, .int .i64 e.cur, .int .i64 e.tax] 146)).alloc (.cells #[.int .i64 e.kind, .int .i64 e.order, .int .i64 e.item, .int .i64 e.qty, .int .i64 e.price, .int .i64 e.cur, .int .i64 e.tax, .string ⟨#[]⟩, .int .i64 0, .string ⟨#[]⟩] 24)).alloc (.cells #[.int .i64 e.kind, .int .i64 e.order, .int .i64 e.item, .int .i64 e.qty, .int .i64 e.price, .int .i64 e.cur] 144)).alloc (.cells #[.int .i64 e.kind, .int .i64 e.order, .int .i64 e.item, .int .i64 e.qty, .int .i64 e.price, .int .i64 e.cur, .int .i64 0, .string ⟨#[]⟩, .int .i64 0, .string ⟨#[]⟩] 24)).alloc (.cells #[.int .i64 e.kind, .int .i64 e.order, .int .i64 e.item, .int .i64 e.qty, .int .i64 e.price] 142)).alloc (.cells #[.int .i64 e.kind, .int .i64 e.order, .int .i64 e.item, .int .i64 e.qty, .int .i64 e.price, .int .i64 0, .int .i64 0, .string ⟨#[]⟩, .int .i64 0, .string ⟨#[]⟩] 24)).alloc (.cells #[.int .i64 e.kind, .int .i64 e.order, .int .i64 e.item, .int .i64 e.qty, .int .i64 e.price, .int .i64 e.cur, .int .i64 0, .string ⟨#[]⟩, .int .i64 0, .string ⟨#[]⟩] 24)).alloc (.cells #[.int .i64 e.kind, .int .i64 e.order, .int .i64 e.item, .int .i64 e.qty, .int .i64 e.price, .int .i64 e.cur, .int .i64 e.tax, .string ⟨#[]⟩, .int .i64 0, .string ⟨#[]⟩] 24)).alloc (.cells #[.int .i64 e.kind, .int .i64 e.order, .int .i64 e.item, .int .i64 e.qty, .int .i64 e.price, .int .i64 e.cur, .int .i64 e.tax, .string ⟨e.who.toArray⟩, .int .i64 0, .string ⟨#[]⟩] 24)).alloc (.cells #[.int .i64 e.kind, .int .i64 e.order, .int .i64 e.item, .int .i64 e.qty, .int .i64 e.price, .int .i64 e.cur, .int .i64 e.tax, .string ⟨e.who.toArray⟩, .int .i64 e.stamp, .string ⟨e.note.toArray⟩] 24)) = w' := by
  unfold v5V
  go_enter Tryz.func188, Tryz.ntmps188
  go_wp2_with (go_at_call 183; (with_reducible refine (event4_x e _).mono ?_); rintro x w' ⟨rfl, rfl⟩)
  refine bodyPost_ret (v := .agg #[.int .i64 e.kind, .int .i64 e.order, .int .i64 e.item, .int .i64 e.qty, .int .i64 e.price, .int .i64 e.cur, .int .i64 e.tax, .string ⟨e.who.toArray⟩, .int .i64 e.stamp, .string ⟨e.note.toArray⟩]) (by simp [results, Tryz.results188, go_sem, ev4]) rfl ⟨rfl, rfl⟩
theorem event1_any (e : Ev) (w : World) : Calls Tryz.prog 169 #[v1V e] w fun x w' => x = .returned (evV (ev1 e)) ∧ Below w.heap.size w w' :=
  (event1_x e w).mono fun x w' ⟨he, hw⟩ => ⟨he, by
    subst hw
    repeat (first | exact Below.refl _ _ | refine Below.alloc ?_ (by simp; try omega) _)⟩
theorem event2_any (e : Ev) (w : World) : Calls Tryz.prog 176 #[v2V e] w fun x w' => x = .returned (evV (ev2 e)) ∧ Below w.heap.size w w' :=
  (event2_x e w).mono fun x w' ⟨he, hw⟩ => ⟨he, by
    subst hw
    repeat (first | exact Below.refl _ _ | refine Below.alloc ?_ (by simp; try omega) _)⟩
theorem event3_any (e : Ev) (w : World) : Calls Tryz.prog 179 #[v3V e] w fun x w' => x = .returned (evV (ev3 e)) ∧ Below w.heap.size w w' :=
  (event3_x e w).mono fun x w' ⟨he, hw⟩ => ⟨he, by
    subst hw
    repeat (first | exact Below.refl _ _ | refine Below.alloc ?_ (by simp; try omega) _)⟩
theorem event4_any (e : Ev) (w : World) : Calls Tryz.prog 183 #[v4V e] w fun x w' => x = .returned (evV (ev4 e)) ∧ Below w.heap.size w w' :=
  (event4_x e w).mono fun x w' ⟨he, hw⟩ => ⟨he, by
    subst hw
    repeat (first | exact Below.refl _ _ | refine Below.alloc ?_ (by simp; try omega) _)⟩
theorem event5_any (e : Ev) (w : World) : Calls Tryz.prog 188 #[v5V e] w fun x w' => x = .returned (evV e) ∧ Below w.heap.size w w' :=
  (event5_x e w).mono fun x w' ⟨he, hw⟩ => ⟨he, by
    subst hw
    repeat (first | exact Below.refl _ _ | refine Below.alloc ?_ (by simp; try omega) _)⟩

theorem lift_x (e : Ev) (w : World) : Calls Tryz.prog 90 #[evV e] w fun x w' => x = .returned (v5V e) ∧ Below w.heap.size w w' := by
  unfold evV
  go_enter Tryz.func90, Tryz.ntmps90
  go_wp2
  refine bodyPost_ret (v := v5V e) (by simp [results, Tryz.results90, go_sem]) rfl ⟨rfl, ?_⟩
  repeat (first | exact Below.refl _ _ | refine Below.alloc ?_ (by simp; try omega) _)

end Go.Proofs.YtecmpmnidlfgnaaGreatDoor
