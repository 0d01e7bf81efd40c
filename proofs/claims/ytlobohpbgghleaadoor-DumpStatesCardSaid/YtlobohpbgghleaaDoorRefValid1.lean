import Derived.Test.YtlobohpbgghleaaDoorRefLines
namespace Go.Proofs.YtlobohpbgghleaaDoor
open Go.RowKit

set_option maxRecDepth 100000 in
set_option maxHeartbeats 16000000 in
theorem rv1_1 (s : St) (lv : Value) (w : World) (k1 : decide (s.order < 1) = true) :
    Calls Tryd.prog 11 #[stV s lv] w fun e w' => e = .returned (.bool (validB s)) ∧ Below w.heap.size w w' := by
  have hv := Lib.hid (show validB s = false by
    rw [Bool.eq_false_iff]
    intro h
    have hb := bounded_p (valid_bounded h)
    have h1 := hb.order; have h2 := hb.status; have h3 := hb.cur; have h4 := hb.tax; have h5 := hb.refunded; have h6 := hb.events; have h7 := hb.refused; have h8 := hb.stamp
    simp only [decide_eq_true_eq] at k1
    omega)
  have HB0 := Lib.hid (show Below w.heap.size w (w.alloc (.cells (stCs s lv) 25)) from (Below.refl _ _).alloc (Nat.le_refl _) _)
  go_enter Tryd.func11, Tryd.ntmps11
  go_wp2
  go_ret
  exact ⟨by rw [hv.out]; rfl, HB0.out⟩

set_option maxRecDepth 100000 in
set_option maxHeartbeats 16000000 in
theorem rv1_2 (s : St) (lv : Value) (w : World) (k1 : decide (s.order < 1) = false) (k2 : decide (1099511627776 < s.order) = true) :
    Calls Tryd.prog 11 #[stV s lv] w fun e w' => e = .returned (.bool (validB s)) ∧ Below w.heap.size w w' := by
  have hv := Lib.hid (show validB s = false by
    rw [Bool.eq_false_iff]
    intro h
    have hb := bounded_p (valid_bounded h)
    have h1 := hb.order; have h2 := hb.status; have h3 := hb.cur; have h4 := hb.tax; have h5 := hb.refunded; have h6 := hb.events; have h7 := hb.refused; have h8 := hb.stamp
    simp only [decide_eq_true_eq] at k2
    omega)
  have HB0 := Lib.hid (show Below w.heap.size w (w.alloc (.cells (stCs s lv) 25)) from (Below.refl _ _).alloc (Nat.le_refl _) _)
  go_enter Tryd.func11, Tryd.ntmps11
  go_wp2
  go_ret
  exact ⟨by rw [hv.out]; rfl, HB0.out⟩

set_option maxRecDepth 100000 in
set_option maxHeartbeats 16000000 in
theorem rv1_3 (s : St) (lv : Value) (w : World) (k1 : decide (s.order < 1) = false) (k2 : decide (1099511627776 < s.order) = false) (k3 : decide (s.status < 0) = true) :
    Calls Tryd.prog 11 #[stV s lv] w fun e w' => e = .returned (.bool (validB s)) ∧ Below w.heap.size w w' := by
  have hv := Lib.hid (show validB s = false by
    rw [Bool.eq_false_iff]
    intro h
    have hb := bounded_p (valid_bounded h)
    have h1 := hb.order; have h2 := hb.status; have h3 := hb.cur; have h4 := hb.tax; have h5 := hb.refunded; have h6 := hb.events; have h7 := hb.refused; have h8 := hb.stamp
    simp only [decide_eq_true_eq] at k3
    omega)
  have HB0 := Lib.hid (show Below w.heap.size w (w.alloc (.cells (stCs s lv) 25)) from (Below.refl _ _).alloc (Nat.le_refl _) _)
  go_enter Tryd.func11, Tryd.ntmps11
  go_wp2
  go_ret
  exact ⟨by rw [hv.out]; rfl, HB0.out⟩

set_option maxRecDepth 100000 in
set_option maxHeartbeats 16000000 in
theorem rv1_4 (s : St) (lv : Value) (w : World) (k1 : decide (s.order < 1) = false) (k2 : decide (1099511627776 < s.order) = false) (k3 : decide (s.status < 0) = false) (k4 : decide (5 < s.status) = true) :
    Calls Tryd.prog 11 #[stV s lv] w fun e w' => e = .returned (.bool (validB s)) ∧ Below w.heap.size w w' := by
  have hv := Lib.hid (show validB s = false by
    rw [Bool.eq_false_iff]
    intro h
    have hb := bounded_p (valid_bounded h)
    have h1 := hb.order; have h2 := hb.status; have h3 := hb.cur; have h4 := hb.tax; have h5 := hb.refunded; have h6 := hb.events; have h7 := hb.refused; have h8 := hb.stamp
    simp only [decide_eq_true_eq] at k4
    omega)
  have HB0 := Lib.hid (show Below w.heap.size w (w.alloc (.cells (stCs s lv) 25)) from (Below.refl _ _).alloc (Nat.le_refl _) _)
  go_enter Tryd.func11, Tryd.ntmps11
  go_wp2
  go_ret
  exact ⟨by rw [hv.out]; rfl, HB0.out⟩

set_option maxRecDepth 100000 in
set_option maxHeartbeats 16000000 in
theorem rv1_5 (s : St) (lv : Value) (w : World) (k1 : decide (s.order < 1) = false) (k2 : decide (1099511627776 < s.order) = false) (k3 : decide (s.status < 0) = false) (k4 : decide (5 < s.status) = false) (k5 : decide (s.cur < 0) = true) :
    Calls Tryd.prog 11 #[stV s lv] w fun e w' => e = .returned (.bool (validB s)) ∧ Below w.heap.size w w' := by
  have hv := Lib.hid (show validB s = false by
    rw [Bool.eq_false_iff]
    intro h
    have hb := bounded_p (valid_bounded h)
    have h1 := hb.order; have h2 := hb.status; have h3 := hb.cur; have h4 := hb.tax; have h5 := hb.refunded; have h6 := hb.events; have h7 := hb.refused; have h8 := hb.stamp
    simp only [decide_eq_true_eq] at k5
    omega)
  have HB0 := Lib.hid (show Below w.heap.size w (w.alloc (.cells (stCs s lv) 25)) from (Below.refl _ _).alloc (Nat.le_refl _) _)
  go_enter Tryd.func11, Tryd.ntmps11
  go_wp2
  go_ret
  exact ⟨by rw [hv.out]; rfl, HB0.out⟩

set_option maxRecDepth 100000 in
set_option maxHeartbeats 16000000 in
theorem rv1_6 (s : St) (lv : Value) (w : World) (k1 : decide (s.order < 1) = false) (k2 : decide (1099511627776 < s.order) = false) (k3 : decide (s.status < 0) = false) (k4 : decide (5 < s.status) = false) (k5 : decide (s.cur < 0) = false) (k6 : decide (3 < s.cur) = true) :
    Calls Tryd.prog 11 #[stV s lv] w fun e w' => e = .returned (.bool (validB s)) ∧ Below w.heap.size w w' := by
  have hv := Lib.hid (show validB s = false by
    rw [Bool.eq_false_iff]
    intro h
    have hb := bounded_p (valid_bounded h)
    have h1 := hb.order; have h2 := hb.status; have h3 := hb.cur; have h4 := hb.tax; have h5 := hb.refunded; have h6 := hb.events; have h7 := hb.refused; have h8 := hb.stamp
    simp only [decide_eq_true_eq] at k6
    omega)
  have HB0 := Lib.hid (show Below w.heap.size w (w.alloc (.cells (stCs s lv) 25)) from (Below.refl _ _).alloc (Nat.le_refl _) _)
  go_enter Tryd.func11, Tryd.ntmps11
  go_wp2
  go_ret
  exact ⟨by rw [hv.out]; rfl, HB0.out⟩

set_option maxRecDepth 100000 in
set_option maxHeartbeats 16000000 in
theorem rv1_7 (s : St) (lv : Value) (w : World) (k1 : decide (s.order < 1) = false) (k2 : decide (1099511627776 < s.order) = false) (k3 : decide (s.status < 0) = false) (k4 : decide (5 < s.status) = false) (k5 : decide (s.cur < 0) = false) (k6 : decide (3 < s.cur) = false) (k7 : decide (s.tax < 0) = true) :
    Calls Tryd.prog 11 #[stV s lv] w fun e w' => e = .returned (.bool (validB s)) ∧ Below w.heap.size w w' := by
  have hv := Lib.hid (show validB s = false by
    rw [Bool.eq_false_iff]
    intro h
    have hb := bounded_p (valid_bounded h)
    have h1 := hb.order; have h2 := hb.status; have h3 := hb.cur; have h4 := hb.tax; have h5 := hb.refunded; have h6 := hb.events; have h7 := hb.refused; have h8 := hb.stamp
    simp only [decide_eq_true_eq] at k7
    omega)
  have HB0 := Lib.hid (show Below w.heap.size w (w.alloc (.cells (stCs s lv) 25)) from (Below.refl _ _).alloc (Nat.le_refl _) _)
  go_enter Tryd.func11, Tryd.ntmps11
  go_wp2
  go_ret
  exact ⟨by rw [hv.out]; rfl, HB0.out⟩

set_option maxRecDepth 100000 in
set_option maxHeartbeats 16000000 in
theorem rv1_8 (s : St) (lv : Value) (w : World) (k1 : decide (s.order < 1) = false) (k2 : decide (1099511627776 < s.order) = false) (k3 : decide (s.status < 0) = false) (k4 : decide (5 < s.status) = false) (k5 : decide (s.cur < 0) = false) (k6 : decide (3 < s.cur) = false) (k7 : decide (s.tax < 0) = false) (k8 : decide (5000 < s.tax) = true) :
    Calls Tryd.prog 11 #[stV s lv] w fun e w' => e = .returned (.bool (validB s)) ∧ Below w.heap.size w w' := by
  have hv := Lib.hid (show validB s = false by
    rw [Bool.eq_false_iff]
    intro h
    have hb := bounded_p (valid_bounded h)
    have h1 := hb.order; have h2 := hb.status; have h3 := hb.cur; have h4 := hb.tax; have h5 := hb.refunded; have h6 := hb.events; have h7 := hb.refused; have h8 := hb.stamp
    simp only [decide_eq_true_eq] at k8
    omega)
  have HB0 := Lib.hid (show Below w.heap.size w (w.alloc (.cells (stCs s lv) 25)) from (Below.refl _ _).alloc (Nat.le_refl _) _)
  go_enter Tryd.func11, Tryd.ntmps11
  go_wp2
  go_ret
  exact ⟨by rw [hv.out]; rfl, HB0.out⟩

set_option maxRecDepth 100000 in
set_option maxHeartbeats 16000000 in
theorem rv3_1 (s : St) (lv : Value) (w : World) (k1 : decide (s.order < 1) = false) (k2 : decide (1099511627776 < s.order) = false) (k3 : decide (s.status < 0) = false) (k4 : decide (5 < s.status) = false) (k5 : decide (s.cur < 0) = false) (k6 : decide (3 < s.cur) = false) (k7 : decide (s.tax < 0) = false) (k8 : decide (5000 < s.tax) = false) (e1 : decide (s.events < 0) = true) :
    Calls Tryd.prog 11 #[stV s lv] w fun e w' => e = .returned (.bool (validB s)) ∧ Below w.heap.size w w' := by
  have hv := Lib.hid (show validB s = false by
    rw [Bool.eq_false_iff]
    intro h
    have hb := bounded_p (valid_bounded h)
    have h1 := hb.order; have h2 := hb.status; have h3 := hb.cur; have h4 := hb.tax; have h5 := hb.refunded; have h6 := hb.events; have h7 := hb.refused; have h8 := hb.stamp
    simp only [decide_eq_true_eq] at e1
    omega)
  have HB0 := Lib.hid (show Below w.heap.size w (w.alloc (.cells (stCs s lv) 25)) from (Below.refl _ _).alloc (Nat.le_refl _) _)
  go_enter Tryd.func11, Tryd.ntmps11
  go_wp2
  go_ret
  exact ⟨by rw [hv.out]; rfl, HB0.out⟩

set_option maxRecDepth 100000 in
set_option maxHeartbeats 16000000 in
theorem rv3_2 (s : St) (lv : Value) (w : World) (k1 : decide (s.order < 1) = false) (k2 : decide (1099511627776 < s.order) = false) (k3 : decide (s.status < 0) = false) (k4 : decide (5 < s.status) = false) (k5 : decide (s.cur < 0) = false) (k6 : decide (3 < s.cur) = false) (k7 : decide (s.tax < 0) = false) (k8 : decide (5000 < s.tax) = false) (e1 : decide (s.events < 0) = false) (e2 : decide (1099511627776 < s.events) = true) :
    Calls Tryd.prog 11 #[stV s lv] w fun e w' => e = .returned (.bool (validB s)) ∧ Below w.heap.size w w' := by
  have hv := Lib.hid (show validB s = false by
    rw [Bool.eq_false_iff]
    intro h
    have hb := bounded_p (valid_bounded h)
    have h1 := hb.order; have h2 := hb.status; have h3 := hb.cur; have h4 := hb.tax; have h5 := hb.refunded; have h6 := hb.events; have h7 := hb.refused; have h8 := hb.stamp
    simp only [decide_eq_true_eq] at e2
    omega)
  have HB0 := Lib.hid (show Below w.heap.size w (w.alloc (.cells (stCs s lv) 25)) from (Below.refl _ _).alloc (Nat.le_refl _) _)
  go_enter Tryd.func11, Tryd.ntmps11
  go_wp2
  go_ret
  exact ⟨by rw [hv.out]; rfl, HB0.out⟩

set_option maxRecDepth 100000 in
set_option maxHeartbeats 16000000 in
theorem rv3_3 (s : St) (lv : Value) (w : World) (k1 : decide (s.order < 1) = false) (k2 : decide (1099511627776 < s.order) = false) (k3 : decide (s.status < 0) = false) (k4 : decide (5 < s.status) = false) (k5 : decide (s.cur < 0) = false) (k6 : decide (3 < s.cur) = false) (k7 : decide (s.tax < 0) = false) (k8 : decide (5000 < s.tax) = false) (e1 : decide (s.events < 0) = false) (e2 : decide (1099511627776 < s.events) = false) (e3 : decide (s.refused < 0) = true) :
    Calls Tryd.prog 11 #[stV s lv] w fun e w' => e = .returned (.bool (validB s)) ∧ Below w.heap.size w w' := by
  have hv := Lib.hid (show validB s = false by
    rw [Bool.eq_false_iff]
    intro h
    have hb := bounded_p (valid_bounded h)
    have h1 := hb.order; have h2 := hb.status; have h3 := hb.cur; have h4 := hb.tax; have h5 := hb.refunded; have h6 := hb.events; have h7 := hb.refused; have h8 := hb.stamp
    simp only [decide_eq_true_eq] at e3
    omega)
  have HB0 := Lib.hid (show Below w.heap.size w (w.alloc (.cells (stCs s lv) 25)) from (Below.refl _ _).alloc (Nat.le_refl _) _)
  go_enter Tryd.func11, Tryd.ntmps11
  go_wp2
  go_ret
  exact ⟨by rw [hv.out]; rfl, HB0.out⟩

set_option maxRecDepth 100000 in
set_option maxHeartbeats 16000000 in
theorem rv3_4 (s : St) (lv : Value) (w : World) (k1 : decide (s.order < 1) = false) (k2 : decide (1099511627776 < s.order) = false) (k3 : decide (s.status < 0) = false) (k4 : decide (5 < s.status) = false) (k5 : decide (s.cur < 0) = false) (k6 : decide (3 < s.cur) = false) (k7 : decide (s.tax < 0) = false) (k8 : decide (5000 < s.tax) = false) (e1 : decide (s.events < 0) = false) (e2 : decide (1099511627776 < s.events) = false) (e3 : decide (s.refused < 0) = false) (e4 : decide (s.events < s.refused) = true) :
    Calls Tryd.prog 11 #[stV s lv] w fun e w' => e = .returned (.bool (validB s)) ∧ Below w.heap.size w w' := by
  have hv := Lib.hid (show validB s = false by
    rw [Bool.eq_false_iff]
    intro h
    have hb := bounded_p (valid_bounded h)
    have h1 := hb.order; have h2 := hb.status; have h3 := hb.cur; have h4 := hb.tax; have h5 := hb.refunded; have h6 := hb.events; have h7 := hb.refused; have h8 := hb.stamp
    simp only [decide_eq_true_eq] at e4
    omega)
  have HB0 := Lib.hid (show Below w.heap.size w (w.alloc (.cells (stCs s lv) 25)) from (Below.refl _ _).alloc (Nat.le_refl _) _)
  go_enter Tryd.func11, Tryd.ntmps11
  go_wp2
  go_ret
  exact ⟨by rw [hv.out]; rfl, HB0.out⟩

set_option maxRecDepth 100000 in
set_option maxHeartbeats 16000000 in
theorem rv3_5 (s : St) (lv : Value) (w : World) (k1 : decide (s.order < 1) = false) (k2 : decide (1099511627776 < s.order) = false) (k3 : decide (s.status < 0) = false) (k4 : decide (5 < s.status) = false) (k5 : decide (s.cur < 0) = false) (k6 : decide (3 < s.cur) = false) (k7 : decide (s.tax < 0) = false) (k8 : decide (5000 < s.tax) = false) (e1 : decide (s.events < 0) = false) (e2 : decide (1099511627776 < s.events) = false) (e3 : decide (s.refused < 0) = false) (e4 : decide (s.events < s.refused) = false) (e5 : decide (s.stamp < 0) = true) :
    Calls Tryd.prog 11 #[stV s lv] w fun e w' => e = .returned (.bool (validB s)) ∧ Below w.heap.size w w' := by
  have hv := Lib.hid (show validB s = false by
    rw [Bool.eq_false_iff]
    intro h
    have hb := bounded_p (valid_bounded h)
    have h1 := hb.order; have h2 := hb.status; have h3 := hb.cur; have h4 := hb.tax; have h5 := hb.refunded; have h6 := hb.events; have h7 := hb.refused; have h8 := hb.stamp
    simp only [decide_eq_true_eq] at e5
    omega)
  have HB0 := Lib.hid (show Below w.heap.size w (w.alloc (.cells (stCs s lv) 25)) from (Below.refl _ _).alloc (Nat.le_refl _) _)
  go_enter Tryd.func11, Tryd.ntmps11
  go_wp2
  go_ret
  exact ⟨by rw [hv.out]; rfl, HB0.out⟩

set_option maxRecDepth 100000 in
set_option maxHeartbeats 16000000 in
theorem rv3_6 (s : St) (lv : Value) (w : World) (k1 : decide (s.order < 1) = false) (k2 : decide (1099511627776 < s.order) = false) (k3 : decide (s.status < 0) = false) (k4 : decide (5 < s.status) = false) (k5 : decide (s.cur < 0) = false) (k6 : decide (3 < s.cur) = false) (k7 : decide (s.tax < 0) = false) (k8 : decide (5000 < s.tax) = false) (e1 : decide (s.events < 0) = false) (e2 : decide (1099511627776 < s.events) = false) (e3 : decide (s.refused < 0) = false) (e4 : decide (s.events < s.refused) = false) (e5 : decide (s.stamp < 0) = false) (e6 : decide (1099511627776 < s.stamp) = true) :
    Calls Tryd.prog 11 #[stV s lv] w fun e w' => e = .returned (.bool (validB s)) ∧ Below w.heap.size w w' := by
  have hv := Lib.hid (show validB s = false by
    rw [Bool.eq_false_iff]
    intro h
    have hb := bounded_p (valid_bounded h)
    have h1 := hb.order; have h2 := hb.status; have h3 := hb.cur; have h4 := hb.tax; have h5 := hb.refunded; have h6 := hb.events; have h7 := hb.refused; have h8 := hb.stamp
    simp only [decide_eq_true_eq] at e6
    omega)
  have HB0 := Lib.hid (show Below w.heap.size w (w.alloc (.cells (stCs s lv) 25)) from (Below.refl _ _).alloc (Nat.le_refl _) _)
  go_enter Tryd.func11, Tryd.ntmps11
  go_wp2
  go_ret
  exact ⟨by rw [hv.out]; rfl, HB0.out⟩

theorem sixC (b1 b2 b3 b4 b5 b6 : Bool) : (b1 = true) ∨ (b1 = false ∧ b2 = true) ∨ (b1 = false ∧ b2 = false ∧ b3 = true) ∨ (b1 = false ∧ b2 = false ∧ b3 = false ∧ b4 = true) ∨ (b1 = false ∧ b2 = false ∧ b3 = false ∧ b4 = false ∧ b5 = true) ∨ (b1 = false ∧ b2 = false ∧ b3 = false ∧ b4 = false ∧ b5 = false ∧ b6 = true) ∨ (b1 = false ∧ b2 = false ∧ b3 = false ∧ b4 = false ∧ b5 = false ∧ b6 = false) := by
  cases b1 <;> simp <;> cases b2 <;> simp <;> cases b3 <;> simp <;> cases b4 <;> simp <;> cases b5 <;> simp <;> cases b6 <;> simp

end Go.Proofs.YtlobohpbgghleaaDoor
