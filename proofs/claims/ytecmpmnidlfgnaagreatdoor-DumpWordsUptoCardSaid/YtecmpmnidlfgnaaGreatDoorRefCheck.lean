import Derived.Test.YtecmpmnidlfgnaaGreatDoorRefCheck0
namespace Go.Proofs.YtecmpmnidlfgnaaGreatDoor
open Go.RowKit

/-! ## the reference's Check -/

def ChkPost (n : Int) (w : World) (x : Ending) (w' : World) : Prop := x = .returned (.int .i64 n) ∧ Below w.heap.size w w'

theorem chk30 {v : Int} {e : Ev} (h : v < 1 ∨ 5 < v) : evCheck v e = 30 := by unfold evCheck; rw [if_pos h]
theorem chk31 {v : Int} {e : Ev} (h0 : ¬ (v < 1 ∨ 5 < v)) (h : e.kind < 1 ∨ lastKind v < e.kind) : evCheck v e = 31 := by unfold evCheck; rw [if_neg h0, if_pos h]
theorem chk24 {v : Int} {e : Ev} (h0 : ¬ (v < 1 ∨ 5 < v)) (h1 : ¬ (e.kind < 1 ∨ lastKind v < e.kind)) (h : 16 < e.who.length ∨ 120 < e.note.length) : evCheck v e = 24 := by
  unfold evCheck; rw [if_neg h0, if_neg h1, if_pos h]
theorem chkRest {v : Int} {e : Ev} (h0 : ¬ (v < 1 ∨ 5 < v)) (h1 : ¬ (e.kind < 1 ∨ lastKind v < e.kind)) (h2 : ¬ (16 < e.who.length ∨ 120 < e.note.length)) : evCheck v e = if evFits v e = true then 0 else 32 := by
  unfold evCheck; rw [if_neg h0, if_neg h1, if_neg h2]

theorem refCheck_version (v : Int) (e : Ev) (w : World) (h : v < 1 ∨ 5 < v) : Calls Tryz.prog 42 #[.int .i64 v, evV e] w (ChkPost (evCheck v e) w) := by
  have hf := Lib.hid (chk30 (e := e) h)
  unfold evV
  go_enter Tryz.func42, Tryz.ntmps42
  go_wp2
  all_goals go_ret
  all_goals exact ⟨by rw [hf.out]; rfl, (Below.refl _ _).alloc (Nat.le_refl _) _⟩

set_option maxRecDepth 100000 in
set_option maxHeartbeats 2000000 in
theorem refCheck_kind (v : Int) (e : Ev) (w : World) (h0 : 1 ≤ v) (h1 : v ≤ 5) (h : e.kind < 1 ∨ lastKind v < e.kind) : Calls Tryz.prog 42 #[.int .i64 v, evV e] w (ChkPost (evCheck v e) w) := by
  have hf := Lib.hid (chk31 (e := e) (show ¬ (v < 1 ∨ 5 < v) by omega) h)
  unfold evV
  by_cases hk : e.kind < 1
  · have d1 : decide (e.kind < 1) = true := by simpa using hk
    clear h
    go_enter Tryz.func42, Tryz.ntmps42
    go_wp2
    go_quiet (fail)
    go_wp2
    go_ret
    exact ⟨by rw [hf.out]; rfl, Below.next ((Below.refl _ _).alloc (Nat.le_refl _) _) (below_drewN' _ _)⟩
  · have hk2 : lastKind v < e.kind := by rcases h with h | h; exact absurd h hk; exact h
    have d1 : decide (e.kind < 1) = false := by simpa using hk
    have d2 : decide (lastKind v < e.kind) = true := by simpa using hk2
    clear h hk hk2
    have HL := Lib.hid (fun W => refLast_any v W h0 h1)
    go_enter Tryz.func42, Tryz.ntmps42
    go_wp2
    have hE := evAt_alloc w e 24
    have hb1 : Below w.heap.size w (w.alloc (.cells #[.int .i64 e.kind, .int .i64 e.order, .int .i64 e.item, .int .i64 e.qty, .int .i64 e.price, .int .i64 e.cur, .int .i64 e.tax, .string ⟨e.who.toArray⟩, .int .i64 e.stamp, .string ⟨e.note.toArray⟩] 24)) := (Below.refl _ _).alloc (Nat.le_refl _) _
    have hsz0 : w.heap.size < (w.alloc (.cells #[.int .i64 e.kind, .int .i64 e.order, .int .i64 e.item, .int .i64 e.qty, .int .i64 e.price, .int .i64 e.cur, .int .i64 e.tax, .string ⟨e.who.toArray⟩, .int .i64 e.stamp, .string ⟨e.note.toArray⟩] 24)).heap.size := by simp
    generalize w.alloc (.cells #[.int .i64 e.kind, .int .i64 e.order, .int .i64 e.item, .int .i64 e.qty, .int .i64 e.price, .int .i64 e.cur, .int .i64 e.tax, .string ⟨e.who.toArray⟩, .int .i64 e.stamp, .string ⟨e.note.toArray⟩] 24) = w1 at *
    have HE := Lib.hid hE
    have HB1 := Lib.hid hb1
    have c0 := hE.c0
    clear hE hb1
    go_region_held3 (fun w' => w'.cell? ⟨w.heap.size, 0, none⟩ = some (.int .i64 e.kind)) (first | assumption | exact cell_later hb2 c0 | go_keep)
      (first | (go_at_call 73; refine (HL.out _).mono ?_; rintro x w2 ⟨rfl, hb2⟩))
    go_wp2
    go_ret
    exact ⟨by rw [hf.out]; rfl, Below.next HB1.out (Below.next ((Below.refl _ _).drew) hb2)⟩

set_option maxRecDepth 100000 in
set_option maxHeartbeats 2000000 in
theorem refCheck_long (v : Int) (e : Ev) (w : World) (hn : e.who.length ≤ 2097152 ∧ e.note.length ≤ 2097152) (h0 : 1 ≤ v) (h1 : v ≤ 5) (h2 : 1 ≤ e.kind) (h3 : e.kind ≤ lastKind v) (h : 16 < e.who.length ∨ 120 < e.note.length) :
    Calls Tryz.prog 42 #[.int .i64 v, evV e] w (ChkPost (evCheck v e) w) := by
  have hf := Lib.hid (chk24 (e := e) (show ¬ (v < 1 ∨ 5 < v) by omega) (by omega) h)
  obtain ⟨hn1, hn2⟩ := hn
  unfold evV
  have d1 : decide (e.kind < 1) = false := by simpa using h2
  have d2 : decide (lastKind v < e.kind) = false := by simpa using h3
  have HL := Lib.hid (fun W => refLast_any v W h0 h1)
  go_enter Tryz.func42, Tryz.ntmps42
  go_wp2
  have hE := evAt_alloc w e 24
  have hb1 : Below w.heap.size w (w.alloc (.cells #[.int .i64 e.kind, .int .i64 e.order, .int .i64 e.item, .int .i64 e.qty, .int .i64 e.price, .int .i64 e.cur, .int .i64 e.tax, .string ⟨e.who.toArray⟩, .int .i64 e.stamp, .string ⟨e.note.toArray⟩] 24)) := (Below.refl _ _).alloc (Nat.le_refl _) _
  have hsz0 : w.heap.size < (w.alloc (.cells #[.int .i64 e.kind, .int .i64 e.order, .int .i64 e.item, .int .i64 e.qty, .int .i64 e.price, .int .i64 e.cur, .int .i64 e.tax, .string ⟨e.who.toArray⟩, .int .i64 e.stamp, .string ⟨e.note.toArray⟩] 24)).heap.size := by simp
  generalize w.alloc (.cells #[.int .i64 e.kind, .int .i64 e.order, .int .i64 e.item, .int .i64 e.qty, .int .i64 e.price, .int .i64 e.cur, .int .i64 e.tax, .string ⟨e.who.toArray⟩, .int .i64 e.stamp, .string ⟨e.note.toArray⟩] 24) = w1 at *
  have HE := Lib.hid hE
  have HB1 := Lib.hid hb1
  have c0 := hE.c0
  clear hE hb1
  go_region_held3 (fun w' => w'.cell? ⟨w.heap.size, 0, none⟩ = some (.int .i64 e.kind)) (first | assumption | exact cell_later hb2 c0 | go_keep)
    (first | (go_at_call 73; refine (HL.out _).mono ?_; rintro x w2 ⟨rfl, hb2⟩))
  have HB2 := Lib.hid (show Below w.heap.size w w2 from Below.next HB1.out (Below.next ((Below.refl _ _).drew) hb2))
  have HE2 := Lib.hid (HE.out.below (Below.next ((Below.refl _ _).drew) hb2))
  have c7 := HE2.out.c7
  have c9 := HE2.out.c9
  clear hb2 c0
  by_cases hw : 16 < e.who.length
  · go_wp2
    go_ret
    exact ⟨by rw [hf.out]; rfl, HB2.out⟩
  · have hnn : 120 < e.note.length := by omega
    clear h
    go_wp2
    go_ret
    exact ⟨by rw [hf.out]; rfl, HB2.out⟩

end Go.Proofs.YtecmpmnidlfgnaaGreatDoor
