import Derived.Test.YtlobohpbgghleaaDoorRefHex
import Derived.Test.YtlobohpbgghleaaDoorDumpBack
import Derived.Deep.RegionHeld3
import Derived.Laws.StructEq
namespace Go.Proofs.YtlobohpbgghleaaDoor
open Go.RowKit

/-! ## events in memory -/

@[reducible] def evV (e : Ev) : Value := .agg #[.int .i64 e.kind, .int .i64 e.order, .int .i64 e.item, .int .i64 e.qty, .int .i64 e.price, .int .i64 e.cur, .int .i64 e.tax, .string ⟨e.who.toArray⟩, .int .i64 e.stamp, .string ⟨e.note.toArray⟩]
/-- what fits a Go event -/
structure EvOk (n : Nat) (e : Ev) : Prop where
  kind : I64 e.kind
  order : I64 e.order
  item : I64 e.item
  qty : I64 e.qty
  price : I64 e.price
  cur : I64 e.cur
  tax : I64 e.tax
  stamp : I64 e.stamp
  who : e.who.length ≤ n
  note : e.note.length ≤ n

/-- an event in a block -/
structure EvAt (w : World) (b : Nat) (e : Ev) : Prop where
  c0 : w.cell? ⟨b, 0, none⟩ = some (.int .i64 e.kind)
  c1 : w.cell? ⟨b, 1, none⟩ = some (.int .i64 e.order)
  c2 : w.cell? ⟨b, 2, none⟩ = some (.int .i64 e.item)
  c3 : w.cell? ⟨b, 3, none⟩ = some (.int .i64 e.qty)
  c4 : w.cell? ⟨b, 4, none⟩ = some (.int .i64 e.price)
  c5 : w.cell? ⟨b, 5, none⟩ = some (.int .i64 e.cur)
  c6 : w.cell? ⟨b, 6, none⟩ = some (.int .i64 e.tax)
  c7 : w.cell? ⟨b, 7, none⟩ = some (.string ⟨e.who.toArray⟩)
  c8 : w.cell? ⟨b, 8, none⟩ = some (.int .i64 e.stamp)
  c9 : w.cell? ⟨b, 9, none⟩ = some (.string ⟨e.note.toArray⟩)

theorem EvAt.below {w w' : World} {b : Nat} {e : Ev} (h : EvAt w b e) (hb : Below w.heap.size w w') : EvAt w' b e :=
  ⟨cell_later hb h.c0, cell_later hb h.c1, cell_later hb h.c2, cell_later hb h.c3, cell_later hb h.c4, cell_later hb h.c5, cell_later hb h.c6, cell_later hb h.c7, cell_later hb h.c8, cell_later hb h.c9⟩

theorem evAt_alloc (w : World) (e : Ev) (t : TypeId) :
    EvAt (w.alloc (.cells #[.int .i64 e.kind, .int .i64 e.order, .int .i64 e.item, .int .i64 e.qty, .int .i64 e.price, .int .i64 e.cur, .int .i64 e.tax, .string ⟨e.who.toArray⟩, .int .i64 e.stamp, .string ⟨e.note.toArray⟩] t)) w.heap.size e := by
  constructor <;> (rw [World.cell?_alloc_new]; rfl)

/-! ## the reference's tables -/


theorem refHas_any (v : Int) (w : World) (h0 : 1 ≤ v) (h1 : v ≤ 5) : Calls Tryd.prog 33 #[.int .i64 v] w fun e w' => e = .returned (.int .i64 (hasOf v)) ∧ Below w.heap.size w w' := by
  rcases (show v = 1 ∨ v = 2 ∨ v = 3 ∨ v = 4 ∨ v = 5 by omega) with rfl | rfl | rfl | rfl | rfl
  all_goals
    clear h0 h1
    go_enter Tryd.func33, Tryd.ntmps33
    go_wp2
    go_ret
    exact ⟨rfl, (Below.refl _ _).alloc (Nat.le_refl _) _⟩

theorem refLast_any (v : Int) (w : World) (h0 : 1 ≤ v) (h1 : v ≤ 5) : Calls Tryd.prog 31 #[.int .i64 v] w fun e w' => e = .returned (.int .i64 (lastKind v)) ∧ Below w.heap.size w w' := by
  rcases (show v = 1 ∨ v = 2 ∨ v = 3 ∨ v = 4 ∨ v = 5 by omega) with rfl | rfl | rfl | rfl | rfl
  all_goals
    clear h0 h1
    go_enter Tryd.func31, Tryd.ntmps31
    go_wp2
    go_ret
    exact ⟨rfl, (Below.refl _ _).alloc (Nat.le_refl _) _⟩

/-- ints at a block's beginning -/
def IntsAt (w : World) (b : Nat) (l : List Int) : Prop := ∀ (k : Nat) x, l[k]? = some x → w.cell? ⟨b, k, none⟩ = some (.int .i64 x)
theorem IntsAt.below {w w' : World} {b : Nat} {l : List Int} (h : IntsAt w b l) (hb : Below w.heap.size w w') : IntsAt w' b l := fun k x hx => cell_later hb (h k x hx)

theorem intsAt_alloc (w : World) (l : List Int) (t : TypeId) : IntsAt (w.alloc (.cells (l.map (Value.int .i64)).toArray t)) w.heap.size l := fun k x hx => by
  rw [World.cell?_alloc_new]; simp [hx]

theorem intsAt_of {w : World} {b : Nat} {l : List Int} {cs : Array Value} {t : TypeId} (hb : w.heap.size = b) (hc : (l.map (Value.int .i64)).toArray = cs) : IntsAt (w.alloc (.cells cs t)) b l := by
  subst hb; subst hc; exact intsAt_alloc w l t

theorem refNums_any (e : Ev) (w : World) : Calls Tryd.prog 32 #[evV e] w fun x w' => ∃ b, x = .returned (.slice (some ⟨b, 0, none⟩) 11 11) ∧ w.heap.size ≤ b ∧ IntsAt w' b (numsL e) ∧ Below w.heap.size w w' := by
  unfold evV
  go_enter Tryd.func32, Tryd.ntmps32
  go_wp2
  go_ret
  refine ⟨_, rfl, by simp, intsAt_of (by simp) (by rfl), ?_⟩
  exact (((Below.refl _ _).alloc (Nat.le_refl _) _)).alloc (by simp) _

end Go.Proofs.YtlobohpbgghleaaDoor

namespace Go.Proofs.YtlobohpbgghleaaDoor
open Go.RowKit

def evSame (a b : Ev) : Bool := a.kind == b.kind && (a.order == b.order && (a.item == b.item && (a.qty == b.qty && (a.price == b.price && (a.cur == b.cur && (a.tax == b.tax && (a.who == b.who && (a.stamp == b.stamp && a.note == b.note))))))))

theorem evSame_iff (a b : Ev) : evSame a b = true ↔ a = b := by
  unfold evSame
  simp only [Bool.and_eq_true, beq_iff_eq]
  constructor
  · rintro ⟨h0, h1, h2, h3, h4, h5, h6, h7, h8, h9⟩
    exact Ev.ext' h0 h1 h2 h3 h4 h5 h6 h7 h8 h9
  · rintro rfl; simp

set_option maxHeartbeats 1000000 in
theorem run_evEqual (a b : Ev) (w : World) : (Op.equalIn 10000 49 (evV a) (evV b)).run Tryd.prog w = .ok (evSame a b) w := by
  have hS : Tryd.prog.underlying 49 = some (.struct (Tryd.prog.fieldsOf 49)) := by kernel_rfl
  have hp : Tryd.prog.stoodInHeld 49 = false := by kernel_rfl
  unfold evV
  rw [show (10000 : Nat) = 9999 + 1 from rfl, run_equalIn_agg w 9999 49 _ _ hS hp]
  simp only [Program.fieldsOf, Tryd.underlying49]
  go_simp
  unfold evSame
  by_cases h0 : a.kind = b.kind
  case neg => simp [h0]
  rw [if_pos h0]
  by_cases h1 : a.order = b.order
  case neg => simp [h1]
  rw [if_pos h1]
  by_cases h2 : a.item = b.item
  case neg => simp [h2]
  rw [if_pos h2]
  by_cases h3 : a.qty = b.qty
  case neg => simp [h3]
  rw [if_pos h3]
  by_cases h4 : a.price = b.price
  case neg => simp [h4]
  rw [if_pos h4]
  by_cases h5 : a.cur = b.cur
  case neg => simp [h5]
  rw [if_pos h5]
  by_cases h6 : a.tax = b.tax
  case neg => simp [h6]
  rw [if_pos h6]
  by_cases h7 : a.who = b.who
  case neg => simp [h7]
  rw [if_pos h7]
  by_cases h8 : a.stamp = b.stamp
  case neg => simp [h8]
  rw [if_pos h8]
  by_cases h9 : a.note = b.note
  case neg => simp [h9]
  rw [if_pos h9]
  simp [h0, h1, h2, h3, h4, h5, h6, h7, h8, h9]

theorem run_evEql (a b : Ev) (w : World) : (binOp .eql 49 (evV a) (evV b)).run Tryd.prog w = .ok (.bool (evSame a b)) w := by
  unfold evV; rw [run_eql_struct]; have := run_evEqual a b w; unfold evV at this; rw [this]; rfl
theorem run_evNeq (a b : Ev) (w : World) : (binOp .neq 49 (evV a) (evV b)).run Tryd.prog w = .ok (.bool (!evSame a b)) w := by
  unfold evV; rw [run_neq_struct]; have := run_evEqual a b w; unfold evV at this; rw [this]; rfl

end Go.Proofs.YtlobohpbgghleaaDoor

namespace Go.Proofs.YtlobohpbgghleaaDoor
open Go.RowKit

/-! ## the reference's Check -/

def ChkPost (n : Int) (w : World) (x : Ending) (w' : World) : Prop := x = .returned (.int .i64 n) ∧ Below w.heap.size w w'

theorem chk30 {v : Int} {e : Ev} (h : v < 1 ∨ 5 < v) : evCheck v e = 30 := by unfold evCheck; rw [if_pos h]
theorem chk31 {v : Int} {e : Ev} (h0 : ¬ (v < 1 ∨ 5 < v)) (h : e.kind < 1 ∨ lastKind v < e.kind) : evCheck v e = 31 := by unfold evCheck; rw [if_neg h0, if_pos h]
theorem chk24 {v : Int} {e : Ev} (h0 : ¬ (v < 1 ∨ 5 < v)) (h1 : ¬ (e.kind < 1 ∨ lastKind v < e.kind)) (h : 16 < e.who.length ∨ 120 < e.note.length) : evCheck v e = 24 := by
  unfold evCheck; rw [if_neg h0, if_neg h1, if_pos h]
theorem chkRest {v : Int} {e : Ev} (h0 : ¬ (v < 1 ∨ 5 < v)) (h1 : ¬ (e.kind < 1 ∨ lastKind v < e.kind)) (h2 : ¬ (16 < e.who.length ∨ 120 < e.note.length)) : evCheck v e = if evFits v e = true then 0 else 32 := by
  unfold evCheck; rw [if_neg h0, if_neg h1, if_neg h2]

theorem refCheck_version (v : Int) (e : Ev) (w : World) (h : v < 1 ∨ 5 < v) : Calls Tryd.prog 19 #[.int .i64 v, evV e] w (ChkPost (evCheck v e) w) := by
  have hf := Lib.hid (chk30 (e := e) h)
  unfold evV
  go_enter Tryd.func19, Tryd.ntmps19
  go_wp2
  all_goals go_ret
  all_goals exact ⟨by rw [hf.out]; rfl, (Below.refl _ _).alloc (Nat.le_refl _) _⟩

set_option maxRecDepth 100000 in
set_option maxHeartbeats 2000000 in
theorem refCheck_kind (v : Int) (e : Ev) (w : World) (h0 : 1 ≤ v) (h1 : v ≤ 5) (h : e.kind < 1 ∨ lastKind v < e.kind) : Calls Tryd.prog 19 #[.int .i64 v, evV e] w (ChkPost (evCheck v e) w) := by
  have hf := Lib.hid (chk31 (e := e) (show ¬ (v < 1 ∨ 5 < v) by omega) h)
  unfold evV
  by_cases hk : e.kind < 1
  · have d1 : decide (e.kind < 1) = true := by simpa using hk
    clear h
    go_enter Tryd.func19, Tryd.ntmps19
    go_wp2
    go_quiet (fail)
    go_wp2
    go_ret
    exact ⟨by rw [hf.out]; rfl, Below.next ((Below.refl _ _).alloc (Nat.le_refl _) _) (below_drewN' _ _)⟩
  · have hk2 : lastKind v < e.kind := by rcases h with h | h; exact absurd h hk; exact h
    have d1 : decide (e.kind < 1) = false := by simpa using hk
    have d2 : decide (lastKind v < e.kind) = true := by simpa using hk2
    clear h hk hk2
    have HL := Lib.hid (fun W => refLast_any v W h0 h1)
    go_enter Tryd.func19, Tryd.ntmps19
    go_wp2
    have hE := evAt_alloc w e 49
    have hb1 : Below w.heap.size w (w.alloc (.cells #[.int .i64 e.kind, .int .i64 e.order, .int .i64 e.item, .int .i64 e.qty, .int .i64 e.price, .int .i64 e.cur, .int .i64 e.tax, .string ⟨e.who.toArray⟩, .int .i64 e.stamp, .string ⟨e.note.toArray⟩] 49)) := (Below.refl _ _).alloc (Nat.le_refl _) _
    have hsz0 : w.heap.size < (w.alloc (.cells #[.int .i64 e.kind, .int .i64 e.order, .int .i64 e.item, .int .i64 e.qty, .int .i64 e.price, .int .i64 e.cur, .int .i64 e.tax, .string ⟨e.who.toArray⟩, .int .i64 e.stamp, .string ⟨e.note.toArray⟩] 49)).heap.size := by simp
    generalize w.alloc (.cells #[.int .i64 e.kind, .int .i64 e.order, .int .i64 e.item, .int .i64 e.qty, .int .i64 e.price, .int .i64 e.cur, .int .i64 e.tax, .string ⟨e.who.toArray⟩, .int .i64 e.stamp, .string ⟨e.note.toArray⟩] 49) = w1 at *
    have HE := Lib.hid hE
    have HB1 := Lib.hid hb1
    have c0 := hE.c0
    clear hE hb1
    go_region_held3 (fun w' => w'.cell? ⟨w.heap.size, 0, none⟩ = some (.int .i64 e.kind)) (first | assumption | exact cell_later hb2 c0 | go_keep)
      (first | (go_at_call 31; refine (HL.out _).mono ?_; rintro x w2 ⟨rfl, hb2⟩))
    go_wp2
    go_ret
    exact ⟨by rw [hf.out]; rfl, Below.next HB1.out (Below.next ((Below.refl _ _).drew) hb2)⟩

set_option maxRecDepth 100000 in
set_option maxHeartbeats 2000000 in
theorem refCheck_long (v : Int) (e : Ev) (w : World) (hn : e.who.length ≤ 281474976710656 ∧ e.note.length ≤ 281474976710656) (h0 : 1 ≤ v) (h1 : v ≤ 5) (h2 : 1 ≤ e.kind) (h3 : e.kind ≤ lastKind v) (h : 16 < e.who.length ∨ 120 < e.note.length) :
    Calls Tryd.prog 19 #[.int .i64 v, evV e] w (ChkPost (evCheck v e) w) := by
  have hf := Lib.hid (chk24 (e := e) (show ¬ (v < 1 ∨ 5 < v) by omega) (by omega) h)
  obtain ⟨hn1, hn2⟩ := hn
  unfold evV
  have d1 : decide (e.kind < 1) = false := by simpa using h2
  have d2 : decide (lastKind v < e.kind) = false := by simpa using h3
  have HL := Lib.hid (fun W => refLast_any v W h0 h1)
  go_enter Tryd.func19, Tryd.ntmps19
  go_wp2
  have hE := evAt_alloc w e 49
  have hb1 : Below w.heap.size w (w.alloc (.cells #[.int .i64 e.kind, .int .i64 e.order, .int .i64 e.item, .int .i64 e.qty, .int .i64 e.price, .int .i64 e.cur, .int .i64 e.tax, .string ⟨e.who.toArray⟩, .int .i64 e.stamp, .string ⟨e.note.toArray⟩] 49)) := (Below.refl _ _).alloc (Nat.le_refl _) _
  have hsz0 : w.heap.size < (w.alloc (.cells #[.int .i64 e.kind, .int .i64 e.order, .int .i64 e.item, .int .i64 e.qty, .int .i64 e.price, .int .i64 e.cur, .int .i64 e.tax, .string ⟨e.who.toArray⟩, .int .i64 e.stamp, .string ⟨e.note.toArray⟩] 49)).heap.size := by simp
  generalize w.alloc (.cells #[.int .i64 e.kind, .int .i64 e.order, .int .i64 e.item, .int .i64 e.qty, .int .i64 e.price, .int .i64 e.cur, .int .i64 e.tax, .string ⟨e.who.toArray⟩, .int .i64 e.stamp, .string ⟨e.note.toArray⟩] 49) = w1 at *
  have HE := Lib.hid hE
  have HB1 := Lib.hid hb1
  have c0 := hE.c0
  clear hE hb1
  go_region_held3 (fun w' => w'.cell? ⟨w.heap.size, 0, none⟩ = some (.int .i64 e.kind)) (first | assumption | exact cell_later hb2 c0 | go_keep)
    (first | (go_at_call 31; refine (HL.out _).mono ?_; rintro x w2 ⟨rfl, hb2⟩))
  have HB2 := Lib.hid (show Below w.heap.size w w2 from Below.next HB1.out (Below.next ((Below.refl _ _).drew) hb2))
  have HE2 := Lib.hid (HE.out.below (Below.next ((Below.refl _ _).drew) hb2))
  have c7 := HE2.out.c7
  have c9 := HE2.out.c9
  clear hb2 c0
  by_cases hw : 16 < e.who.length
  · go_wp2
    go_ret
    exact ⟨by rw [hf.out]; rfl, HB2.out⟩
  · have hnn : 120 < e.note.length := by omega
    clear h
    go_wp2
    go_ret
    exact ⟨by rw [hf.out]; rfl, HB2.out⟩

end Go.Proofs.YtlobohpbgghleaaDoor
