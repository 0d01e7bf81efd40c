import Derived.Test.YtecmpmnidlfgnaaGreatDoorRefHex
import Derived.Test.YtecmpmnidlfgnaaGreatDoorCheckPlain
import Derived.Deep.RegionHeld3
namespace Go.Proofs.YtecmpmnidlfgnaaGreatDoor
open Go.RowKit

/-! ## events in memory -/

@[reducible] def evV (e : Ev) : Value := .agg #[.int .i64 e.kind, .int .i64 e.order, .int .i64 e.item, .int .i64 e.qty, .int .i64 e.price, .int .i64 e.cur, .int .i64 e.tax, .string ⟨e.who.toArray⟩, .int .i64 e.stamp, .string ⟨e.note.toArray⟩]
/-- what fits a Go event -/
structure EvOk (n : Nat) (e : Ev) : Prop where
  kind : I64 e.kind
  order : I64 e.order
  item : I64 e.item
  qty : I64 e.qty
  price : I64 e.price
  cur : I64 e.cur
  tax : I64 e.tax
  stamp : I64 e.stamp
  who : e.who.length ≤ n
  note : e.note.length ≤ n

/-- an event in a block -/
structure EvAt (w : World) (b : Nat) (e : Ev) : Prop where
  c0 : w.cell? ⟨b, 0, none⟩ = some (.int .i64 e.kind)
  c1 : w.cell? ⟨b, 1, none⟩ = some (.int .i64 e.order)
  c2 : w.cell? ⟨b, 2, none⟩ = some (.int .i64 e.item)
  c3 : w.cell? ⟨b, 3, none⟩ = some (.int .i64 e.qty)
  c4 : w.cell? ⟨b, 4, none⟩ = some (.int .i64 e.price)
  c5 : w.cell? ⟨b, 5, none⟩ = some (.int .i64 e.cur)
  c6 : w.cell? ⟨b, 6, none⟩ = some (.int .i64 e.tax)
  c7 : w.cell? ⟨b, 7, none⟩ = some (.string ⟨e.who.toArray⟩)
  c8 : w.cell? ⟨b, 8, none⟩ = some (.int .i64 e.stamp)
  c9 : w.cell? ⟨b, 9, none⟩ = some (.string ⟨e.note.toArray⟩)

theorem EvAt.below {w w' : World} {b : Nat} {e : Ev} (h : EvAt w b e) (hb : Below w.heap.size w w') : EvAt w' b e :=
  ⟨cell_later hb h.c0, cell_later hb h.c1, cell_later hb h.c2, cell_later hb h.c3, cell_later hb h.c4, cell_later hb h.c5, cell_later hb h.c6, cell_later hb h.c7, cell_later hb h.c8, cell_later hb h.c9⟩

theorem evAt_alloc (w : World) (e : Ev) (t : TypeId) :
    EvAt (w.alloc (.cells #[.int .i64 e.kind, .int .i64 e.order, .int .i64 e.item, .int .i64 e.qty, .int .i64 e.price, .int .i64 e.cur, .int .i64 e.tax, .string ⟨e.who.toArray⟩, .int .i64 e.stamp, .string ⟨e.note.toArray⟩] t)) w.heap.size e := by
  constructor <;> (rw [World.cell?_alloc_new]; rfl)

/-! ## the reference's tables -/


theorem refHas_any (v : Int) (w : World) (h0 : 1 ≤ v) (h1 : v ≤ 5) : Calls Tryz.prog 75 #[.int .i64 v] w fun e w' => e = .returned (.int .i64 (hasOf v)) ∧ Below w.heap.size w w' := by
  rcases (show v = 1 ∨ v = 2 ∨ v = 3 ∨ v = 4 ∨ v = 5 by omega) with rfl | rfl | rfl | rfl | rfl
  all_goals
    clear h0 h1
    go_enter Tryz.func75, Tryz.ntmps75
    go_wp2
    go_ret
    exact ⟨rfl, (Below.refl _ _).alloc (Nat.le_refl _) _⟩

theorem refLast_any (v : Int) (w : World) (h0 : 1 ≤ v) (h1 : v ≤ 5) : Calls Tryz.prog 73 #[.int .i64 v] w fun e w' => e = .returned (.int .i64 (lastKind v)) ∧ Below w.heap.size w w' := by
  rcases (show v = 1 ∨ v = 2 ∨ v = 3 ∨ v = 4 ∨ v = 5 by omega) with rfl | rfl | rfl | rfl | rfl
  all_goals
    clear h0 h1
    go_enter Tryz.func73, Tryz.ntmps73
    go_wp2
    go_ret
    exact ⟨rfl, (Below.refl _ _).alloc (Nat.le_refl _) _⟩

/-- ints at a block's beginning -/
def IntsAt (w : World) (b : Nat) (l : List Int) : Prop := ∀ (k : Nat) x, l[k]? = some x → w.cell? ⟨b, k, none⟩ = some (.int .i64 x)
theorem IntsAt.below {w w' : World} {b : Nat} {l : List Int} (h : IntsAt w b l) (hb : Below w.heap.size w w') : IntsAt w' b l := fun k x hx => cell_later hb (h k x hx)

theorem intsAt_alloc (w : World) (l : List Int) (t : TypeId) : IntsAt (w.alloc (.cells (l.map (Value.int .i64)).toArray t)) w.heap.size l := fun k x hx => by
  rw [World.cell?_alloc_new]; simp [hx]

theorem intsAt_of {w : World} {b : Nat} {l : List Int} {cs : Array Value} {t : TypeId} (hb : w.heap.size = b) (hc : (l.map (Value.int .i64)).toArray = cs) : IntsAt (w.alloc (.cells cs t)) b l := by
  subst hb; subst hc; exact intsAt_alloc w l t

theorem refNums_any (e : Ev) (w : World) : Calls Tryz.prog 74 #[evV e] w fun x w' => ∃ b, x = .returned (.slice (some ⟨b, 0, none⟩) 11 11) ∧ w.heap.size ≤ b ∧ IntsAt w' b (numsL e) ∧ Below w.heap.size w w' := by
  unfold evV
  go_enter Tryz.func74, Tryz.ntmps74
  go_wp2
  go_ret
  refine ⟨_, rfl, by simp, intsAt_of (by simp) (by rfl), ?_⟩
  exact (((Below.refl _ _).alloc (Nat.le_refl _) _)).alloc (by simp) _

end Go.Proofs.YtecmpmnidlfgnaaGreatDoor
