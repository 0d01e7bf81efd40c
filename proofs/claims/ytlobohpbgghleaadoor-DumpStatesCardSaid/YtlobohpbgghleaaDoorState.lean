import Derived.Test.YtlobohpbgghleaaDoorStPlain
import Derived.Test.YtlobohpbgghleaaDoorOwn
import Derived.Test.YtlobohpbgghleaaDoorRefHex
import Derived.Test.YtlobohpbgghleaaDoorRefCheck
import Derived.Deep.MidRow
import Derived.Deep.RegionHeld3
namespace Go.Proofs.YtlobohpbgghleaaDoor
open Go.RowKit

/-! ## states of orders in memory -/

def lnCs (l : Ln) : Array Value := #[.int .i64 l.item, .int .i64 l.price, .int .i64 l.qty, .int .i64 l.shipped]
@[reducible] def lnV (l : Ln) : Value := .agg #[.int .i64 l.item, .int .i64 l.price, .int .i64 l.qty, .int .i64 l.shipped]
def LnRow (w : World) (v : Value) (ls : List Ln) : Prop :=
  ∃ oa cap, v = .slice oa ls.length cap ∧ ls.length ≤ cap ∧ cap ≤ 9223372036854775807 ∧
    (ls ≠ [] → ∃ b off, oa = some ⟨b, off, none⟩ ∧ ∀ (i : Nat) l, ls[i]? = some l → ∀ (j : Nat) u, (lnCs l)[j]? = some u → w.cell? ⟨b, off + i * 4 + j, none⟩ = some u)
theorem LnRow.below {w w' : World} {v : Value} {ls : List Ln} (h : LnRow w v ls) (hb : Below w.heap.size w w') : LnRow w' v ls := by
  obtain ⟨oa, cap, h1, h2, h3, h4⟩ := h
  refine ⟨oa, cap, h1, h2, h3, fun hn => ?_⟩
  obtain ⟨b, off, h5, h6⟩ := h4 hn
  exact ⟨b, off, h5, fun i r hi j u hj => cell_later hb (h6 i r hi j u hj)⟩
/-- its shape, and where its lines lie -/
theorem LnRow.shape {w : World} {v : Value} {ls : List Ln} (h : LnRow w v ls) : ∃ oa cap, v = .slice oa ls.length cap ∧ ls.length ≤ cap ∧ cap ≤ 9223372036854775807 ∧
    ∀ (i : Nat) l, ls[i]? = some l → ∃ b off, oa = some ⟨b, off, none⟩ ∧ w.rangeAt b (off + i * 4) (lnCs l).toList := by
  obtain ⟨oa, cap, rfl, h2, h3, h4⟩ := h
  refine ⟨oa, cap, rfl, h2, h3, fun i l hl => ?_⟩
  obtain ⟨b, off, rfl, h6⟩ := h4 (by rintro rfl; simp at hl)
  exact ⟨b, off, rfl, fun j u hj => h6 i l hl j u (by simpa using hj)⟩
structure LnOk (l : Ln) : Prop where
  item : I64 l.item
  price : I64 l.price
  qty : I64 l.qty
  shipped : I64 l.shipped

def stCs (s : St) (lv : Value) : Array Value := #[.int .i64 s.order, .int .i64 s.status, .int .i64 s.prior, .int .i64 s.cur, .int .i64 s.tax, lv, .int .i64 s.paid, .int .i64 s.refunded, .int .i64 s.events, .int .i64 s.refused, .int .i64 s.stamp, .string ⟨s.who.toArray⟩]
@[reducible] def stV (s : St) (lv : Value) : Value := .agg #[.int .i64 s.order, .int .i64 s.status, .int .i64 s.prior, .int .i64 s.cur, .int .i64 s.tax, lv, .int .i64 s.paid, .int .i64 s.refunded, .int .i64 s.events, .int .i64 s.refused, .int .i64 s.stamp, .string ⟨s.who.toArray⟩]
def StBlk (w : World) (g : Nat) (s : St) (lv : Value) : Prop := w.heap[g]? = some (.cells (stCs s lv) 25 (0, 0))
theorem StBlk.lt {w : World} {g : Nat} {s : St} {lv : Value} (h : StBlk w g s lv) : g < w.heap.size := (Array.getElem?_eq_some_iff.1 h).1
theorem StBlk.below {w w' : World} {g : Nat} {s : St} {lv : Value} (h : StBlk w g s lv) (hb : Below w.heap.size w w') : StBlk w' g s lv := by unfold StBlk; rw [hb.block g h.lt]; exact h
theorem StBlk.cell {w : World} {g : Nat} {s : St} {lv : Value} (h : StBlk w g s lv) (j : Nat) : w.cell? ⟨g, j, none⟩ = (stCs s lv)[j]? := by
  unfold StBlk at h; simp [World.cell?, h]
theorem stBlk_alloc (w : World) (s : St) (lv : Value) : StBlk (w.alloc (.cells (stCs s lv) 25)) w.heap.size s lv := heap_alloc_new w _
/-! ## short names for the moves of a drawn region -/

section
variable {P : Program} {ops : Array Oper} {Q : Exit → Act → World → Prop} {md : Region.Mode} {S : World → Prop}
theorem tk {d : Option Tmp} {o : Op} {t : TypeId} {p : String} {af : Array Edge} {g : Option (Nat × Bool)} {fuel : Nat} {listed : Array Bool} {a : Act} {w : World} (i : Nat) (hi : ops[i]? = some ⟨d, o, t, p, af, g⟩) (v : Value)
    (hy : ∀ w, S w → (execOp a.eval ⟨d, o, t, p, af, g⟩).run P w = .ok (.value v) w) (h : wpAnyH P md ops Q S fuel (listed.setIfInBounds i true) (a.put d v) w)
    (hs : Region.noSelect ops = true := by kernel_rfl) (hf : Region.free md ops listed i = true := by kernel_rfl) (hr : (Region.ready md ops listed).contains i = true := by kernel_rfl)
    (hQ : ∀ c a w, Q (.panic c) (a.put d v) w → Q (.panic c) a w := by exact fun _ _ _ h => h) (hw : Region.wanted ⟨d, o, t, p, af, g⟩ (yielded ops a.tmps) = true := by kernel_rfl) (hS : S w := by assumption) :
    wpAnyH P md ops Q S (fuel + 1) listed a w := wpAnyH_take hi hs hf hr hQ (Or.inl ⟨hw, hy⟩) hS h
theorem tkn {d : Option Tmp} {o : Op} {t : TypeId} {p : String} {af : Array Edge} {g : Option (Nat × Bool)} {fuel : Nat} {listed : Array Bool} {a : Act} {w : World} (i : Nat) (hi : ops[i]? = some ⟨d, o, t, p, af, g⟩)
    (h : wpAnyH P md ops Q S fuel (listed.setIfInBounds i true) (a.put d undef) w)
    (hs : Region.noSelect ops = true := by kernel_rfl) (hf : Region.free md ops listed i = true := by kernel_rfl) (hr : (Region.ready md ops listed).contains i = true := by kernel_rfl)
    (hQ : ∀ c a w, Q (.panic c) (a.put d undef) w → Q (.panic c) a w := by exact fun _ _ _ h => h) (hw : Region.wanted ⟨d, o, t, p, af, g⟩ (yielded ops a.tmps) = false := by kernel_rfl) (hS : S w := by assumption) :
    wpAnyH P md ops Q S (fuel + 1) listed a w := wpAnyH_take hi hs hf hr hQ (Or.inr ⟨hw, rfl⟩) hS h
end
theorem pA (a : Act) (d : Tmp) (v : Value) : a.put (some d) v = { a with tmps := a.tmps.setIfInBounds d v } := rfl
theorem pB {α : Type} (l : List α) (i : Nat) (x : α) : l.toArray.setIfInBounds i x = (l.set i x).toArray := List.setIfInBounds_toArray ..
theorem pC {α : Type} (y : α) (l : List α) (x : α) : (y :: l).set 0 x = x :: l := rfl
theorem pD {α : Type} (y : α) (l : List α) (i : Nat) (x : α) : (y :: l).set (i + 1) x = y :: l.set i x := rfl
theorem StBlk.c0 {w : World} {g : Nat} {s : St} {lv : Value} (h : StBlk w g s lv) : w.cell? ⟨g, 0, none⟩ = some (.int .i64 s.order) := h.cell 0
theorem StBlk.c1 {w : World} {g : Nat} {s : St} {lv : Value} (h : StBlk w g s lv) : w.cell? ⟨g, 1, none⟩ = some (.int .i64 s.status) := h.cell 1
theorem StBlk.c2 {w : World} {g : Nat} {s : St} {lv : Value} (h : StBlk w g s lv) : w.cell? ⟨g, 2, none⟩ = some (.int .i64 s.prior) := h.cell 2
theorem StBlk.c3 {w : World} {g : Nat} {s : St} {lv : Value} (h : StBlk w g s lv) : w.cell? ⟨g, 3, none⟩ = some (.int .i64 s.cur) := h.cell 3
theorem StBlk.c4 {w : World} {g : Nat} {s : St} {lv : Value} (h : StBlk w g s lv) : w.cell? ⟨g, 4, none⟩ = some (.int .i64 s.tax) := h.cell 4
theorem StBlk.c5 {w : World} {g : Nat} {s : St} {lv : Value} (h : StBlk w g s lv) : w.cell? ⟨g, 5, none⟩ = some lv := h.cell 5
theorem StBlk.c6 {w : World} {g : Nat} {s : St} {lv : Value} (h : StBlk w g s lv) : w.cell? ⟨g, 6, none⟩ = some (.int .i64 s.paid) := h.cell 6
theorem StBlk.c7 {w : World} {g : Nat} {s : St} {lv : Value} (h : StBlk w g s lv) : w.cell? ⟨g, 7, none⟩ = some (.int .i64 s.refunded) := h.cell 7
theorem StBlk.c8 {w : World} {g : Nat} {s : St} {lv : Value} (h : StBlk w g s lv) : w.cell? ⟨g, 8, none⟩ = some (.int .i64 s.events) := h.cell 8
theorem StBlk.c9 {w : World} {g : Nat} {s : St} {lv : Value} (h : StBlk w g s lv) : w.cell? ⟨g, 9, none⟩ = some (.int .i64 s.refused) := h.cell 9
theorem StBlk.c10 {w : World} {g : Nat} {s : St} {lv : Value} (h : StBlk w g s lv) : w.cell? ⟨g, 10, none⟩ = some (.int .i64 s.stamp) := h.cell 10
theorem StBlk.c11 {w : World} {g : Nat} {s : St} {lv : Value} (h : StBlk w g s lv) : w.cell? ⟨g, 11, none⟩ = some (.string ⟨s.who.toArray⟩) := h.cell 11
theorem stInfo : (Tryd.prog.info? 25).map (·.size) = some 12 := by kernel_rfl
theorem lnInfo : (Tryd.prog.info? 40).map (·.size) = some 4 := by kernel_rfl
structure StOk (n : Nat) (s : St) : Prop where
  order : I64 s.order
  status : I64 s.status
  prior : I64 s.prior
  cur : I64 s.cur
  tax : I64 s.tax
  paid : I64 s.paid
  refunded : I64 s.refunded
  events : I64 s.events
  refused : I64 s.refused
  stamp : I64 s.stamp
  who : s.who.length ≤ n
  lines : ∀ l ∈ s.lines, LnOk l

theorem wpList_load_st {ops : Array Oper} {rest : List Oper} {o : Oper} {a : Act} {w : World} {Q : Exit → Act → World → Prop} (hgd : o.guard = none) (x : Operand) (ho : o.op = .load 25 x)
    (g : Nat) (s : St) (lv : Value) (hx : a.eval x = .pointer (some ⟨g, 0, none⟩)) (hE : StBlk w g s lv)
    (h : wpList Tryd.prog ops Q rest (a.put o.dst (stV s lv)) w) : wpList Tryd.prog ops Q (o :: rest) a w :=
  wpList_load_row hgd 25 x ho g hx 25 (stCs s lv) (0, 0) _ hE Tryd.underlying25 rfl stInfo h
theorem wpList_load_ln {ops : Array Oper} {rest : List Oper} {o : Oper} {a : Act} {w : World} {Q : Exit → Act → World → Prop} (hgd : o.guard = none) (x : Operand) (ho : o.op = .load 40 x)
    (b off : Nat) (l : Ln) (hx : a.eval x = .pointer (some ⟨b, off, none⟩)) (hE : w.rangeAt b off (lnCs l).toList)
    (h : wpList Tryd.prog ops Q rest (a.put o.dst (lnV l)) w) : wpList Tryd.prog ops Q (o :: rest) a w :=
  wpList_load_mid hgd 40 x ho b off hx (lnCs l).toList _ hE Tryd.underlying40 rfl lnInfo h
theorem range_later {w w' : World} {b off : Nat} {cs : List Value} (h : w.rangeAt b off cs) (hb : Below w.heap.size w w') : w'.rangeAt b off cs := fun j u hj => cell_later hb (h j u hj)

/-! ## bounds of the net -/

theorem net_bound (ls : List Ln) (h : ∀ l ∈ ls, lnFine l = true) : 0 ≤ netOf ls ∧ netOf ls ≤ 10000000000000 * (ls.length : Int) := by
  induction ls using snoc_ind with
  | h0 => simp [netOf]
  | h1 ls l ih =>
    have h1 := ih fun x hx => h x (by simp [hx])
    have h2 := h l (by simp)
    simp only [lnFine, btw, Bool.and_eq_true, decide_eq_true_eq] at h2
    rw [net_snoc]
    have h3 : 0 ≤ l.qty * l.price := Int.mul_nonneg (by omega) (by omega)
    have h4 : l.qty * l.price ≤ 100000 * 100000000 := Int.mul_le_mul (by omega) (by omega) (by omega) (by omega)
    rw [List.length_append, List.length_singleton]
    omega
theorem net_take (ls : List Ln) (k : Nat) (l : Ln) (h : ls[k]? = some l) : netOf (ls.take (k + 1)) = netOf (ls.take k) + l.qty * l.price := by
  have h1 := List.getElem?_eq_some_iff.1 h
  rw [List.take_succ_eq_append_getElem h1.1, h1.2, net_snoc]

end Go.Proofs.YtlobohpbgghleaaDoor
