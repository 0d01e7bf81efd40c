import Derived.Test.YtecmpmnidlfgnaaGreatDoorWords
import Derived.Test.YtecmpmnidlfgnaaGreatDoorEvEq
namespace Go.Proofs.YtecmpmnidlfgnaaGreatDoor
open Go.RowKit

/-! ## records -/

abbrev Rec := Int × Ev
@[reducible] def recV (r : Rec) : Value := .agg #[.int .i64 r.1, .int .i64 r.2.kind, .int .i64 r.2.order, .int .i64 r.2.item, .int .i64 r.2.qty, .int .i64 r.2.price, .int .i64 r.2.cur, .int .i64 r.2.tax, .string ⟨r.2.who.toArray⟩, .int .i64 r.2.stamp, .string ⟨r.2.note.toArray⟩]
def rcCs (r : Rec) : Array Value := #[.int .i64 r.1, .int .i64 r.2.kind, .int .i64 r.2.order, .int .i64 r.2.item, .int .i64 r.2.qty, .int .i64 r.2.price, .int .i64 r.2.cur, .int .i64 r.2.tax, .string ⟨r.2.who.toArray⟩, .int .i64 r.2.stamp, .string ⟨r.2.note.toArray⟩]
def RcBlk (w : World) (b : Nat) (r : Rec) : Prop := w.heap[b]? = some (.cells (rcCs r) 37 (0, 0))
def recNone : Rec := (0, evNone)
theorem RcBlk.lt {w : World} {b : Nat} {r : Rec} (h : RcBlk w b r) : b < w.heap.size := (Array.getElem?_eq_some_iff.1 h).1
theorem RcBlk.below {w w' : World} {b : Nat} {r : Rec} (h : RcBlk w b r) (hb : Below w.heap.size w w') : RcBlk w' b r := by unfold RcBlk; rw [hb.block b h.lt]; exact h
theorem RcBlk.row {w : World} {g : Nat} {r : Rec} (h : RcBlk w g r) (r' : Rec) : RcBlk (w.setRow g (rcCs r')) g r' := setRow_heap w g _ _ _ _ h
theorem RcBlk.cell {w : World} {b : Nat} {r : Rec} (h : RcBlk w b r) (j : Nat) : w.cell? ⟨b, j, none⟩ = (rcCs r)[j]? := by
  unfold RcBlk at h; simp [World.cell?, h]
theorem RcBlk.free {w : World} {b : Nat} {r : Rec} (h : RcBlk w b r) (j : Nat) : w.frozen? ⟨b, j, none⟩ = false := by
  unfold RcBlk at h
  simp [World.frozen?, h]
theorem rcBlk_alloc (w : World) (r : Rec) : RcBlk (w.alloc (.cells (rcCs r) 37)) w.heap.size r := heap_alloc_new w _

theorem rcInfo : (Tryz.prog.info? 37).map (·.size) = some 11 := by kernel_rfl
theorem rcCs_one (r : Rec) : (rcCs r).all (·.oneCell') = true :=
  Array.all_eq_true_iff_forall_mem.2 (by
    intro v hv
    simp only [rcCs, List.mem_toArray, List.mem_cons, List.not_mem_nil, or_false] at hv
    rcases hv with rfl | rfl | rfl | rfl | rfl | rfl | rfl | rfl | rfl | rfl | rfl <;> rfl)

theorem wpList_store_rc {ops : Array Oper} {rest : List Oper} {o : Oper} {a : Act} {w : World} {Q : Exit → Act → World → Prop} (hgd : o.guard = none) (x y : Operand) (ho : o.op = .store 37 x y)
    (g : Nat) (e e' : Rec) (hx : a.eval x = .pointer (some ⟨g, 0, none⟩)) (hy : a.eval y = recV e') (hE : RcBlk w g e)
    (h : wpList Tryz.prog ops Q rest (a.put o.dst undef) (w.setRow g (rcCs e'))) : wpList Tryz.prog ops Q (o :: rest) a w :=
  wpList_store_row hgd 37 x y ho g (rcCs e') hx hy 37 (rcCs e) hE rcInfo rfl (rcCs_one e') h

theorem wpList_load_rc {ops : Array Oper} {rest : List Oper} {o : Oper} {a : Act} {w : World} {Q : Exit → Act → World → Prop} (hgd : o.guard = none) (x : Operand) (ho : o.op = .load 37 x)
    (g : Nat) (e : Rec) (hx : a.eval x = .pointer (some ⟨g, 0, none⟩)) (hE : RcBlk w g e)
    (h : wpList Tryz.prog ops Q rest (a.put o.dst (recV e)) w) : wpList Tryz.prog ops Q (o :: rest) a w :=
  wpList_load_row hgd 37 x ho g hx 37 (rcCs e) (0, 0) _ hE Tryz.underlying37 rfl rcInfo h

theorem results_rc {fn : Func} {p q : Tmp} (h : fn.results = #[.cell p 37, .tmp q]) (tmps : Array Value) (w : World) (g : Nat) (e : Rec) (x : Value)
    (hp : tmps.getD p undef = .pointer (some ⟨g, 0, none⟩)) (hq : tmps.getD q undef = x) (hE : RcBlk w g e) : (results fn tmps).run Tryz.prog w = .ok (.tuple #[recV e, x]) w := by
  have hl := run_loadVar_row (P := Tryz.prog) w g 37 37 (rcCs e) (0, 0) _ hE Tryz.underlying37 rfl rcInfo
  have hp' : tmps[p]?.getD undef = .pointer (some ⟨g, 0, none⟩) := by simpa using hp
  have hq' : tmps[q]?.getD undef = x := by simpa using hq
  simp [results, h, hp', hq', asAddr, hl]
  rfl

/-- what the words of an event are long -/
theorem wordsOf_len {e : Ev} (h : EvOk 2097152 e) : (wordsOf e).length ≤ 29360128 := by
  unfold wordsOf
  have h1 := kindWord_len e.kind
  have h2 := partsTo_len h 8 (by omega)
  have h3 : (notePart e.note).length ≤ 6 + 2 * e.note.length := by
    unfold notePart; split
    · simp
    · rw [List.length_append, hexOf_length]; simp
  have h4 := h.note
  simp only [List.length_append]
  omega

structure RecOk (n : Nat) (r : Rec) : Prop where
  seq : I64 r.1
  ev : EvOk n r.2

theorem line_seq {n : Int} {e : Ev} (h : n < 1 ∨ 1099511627776 < n) : lineOf n e = ([], 1) := by unfold lineOf; rw [if_pos h]
theorem line_bad {n : Int} {e : Ev} (h : ¬ (n < 1 ∨ 1099511627776 < n)) (hc : evCheck 5 e ≠ 0) : lineOf n e = ([], evCheck 5 e) := by unfold lineOf; rw [if_neg h, if_pos hc]
theorem line_good {n : Int} {e : Ev} (h : ¬ (n < 1 ∨ 1099511627776 < n)) (hc : evCheck 5 e = 0) : lineOf n e = (Lib.itoa n ++ 32 :: wordsOf e, 0) := by unfold lineOf; rw [if_neg h, if_neg (by simp [hc])]

def RecPost (r : Rec × Int) (w : World) (x : Ending) (w' : World) : Prop := x = .returned (.tuple #[recV r.1, .int .i64 r.2]) ∧ Below w.heap.size w w'

theorem rec_nocut {s : List UInt8} (h : cutAt 32 s = none) : recordOf s = (recNone, 100) := by unfold recordOf; rw [h]; rfl
theorem rec_nonum {s a b : List UInt8} (h : cutAt 32 s = some (a, b)) (hn : numberOf a = none) : recordOf s = (recNone, 101) := by unfold recordOf; rw [h]; simp only [hn]; rfl
theorem rec_seq {s a b : List UInt8} {n : Int} (h : cutAt 32 s = some (a, b)) (hn : numberOf a = some n) (h1 : n < 1 ∨ 1099511627776 < n) : recordOf s = (recNone, 1) := by unfold recordOf; rw [h]; simp only [hn]; rw [if_pos h1]; rfl
theorem rec_evbad {s a b : List UInt8} {n : Int} (h : cutAt 32 s = some (a, b)) (hn : numberOf a = some n) (h1 : ¬ (n < 1 ∨ 1099511627776 < n)) (hx : (eventOf 5 b).2 ≠ 0) : recordOf s = (recNone, (eventOf 5 b).2) := by
  unfold recordOf; rw [h]; simp only [hn]; rw [if_neg h1, if_pos hx]; rfl
theorem rec_good {s a b : List UInt8} {n : Int} (h : cutAt 32 s = some (a, b)) (hn : numberOf a = some n) (h1 : ¬ (n < 1 ∨ 1099511627776 < n)) (hx : (eventOf 5 b).2 = 0) : recordOf s = ((n, (eventOf 5 b).1), 0) := by
  unfold recordOf; rw [h]; simp only [hn]; rw [if_neg h1, if_neg (by simp [hx])]

end Go.Proofs.YtecmpmnidlfgnaaGreatDoor
