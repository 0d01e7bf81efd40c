import Derived.Test.YtecmpmnidlfgnaaGreatDoorWords
import Derived.Test.YtecmpmnidlfgnaaGreatDoorRefCheck
import Derived.Test.YtecmpmnidlfgnaaGreatDoorOwn
import Derived.Test.YtecmpmnidlfgnaaGreatDoorDumpBack
namespace Go.Proofs.YtecmpmnidlfgnaaGreatDoor
open Go.RowKit

/-! ## records -/

abbrev Rec := Int × Ev
@[reducible] def recV (r : Rec) : Value := .agg #[.int .i64 r.1, .int .i64 r.2.kind, .int .i64 r.2.order, .int .i64 r.2.item, .int .i64 r.2.qty, .int .i64 r.2.price, .int .i64 r.2.cur, .int .i64 r.2.tax, .string ⟨r.2.who.toArray⟩, .int .i64 r.2.stamp, .string ⟨r.2.note.toArray⟩]
def rcCs (r : Rec) : Array Value := #[.int .i64 r.1, .int .i64 r.2.kind, .int .i64 r.2.order, .int .i64 r.2.item, .int .i64 r.2.qty, .int .i64 r.2.price, .int .i64 r.2.cur, .int .i64 r.2.tax, .string ⟨r.2.who.toArray⟩, .int .i64 r.2.stamp, .string ⟨r.2.note.toArray⟩]
def RcBlk (w : World) (b : Nat) (r : Rec) : Prop := w.heap[b]? = some (.cells (rcCs r) 37 (0, 0))
def recNone : Rec := (0, evNone)
theorem RcBlk.lt {w : World} {b : Nat} {r : Rec} (h : RcBlk w b r) : b < w.heap.size := (Array.getElem?_eq_some_iff.1 h).1
theorem RcBlk.below {w w' : World} {b : Nat} {r : Rec} (h : RcBlk w b r) (hb : Below w.heap.size w w') : RcBlk w' b r := by unfold RcBlk; rw [hb.block b h.lt]; exact h
theorem RcBlk.row {w : World} {g : Nat} {r : Rec} (h : RcBlk w g r) (r' : Rec) : RcBlk (w.setRow g (rcCs r')) g r' := setRow_heap w g _ _ _ _ h
theorem RcBlk.cell {w : World} {b : Nat} {r : Rec} (h : RcBlk w b r) (j : Nat) : w.cell? ⟨b, j, none⟩ = (rcCs r)[j]? := by
  unfold RcBlk at h; simp [World.cell?, h]
theorem RcBlk.free {w : World} {b : Nat} {r : Rec} (h : RcBlk w b r) (j : Nat) : w.frozen? ⟨b, j, none⟩ = false := by
  unfold RcBlk at h
  simp [World.frozen?, h]
theorem rcBlk_alloc (w : World) (r : Rec) : RcBlk (w.alloc (.cells (rcCs r) 37)) w.heap.size r := heap_alloc_new w _

theorem rcInfo : (Tryz.prog.info? 37).map (·.size) = some 11 := by kernel_rfl
theorem rcCs_one (r : Rec) : (rcCs r).all (·.oneCell') = true :=
  Array.all_eq_true_iff_forall_mem.2 (by
    intro v hv
    simp only [rcCs, List.mem_toArray, List.mem_cons, List.not_mem_nil, or_false] at hv
    rcases hv with rfl | rfl | rfl | rfl | rfl | rfl | rfl | rfl | rfl | rfl | rfl <;> rfl)

theorem wpList_store_rc {ops : Array Oper} {rest : List Oper} {o : Oper} {a : Act} {w : World} {Q : Exit → Act → World → Prop} (hgd : o.guard = none) (x y : Operand) (ho : o.op = .store 37 x y)
    (g : Nat) (e e' : Rec) (hx : a.eval x = .pointer (some ⟨g, 0, none⟩)) (hy : a.eval y = recV e') (hE : RcBlk w g e)
    (h : wpList Tryz.prog ops Q rest (a.put o.dst undef) (w.setRow g (rcCs e'))) : wpList Tryz.prog ops Q (o :: rest) a w :=
  wpList_store_row hgd 37 x y ho g (rcCs e') hx hy 37 (rcCs e) hE rcInfo rfl (rcCs_one e') h

theorem wpList_load_rc {ops : Array Oper} {rest : List Oper} {o : Oper} {a : Act} {w : World} {Q : Exit → Act → World → Prop} (hgd : o.guard = none) (x : Operand) (ho : o.op = .load 37 x)
    (g : Nat) (e : Rec) (hx : a.eval x = .pointer (some ⟨g, 0, none⟩)) (hE : RcBlk w g e)
    (h : wpList Tryz.prog ops Q rest (a.put o.dst (recV e)) w) : wpList Tryz.prog ops Q (o :: rest) a w :=
  wpList_load_row hgd 37 x ho g hx 37 (rcCs e) (0, 0) _ hE Tryz.underlying37 rfl rcInfo h

theorem results_rc {fn : Func} {p q : Tmp} (h : fn.results = #[.cell p 37, .tmp q]) (tmps : Array Value) (w : World) (g : Nat) (e : Rec) (x : Value)
    (hp : tmps.getD p undef = .pointer (some ⟨g, 0, none⟩)) (hq : tmps.getD q undef = x) (hE : RcBlk w g e) : (results fn tmps).run Tryz.prog w = .ok (.tuple #[recV e, x]) w := by
  have hl := run_loadVar_row (P := Tryz.prog) w g 37 37 (rcCs e) (0, 0) _ hE Tryz.underlying37 rfl rcInfo
  have hp' : tmps[p]?.getD undef = .pointer (some ⟨g, 0, none⟩) := by simpa using hp
  have hq' : tmps[q]?.getD undef = x := by simpa using hq
  simp [results, h, hp', hq', asAddr, hl]
  rfl

/-- what the words of an event are long -/
theorem wordsOf_len {e : Ev} (h : EvOk 2097152 e) : (wordsOf e).length ≤ 29360128 := by
  unfold wordsOf
  have h1 := kindWord_len e.kind
  have h2 := partsTo_len h 8 (by omega)
  have h3 : (notePart e.note).length ≤ 6 + 2 * e.note.length := by
    unfold notePart; split
    · simp
    · rw [List.length_append, hexOf_length]; simp
  have h4 := h.note
  simp only [List.length_append]
  omega

structure RecOk (n : Nat) (r : Rec) : Prop where
  seq : I64 r.1
  ev : EvOk n r.2

theorem line_seq {n : Int} {e : Ev} (h : n < 1 ∨ 1099511627776 < n) : lineOf n e = ([], 1) := by unfold lineOf; rw [if_pos h]
theorem line_bad {n : Int} {e : Ev} (h : ¬ (n < 1 ∨ 1099511627776 < n)) (hc : evCheck 5 e ≠ 0) : lineOf n e = ([], evCheck 5 e) := by unfold lineOf; rw [if_neg h, if_pos hc]
theorem line_good {n : Int} {e : Ev} (h : ¬ (n < 1 ∨ 1099511627776 < n)) (hc : evCheck 5 e = 0) : lineOf n e = (Lib.itoa n ++ 32 :: wordsOf e, 0) := by unfold lineOf; rw [if_neg h, if_neg (by simp [hc])]

def RecPost (r : Rec × Int) (w : World) (x : Ending) (w' : World) : Prop := x = .returned (.tuple #[recV r.1, .int .i64 r.2]) ∧ Below w.heap.size w w'

theorem rec_nocut {s : List UInt8} (h : cutAt 32 s = none) : recordOf s = (recNone, 100) := by unfold recordOf; rw [h]; rfl
theorem rec_nonum {s a b : List UInt8} (h : cutAt 32 s = some (a, b)) (hn : numberOf a = none) : recordOf s = (recNone, 101) := by unfold recordOf; rw [h]; simp only [hn]; rfl
theorem rec_seq {s a b : List UInt8} {n : Int} (h : cutAt 32 s = some (a, b)) (hn : numberOf a = some n) (h1 : n < 1 ∨ 1099511627776 < n) : recordOf s = (recNone, 1) := by unfold recordOf; rw [h]; simp only [hn]; rw [if_pos h1]; rfl
theorem rec_evbad {s a b : List UInt8} {n : Int} (h : cutAt 32 s = some (a, b)) (hn : numberOf a = some n) (h1 : ¬ (n < 1 ∨ 1099511627776 < n)) (hx : (eventOf 5 b).2 ≠ 0) : recordOf s = (recNone, (eventOf 5 b).2) := by
  unfold recordOf; rw [h]; simp only [hn]; rw [if_neg h1, if_pos hx]; rfl
theorem rec_good {s a b : List UInt8} {n : Int} (h : cutAt 32 s = some (a, b)) (hn : numberOf a = some n) (h1 : ¬ (n < 1 ∨ 1099511627776 < n)) (hx : (eventOf 5 b).2 = 0) : recordOf s = ((n, (eventOf 5 b).1), 0) := by
  unfold recordOf; rw [h]; simp only [hn]; rw [if_neg h1, if_neg (by simp [hx])]

end Go.Proofs.YtecmpmnidlfgnaaGreatDoor

namespace Go.Proofs.YtecmpmnidlfgnaaGreatDoor
open Go.RowKit

def recSame (a b : Rec) : Bool := a.1 == b.1 && evSame a.2 b.2
theorem recSame_iff (a b : Rec) : recSame a b = true ↔ a = b := by
  unfold recSame
  simp only [Bool.and_eq_true, beq_iff_eq, evSame_iff]
  constructor
  · rintro ⟨h1, h2⟩; exact Prod.ext h1 h2
  · rintro rfl; exact ⟨rfl, rfl⟩

set_option maxHeartbeats 1000000 in
theorem run_rcEqual (a b : Rec) (w : World) : (Op.equalIn 10000 37 (recV a) (recV b)).run Tryz.prog w = .ok (recSame a b) w := by
  have hS : Tryz.prog.underlying 37 = some (.struct (Tryz.prog.fieldsOf 37)) := by kernel_rfl
  have hp : Tryz.prog.stoodInHeld 37 = false := by kernel_rfl
  unfold recV
  rw [show (10000 : Nat) = 9999 + 1 from rfl, run_equalIn_agg w 9999 37 _ _ hS hp]
  simp only [Program.fieldsOf, Tryz.underlying37]
  go_simp
  unfold recSame
  by_cases h0 : a.1 = b.1
  case neg => simp [h0]
  rw [if_pos h0]
  unfold evSame
  by_cases k0 : a.2.kind = b.2.kind
  case neg => simp [k0]
  rw [if_pos k0]
  by_cases k1 : a.2.order = b.2.order
  case neg => simp [k1]
  rw [if_pos k1]
  by_cases k2 : a.2.item = b.2.item
  case neg => simp [k2]
  rw [if_pos k2]
  by_cases k3 : a.2.qty = b.2.qty
  case neg => simp [k3]
  rw [if_pos k3]
  by_cases k4 : a.2.price = b.2.price
  case neg => simp [k4]
  rw [if_pos k4]
  by_cases k5 : a.2.cur = b.2.cur
  case neg => simp [k5]
  rw [if_pos k5]
  by_cases k6 : a.2.tax = b.2.tax
  case neg => simp [k6]
  rw [if_pos k6]
  by_cases k7 : a.2.who = b.2.who
  case neg => simp [k7]
  rw [if_pos k7]
  by_cases k8 : a.2.stamp = b.2.stamp
  case neg => simp [k8]
  rw [if_pos k8]
  by_cases k9 : a.2.note = b.2.note
  case neg => simp [k9]
  rw [if_pos k9]
  simp [h0, k0, k1, k2, k3, k4, k5, k6, k7, k8, k9]

theorem run_rcEql (a b : Rec) (w : World) : (binOp .eql 37 (recV a) (recV b)).run Tryz.prog w = .ok (.bool (recSame a b)) w := by
  unfold recV; rw [run_eql_struct]; have := run_rcEqual a b w; unfold recV at this; rw [this]; rfl
theorem run_rcNeq (a b : Rec) (w : World) : (binOp .neq 37 (recV a) (recV b)).run Tryz.prog w = .ok (.bool (!recSame a b)) w := by
  unfold recV; rw [run_neq_struct]; have := run_rcEqual a b w; unfold recV at this; rw [this]; rfl

end Go.Proofs.YtecmpmnidlfgnaaGreatDoor

namespace Go.Proofs.YtecmpmnidlfgnaaGreatDoor
open Go.RowKit

/-! ## slices of records -/

def RecRow (w : World) (v : Value) (rs : List Rec) : Prop :=
  ∃ oa cap, v = .slice oa rs.length cap ∧ (oa = none → cap = 0) ∧ rs.length ≤ cap ∧ cap ≤ 9223372036854775807 ∧
    (rs ≠ [] → ∃ b off, oa = some ⟨b, off, none⟩ ∧ ∀ (i : Nat) r, rs[i]? = some r → ∀ (j : Nat) u, (rcCs r)[j]? = some u → w.cell? ⟨b, off + i * 11 + j, none⟩ = some u)
theorem RecRow.below {w w' : World} {v : Value} {rs : List Rec} (h : RecRow w v rs) (hb : Below w.heap.size w w') : RecRow w' v rs := by
  obtain ⟨oa, cap, h1, h0, h2, h3, h4⟩ := h
  refine ⟨oa, cap, h1, h0, h2, h3, fun hn => ?_⟩
  obtain ⟨b, off, h5, h6⟩ := h4 hn
  exact ⟨b, off, h5, fun i r hi j u hj => cell_later hb (h6 i r hi j u hj)⟩
theorem RecRow.shape {w : World} {v : Value} {rs : List Rec} (h : RecRow w v rs) : (rs = [] ∧ ∃ oa cap, v = .slice oa 0 cap) ∨
    ∃ b off cap, v = .slice (some ⟨b, off, none⟩) rs.length cap ∧ rs.length ≤ cap ∧ cap ≤ 9223372036854775807 ∧ ∀ (i : Nat) r, rs[i]? = some r → ∀ (j : Nat) u, (rcCs r)[j]? = some u → w.cell? ⟨b, off + i * 11 + j, none⟩ = some u := by
  obtain ⟨oa, cap, rfl, _, h2, h3, h4⟩ := h
  by_cases hn : rs = []
  · subst hn; exact .inl ⟨rfl, oa, cap, rfl⟩
  · obtain ⟨b, off, rfl, h6⟩ := h4 hn
    exact .inr ⟨b, off, cap, rfl, h2, h3, h6⟩

/-- records, as cells -/
def recCells (rs : List Rec) : List Value := rs.flatMap fun r => (rcCs r).toList
theorem recCells_length (rs : List Rec) : (recCells rs).length = rs.length * 11 := by
  unfold recCells
  induction rs with
  | nil => rfl
  | cons r rs ih => rw [List.flatMap_cons, List.length_append, ih, List.length_cons]; simp [rcCs]; omega
theorem recCells_at : ∀ (rs : List Rec) (i : Nat) (r : Rec), rs[i]? = some r → ∀ (j : Nat) u, (rcCs r)[j]? = some u → (recCells rs)[i * 11 + j]? = some u
  | [], i, r, h, _, _, _ => by simp at h
  | x :: rs, 0, r, h, j, u, hj => by
    simp at h; subst h
    have hl : j < 11 := by have := (Array.getElem?_eq_some_iff.1 hj).1; simpa [rcCs] using this
    unfold recCells
    rw [List.flatMap_cons, Nat.zero_mul, Nat.zero_add, List.getElem?_append_left (by simpa [rcCs] using hl)]
    simpa using hj
  | x :: rs, i + 1, r, h, j, u, hj => by
    have := recCells_at rs i r (by simpa using h) j u hj
    unfold recCells at this ⊢
    rw [List.flatMap_cons, List.getElem?_append_right (by simp [rcCs]; omega)]
    rw [← this]
    congr 1
    simp [rcCs]; omega
theorem recCells_append (a b : List Rec) : recCells (a ++ b) = recCells a ++ recCells b := by simp [recCells]
theorem recCells_one (r : Rec) : recCells [r] = (rcCs r).toList := by simp [recCells]

theorem recRow_own {w : World} {B : Nat} {v : Value} {rs : List Rec} (h : w.ownsRow B 37 11 v rs.length (recCells rs)) : RecRow w v rs := by
  by_cases hn : rs = []
  · subst hn
    rcases h.2 with ⟨rfl, _⟩ | ⟨g, cap, cur, rfl, _, _, h1, h2, _⟩
    · exact ⟨none, 0, rfl, fun _ => rfl, Nat.le_refl _, by decide, fun h => absurd rfl h⟩
    · exact ⟨_, cap, rfl, fun h => (by cases h), h1, by unfold maxLen at h2; omega, fun h => absurd rfl h⟩
  · obtain ⟨g, cap, rfl, _, _, h1, h2, h3⟩ := own_get h (List.length_pos_iff.2 hn)
    exact ⟨_, cap, rfl, fun h => (by cases h), h1, by unfold maxLen at h2; omega, fun _ => ⟨g, 0, rfl, fun i r hi j u hj => by rw [Nat.zero_add]; exact h3 _ _ (recCells_at rs i r hi j u hj)⟩⟩

/-- a record's load, anywhere -/
theorem run_loadVar_rcAt (w : World) (g o : Nat) (r : Rec) (hc : ∀ (j : Nat) u, (rcCs r)[j]? = some u → w.cell? ⟨g, o + j, none⟩ = some u) :
    (loadVar 37 ⟨g, o, none⟩).run Tryz.prog w = .ok (.agg (rcCs r)) w := by
  have hl : (loadCells ⟨g, o, none⟩ (rcCs r).toList.length).run Tryz.prog w = .ok (rcCs r).toList.toArray w :=
    run_loadCells_list (P := Tryz.prog) w ⟨g, o, none⟩ (rcCs r).toList (fun j v hv => by
      have hadd : (⟨g, o, none⟩ : Addr).add j = ⟨g, o + j, none⟩ := by unfold Addr.add; split <;> simp_all
      rw [hadd]
      exact hc j v (by simpa using hv))
  have hi := rcInfo
  cases hq : Tryz.prog.info? 37 with
  | none => simp [hq] at hi
  | some i =>
    have hs : i.size = (rcCs r).size := by rw [hq] at hi; exact Option.some.inj hi
    have hagg : (isAgg 37).run Tryz.prog w = .ok true w := by
      unfold isAgg
      rw [Sem.run_bind, run_underlying Tryz.underlying37 w]
      rfl
    simp only [Array.length_toList, Array.toArray_toList] at hl
    simp [loadVar, Sem.run_bind, hagg, sizeOf, typeInfo, hq, hs, hl]
theorem wp_load_rcAt {o : Oper} {a : Act} {w : World} {K : Act → World → Prop} {Q : Exit → Act → World → Prop} (x : Operand) (ho : o.op = .load 37 x)
    (g off : Nat) (r : Rec) (hx : a.eval x = .pointer (some ⟨g, off, none⟩)) (hc : ∀ (j : Nat) u, (rcCs r)[j]? = some u → w.cell? ⟨g, off + j, none⟩ = some u)
    (h : K (a.put o.dst (recV r)) w) : o.wp Tryz.prog a w K Q := by
  unfold Oper.wp execOp
  simp only [ho, hx, Instr.loadAt, Instr.sureAddr, Sem.run_bind, Sem.run_pure, Result.andThen_ok, run_loadVar_rcAt w g off r hc]
  exact h
theorem wpList_load_rcAt {ops : Array Oper} {rest : List Oper} {o : Oper} {a : Act} {w : World} {Q : Exit → Act → World → Prop} (hgd : o.guard = none) (x : Operand) (ho : o.op = .load 37 x)
    (g off : Nat) (r : Rec) (hx : a.eval x = .pointer (some ⟨g, off, none⟩)) (hc : ∀ (j : Nat) u, (rcCs r)[j]? = some u → w.cell? ⟨g, off + j, none⟩ = some u)
    (h : wpList Tryz.prog ops Q rest (a.put o.dst (recV r)) w) : wpList Tryz.prog ops Q (o :: rest) a w :=
  wpList_plain hgd fun _ hK => wp_load_rcAt x ho g off r hx hc (hK _ _ h)

/-! ## texts, from the left -/

def addT (S : List UInt8) (x : List UInt8 × Int) : List UInt8 × Int := if x.2 ≠ 0 then ([], x.2) else (S ++ x.1, 0)
theorem textOf_bad1 : ∀ (rs : List Rec), (textOf rs).2 ≠ 0 → (textOf rs).1 = []
  | [], h => absurd rfl h
  | r :: rs, h => by
    rw [textOf] at h ⊢
    split
    · rfl
    · rename_i h1
      rw [if_neg h1] at h
      split
      · rfl
      · rename_i h2; rw [if_neg h2] at h; exact absurd rfl h
theorem addT_nil (rs : List Rec) : textOf rs = addT [] (textOf rs) := by
  unfold addT
  split
  · rename_i h; rw [← textOf_bad1 rs h]
  · rename_i h; have : (textOf rs).2 = 0 := Classical.byContradiction h
    rw [List.nil_append, ← this]
theorem addT_bad {S : List UInt8} {r : Rec} {rs : List Rec} (h : (lineOf r.1 r.2).2 ≠ 0) : addT S (textOf (r :: rs)) = ([], (lineOf r.1 r.2).2) := by
  rw [textOf, if_pos h]; unfold addT; rw [if_pos h]
theorem addT_good {S : List UInt8} {r : Rec} {rs : List Rec} (h : (lineOf r.1 r.2).2 = 0) : addT S (textOf (r :: rs)) = addT (S ++ ((lineOf r.1 r.2).1 ++ [10])) (textOf rs) := by
  rw [textOf, if_neg (by simp [h])]
  split
  · rename_i h1; unfold addT; rw [if_pos h1, if_pos h1]
  · rename_i h1; unfold addT; rw [if_neg (by simp), if_neg h1]; simp
theorem addT_end (S : List UInt8) : addT S (textOf []) = (S, 0) := by unfold addT; simp [textOf]

theorem line_len {r : Rec} (h : RecOk 2097152 r) : (lineOf r.1 r.2).1.length ≤ 29360160 := by
  unfold lineOf
  split
  · simp
  · split
    · simp
    · have h1 := wordsOf_len h.ev
      obtain ⟨s1, s2⟩ := h.seq
      have h2 := itoa_le r.1 s1 s2
      simp; omega

end Go.Proofs.YtecmpmnidlfgnaaGreatDoor

namespace Go.Proofs.YtecmpmnidlfgnaaGreatDoor
open Go.RowKit

/-! ## lines, from the left -/

abbrev RdR := List Rec × Int × Int
def addL (acc : List Rec) (x : RdR) : RdR := if x.2.2 ≠ 0 then ([], x.2) else (acc ++ x.1, 0, 0)
theorem lines_zero : ∀ (ws : List (List UInt8)) (n : Int), (linesOf n ws).2.2 = 0 → (linesOf n ws).2.1 = 0
  | [], n, _ => rfl
  | [w], n, h => by
    rw [linesOf] at h ⊢
    split
    · rfl
    · rename_i hw; rw [if_neg hw] at h; exact absurd h (by simp)
  | w :: v :: ws, n, h => by
    rw [linesOf] at h ⊢
    split
    · rename_i h1; rw [if_pos h1] at h; exact absurd h h1
    · rename_i h1
      rw [if_neg h1] at h
      split
      · rename_i h2; rw [if_pos h2] at h; exact absurd h h2
      · rfl
theorem addL_nil (n : Int) (hn : 0 < n) (ws : List (List UInt8)) : linesOf n ws = addL [] (linesOf n ws) := by
  unfold addL
  split
  · rename_i h; rw [← (lines_bad ws n hn h).1]
  · rename_i h
    have h0 : (linesOf n ws).2.2 = 0 := Classical.byContradiction h
    have h1 := lines_zero ws n h0
    rw [List.nil_append]
    exact Prod.ext rfl (Prod.ext h1 h0)
theorem addL_bad {acc : List Rec} {n : Int} {w : List UInt8} {ws : List (List UInt8)} (hw : ws ≠ []) (h : (recordOf w).2 ≠ 0) : addL acc (linesOf n (w :: ws)) = ([], n, (recordOf w).2) := by
  cases ws with
  | nil => exact absurd rfl hw
  | cons v ws => rw [linesOf, if_pos h]; unfold addL; rw [if_pos h]
theorem addL_good {acc : List Rec} {n : Int} {w : List UInt8} {ws : List (List UInt8)} (hw : ws ≠ []) (h : (recordOf w).2 = 0) : addL acc (linesOf n (w :: ws)) = addL (acc ++ [(recordOf w).1]) (linesOf (n + 1) ws) := by
  cases ws with
  | nil => exact absurd rfl hw
  | cons v ws =>
    rw [linesOf, if_neg (by simp [h])]
    split
    · rename_i h1; unfold addL; rw [if_pos h1, if_pos h1]
    · rename_i h1; unfold addL; rw [if_neg (by simp), if_neg h1]; simp
theorem addL_last {acc : List Rec} {n : Int} : addL acc (linesOf n [[]]) = (acc, 0, 0) := by unfold addL; simp [linesOf]
theorem addL_short {acc : List Rec} {n : Int} {w : List UInt8} (hw : w ≠ []) : addL acc (linesOf n [w]) = ([], n, 10) := by unfold addL; simp [linesOf, hw]

/-- the records that come back, in a slice of the call's own -/
def ReadPost (r : RdR) (w : World) (x : Ending) (w' : World) : Prop :=
  ∃ v, x = .returned (.tuple #[v, .int .i64 r.2.1, .int .i64 r.2.2]) ∧ w'.ownsRow w.heap.size 37 11 v r.1.length (recCells r.1) ∧ Below w.heap.size w w'

def zeroRec : Value := .agg #[.int .i64 0, .int .i64 0, .int .i64 0, .int .i64 0, .int .i64 0, .int .i64 0, .int .i64 0, .int .i64 0, .string ByteArray.empty, .int .i64 0, .string ByteArray.empty]
theorem infoRec : (Tryz.prog.info? 37).map (fun i => (i.zero, i.size, i.bytes)) = some (some zeroRec, 11, 104) := by kernel_rfl

theorem own_emptyR (w : World) : (w.alloc (.cells #[] 37)).ownsRow w.heap.size 37 11 (.slice (some ⟨w.heap.size, 0, none⟩) 0 0) 0 [] :=
  ⟨rfl, .inr ⟨w.heap.size, 0, #[], rfl, Nat.le_refl _, heap_alloc_new w _, Nat.le_refl _, by decide, rfl, by simp⟩⟩

theorem rcCs_len (r : Rec) : (rcCs r).toList.length = 11 := rfl

end Go.Proofs.YtecmpmnidlfgnaaGreatDoor

namespace Go.Proofs.YtecmpmnidlfgnaaGreatDoor
open Go.RowKit

/-! ## how long what is written is -/

theorem evOk_check {v : Int} {e : Ev} (h : evCheck v e = 0) : EvOk 120 e := by
  obtain ⟨_, _, k1, _, k2, hf, h1, h2⟩ := check0 h
  obtain ⟨hi, _, _⟩ := fits_i64 hf
  exact ⟨⟨by omega, by omega⟩, hi 0, hi 1, hi 2, hi 3, hi 4, hi 5, hi 7, by omega, h2⟩

theorem wordsOf_short {v : Int} {e : Ev} (h : evCheck v e = 0) : (wordsOf e).length ≤ 2000 := by
  have ho := evOk_check h
  unfold wordsOf
  have h1 := kindWord_len e.kind
  have h2 := partsTo_len ho 8 (by omega)
  have h3 : (notePart e.note).length ≤ 6 + 2 * e.note.length := by
    unfold notePart; split
    · simp
    · rw [List.length_append, hexOf_length]; simp
  have h4 := ho.note
  simp only [List.length_append]
  omega

theorem text_ok : ∀ (rs : List Rec), (textOf rs).2 = 0 → ∀ r ∈ rs, (lineOf r.1 r.2).2 = 0
  | [], _, r, hr => by cases hr
  | x :: rs, h, r, hr => by
    rw [textOf] at h
    by_cases h1 : (lineOf x.1 x.2).2 = 0
    · rw [if_neg (by simp [h1])] at h
      by_cases h2 : (textOf rs).2 = 0
      · rcases List.mem_cons.1 hr with rfl | hr
        · exact h1
        · exact text_ok rs h2 r hr
      · rw [if_pos h2] at h; exact absurd h h2
    · rw [if_pos h1] at h; exact absurd h h1

theorem line_short {r : Rec} (h : (lineOf r.1 r.2).2 = 0) : (lineOf r.1 r.2).1.length ≤ 2021 := by
  obtain ⟨h1, h2, h3, h4⟩ := line_ok h
  have h5 := wordsOf_short h3
  have h6 := itoa_le r.1 (by omega) (by omega)
  rw [h4]
  simp; omega

theorem text_short : ∀ (rs : List Rec), (textOf rs).2 = 0 → (textOf rs).1.length ≤ rs.length * 2022
  | [], _ => by simp [textOf]
  | x :: rs, h => by
    have hx := text_ok (x :: rs) h x (by simp)
    have h' := h
    rw [textOf, if_neg (by simp [hx])] at h
    by_cases h2 : (textOf rs).2 = 0
    · have h3 := text_short rs h2
      have h4 := line_short hx
      rw [textOf, if_neg (by simp [hx]), if_neg (by simp [h2])]
      simp only [List.length_append, List.length_cons]
      omega
    · rw [if_pos h2] at h; exact absurd h h2

theorem recOk_line {r : Rec} (h : (lineOf r.1 r.2).2 = 0) : RecOk 2097152 r := by
  obtain ⟨h1, h2, h3, _⟩ := line_ok h
  have h4 := evOk_check h3
  exact ⟨⟨by omega, by omega⟩, ⟨h4.kind, h4.order, h4.item, h4.qty, h4.price, h4.cur, h4.tax, h4.stamp, Nat.le_trans h4.who (by decide), Nat.le_trans h4.note (by decide)⟩⟩

/-- the pieces at line ends: the lines, and nothing behind the last -/
theorem text_split : ∀ (rs : List Rec), (textOf rs).2 = 0 → ∀ x ∈ splitOn 10 (textOf rs).1, x.length ≤ 2021
  | [], _, x, hx => by simp [textOf, splitOn] at hx; subst hx; simp
  | r :: rs, h, x, hx => by
    have hr := text_ok (r :: rs) h r (by simp)
    have h2 : (textOf rs).2 = 0 := by
      have h' := h
      rw [textOf, if_neg (by simp [hr])] at h'
      by_cases h2 : (textOf rs).2 = 0
      · exact h2
      · rw [if_pos h2] at h'; exact absurd h' h2
    rw [textOf, if_neg (by simp [hr]), if_neg (by simp [h2])] at hx
    have hls := line_short hr
    obtain ⟨l, hl⟩ : ∃ l, l = (lineOf r.1 r.2).1 := ⟨_, rfl⟩
    rw [← hl] at hx hls
    have key : ∀ (l t : List UInt8), ∀ x ∈ splitOn 10 (l ++ 10 :: t), x.length ≤ l.length ∨ x ∈ splitOn 10 t := by
      intro l t
      induction l with
      | nil => intro x hx; simp [splitOn] at hx; rcases hx with rfl | hx
               · exact .inl (by simp)
               · exact .inr hx
      | cons c l ih =>
        intro x hx
        rw [List.cons_append, splitOn] at hx
        split at hx
        · rcases List.mem_cons.1 hx with rfl | hx
          · exact .inl (by simp)
          · rcases ih x hx with h | h
            · exact .inl (by simp; omega)
            · exact .inr h
        · cases hs : splitOn 10 (l ++ 10 :: t) with
          | nil => exact absurd hs (splitOn_ne _ _)
          | cons w ws =>
            rw [hs] at hx ih
            simp only at hx
            rcases List.mem_cons.1 hx with rfl | hx
            · have hw : w.length ≤ l.length := by
                obtain ⟨b, hb⟩ : ∃ b, l ++ 10 :: t = w ++ b ∧ 10 ∉ w ∧ (b = [] ∨ ∃ b', b = 10 :: b') := by
                  have hc := splitOn_cut 10 (l ++ 10 :: t)
                  rw [hs] at hc
                  cases hcut : cutAt 10 (l ++ 10 :: t) with
                  | none => exact absurd (cutAt_none.1 hcut) (by simp)
                  | some p =>
                    obtain ⟨a, b⟩ := p
                    rw [hcut] at hc
                    simp only [List.cons.injEq] at hc
                    obtain ⟨e1, e2⟩ := cutAt_some hcut
                    rw [hc.1]
                    exact ⟨10 :: b, e1, e2, .inr ⟨b, rfl⟩⟩
                obtain ⟨h1, h2, _⟩ := hb
                refine Nat.le_of_not_lt fun hlt => h2 ?_
                have hg : (w ++ b)[l.length]? = some 10 := by rw [← h1]; simp
                rw [List.getElem?_append_left hlt] at hg
                exact List.mem_of_getElem? hg
              exact .inl (by simp; omega)
            · rcases ih x (List.mem_cons_of_mem _ hx) with h | h
              · exact .inl (by simp; omega)
              · exact .inr h
    rcases key l (textOf rs).1 x hx with h | h
    · omega
    · exact text_split rs h2 x h

theorem lines_length : ∀ (ws : List (List UInt8)) (n : Int), (linesOf n ws).1.length ≤ ws.length
  | [], n => by simp [linesOf]
  | [w], n => by rw [linesOf]; split <;> simp
  | w :: v :: ws, n => by
    rw [linesOf]
    split
    · simp
    · split
      · simp
      · have := lines_length (v :: ws) (n + 1)
        simp only [List.length_cons] at this ⊢
        omega

end Go.Proofs.YtecmpmnidlfgnaaGreatDoor
