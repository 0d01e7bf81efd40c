import Derived.Test.YtecmpmnidlfgnaaGreatDoorFields
import Derived.Test.YtecmpmnidlfgnaaGreatDoorSchema5
import Derived.Laws.Tables
namespace Go.Proofs.YtecmpmnidlfgnaaGreatDoor
open Go.RowKit

/-! ## whole events in blocks -/

theorem evInfo : (Tryz.prog.info? 24).map (·.size) = some 10 := by kernel_rfl
theorem evCs_one (e : Ev) : (evCs e).all (·.oneCell') = true :=
  Array.all_eq_true_iff_forall_mem.2 (by
    intro v hv
    simp only [evCs, List.mem_toArray, List.mem_cons, List.not_mem_nil, or_false] at hv
    rcases hv with rfl | rfl | rfl | rfl | rfl | rfl | rfl | rfl | rfl | rfl <;> rfl)

theorem wpList_store_ev {ops : Array Oper} {rest : List Oper} {o : Oper} {a : Act} {w : World} {Q : Exit → Act → World → Prop} (hgd : o.guard = none) (x y : Operand) (ho : o.op = .store 24 x y)
    (g : Nat) (e e' : Ev) (hx : a.eval x = .pointer (some ⟨g, 0, none⟩)) (hy : a.eval y = evV e') (hE : EvBlk w g e)
    (h : wpList Tryz.prog ops Q rest (a.put o.dst undef) (w.setRow g (evCs e'))) : wpList Tryz.prog ops Q (o :: rest) a w :=
  wpList_store_row hgd 24 x y ho g (evCs e') hx hy 24 (evCs e) hE evInfo rfl (evCs_one e') h

theorem wpList_load_ev {ops : Array Oper} {rest : List Oper} {o : Oper} {a : Act} {w : World} {Q : Exit → Act → World → Prop} (hgd : o.guard = none) (x : Operand) (ho : o.op = .load 24 x)
    (g : Nat) (e : Ev) (hx : a.eval x = .pointer (some ⟨g, 0, none⟩)) (hE : EvBlk w g e)
    (h : wpList Tryz.prog ops Q rest (a.put o.dst (evV e)) w) : wpList Tryz.prog ops Q (o :: rest) a w :=
  wpList_load_row hgd 24 x ho g hx 24 (evCs e) (0, 0) _ hE Tryz.underlying24 rfl evInfo h

theorem evOk_kind (N : Nat) {k : Int} (h : I64 k) : EvOk N { evNone with kind := k } := by
  have z : I64 0 := ⟨by decide, by decide⟩
  exact ⟨h, z, z, z, z, z, z, z, Nat.zero_le _, Nat.zero_le _⟩

theorem EvBlk.row {w : World} {g : Nat} {e : Ev} (h : EvBlk w g e) (e' : Ev) : EvBlk (w.setRow g (evCs e')) g e' := setRow_heap w g _ _ _ _ h
theorem EvBlk.rowOther {w : World} {g k : Nat} {e : Ev} (h : EvBlk w k e) (cs : Array Value) (hn : k ≠ g) : EvBlk (w.setRow g cs) k e := by unfold EvBlk; rw [setRow_other _ _ _ _ hn]; exact h
theorem EvBlk.but {w w' : World} {b k : Nat} {e : Ev} (h : EvBlk w k e) (hb : But b w w') (hn : k ≠ b) : EvBlk w' k e := by unfold EvBlk; rw [hb.block k h.lt hn]; exact h
theorem Below.row {a w : World} (h : Below a.heap.size a w) {g : Nat} (hg : a.heap.size ≤ g) (cs : Array Value) : Below a.heap.size a (w.setRow g cs) :=
  ⟨h.os, h.tape, h.output, by simpa using h.size, fun i hi => by rw [setRow_other _ _ _ _ (by omega)]; exact h.block i hi⟩

theorem results_ev {fn : Func} {p q : Tmp} (h : fn.results = #[.cell p 24, .tmp q]) (tmps : Array Value) (w : World) (g : Nat) (e : Ev) (x : Value)
    (hp : tmps.getD p undef = .pointer (some ⟨g, 0, none⟩)) (hq : tmps.getD q undef = x) (hE : EvBlk w g e) : (results fn tmps).run Tryz.prog w = .ok (.tuple #[evV e, x]) w := by
  have hl := run_loadVar_row (P := Tryz.prog) w g 24 24 (evCs e) (0, 0) _ hE Tryz.underlying24 rfl evInfo
  have hp' : tmps[p]?.getD undef = .pointer (some ⟨g, 0, none⟩) := by simpa using hp
  have hq' : tmps[q]?.getD undef = x := by simpa using hq
  simp [results, h, hp', hq', asAddr, hl]
  rfl

theorem evBlk_zero (w : World) : EvBlk (w.alloc (.cells #[.int .i64 0, .int .i64 0, .int .i64 0, .int .i64 0, .int .i64 0, .int .i64 0, .int .i64 0, .string ⟨#[]⟩, .int .i64 0, .string ⟨#[]⟩] 24)) w.heap.size evNone := heap_alloc_new w _

theorem kindsAt (k : Nat) (h : k < 11) (w : World) : (Instr.index 89 kindsV (.int .i64 (k : Int))).run Tryz.prog w = .ok (.string ⟨(kindW.getD k []).toArray⟩) w := by
  rcases (show k = 0 ∨ k = 1 ∨ k = 2 ∨ k = 3 ∨ k = 4 ∨ k = 5 ∨ k = 6 ∨ k = 7 ∨ k = 8 ∨ k = 9 ∨ k = 10 by omega) with rfl | rfl | rfl | rfl | rfl | rfl | rfl | rfl | rfl | rfl | rfl
  all_goals
    clear h
    kernel_rfl

/-- the kind that the words up to k tell -/
def kindTo (w : List UInt8) (k : Nat) : Nat := if kindIdx w < k then kindIdx w else 0
theorem kindTo_hit {w : List UInt8} {k : Nat} (h : k < 11) (hw : kindW.getD k [] = w) : kindTo w (k + 1) = k := by
  have := (kindIdx_at k h).1
  rw [hw] at this
  unfold kindTo
  rw [this, if_pos (by omega)]
theorem kindTo_miss {w : List UInt8} {k : Nat} (h : k < 11) (hw : ¬ (0 < k ∧ kindW.getD k [] = w)) : kindTo w (k + 1) = kindTo w k := by
  unfold kindTo
  by_cases hk : kindIdx w = k
  · rw [hk, if_pos (by omega), if_neg (by omega)]
    rcases Nat.eq_zero_or_pos k with h0 | h0
    · exact h0
    · exfalso
      refine hw ⟨h0, ?_⟩
      have := (kindIdx_spec (w := w) (by omega)).2
      rw [hk] at this
      unfold kindWord at this
      simpa using this
  · by_cases h1 : kindIdx w < k
    · rw [if_pos (by omega), if_pos h1]
    · rw [if_neg (by omega), if_neg h1]
theorem kindTo_all (w : List UInt8) : kindTo w 11 = kindIdx w := by
  unfold kindTo
  split
  · rfl
  · rename_i h
    by_cases h0 : kindIdx w = 0
    · exact h0.symm
    · have := (kindIdx_spec h0).1; omega

theorem fields_ok (N : Nat) : ∀ (ws : List (List UInt8)) (nx : Nat) (e : Ev), EvOk N e → (∀ w ∈ ws, w.length ≤ N) → EvOk N (fieldsOf nx e ws).1
  | [], _, e, he, _ => he
  | w :: ws, nx, e, he, hw => by
    have h0 : EvOk N evNone := ⟨⟨by decide, by decide⟩, ⟨by decide, by decide⟩, ⟨by decide, by decide⟩, ⟨by decide, by decide⟩, ⟨by decide, by decide⟩, ⟨by decide, by decide⟩, ⟨by decide, by decide⟩, ⟨by decide, by decide⟩, Nat.zero_le _, Nat.zero_le _⟩
    have hws : ∀ w ∈ ws, w.length ≤ N := fun x hx => hw x (List.mem_cons_of_mem _ hx)
    rw [fieldsOf]
    split
    · exact h0
    · rename_i nm val hc
      have hvl : val.length ≤ N := by
        have h1 := hw w (by simp)
        obtain ⟨h2, _⟩ := cutAt_some hc
        have := congrArg List.length h2
        simp at this; omega
      split
      · split
        · exact h0
        · rename_i b hb
          split
          · exact h0
          · exact ⟨he.kind, he.order, he.item, he.qty, he.price, he.cur, he.tax, he.stamp, he.who, by have := unhexOf_length hb; simp only; omega⟩
      · split
        · exact h0
        · rename_i k hk
          split
          · exact h0
          · split
            · split
              · exact h0
              · exact fields_ok N ws _ _ ⟨he.kind, he.order, he.item, he.qty, he.price, he.cur, he.tax, he.stamp, hvl, he.note⟩ hws
            · split
              · exact h0
              · rename_i n hn
                have hi : I64 n := ((numberOf_iff val n).1 hn).1
                split
                · exact h0
                · refine fields_ok N ws _ _ ?_ hws
                  unfold setKey
                  split
                  · exact ⟨he.kind, hi, he.item, he.qty, he.price, he.cur, he.tax, he.stamp, he.who, he.note⟩
                  · exact ⟨he.kind, he.order, hi, he.qty, he.price, he.cur, he.tax, he.stamp, he.who, he.note⟩
                  · exact ⟨he.kind, he.order, he.item, hi, he.price, he.cur, he.tax, he.stamp, he.who, he.note⟩
                  · exact ⟨he.kind, he.order, he.item, he.qty, hi, he.cur, he.tax, he.stamp, he.who, he.note⟩
                  · exact ⟨he.kind, he.order, he.item, he.qty, he.price, hi, he.tax, he.stamp, he.who, he.note⟩
                  · exact ⟨he.kind, he.order, he.item, he.qty, he.price, he.cur, hi, he.stamp, he.who, he.note⟩
                  · exact ⟨he.kind, he.order, he.item, he.qty, he.price, he.cur, he.tax, hi, he.who, he.note⟩
                  · exact he

end Go.Proofs.YtecmpmnidlfgnaaGreatDoor
