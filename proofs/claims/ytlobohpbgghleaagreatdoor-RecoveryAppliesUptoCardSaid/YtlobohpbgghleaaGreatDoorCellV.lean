import Derived.Test.YtlobohpbgghleaaGreatDoorBase
import Derived.Deep.MidRow
namespace Go.Proofs.YtlobohpbgghleaaGreatDoor
open Go.RowKit

/-! ## a store of one cell, the world behind it under a name of its own -/

theorem run_storeVar_cell (w : World) (b o : Nat) (ty : TypeId) (v : Value) (old : Value) (hi : (Tryz.prog.info? ty).map (·.size) = some 1) (h1 : v.oneCell' = true) (hc : w.cell? ⟨b, o, none⟩ = some old) (hf : w.frozen? ⟨b, o, none⟩ = false) :
    (storeVar ty ⟨b, o, none⟩ v).run Tryz.prog w = .ok () (w.setCell ⟨b, o, none⟩ v) := by
  have := run_storeCells_cells (P := Tryz.prog) b o [v] 0 w (fun j hj => by
      simp at hj; subst hj; simp [hc]) (fun j hj => by simp at hj; subst hj; exact hf) (fun x hx => by simp at hx; subst hx; exact h1)
  have hcc : v.cells = #[v] := by cases v <;> first | rfl | cases h1
  cases hq : Tryz.prog.info? ty with
  | none => simp [hq] at hi
  | some i =>
    have hs : i.size = 1 := by simpa [hq] using hi
    simp only [Nat.add_zero] at this
    simp [storeVar, sizeOf, typeInfo, hq, hcc, hs]
    exact this

theorem wpList_store_cellV {ops : Array Oper} {rest : List Oper} {op : Oper} {a : Act} {w : World} {Q : Exit → Act → World → Prop} (hgd : op.guard = none) (ty : TypeId) (x y : Operand) (ho : op.op = .store ty x y)
    (b o : Nat) (v old : Value) (hi : (Tryz.prog.info? ty).map (·.size) = some 1) (h1 : v.oneCell' = true) (hx : a.eval x = .pointer (some ⟨b, o, none⟩)) (hy : a.eval y = v) (hc : w.cell? ⟨b, o, none⟩ = some old) (hf : w.frozen? ⟨b, o, none⟩ = false)
    (h : ∀ W, Hid (W = w.setCell ⟨b, o, none⟩ v) → wpList Tryz.prog ops Q rest (a.put op.dst undef) W) : wpList Tryz.prog ops Q (op :: rest) a w :=
  wpList_plain hgd fun _ hK => by
    unfold Oper.wp execOp
    simp only [ho, hx, hy, Instr.storeAt, Instr.sureAddr, Sem.run_bind, Sem.run_pure, Result.andThen_ok, run_storeVar_cell w b o ty v old hi h1 hc hf]
    exact hK _ _ (h _ (Lib.hid rfl))

/-- the same, where whichever operation is ready comes up -/
theorem wp_store_cell {op : Oper} {a : Act} {w : World} {K : Act → World → Prop} {Q : Exit → Act → World → Prop} (ty : TypeId) (x y : Operand) (ho : op.op = .store ty x y)
    (b o : Nat) (v old : Value) (hi : (Tryz.prog.info? ty).map (·.size) = some 1) (h1 : v.oneCell' = true) (hx : a.eval x = .pointer (some ⟨b, o, none⟩)) (hy : a.eval y = v) (hc : w.cell? ⟨b, o, none⟩ = some old) (hf : w.frozen? ⟨b, o, none⟩ = false)
    (h : K (a.put op.dst undef) (w.setCell ⟨b, o, none⟩ v)) : op.wp Tryz.prog a w K Q := by
  unfold Oper.wp execOp
  simp only [ho, hx, hy, Instr.storeAt, Instr.sureAddr, Sem.run_bind, Sem.run_pure, Result.andThen_ok, run_storeVar_cell w b o ty v old hi h1 hc hf]
  exact h

end Go.Proofs.YtlobohpbgghleaaGreatDoor
