import Derived.Test.YtkapjnlhkchpiaaDoorErrIs
import Derived.Test.YtkapjnlhkchpiaaDoorOwn
import Derived.Laws.Tables
namespace Go.Proofs.YtkapjnlhkchpiaaDoor
open Go.RowKit Go.Extern.Stop Go.Stop Go.Extern

def valueOfM : Array Value → Sem Value := fun args => Extern.ReflectliteValue.unpack (args.getD 0 (.tuple #[]))
def vTypeM : Array Value → Sem Value := Extern.ReflectliteValue.methodAny (Extern.ReflectliteValue.valueError "reflectlite.Value.Type" 0) fun t _ _ _ => Extern.ReflectliteType.toType t
def vIsNilM : Array Value → Sem Value := Extern.ReflectliteValue.method (Extern.ReflectliteValue.valueError "reflectlite.Value.IsNil" 0) Extern.ReflectliteValue.isNil
def vElemM : Array Value → Sem Value := Extern.ReflectliteValue.method (Extern.ReflectliteValue.valueError "reflectlite.Value.Elem" 0) Extern.ReflectliteValue.elem
def rElemM : Array Value → Sem Value := Extern.ReflectliteType.method Extern.ReflectliteType.elem
def implM : Array Value → Sem Value := Extern.ReflectliteType.relation "Implements" Extern.ReflectliteType.implements_
def assignM : Array Value → Sem Value := Extern.ReflectliteType.relation "AssignableTo" Extern.ReflectliteType.assignableTo
def kindM : Array Value → Sem Value := Extern.ReflectliteType.abiMethod fun t => do pure (.int .u8 (← Extern.Rtype.kind t))

theorem asTypeOfF (v : Value) (w : World) : (Extern.ReflectliteType.typeOf #[.iface 52 v]).run Tryd.prog w = .ok (.iface 63 (.agg #[.pointer (some ⟨46, 52, none⟩)])) w := by kernel_rfl
theorem asValueOfP (p : Addr) (w : World) : (valueOfM #[.iface 56 (.pointer (some p))]).run Tryd.prog w
    = .ok (.agg #[.pointer (some ⟨46, 56, none⟩), .pointer (some ⟨w.heap.size, 0, none⟩), .int .u64 150]) (w.alloc (.cells #[.pointer (some p)] 56)) := by kernel_rfl
theorem asValueOfF (p : Addr) (w : World) : (valueOfM #[.iface 52 (.pointer (some p))]).run Tryd.prog w
    = .ok (.agg #[.pointer (some ⟨46, 52, none⟩), .pointer (some ⟨w.heap.size, 0, none⟩), .int .u64 150]) (w.alloc (.cells #[.pointer (some p)] 52)) := by kernel_rfl
theorem asVType (a : Addr) (w : World) : (vTypeM #[.agg #[.pointer (some ⟨46, 56, none⟩), .pointer (some a), .int .u64 150]]).run Tryd.prog w
    = .ok (.iface 63 (.agg #[.pointer (some ⟨46, 56, none⟩)])) w := by kernel_rfl
theorem asKindP (w : World) : (kindM #[.pointer (some ⟨46, 56, none⟩)]).run Tryd.prog w = .ok (.int .u8 22) w := by kernel_rfl
theorem asKindF (w : World) : (kindM #[.pointer (some ⟨46, 52, none⟩)]).run Tryd.prog w = .ok (.int .u8 22) w := by kernel_rfl
theorem asElem (w : World) : (rElemM #[.agg #[.pointer (some ⟨46, 56, none⟩)]]).run Tryd.prog w = .ok (.iface 63 (.agg #[.pointer (some ⟨46, 52, none⟩)])) w := by kernel_rfl
theorem asImpl (w : World) : (implM #[.agg #[.pointer (some ⟨46, 52, none⟩)], .iface 63 (.agg #[.pointer (some ⟨46, 25, none⟩)])]).run Tryd.prog w = .ok (.bool true) w := by kernel_rfl
theorem asAssignF (w : World) : (assignM #[.agg #[.pointer (some ⟨46, 52, none⟩)], .iface 63 (.agg #[.pointer (some ⟨46, 52, none⟩)])]).run Tryd.prog w = .ok (.bool true) w := by kernel_rfl
theorem asAssignE (w : World) : (assignM #[.agg #[.pointer (some ⟨46, 59, none⟩)], .iface 63 (.agg #[.pointer (some ⟨46, 52, none⟩)])]).run Tryd.prog w = .ok (.bool false) w := by kernel_rfl
theorem noAsE (v : Value) (xT : TypeId) (w : World) : (Instr.typeAssert (.iface 59 v) xT 85 true).run Tryd.prog w = .ok (.tuple #[.nilIface, .bool false]) w := run_typeAssert_lacksB Tryd.underlying85 (by kernel_rfl) (by kernel_rfl) v xT w
theorem methodKindP (k : Nat) (w : World) : (Go.method (k + 1) 63 (.agg #[.pointer (some ⟨46, 56, none⟩)]) "Kind").run Tryd.prog w = .ok (61, .pointer (some ⟨46, 56, none⟩)) w := by kernel_rfl
theorem methodKindF (k : Nat) (w : World) : (Go.method (k + 1) 63 (.agg #[.pointer (some ⟨46, 52, none⟩)]) "Kind").run Tryd.prog w = .ok (61, .pointer (some ⟨46, 52, none⟩)) w := by kernel_rfl
theorem methodElem (k : Nat) (v : Value) (w : World) : (Go.method (k + 1) 63 v "Elem").run Tryd.prog w = .ok (70, v) w := by kernel_rfl
theorem methodImpl (k : Nat) (v : Value) (w : World) : (Go.method (k + 1) 63 v "Implements").run Tryd.prog w = .ok (71, v) w := by kernel_rfl
theorem methodAssign (k : Nat) (v : Value) (w : World) : (Go.method (k + 1) 63 v "AssignableTo").run Tryd.prog w = .ok (68, v) w := by kernel_rfl

theorem rl_meth (z : Sem Value) (f : TypeId → Addr → Nat → Nat → Sem Value) (v : Value) :
    Extern.ReflectliteValue.method z f #[v] = (do match ← Extern.ReflectliteValue.parts v with | none => z | some (t, a, fl) => f t a fl (fl % 32)) := rfl
theorem partsP (a : Addr) (w : World) : (Extern.ReflectliteValue.parts (.agg #[.pointer (some ⟨46, 56, none⟩), .pointer (some a), .int .u64 150])).run Tryd.prog w = .ok (some (56, a, 150)) w := by kernel_rfl
theorem partsF (a : Addr) (w : World) : (Extern.ReflectliteValue.parts (.agg #[.pointer (some ⟨46, 52, none⟩), .pointer (some a), .int .u64 150])).run Tryd.prog w = .ok (some (52, a, 150)) w := by kernel_rfl
theorem partsD (a : Addr) (w : World) : (Extern.ReflectliteValue.parts (.agg #[.pointer (some ⟨46, 52, none⟩), .pointer (some a), .int .u64 406])).run Tryd.prog w = .ok (some (52, a, 406)) w := by kernel_rfl
theorem loadP (a p : Addr) (w : World) (h : w.cell? a = some (.pointer (some p))) : (loadVar 56 a).run Tryd.prog w = .ok (.pointer (some p)) w := by
  simp [loadVar, isAgg, underlying, Tryd.underlying56, h, Result.andThen]
theorem loadF (a p : Addr) (w : World) (h : w.cell? a = some (.pointer (some p))) : (loadVar 52 a).run Tryd.prog w = .ok (.pointer (some p)) w := by
  simp [loadVar, isAgg, underlying, Tryd.underlying52, h, Result.andThen]

theorem asIsNil (a p : Addr) (w : World) (h : w.cell? a = some (.pointer (some p))) :
    (vIsNilM #[.agg #[.pointer (some ⟨46, 56, none⟩), .pointer (some a), .int .u64 150]]).run Tryd.prog w = .ok (.bool false) w := by
  unfold vIsNilM
  rw [rl_meth]
  simp only [Sem.run_bind, partsP, Result.andThen_ok]
  simp [Extern.ReflectliteValue.isNil, loadP a p w h, Result.andThen]

theorem elemOfP (w : World) : (Extern.Rtype.elem? 56).run Tryd.prog w = .ok (some 52) w := by kernel_rfl
theorem mkF (p : Addr) (w : World) : (Extern.ReflectliteValue.mk 52 p 256).run Tryd.prog w = .ok (.agg #[.pointer (some ⟨46, 52, none⟩), .pointer (some p), .int .u64 406]) w := by kernel_rfl

theorem asVElem (a p : Addr) (w : World) (h : w.cell? a = some (.pointer (some p))) :
    (vElemM #[.agg #[.pointer (some ⟨46, 56, none⟩), .pointer (some a), .int .u64 150]]).run Tryd.prog w = .ok (.agg #[.pointer (some ⟨46, 52, none⟩), .pointer (some p), .int .u64 406]) w := by
  unfold vElemM
  rw [rl_meth]
  simp only [Sem.run_bind, partsP, Result.andThen_ok]
  simp [Extern.ReflectliteValue.elem, loadP a p w h, elemOfP, mkF, Extern.ReflectliteValue.flagAddr, Result.andThen]

theorem sameF (w : World) : (Extern.Rtype.directlyAssignable 52 52).run Tryd.prog w = .ok true w := by kernel_rfl
theorem sizeF : (Tryd.prog.info? 52).map (·.size) = some 1 := by kernel_rfl

theorem storeF (pb : Nat) (old : Value) (t : TypeId) (b : Addr) (w : World) (h : w.heap[pb]? = some (.cells #[old] t (0, 0))) :
    (storeVar 52 ⟨pb, 0, none⟩ (.pointer (some b))).run Tryd.prog w = .ok () (w.setRow pb #[.pointer (some b)]) := by
  exact run_storeVar_row (P := Tryd.prog) w pb t 52 #[old] #[.pointer (some b)] h sizeF rfl (by simp [Value.oneCell'])

theorem asSet (pb : Nat) (old : Value) (t : TypeId) (a b : Addr) (w : World) (h : w.heap[pb]? = some (.cells #[old] t (0, 0))) (ha : w.cell? a = some (.pointer (some b))) :
    (Extern.ReflectliteValue.set #[.agg #[.pointer (some ⟨46, 52, none⟩), .pointer (some ⟨pb, 0, none⟩), .int .u64 406], .agg #[.pointer (some ⟨46, 52, none⟩), .pointer (some a), .int .u64 150]]).run Tryd.prog w
      = .ok (.tuple #[]) (w.setRow pb #[.pointer (some b)]) := by
  have e : ∀ v x, Extern.ReflectliteValue.set #[v, x] = (Extern.ReflectliteValue.parts v >>= fun r1 => Extern.ReflectliteValue.parts x >>= fun r2 => _) := fun v x => rfl
  rw [e]
  simp only [Sem.run_bind, partsD, partsF, Result.andThen_ok]
  simp [loadF a b w ha, sameF, storeF pb old t b w h, Extern.ReflectliteValue.flagAddr, Result.andThen]

end Go.Proofs.YtkapjnlhkchpiaaDoor
