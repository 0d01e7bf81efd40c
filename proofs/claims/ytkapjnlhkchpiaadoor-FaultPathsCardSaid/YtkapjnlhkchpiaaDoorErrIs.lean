import Derived.Test.YtkapjnlhkchpiaaDoorFaults
import Derived.Deep.LoopGhost
namespace Go.Proofs.YtkapjnlhkchpiaaDoor
open Go.RowKit Go.Extern.Stop Go.Stop Go.Extern

theorem isTypeOf (v : Value) (w : World) : (Extern.ReflectliteType.typeOf #[.iface 59 v]).run Tryd.prog w = .ok (.iface 63 (.agg #[.pointer (some ⟨46, 59, none⟩)])) w := by kernel_rfl
def cmpM : Array Value → Sem Value := Extern.ReflectliteType.method fun t => do Go.Extern.Rtype.noPackHeld "Comparable" t; pure (.bool (← typeInfo t).comparable)
theorem isComparable (w : World) : (cmpM #[.agg #[.pointer (some ⟨46, 59, none⟩)]]).run Tryd.prog w = .ok (.bool true) w := by kernel_rfl
theorem isMethodComparable (k : Nat) (v : Value) (w : World) : (Go.method (k + 1) 63 v "Comparable").run Tryd.prog w = .ok (69, v) w := by kernel_rfl
theorem isComp : (Tryd.prog.info? 59).map (·.comparable) = some true := by kernel_rfl
theorem isSize : (Tryd.prog.info? 61).map (·.size) = some 1 := by kernel_rfl
theorem noIsE (v : Value) (xT : TypeId) (w : World) : (Instr.typeAssert (.iface 59 v) xT 65 true).run Tryd.prog w = .ok (.tuple #[.nilIface, .bool false]) w := run_typeAssert_lacksB Tryd.underlying65 (by kernel_rfl) (by kernel_rfl) v xT w
theorem noUnwrapE (v : Value) (xT : TypeId) (w : World) : (Instr.typeAssert (.iface 59 v) xT 68 true).run Tryd.prog w = .ok (.tuple #[.nilIface, .bool false]) w := run_typeAssert_lacksB Tryd.underlying68 (by kernel_rfl) (by kernel_rfl) v xT w
theorem noUnwrapsE (v : Value) (xT : TypeId) (w : World) : (Instr.typeAssert (.iface 59 v) xT 70 true).run Tryd.prog w = .ok (.tuple #[.nilIface, .bool false]) w := run_typeAssert_lacksB Tryd.underlying70 (by kernel_rfl) (by kernel_rfl) v xT w
theorem noIsF (v : Value) (xT : TypeId) (w : World) : (Instr.typeAssert (.iface 52 v) xT 65 true).run Tryd.prog w = .ok (.tuple #[.nilIface, .bool false]) w := run_typeAssert_lacksB Tryd.underlying65 (by kernel_rfl) (by kernel_rfl) v xT w
theorem hasUnwrapF (v : Value) (xT : TypeId) (w : World) : (Instr.typeAssert (.iface 52 v) xT 68 true).run Tryd.prog w = .ok (.tuple #[.iface 52 v, .bool true]) w := run_typeAssert_hasB Tryd.underlying68 (by kernel_rfl) v xT w
theorem methodUnwrap (k : Nat) (v : Value) (w : World) : (Go.method (k + 1) 52 v "Unwrap").run Tryd.prog w = .ok (65, v) w := by kernel_rfl

/-- errors.is down a chain of faults -/
theorem is_chain (a b : Addr) (r : Bool) (w : World) (ca cb : Array Value) (ta tb : TypeId) (hr : r = decide (a = b)) (ha : w.heap[a.block]? = some (.cells ca ta (0, 0))) (hb : w.heap[b.block]? = some (.cells cb tb (0, 0)))
    (v : Value) (fs : List (List UInt8 × Int)) (hv : ErrChain w (.iface 59 (.pointer (some a))) v fs) :
    Calls Tryd.prog 22 #[v, .iface 59 (.pointer (some b)), .bool true] w fun e w' => e = .returned (.bool r) ∧ w = w' := by
  obtain ⟨i, hi, hcmp⟩ := Option.map_eq_some_iff.1 isComp
  obtain ⟨j, hj, hjs⟩ := Option.map_eq_some_iff.1 isSize
  have heq : (binOp .eql 25 (.iface 59 (.pointer (some a))) (.iface 59 (.pointer (some b)))).run Tryd.prog w = .ok (.bool r) w := by
    subst hr
    by_cases h : a = b
    · subst h; simpa using run_eql_iface_ptr_same (P := Tryd.prog) w a Tryd.underlying25 Tryd.underlying59 hi hcmp hj
    · simpa [h] using run_eql_iface_ptr_other (P := Tryd.prog) w Tryd.underlying25 Tryd.underlying59 hi hcmp hj (by rw [hjs]; decide) h ha hb
  have hne := fun (x : Value) => run_eql_iface_types (P := Tryd.prog) 52 59 x (.pointer (some b)) Tryd.underlying25 (by decide) w
  have HV := Lib.hid hv
  clear hr ha hb hv hi hcmp hj hjs i j
  have nE := noIsE
  have uE := noUnwrapE
  have vE := noUnwrapsE
  have nF := noIsF
  have uF := hasUnwrapF
  have mU := methodUnwrap
  go_enter Tryd.func22, Tryd.ntmps22
  go_wp2
  go_loopg [0] fs.length (fun k p wr => w = wr ∧ ∃ gs, k = gs.length ∧ ErrChain w (.iface 59 (.pointer (some a))) p gs)
  case atStart => exact ⟨rfl, fs, rfl, HV.out⟩
  case round =>
    obtain ⟨rfl, gs, rfl, hch⟩ := hrel
    cases gs with
    | nil =>
      obtain rfl : _ = _ := hch
      cases r
      · go_wp2
        go_ret
        exact ⟨rfl, rfl⟩
      · go_wp2
        go_ret
        exact ⟨rfl, rfl⟩
    | cons f gs =>
      obtain ⟨op, p⟩ := f
      obtain ⟨b0, inner, rfl, hblk, hin⟩ := hch
      obtain ⟨t', x', rfl⟩ := hin.iface
      have HB := Lib.hid hblk
      have HI := Lib.hid hin
      clear hblk hin
      go_wp2_with (go_at_call 65; (with_reducible refine (Fault_Unwrap b0 op p _ _ HB.out ⟨t', x', rfl⟩).mono ?_); rintro e w' ⟨rfl, rfl⟩)
      go_roundg gs.length
      case measure => simp
      case rel => exact ⟨rfl, gs, rfl, HI.out⟩

/-- errors.Is down a chain of faults -/
theorem Is_chain (a b : Addr) (r : Bool) (w : World) (ca cb : Array Value) (ta tb : TypeId) (hr : r = decide (a = b)) (ha : w.heap[a.block]? = some (.cells ca ta (0, 0))) (hb : w.heap[b.block]? = some (.cells cb tb (0, 0)))
    (v : Value) (fs : List (List UInt8 × Int)) (hv : ErrChain w (.iface 59 (.pointer (some a))) v fs) :
    Calls Tryd.prog 8 #[v, .iface 59 (.pointer (some b))] w fun e w' => e = .returned (.bool r) ∧ w = w' := by
  obtain ⟨t', x', rfl⟩ := hv.iface
  have HV := Lib.hid hv
  have HA := Lib.hid ha
  have HB := Lib.hid hb
  clear hv ha hb
  have h8 := @run_callFunc_extern Tryd.prog 21 _ Extern.ReflectliteType.typeOf Tryd.func21 (by kernel_rfl) (by kernel_rfl) (by kernel_rfl) (by kernel_rfl)
  have h32 := @run_callFunc_extern Tryd.prog 69 _ cmpM Tryd.func69 (by kernel_rfl) (by kernel_rfl) (by kernel_rfl) (by kernel_rfl)
  have tT := isTypeOf
  have cT := isComparable
  have mR := isMethodComparable
  go_enter Tryd.func8, Tryd.ntmps8
  go_wp2_with (go_at_call 22; (with_reducible refine (is_chain a b r _ ca cb ta tb hr HA.out HB.out _ fs HV.out).mono ?_); rintro e w' ⟨rfl, rfl⟩)
  go_ret
  exact ⟨by rw [hr]; rfl, rfl⟩

def knownB (e : Int) : Bool := (sIdx e).isSome
theorem sntT_ne (i : Nat) (h : i < 42) : (sntT.getD i []).isEmpty = false := by
  have : ∀ t ∈ sntT, t.isEmpty = false := by decide
  have hl : i < sntT.length := h
  rw [List.getD_eq_getElem?_getD, List.getElem?_eq_getElem hl]
  exact this _ (List.getElem_mem hl)

set_option maxHeartbeats 1000000 in
theorem Known_any (e : Int) (w : World) :
    Calls Tryd.prog 11 #[.int .i64 e] w fun x w' => x = .returned (.bool (knownB e)) ∧ Below w.heap.size w w' := by
  by_cases h0 : e = 0
  · subst h0
    rw [show knownB 0 = false from rfl]
    go_enter Tryd.func11, Tryd.ntmps11
    go_wp2
    go_ret
    exact ⟨rfl, Below.refl _ _⟩
  · have h0' : (e != 0) = true := by simpa using h0
    have hn := sIdx_name e h0
    have hk : knownB e = !(nameOf e).isEmpty := by
      rw [hn, knownB]
      cases hi : sIdx e with
      | none => rfl
      | some i => simp only [Option.isSome_some]; rw [sntT_ne i (sIdx_lt e i hi).1]; rfl
    clear hn
    generalize hk2 : knownB e = k at *
    have hk' : (nameOf e).isEmpty = !k := by rw [hk]; simp
    clear hk hk2
    go_enter Tryd.func11, Tryd.ntmps11
    go_wp2_with (go_at_call 15; (with_reducible refine (refName_any e _).mono ?_); rintro x w' ⟨rfl, hb⟩)
    go_ret
    exact ⟨by cases k <;> rfl, hb⟩

end Go.Proofs.YtkapjnlhkchpiaaDoor
