import Derived.Test.YtkapjnlhkchpiaaDoorErrAs
import Derived.Deep.LoopGhost
import Derived.Laws.CopyOwn
namespace Go.Proofs.YtkapjnlhkchpiaaDoor
open Go.RowKit Go.Extern.Stop Go.Stop Go.Extern

theorem as_sent (x T h1 h2 h3 : Value) (w : World) :
    Calls Tryd.prog 31 #[.iface 59 x, T, .agg #[h1, h2, h3], .iface 63 (.agg #[.pointer (some ⟨46, 52, none⟩)])] w
      fun e w' => e = .returned (.bool false) ∧ Below w.heap.size w w' := by
  have h8 := @run_callFunc_extern Tryd.prog 21 _ Extern.ReflectliteType.typeOf Tryd.func21 (by kernel_rfl) (by kernel_rfl) (by kernel_rfl) (by kernel_rfl)
  have h9 := @run_callFunc_extern Tryd.prog 68 _ assignM Tryd.func68 (by kernel_rfl) (by kernel_rfl) (by kernel_rfl) (by kernel_rfl)
  have tE := isTypeOf
  have aE := asAssignE
  have mA := methodAssign
  have nA := noAsE
  have nU := noUnwrapE
  have nV := noUnwrapsE
  go_enter Tryd.func31, Tryd.ntmps31
  go_wp2
  refine wp_loop_rounds 1 ?_
  rw [rounds_succ]
  go_wp2
  go_ret
  exact ⟨rfl, (Below.refl _ _).alloc (Nat.le_refl _) _⟩

theorem as_fault (pb : Nat) (b q : Addr) (old : Value) (ty : TypeId) (T : Value) (w : World) (hp : w.heap[pb]? = some (.cells #[old] ty (0, 0))) (hq : w.cell? q = some (.pointer (some ⟨pb, 0, none⟩))) :
    Calls Tryd.prog 31 #[.iface 52 (.pointer (some b)), T, .agg #[.pointer (some ⟨46, 56, none⟩), .pointer (some q), .int .u64 150], .iface 63 (.agg #[.pointer (some ⟨46, 52, none⟩)])] w
      fun e w' => e = .returned (.bool true) ∧ w'.heap[pb]? = some (.cells #[.pointer (some b)] ty (0, 0)) ∧ Below pb w w' := by
  have hlt := lt_of_block hp
  have h8 := @run_callFunc_extern Tryd.prog 21 _ Extern.ReflectliteType.typeOf Tryd.func21 (by kernel_rfl) (by kernel_rfl) (by kernel_rfl) (by kernel_rfl)
  have h9 := @run_callFunc_extern Tryd.prog 68 _ assignM Tryd.func68 (by kernel_rfl) (by kernel_rfl) (by kernel_rfl) (by kernel_rfl)
  have h10 := @run_callFunc_extern Tryd.prog 33 _ vElemM Tryd.func33 (by kernel_rfl) (by kernel_rfl) (by kernel_rfl) (by kernel_rfl)
  have h11 := @run_callFunc_extern Tryd.prog 28 _ valueOfM Tryd.func28 (by kernel_rfl) (by kernel_rfl) (by kernel_rfl) (by kernel_rfl)
  have h12 := @run_callFunc_extern Tryd.prog 34 _ Extern.ReflectliteValue.set Tryd.func34 (by kernel_rfl) (by kernel_rfl) (by kernel_rfl) (by kernel_rfl)
  have tF := asTypeOfF
  have aF := asAssignF
  have mA := methodAssign
  have vF := asValueOfF
  have vE : ∀ C, (vElemM #[.agg #[.pointer (some ⟨46, 56, none⟩), .pointer (some q), .int .u64 150]]).run Tryd.prog (w.alloc C) = .ok (.agg #[.pointer (some ⟨46, 52, none⟩), .pointer (some ⟨pb, 0, none⟩), .int .u64 406]) (w.alloc C) :=
    fun C => asVElem q ⟨pb, 0, none⟩ _ (cell_later ((Below.refl _ _).alloc (Nat.le_refl _) C) hq)
  have heap2 : ∀ C D, ((w.alloc C).alloc D).heap[pb]? = some (.cells #[old] ty (0, 0)) := fun C D => by
    rw [Below.heap_alloc _ _ _ (by simp; omega), Below.heap_alloc _ _ _ hlt]; exact hp
  have sE : ∀ C, (Extern.ReflectliteValue.set #[.agg #[.pointer (some ⟨46, 52, none⟩), .pointer (some ⟨pb, 0, none⟩), .int .u64 406], .agg #[.pointer (some ⟨46, 52, none⟩), .pointer (some ⟨w.heap.size + 1, 0, none⟩), .int .u64 150]]).run Tryd.prog ((w.alloc C).alloc (.cells #[.pointer (some b)] 52))
      = .ok (.tuple #[]) (((w.alloc C).alloc (.cells #[.pointer (some b)] 52)).setRow pb #[.pointer (some b)]) := fun C =>
    asSet pb old ty _ b _ (heap2 _ _) (by simp)
  have HH := Lib.hid heap2
  clear heap2 hp hq
  go_enter Tryd.func31, Tryd.ntmps31
  go_wp2
  refine wp_loop_rounds 1 ?_
  rw [rounds_succ]
  go_wp2
  go_ret
  exact ⟨rfl, setRow_heap _ _ _ _ _ _ (HH.out _ _), below_setRow (((Below.refl _ _).alloc (by omega) _).alloc (by simp; omega) _) (Nat.le_refl _) _⟩

/-- the type 'error', as the package errors keeps it -/
def EType (w : World) : Prop := w.cell? ⟨42, 0, none⟩ = some (.iface 63 (.agg #[.pointer (some ⟨46, 25, none⟩)]))

theorem EType.below {w w' : World} (h : EType w) (hb : Below w.heap.size w w') : EType w' := cell_later hb h

set_option maxHeartbeats 1000000 in
theorem As_sent (x : Value) (p : Addr) (w : World) (hE : EType w) :
    Calls Tryd.prog 26 #[.iface 59 x, .iface 56 (.pointer (some p))] w fun e w' => e = .returned (.bool false) ∧ Below w.heap.size w w' := by
  have h11 := @run_callFunc_extern Tryd.prog 28 _ valueOfM Tryd.func28 (by kernel_rfl) (by kernel_rfl) (by kernel_rfl) (by kernel_rfl)
  have h12 := @run_callFunc_extern Tryd.prog 29 _ vTypeM Tryd.func29 (by kernel_rfl) (by kernel_rfl) (by kernel_rfl) (by kernel_rfl)
  have h13 := @run_callFunc_extern Tryd.prog 30 _ vIsNilM Tryd.func30 (by kernel_rfl) (by kernel_rfl) (by kernel_rfl) (by kernel_rfl)
  have h14 := @run_callFunc_extern Tryd.prog 70 _ rElemM Tryd.func70 (by kernel_rfl) (by kernel_rfl) (by kernel_rfl) (by kernel_rfl)
  have h15 := @run_callFunc_extern Tryd.prog 61 _ kindM Tryd.func61 (by kernel_rfl) (by kernel_rfl) (by kernel_rfl) (by kernel_rfl)
  have h16 := @run_callFunc_extern Tryd.prog 71 _ implM Tryd.func71 (by kernel_rfl) (by kernel_rfl) (by kernel_rfl) (by kernel_rfl)
  have vP := asValueOfP
  have vT := asVType
  have kP := asKindP
  have kF := asKindF
  have rE := asElem
  have rI := asImpl
  have mKP := methodKindP
  have mKF := methodKindF
  have mE := methodElem
  have mI := methodImpl
  have iN : ∀ C, (vIsNilM #[.agg #[.pointer (some ⟨46, 56, none⟩), .pointer (some ⟨w.heap.size, 0, none⟩), .int .u64 150]]).run Tryd.prog ((w.alloc (.cells #[.pointer (some p)] 56)).alloc C) = .ok (.bool false) ((w.alloc (.cells #[.pointer (some p)] 56)).alloc C) := fun C =>
    asIsNil _ p _ (cell_later ((Below.refl _ _).alloc (Nat.le_refl _) C) (World.cell?_alloc_new w #[.pointer (some p)] 56 0))
  have eT : ∀ C D, ((w.alloc C).alloc D).cell? ⟨42, 0, none⟩ = some (.iface 63 (.agg #[.pointer (some ⟨46, 25, none⟩)])) := fun C D =>
    cell_later (Below.alloc ((Below.refl _ _).alloc (Nat.le_refl _) C) (by simp) D) hE
  clear hE
  go_enter Tryd.func26, Tryd.ntmps26
  go_wp2_with (go_at_call 31; (with_reducible refine (as_sent _ _ _ _ _ _).mono ?_); rintro e w' ⟨rfl, hb⟩)
  go_ret
  exact ⟨rfl, (Below.alloc ((Below.refl _ _).alloc (Nat.le_refl _) _) (by simp) _).trans (hb.mono (by simp; omega))⟩

set_option maxHeartbeats 1000000 in
theorem As_fault (b : Addr) (pb : Nat) (old : Value) (ty : TypeId) (w : World) (hE : EType w) (hp : w.heap[pb]? = some (.cells #[old] ty (0, 0))) :
    Calls Tryd.prog 26 #[.iface 52 (.pointer (some b)), .iface 56 (.pointer (some ⟨pb, 0, none⟩))] w
      fun e w' => e = .returned (.bool true) ∧ w'.heap[pb]? = some (.cells #[.pointer (some b)] ty (0, 0)) ∧ Below pb w w' := by
  have hlt := lt_of_block hp
  have h11 := @run_callFunc_extern Tryd.prog 28 _ valueOfM Tryd.func28 (by kernel_rfl) (by kernel_rfl) (by kernel_rfl) (by kernel_rfl)
  have h12 := @run_callFunc_extern Tryd.prog 29 _ vTypeM Tryd.func29 (by kernel_rfl) (by kernel_rfl) (by kernel_rfl) (by kernel_rfl)
  have h13 := @run_callFunc_extern Tryd.prog 30 _ vIsNilM Tryd.func30 (by kernel_rfl) (by kernel_rfl) (by kernel_rfl) (by kernel_rfl)
  have h14 := @run_callFunc_extern Tryd.prog 70 _ rElemM Tryd.func70 (by kernel_rfl) (by kernel_rfl) (by kernel_rfl) (by kernel_rfl)
  have h15 := @run_callFunc_extern Tryd.prog 61 _ kindM Tryd.func61 (by kernel_rfl) (by kernel_rfl) (by kernel_rfl) (by kernel_rfl)
  have h16 := @run_callFunc_extern Tryd.prog 71 _ implM Tryd.func71 (by kernel_rfl) (by kernel_rfl) (by kernel_rfl) (by kernel_rfl)
  have vP := asValueOfP
  have vT := asVType
  have kP := asKindP
  have kF := asKindF
  have rE := asElem
  have rI := asImpl
  have mKP := methodKindP
  have mKF := methodKindF
  have mE := methodElem
  have mI := methodImpl
  have iN : ∀ C, (vIsNilM #[.agg #[.pointer (some ⟨46, 56, none⟩), .pointer (some ⟨w.heap.size, 0, none⟩), .int .u64 150]]).run Tryd.prog ((w.alloc (.cells #[.pointer (some ⟨pb, 0, none⟩)] 56)).alloc C) = .ok (.bool false) ((w.alloc (.cells #[.pointer (some ⟨pb, 0, none⟩)] 56)).alloc C) := fun C =>
    asIsNil _ ⟨pb, 0, none⟩ _ (cell_later ((Below.refl _ _).alloc (Nat.le_refl _) C) (World.cell?_alloc_new w #[.pointer (some ⟨pb, 0, none⟩)] 56 0))
  have eT : ∀ C D, ((w.alloc C).alloc D).cell? ⟨42, 0, none⟩ = some (.iface 63 (.agg #[.pointer (some ⟨46, 25, none⟩)])) := fun C D =>
    cell_later (Below.alloc ((Below.refl _ _).alloc (Nat.le_refl _) C) (by simp) D) hE
  have heap2 : Hid (∀ C D, ((w.alloc C).alloc D).heap[pb]? = some (.cells #[old] ty (0, 0))) := Lib.hid fun C D => by
    rw [Below.heap_alloc _ _ _ (by simp; omega), Below.heap_alloc _ _ _ hlt]; exact hp
  have cell2 : Hid (∀ D, ((w.alloc (.cells #[.pointer (some ⟨pb, 0, none⟩)] 56)).alloc D).cell? ⟨w.heap.size, 0, none⟩ = some (.pointer (some ⟨pb, 0, none⟩))) := Lib.hid fun D =>
    cell_later ((Below.refl _ _).alloc (Nat.le_refl _) D) (World.cell?_alloc_new w #[.pointer (some ⟨pb, 0, none⟩)] 56 0)
  clear hE hp
  go_enter Tryd.func26, Tryd.ntmps26
  go_wp2_with (go_at_call 31; (with_reducible refine (as_fault pb b ⟨w.heap.size, 0, none⟩ old ty _ _ (heap2.out _ _) (cell2.out _)).mono ?_); rintro e w' ⟨rfl, hc, hb⟩)
  go_ret
  exact ⟨rfl, hc, (Below.alloc ((Below.refl _ _).alloc (Nat.le_of_lt hlt) _) (by simp; omega) _).trans hb⟩

end Go.Proofs.YtkapjnlhkchpiaaDoor
