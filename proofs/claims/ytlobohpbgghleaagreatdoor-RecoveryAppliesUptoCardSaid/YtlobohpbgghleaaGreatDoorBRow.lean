import Derived.Test.YtlobohpbgghleaaGreatDoorBase
import Derived.Deep.QuietTactic
import Derived.BigQuiet
import Derived.Deep.RegionWith
import Derived.IntWalk
namespace Go.Proofs.YtlobohpbgghleaaGreatDoor
open Go.RowKit

/-! ## bytes in memory -/

/-- a slice value (nil or not) that reads as these bytes -/
def BRow (w : World) (v : Value) (l : List UInt8) : Prop :=
  ∃ oa cap, v = .slice oa l.length cap ∧ l.length ≤ cap ∧
    (l ≠ [] → ∃ b off, oa = some ⟨b, off, none⟩ ∧ ∀ (i : Nat) x, l[i]? = some x → w.cell? ⟨b, off + i, none⟩ = some (.int .u8 (x.toNat : Int)))

theorem BRow.below {w w' : World} {v : Value} {l : List UInt8} (h : BRow w v l) (hb : Below w.heap.size w w') : BRow w' v l := by
  obtain ⟨oa, cap, h1, h2, h5⟩ := h
  refine ⟨oa, cap, h1, h2, fun hn => ?_⟩
  obtain ⟨b, off, e, hc⟩ := h5 hn
  exact ⟨b, off, e, fun i x hx => cell_later hb (hc i x hx)⟩

/-- its shape: cells of a block, or nothing -/
theorem BRow.shape {w : World} {v : Value} {l : List UInt8} (h : BRow w v l) : (l = [] ∧ ∃ oa cap, v = .slice oa 0 cap) ∨
    ∃ b off cap, v = .slice (some ⟨b, off, none⟩) l.length cap ∧ l.length ≤ cap ∧ ∀ (i : Nat) x, l[i]? = some x → w.cell? ⟨b, off + i, none⟩ = some (.int .u8 (x.toNat : Int)) := by
  obtain ⟨oa, cap, rfl, h2, h5⟩ := h
  cases l with
  | nil => exact .inl ⟨rfl, oa, cap, rfl⟩
  | cons x l =>
    obtain ⟨b, off, rfl, hc⟩ := h5 (by simp)
    exact .inr ⟨b, off, cap, rfl, h2, hc⟩

theorem below_drewN' (w : World) (n : Nat) : Below w.heap.size w (w.drewN n) := ⟨rfl, rfl, rfl, Nat.le_refl _, fun _ _ => rfl⟩

theorem quiet_eq {P : Program} {f : FuncId} {args : Array Value} {w : World} {n : Nat} {v : Value}
    (h : Calls P f args (w.drewN n) fun e w' => e = .returned v ∧ w.drewN n = w') : Calls P f args (w.drewN n) fun e w' => e = .returned v ∧ ∃ m, w' = w.drewN m :=
  h.mono fun _ _ ⟨he, hw⟩ => ⟨he, n, hw.symm⟩

theorem str_add (a b m : List UInt8) (hm : m = a ++ b) (h : m.length ≤ 4611686018427387904) (wx : World) : (Op.stringOp .add ⟨a.toArray⟩ ⟨b.toArray⟩).run Tryz.prog wx = .ok (.string ⟨m.toArray⟩) wx := by
  subst hm
  rw [run_string_add_sum wx _ _ (by simp [ByteArray.size] at h ⊢; omega), ba_append]

end Go.Proofs.YtlobohpbgghleaaGreatDoor
