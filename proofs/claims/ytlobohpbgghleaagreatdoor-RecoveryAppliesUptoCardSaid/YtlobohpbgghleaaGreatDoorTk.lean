import Derived.Test.YtlobohpbgghleaaGreatDoorOwn
import Derived.Test.YtlobohpbgghleaaGreatDoorBytes
import Derived.Test.YtlobohpbgghleaaGreatDoorCellV
import Derived.Deep.MidRow
import Derived.Deep.RegionHeld3
import Derived.Laws.AppendOwn
import Derived.Laws.OwnMore
import Derived.Laws.MakeOwn
import Derived.Deep.QuietTactic
import Derived.BigQuiet
namespace Go.Proofs.YtlobohpbgghleaaGreatDoor
open Go.RowKit

/-! ## short names for the moves of a drawn region -/

section
variable {P : Program} {ops : Array Oper} {Q : Exit → Act → World → Prop} {md : Region.Mode} {S : World → Prop}
theorem tk {d : Option Tmp} {o : Op} {t : TypeId} {p : String} {af : Array Edge} {g : Option (Nat × Bool)} {fuel : Nat} {listed : Array Bool} {a : Act} {w : World} (i : Nat) (hi : ops[i]? = some ⟨d, o, t, p, af, g⟩) (v : Value)
    (hy : ∀ w, S w → (execOp a.eval ⟨d, o, t, p, af, g⟩).run P w = .ok (.value v) w) (h : wpAnyH P md ops Q S fuel (listed.setIfInBounds i true) (a.put d v) w)
    (hs : Region.noSelect ops = true := by kernel_rfl) (hf : Region.free md ops listed i = true := by kernel_rfl) (hr : (Region.ready md ops listed).contains i = true := by kernel_rfl)
    (hQ : ∀ c a w, Q (.panic c) (a.put d v) w → Q (.panic c) a w := by exact fun _ _ _ h => h) (hw : Region.wanted ⟨d, o, t, p, af, g⟩ (yielded ops a.tmps) = true := by kernel_rfl) (hS : S w := by assumption) :
    wpAnyH P md ops Q S (fuel + 1) listed a w := wpAnyH_take hi hs hf hr hQ (Or.inl ⟨hw, hy⟩) hS h
theorem tkn {d : Option Tmp} {o : Op} {t : TypeId} {p : String} {af : Array Edge} {g : Option (Nat × Bool)} {fuel : Nat} {listed : Array Bool} {a : Act} {w : World} (i : Nat) (hi : ops[i]? = some ⟨d, o, t, p, af, g⟩)
    (h : wpAnyH P md ops Q S fuel (listed.setIfInBounds i true) (a.put d undef) w)
    (hs : Region.noSelect ops = true := by kernel_rfl) (hf : Region.free md ops listed i = true := by kernel_rfl) (hr : (Region.ready md ops listed).contains i = true := by kernel_rfl)
    (hQ : ∀ c a w, Q (.panic c) (a.put d undef) w → Q (.panic c) a w := by exact fun _ _ _ h => h) (hw : Region.wanted ⟨d, o, t, p, af, g⟩ (yielded ops a.tmps) = false := by kernel_rfl) (hS : S w := by assumption) :
    wpAnyH P md ops Q S (fuel + 1) listed a w := wpAnyH_take hi hs hf hr hQ (Or.inr ⟨hw, rfl⟩) hS h
end
theorem pA (a : Act) (d : Tmp) (v : Value) : a.put (some d) v = { a with tmps := a.tmps.setIfInBounds d v } := rfl
theorem pB {α : Type} (l : List α) (i : Nat) (x : α) : l.toArray.setIfInBounds i x = (l.set i x).toArray := List.setIfInBounds_toArray ..
theorem pC {α : Type} (y : α) (l : List α) (x : α) : (y :: l).set 0 x = x :: l := rfl
theorem pD {α : Type} (y : α) (l : List α) (i : Nat) (x : α) : (y :: l).set (i + 1) x = y :: l.set i x := rfl
theorem range_later {w w' : World} {b off : Nat} {cs : List Value} (h : w.rangeAt b off cs) (hb : Below w.heap.size w w') : w'.rangeAt b off cs := fun j u hj => cell_later hb (h j u hj)
theorem own_fresh (w : World) (e size : Nat) (B : Nat) (hB : B ≤ w.heap.size) : (w.alloc (.cells #[] e)).ownsRow B e size (.slice (some ⟨w.heap.size, 0, none⟩) 0 0) 0 [] :=
  ⟨by simp, .inr ⟨w.heap.size, 0, #[], rfl, hB, heap_alloc_new w _, Nat.le_refl _, by decide, by simp, by simp⟩⟩
theorem own_set {w : World} {B size n k j : Nat} {e : TypeId} {v u : Value} {xs : List Value} (h : w.ownsRow B e size v n xs) (hk : k < B) : (w.setCell ⟨k, j, none⟩ u).ownsRow B e size v n xs := by
  refine ⟨h.1, ?_⟩
  rcases h.2 with hn | ⟨g, cap, cur, rfl, hb1, hg, rest⟩
  · exact .inl hn
  · refine .inr ⟨g, cap, cur, rfl, hb1, ?_, rest⟩
    simp only [World.setCell]
    rw [Array.getElem?_modify]
    simp [hg, show k ≠ g by omega]
theorem below_alloc (w : World) (o : Obj) : Below w.heap.size w (w.alloc o) := (Below.refl _ _).alloc (Nat.le_refl _) _

end Go.Proofs.YtlobohpbgghleaaGreatDoor
