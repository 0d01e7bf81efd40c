import Derived.Test.YtlobohpbgghleaaGreatDoorReads
namespace Go.Proofs.YtlobohpbgghleaaGreatDoor
open Go.RowKit Go.ChangeShapes Go.WideShapes

theorem open_struct_by {P : Program} {H : Type} {enc : TypeId × Value → H} {W : World} {base n : Nat} {t : TypeId} {fs : Array Field} {v : Value} {d : DataW H} {p : List MemPlace} {α : Type} {R : World → List Value → α → Prop}
    (ho : Opens P t n R) (ht : P.underlying t = some (.struct fs)) (hok : Value.okWide P W .any base t v) (h : DataW.Trod enc P W 0 (fun _ => true) true t v d p) (hz : (d.weights P t).all (· ≤ reachBytes) = true) :
    ∃ cs a, v = .agg cs ∧ cs.size = n ∧ R W cs.toList a := by
  obtain ⟨cs, rfl, _⟩ := okWide_struct ht hok
  obtain ⟨fuel, hf⟩ := h
  obtain ⟨h1, a, ha⟩ := ho enc W fuel _ _ hf hz
  exact ⟨cs, a, rfl, by simpa [Value.cells] using h1, by simpa [Value.cells] using ha⟩

theorem open_slice_by {P : Program} {H : Type} {enc : TypeId × Value → H} {W : World} {base n bytes : Nat} {t e : TypeId} {v : Value} {d : DataW H} {p : List MemPlace} {α : Type} {R : World → List Value → α → Prop}
    (ho : Opens P t 1 (RRow n bytes R)) (ht : P.underlying t = some (.slice e)) (hok : Value.okWide P W .any base t v) (h : DataW.Trod enc P W 0 (fun _ => true) true t v d p) (hz : (d.weights P t).all (· ≤ reachBytes) = true) :
    ∃ xs, Row n bytes R W v xs := by
  obtain ⟨a, len, cap, rfl⟩ := okWide_slice ht hok
  obtain ⟨fuel, hf⟩ := h
  obtain ⟨_, xs, v', hv, hr⟩ := ho enc W fuel _ _ hf hz
  simp [Value.cells] at hv
  exact ⟨xs, by rw [hv]; exact hr⟩

end Go.Proofs.YtlobohpbgghleaaGreatDoor
