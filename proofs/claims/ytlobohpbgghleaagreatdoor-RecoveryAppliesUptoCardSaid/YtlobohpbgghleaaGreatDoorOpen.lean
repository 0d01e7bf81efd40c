import Derived.Test.YtlobohpbgghleaaGreatDoorBase
import Derived.ProofKit
import Derived.OpenShut
import Derived.ShutString
namespace Go.Proofs.YtlobohpbgghleaaGreatDoor
open Go.RowKit Go.ChangeShapes Go.WideShapes

/-- a slice of integers that came in -/
theorem open_introw {P : Program} {H : Type} {enc : TypeId × Value → H} {W : World} {base : Nat} {t e : TypeId} {k : IntKind} {v : Value} {d : DataW H} {p : List MemPlace}
    (ht : P.underlying t = some (.slice e)) (he : P.underlying e = some (.int k)) (hc : P.cellsOf e = 1) (hok : Value.okWide P W .any base t v)
    (h : DataW.Trod enc P W 0 (fun _ => true) true t v d p) : ∃ zs, IntRow k W v zs := by
  obtain ⟨a, len, cap, rfl⟩ := okWide_slice ht hok
  obtain ⟨fuel, hf⟩ := h
  rcases open_ints ht he hc hf with ⟨hcs, _⟩ | ⟨x, l, c, zs, hcs, _, hl, hm, hz, _, hcell, hwz⟩
  · simp [Value.cells] at hcs
    obtain ⟨rfl, rfl, rfl⟩ := hcs
    exact ⟨[], none, 0, rfl, Nat.le_refl _, by decide, by simp, fun h => absurd rfl h⟩
  · simp [Value.cells] at hcs
    obtain ⟨rfl, rfl, rfl⟩ := hcs
    have hz' : zs.length = cap := by simpa using hz
    have htl : (zs.take len).length = len := by rw [List.length_take]; omega
    refine ⟨zs.take len, some x, cap, by rw [htl], by rw [htl]; exact hl, hm, fun x hx => hwz x (List.mem_of_mem_take hx), fun hn => ?_⟩
    have hpos : 0 < len := by
      rcases Nat.eq_zero_or_pos len with h | h
      · subst h; simp at hn
      · exact h
    obtain ⟨b, off, spot⟩ := x
    have hsp : spot = none := by
      have := World.cell?_spot (hcell 0 (by omega))
      simpa [Addr.add] using this
    subst hsp
    refine ⟨b, off, rfl, fun i x hx => ?_⟩
    have hi : i < zs.length := by have := getElem?_lt hx; rw [htl] at this; omega
    have := hcell i hi
    rw [addr_add] at this
    rw [this]
    rw [List.getElem?_take] at hx
    split at hx
    · simp [List.getD_eq_getElem?_getD, hx]
    · cases hx

/-- a slice of strings that came in -/
theorem open_strrow {P : Program} {H : Type} {enc : TypeId × Value → H} {W : World} {base : Nat} {t e : TypeId} {v : Value} {d : DataW H} {p : List MemPlace}
    (ht : P.underlying t = some (.slice e)) (he : P.underlying e = some .string) (hc : P.cellsOf e = 1) (hok : Value.okWide P W .any base t v)
    (h : DataW.Trod enc P W 0 (fun _ => true) true t v d p) : ∃ ss, StrRow W v ss := by
  obtain ⟨a, len, cap, rfl⟩ := okWide_slice ht hok
  obtain ⟨fuel, hf⟩ := h
  rcases open_strings ht he hc hf with ⟨hcs, _⟩ | ⟨x, l, c, zs, hcs, _, hl, hm, hz, _, hcell, hwz⟩
  · simp [Value.cells] at hcs
    obtain ⟨rfl, rfl, rfl⟩ := hcs
    exact ⟨[], none, 0, rfl, Nat.le_refl _, by decide, by simp, fun h => absurd rfl h⟩
  · simp [Value.cells] at hcs
    obtain ⟨rfl, rfl, rfl⟩ := hcs
    have hz' : zs.length = cap := by simpa using hz
    have htl : ((zs.take len).map fun s : ByteArray => s.data.toList).length = len := by rw [List.length_map, List.length_take]; omega
    refine ⟨(zs.take len).map fun s : ByteArray => s.data.toList, some x, cap, by rw [htl], by rw [htl]; exact hl, hm, fun s hs => ?_, fun hn => ?_⟩
    · obtain ⟨y, hy, rfl⟩ := List.mem_map.1 hs
      exact hwz y (List.mem_of_mem_take hy)
    have hpos : 0 < len := by
      rcases Nat.eq_zero_or_pos len with h | h
      · subst h; simp at hn
      · exact h
    obtain ⟨b, off, spot⟩ := x
    have hsp : spot = none := by
      have := World.cell?_spot (hcell 0 (by omega))
      simpa [Addr.add] using this
    subst hsp
    refine ⟨b, off, rfl, fun i x hx => ?_⟩
    have hi : i < zs.length := by have := getElem?_lt hx; rw [htl] at this; omega
    have := hcell i hi
    rw [addr_add] at this
    rw [this]
    rw [List.getElem?_map, List.getElem?_take] at hx
    split at hx
    · rw [List.getElem?_eq_getElem hi] at hx
      simp only [Option.map_some, Option.some.injEq] at hx
      rw [List.getD_eq_getElem?_getD, List.getElem?_eq_getElem hi, ← hx]; rfl
    · cases hx

end Go.Proofs.YtlobohpbgghleaaGreatDoor
