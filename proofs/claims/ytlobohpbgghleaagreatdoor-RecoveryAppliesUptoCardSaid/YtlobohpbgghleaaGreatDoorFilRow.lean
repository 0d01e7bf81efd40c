import Derived.Test.YtlobohpbgghleaaGreatDoorDiskOps
import Derived.Test.YtlobohpbgghleaaGreatDoorTk
namespace Go.Proofs.YtlobohpbgghleaaGreatDoor
open Go.RowKit

/-! ## files as the document's disk holds them, in blocks of the set A -/

def flCs (f : Fil) (v : Value) : Array Value := #[.string ⟨f.name.toArray⟩, v, .int .i64 f.safe]
@[reducible] def flV (f : Fil) (v : Value) : Value := .agg #[.string ⟨f.name.toArray⟩, v, .int .i64 f.safe]
def BRowIn (A : Nat → Prop) (w : World) (v : Value) (l : List UInt8) : Prop :=
  ∃ oa cap, v = .slice oa l.length cap ∧ l.length ≤ cap ∧ (l ≠ [] → ∃ b off, oa = some ⟨b, off, none⟩ ∧ A b ∧ ∀ (i : Nat) x, l[i]? = some x → w.cell? ⟨b, off + i, none⟩ = some (.int .u8 (x.toNat : Int)))
theorem BRowIn.brow {A : Nat → Prop} {w : World} {v : Value} {l : List UInt8} (h : BRowIn A w v l) : BRow w v l := by
  obtain ⟨oa, cap, h1, h2, h3⟩ := h
  exact ⟨oa, cap, h1, h2, fun hn => by obtain ⟨b, off, e, _, hc⟩ := h3 hn; exact ⟨b, off, e, hc⟩⟩
theorem BRowIn.mono {A A' : Nat → Prop} {w : World} {v : Value} {l : List UInt8} (h : BRowIn A w v l) (hA : ∀ k, A k → A' k) : BRowIn A' w v l := by
  obtain ⟨oa, cap, h1, h2, h3⟩ := h
  exact ⟨oa, cap, h1, h2, fun hn => by obtain ⟨b, off, e, ha, hc⟩ := h3 hn; exact ⟨b, off, e, hA b ha, hc⟩⟩
theorem BRowIn.below {A : Nat → Prop} {w w' : World} {v : Value} {l : List UInt8} (h : BRowIn A w v l) (hb : Below w.heap.size w w') : BRowIn A w' v l := by
  obtain ⟨oa, cap, h1, h2, h3⟩ := h
  exact ⟨oa, cap, h1, h2, fun hn => by obtain ⟨b, off, e, ha, hc⟩ := h3 hn; exact ⟨b, off, e, ha, fun i x hx => cell_later hb (hc i x hx)⟩⟩
theorem browIn_own {A : Nat → Prop} {w : World} {B : Nat} {v : Value} {l : List UInt8} (h : w.ownsRow B 5 1 v l.length (Lib.byteCells l)) (hA : ∀ k, B ≤ k → A k) : BRowIn A w v l := by
  by_cases hn : l = []
  · subst hn
    obtain ⟨oa, cap, rfl, h1, _⟩ := own_shape h
    exact ⟨oa, cap, rfl, h1, fun h => absurd rfl h⟩
  · obtain ⟨g, cap, rfl, hB, _, h1, _, h3⟩ := own_get h (List.length_pos_iff.2 hn)
    exact ⟨_, cap, rfl, h1, fun _ => ⟨g, 0, rfl, hA g hB, fun i x hi => by rw [Nat.zero_add]; exact h3 i _ (by rw [Lib.byteCells, List.getElem?_map, hi]; rfl)⟩⟩
def FilAt (A : Nat → Prop) (w : World) (b o : Nat) (f : Fil) : Prop := ∃ dv, w.rangeAt b o (flCs f dv).toList ∧ BRowIn A w dv f.data
def FilesIn (A : Nat → Prop) (w : World) (v : Value) (fs : List Fil) : Prop :=
  ∃ oa cap, v = .slice oa fs.length cap ∧ fs.length ≤ cap ∧ cap ≤ maxLen ∧ (fs ≠ [] → ∃ b off, oa = some ⟨b, off, none⟩ ∧ A b ∧ ∀ (i : Nat) f, fs[i]? = some f → FilAt A w b (off + i * 3) f)
theorem FilAt.below {A : Nat → Prop} {w w' : World} {b o : Nat} {f : Fil} (h : FilAt A w b o f) (hb : Below w.heap.size w w') : FilAt A w' b o f := by
  obtain ⟨dv, h1, h2⟩ := h
  exact ⟨dv, range_later h1 hb, h2.below hb⟩
theorem FilesIn.below {A : Nat → Prop} {w w' : World} {v : Value} {fs : List Fil} (h : FilesIn A w v fs) (hb : Below w.heap.size w w') : FilesIn A w' v fs := by
  obtain ⟨oa, cap, h1, h2, h3, h4⟩ := h
  refine ⟨oa, cap, h1, h2, h3, fun hn => ?_⟩
  obtain ⟨b, off, e, ha, hc⟩ := h4 hn
  exact ⟨b, off, e, ha, fun i f hf => (hc i f hf).below hb⟩
theorem FilesIn.shape {A : Nat → Prop} {w : World} {v : Value} {fs : List Fil} (h : FilesIn A w v fs) : ∃ oa cap, v = .slice oa fs.length cap ∧ fs.length ≤ cap ∧ cap ≤ 9223372036854775807 ∧
    ∀ (i : Nat) f, fs[i]? = some f → ∃ b off, oa = some ⟨b, off, none⟩ ∧ A b ∧ FilAt A w b (off + i * 3) f := by
  obtain ⟨oa, cap, rfl, h2, h3, h4⟩ := h
  refine ⟨oa, cap, rfl, h2, by unfold maxLen at h3; omega, fun i f hf => ?_⟩
  obtain ⟨b, off, rfl, ha, h6⟩ := h4 (by rintro rfl; simp at hf)
  exact ⟨b, off, rfl, ha, h6 i f hf⟩
/-- the cells of a row of files: each with its data's slice -/
def flCells (l : List (Fil × Value)) : List Value := l.flatMap fun p => (flCs p.1 p.2).toList
theorem flCells_length (l : List (Fil × Value)) : (flCells l).length = l.length * 3 := by
  unfold flCells
  induction l with
  | nil => rfl
  | cons r rs ih => rw [List.flatMap_cons, List.length_append, ih, List.length_cons]; simp [flCs]; omega
theorem flCells_at : ∀ (rs : List (Fil × Value)) (i : Nat) (r : Fil × Value), rs[i]? = some r → ∀ (j : Nat) u, (flCs r.1 r.2)[j]? = some u → (flCells rs)[i * 3 + j]? = some u
  | [], i, r, h, _, _, _ => by simp at h
  | x :: rs, 0, r, h, j, u, hj => by
    simp at h; subst h
    have hl : j < 3 := by have := (Array.getElem?_eq_some_iff.1 hj).1; simpa [flCs] using this
    unfold flCells
    rw [List.flatMap_cons, Nat.zero_mul, Nat.zero_add, List.getElem?_append_left (by simpa [flCs] using hl)]
    simpa using hj
  | x :: rs, i + 1, r, h, j, u, hj => by
    have := flCells_at rs i r (by simpa using h) j u hj
    unfold flCells at this ⊢
    rw [List.flatMap_cons, List.getElem?_append_right (by simp [flCs]; omega)]
    rw [← this]
    congr 1
    simp [flCs]; omega
theorem flCells_snoc (a : List (Fil × Value)) (p : Fil × Value) : flCells (a ++ [p]) = flCells a ++ (flCs p.1 p.2).toList := by simp [flCells]
theorem files_own {A : Nat → Prop} {w : World} {B : Nat} {v : Value} {ps : List (Fil × Value)} (h : w.ownsRow B 49 3 v ps.length (flCells ps)) (hA : ∀ k, B ≤ k → A k)
    (hd : ∀ p ∈ ps, BRowIn A w p.2 p.1.data) : FilesIn A w v (ps.map (·.1)) := by
  by_cases hn : ps = []
  · subst hn
    rcases h.2 with ⟨rfl, _⟩ | ⟨g, cap, cur, rfl, _, _, h1, h2, _⟩
    · exact ⟨none, 0, rfl, Nat.le_refl _, by decide, fun h => absurd rfl h⟩
    · exact ⟨_, cap, rfl, h1, h2, fun h => absurd rfl h⟩
  · obtain ⟨g, cap, rfl, hB, _, h1, h2, h3⟩ := own_get h (List.length_pos_iff.2 hn)
    refine ⟨_, cap, by rw [List.length_map], by rw [List.length_map]; exact h1, h2, fun _ => ⟨g, 0, rfl, hA g hB, fun i f hf => ?_⟩⟩
    rw [List.getElem?_map] at hf
    obtain ⟨p, hp, rfl⟩ := Option.map_eq_some_iff.1 hf
    exact ⟨p.2, fun j u hj => by rw [Nat.zero_add]; exact h3 _ _ (flCells_at ps i p hp j u (by simpa using hj)), hd p (List.mem_of_getElem? hp)⟩
theorem flInfo : (Tryz.prog.info? 49).map (·.size) = some 3 := by kernel_rfl
def zeroFl : Value := .agg #[.string ByteArray.empty, .slice none 0 0, .int .i64 0]
theorem infoFl : (Tryz.prog.info? 49).map (fun i => (i.zero, i.size, i.bytes)) = some (some zeroFl, 3, 48) := by kernel_rfl

/-- the document's disk as a value -/
@[reducible] def dkV (d : Disk) (fv : Value) : Value := .agg #[fv, .int .i64 d.room, .int .i64 d.fuse, .bool d.down, .int .i64 d.steps, .int .i64 d.reads]
def DkAt (A : Nat → Prop) (w : World) (v : Value) (d : Disk) : Prop := ∃ fv, v = dkV d fv ∧ FilesIn A w fv d.files
theorem DkAt.below {A : Nat → Prop} {w w' : World} {v : Value} {d : Disk} (h : DkAt A w v d) (hb : Below w.heap.size w w') : DkAt A w' v d := by
  obtain ⟨fv, h1, h2⟩ := h
  exact ⟨fv, h1, h2.below hb⟩

end Go.Proofs.YtlobohpbgghleaaGreatDoor
