import Derived.Test.YtlobohpbgghleaaGreatDoorReads
import Derived.Deep.DeepHandedRow
namespace Go.Proofs.YtlobohpbgghleaaGreatDoor
open Go.RowKit Go.ChangeShapes Go.WideShapes

/-! what the bound on the bulk gives -/

theorem bulk_one {H : Type} (d : DataW H) : 1 ≤ Rows.uptoBulk d := by
  cases d with
  | lit l => cases l <;> simp [Rows.uptoBulk]
  | nil => simp [Rows.uptoBulk]
  | ptr d => simp [Rows.uptoBulk]
  | slice elems spare => simp [Rows.uptoBulk]
  | agg parts => simp [Rows.uptoBulk]
  | iface t d => simp [Rows.uptoBulk]
  | map entries => simp [Rows.uptoBulk]
  | held h => simp [Rows.uptoBulk]
theorem bulk_part {H : Type} {d : DataW H} {l : List (DataW H)} (h : d ∈ l) : Rows.uptoBulk d ≤ Rows.uptoBulkAll l := by
  induction l with
  | nil => cases h
  | cons x r ih =>
    simp only [Rows.uptoBulkAll]
    cases List.mem_cons.1 h with
    | inl e => subst e; omega
    | inr e => have := ih e; omega
theorem bulk_length {H : Type} (l : List (DataW H)) : l.length ≤ Rows.uptoBulkAll l := by
  induction l with
  | nil => simp [Rows.uptoBulkAll]
  | cons x r ih => have := bulk_one x; simp only [Rows.uptoBulkAll, List.length_cons]; omega

/-- 'whatever reads at type t in n cells, and is of bulk 2^20 at most, reads by R' -/
def OpensU (P : Program) (t : TypeId) (n : Nat) {α : Type} (R : World → List Value → α → Prop) : Prop :=
  ∀ {H : Type} (enc : TypeId × Value → H) (W : World) (fuel : Nat) (cs : List Value) (x : DataW H × List MemPlace),
    DataW.trod enc P W 0 (fun _ => true) true fuel t cs = some x → Rows.uptoBulk x.1 ≤ 1048576 → cs.length = n ∧ ∃ a, R W cs a

def RStrU (_ : World) (cs : List Value) (l : List UInt8) : Prop := cs = [.string ⟨l.toArray⟩] ∧ l.length ≤ 1048576

/-- a slice value (nil or not), n cells an element, whose elements read by R -/
def RowU {α : Type} (n : Nat) (R : World → List Value → α → Prop) (w : World) (v : Value) (xs : List α) : Prop :=
  ∃ oa cap, v = .slice oa xs.length cap ∧ xs.length ≤ cap ∧ cap ≤ 1048576 ∧
    (xs ≠ [] → ∃ b off, oa = some ⟨b, off, none⟩ ∧ ∀ (i : Nat) x, xs[i]? = some x → ∃ cs, cs.length = n ∧ (∀ (j : Nat) u, cs[j]? = some u → w.cell? ⟨b, off + i * n + j, none⟩ = some u) ∧ R w cs x)
def RRowU {α : Type} (n : Nat) (R : World → List Value → α → Prop) (w : World) (cs : List Value) (xs : List α) : Prop := ∃ v, cs = [v] ∧ RowU n R w v xs

theorem opensU_int {P : Program} {t : TypeId} {k : IntKind} (h : P.underlying t = some (.int k)) : OpensU P t 1 (RInt k) := by
  intro H enc W fuel cs x hx _
  obtain ⟨n, rfl, rfl, hw⟩ := DataW.trod_int h hx
  exact ⟨rfl, n, rfl, hw⟩
theorem opensU_bool {P : Program} {t : TypeId} (h : P.underlying t = some .bool) : OpensU P t 1 RBool := by
  intro H enc W fuel cs x hx _
  obtain ⟨b, rfl, rfl⟩ := DataW.trod_bool h hx
  exact ⟨rfl, b, rfl⟩
theorem opensU_str {P : Program} {t : TypeId} (h : P.underlying t = some .string) : OpensU P t 1 RStrU := by
  intro H enc W fuel cs x hx hz
  obtain ⟨s, rfl, rfl, _⟩ := DataW.trod_string h hx
  refine ⟨rfl, s.data.toList, by simp, ?_⟩
  simp [Rows.uptoBulk] at hz ⊢
  omega

theorem opensU_slice {P : Program} {t e : TypeId} {n : Nat} {α : Type} {R : World → List Value → α → Prop} (ht : P.underlying t = some (.slice e)) (hc : P.cellsOf e = n) (hn : 0 < n)
    (he : OpensU P e n R) : OpensU P t 1 (RRowU n R) := by
  intro H enc W fuel cs x hx hz
  rcases DataW.trod_slice ht hx with ⟨rfl, rfl⟩ | ⟨a, len, cap, elems, rest, m, _, rfl, rfl, _, hl, hm, hel, hat, hsp, _⟩
  · exact ⟨rfl, [], _, rfl, none, 0, rfl, Nat.le_refl _, by decide, fun h => absurd rfl h⟩
  · obtain ⟨hrest, _⟩ := hsp rfl
    simp only [Rows.uptoBulk] at hz
    have l1 := bulk_length (elems.map (·.1))
    have l2 := bulk_length (rest.map (·.1))
    simp only [List.length_map] at l1 l2
    have key : ∀ i, i < len → ∃ (a' : α) (cs' : List Value), cs'.length = n ∧ (∀ (j : Nat) u, cs'[j]? = some u → W.cell? ((a.add (i * n)).add j) = some u) ∧ R W cs' a' := by
      intro i hi
      have h1 := hat i hi
      rw [hc] at h1
      have hlt : i < elems.length := by omega
      rw [List.getElem?_eq_getElem hlt] at h1
      obtain ⟨cs', hcs', hx'⟩ := Option.bind_eq_some_iff.1 h1
      obtain ⟨_, hs2⟩ := cells?_spec hcs'
      obtain ⟨h3, a', h4⟩ := he enc W m cs' elems[i] hx' (by
        have := bulk_part (List.mem_map.2 ⟨elems[i], List.getElem_mem hlt, rfl⟩ : elems[i].1 ∈ elems.map (·.1))
        omega)
      exact ⟨a', cs', h3, hs2, h4⟩
    obtain ⟨xs, hxl, hxs⟩ : ∃ xs : List α, xs.length = len ∧ ∀ (i : Nat) x, xs[i]? = some x → ∃ cs' : List Value, cs'.length = n ∧ (∀ (j : Nat) u, cs'[j]? = some u → W.cell? ((a.add (i * n)).add j) = some u) ∧ R W cs' x := by
      have : ∀ k, k ≤ len → ∃ xs : List α, xs.length = k ∧ ∀ (i : Nat) x, xs[i]? = some x → ∃ cs' : List Value, cs'.length = n ∧ (∀ (j : Nat) u, cs'[j]? = some u → W.cell? ((a.add (i * n)).add j) = some u) ∧ R W cs' x := by
        intro k
        induction k with
        | zero => intro _; exact ⟨[], rfl, by simp⟩
        | succ k ih =>
          intro hk
          obtain ⟨xs, h1, h2⟩ := ih (by omega)
          obtain ⟨x, cs', h3⟩ := key k (by omega)
          refine ⟨xs ++ [x], by simp [h1], fun i y hy => ?_⟩
          by_cases hi : i < xs.length
          · rw [List.getElem?_append_left hi] at hy; exact h2 i y hy
          · have hik : i = k := by have := getElem?_lt hy; simp at this; omega
            subst hik
            rw [List.getElem?_append_right (by omega), h1] at hy
            simp at hy
            subst hy
            exact ⟨cs', h3⟩
      exact this len (Nat.le_refl _)
    refine ⟨rfl, xs, _, rfl, some a, cap, by rw [hxl], by omega, by omega, fun hne => ?_⟩
    obtain ⟨b, off, spot⟩ := a
    have hpos : 0 < xs.length := List.length_pos_iff.2 hne
    have hspot : spot = none := by
      obtain ⟨cs', h1, h2, _⟩ := hxs 0 _ (List.getElem?_eq_getElem hpos)
      have h3 := h2 0 _ (List.getElem?_eq_getElem (show 0 < cs'.length by omega))
      have := World.cell?_spot h3
      simpa [Addr.add] using this
    subst hspot
    refine ⟨b, off, rfl, fun i x hi => ?_⟩
    obtain ⟨cs', h1, h2, h3⟩ := hxs i x hi
    refine ⟨cs', h1, fun j u hj => ?_, h3⟩
    have := h2 j u hj
    rwa [addr_add, addr_add] at this

/-- the fields of a struct, from the cell 'off' on -/
def OpensAllU (P : Program) (off : Nat) (fs : List Field) {α : Type} (R : World → List Value → α → Prop) : Prop :=
  ∀ {H : Type} (enc : TypeId × Value → H) (W : World) (fuel : Nat) (cs : List Value) (xs : List (DataW H × List MemPlace)),
    (∀ (i : Nat) (f : Field), fs[i]? = some f → DataW.trod enc P W 0 (fun _ => true) true fuel f.type ((cs.drop f.offset).take (P.cellsOf f.type)) = xs[i]?) → xs.length = fs.length →
    Rows.uptoBulkAll (xs.map (·.1)) ≤ 1048576 → ∃ a, R W (cs.drop off) a

theorem opensU_nil {P : Program} {off : Nat} : OpensAllU P off [] RNil := fun _ _ _ _ _ _ _ _ => ⟨(), trivial⟩
theorem opensU_cons {P : Program} {off n : Nat} {f : Field} {fs : List Field} {α β : Type} {R : World → List Value → α → Prop} {S : World → List Value → β → Prop} (ho : f.offset = off) (hn : P.cellsOf f.type = n)
    (h : OpensU P f.type n R) (hs : OpensAllU P (off + n) fs S) : OpensAllU P off (f :: fs) (RCons n R S) := by
  intro H enc W fuel cs xs hx hl hz
  cases xs with
  | nil => simp at hl
  | cons x xs =>
    simp only [List.map_cons, Rows.uptoBulkAll] at hz
    have h0 := hx 0 f rfl
    rw [ho, hn] at h0
    obtain ⟨_, a, ha⟩ := h enc W fuel _ x (by simpa using h0) (by omega)
    obtain ⟨b, hb⟩ := hs enc W fuel cs xs (fun i g hg => by simpa using hx (i + 1) g (by simpa using hg)) (by simpa using hl) (by omega)
    exact ⟨(a, b), ha, by rw [List.drop_drop]; exact hb⟩

theorem opensU_struct {P : Program} {t : TypeId} {n : Nat} {fs : Array Field} {α : Type} {R : World → List Value → α → Prop} (ht : P.underlying t = some (.struct fs)) (hc : P.cellsOf t = n) (h : OpensAllU P 0 fs.toList R) :
    OpensU P t n R := by
  intro H enc W fuel cs x hx hz
  obtain ⟨xs, m, rfl, rfl, hl, hxl, hat⟩ := DataW.trod_struct ht hx
  simp only [Rows.uptoBulk] at hz
  obtain ⟨a, ha⟩ := h enc W m cs xs (fun i f hf => hat i f (by simpa using hf)) (by simpa using hxl) (by omega)
  exact ⟨hl.trans hc, a, by simpa using ha⟩

theorem openU_struct_by {P : Program} {H : Type} {enc : TypeId × Value → H} {W : World} {base n : Nat} {t : TypeId} {fs : Array Field} {v : Value} {d : DataW H} {p : List MemPlace} {α : Type} {R : World → List Value → α → Prop}
    (ho : OpensU P t n R) (ht : P.underlying t = some (.struct fs)) (hok : Value.okWide P W .any base t v) (h : DataW.Trod enc P W 0 (fun _ => true) true t v d p) (hz : Rows.uptoBulk d ≤ 1048576) :
    ∃ cs a, v = .agg cs ∧ cs.size = n ∧ R W cs.toList a := by
  obtain ⟨cs, rfl, _⟩ := okWide_struct ht hok
  obtain ⟨fuel, hf⟩ := h
  obtain ⟨h1, a, ha⟩ := ho enc W fuel _ _ hf hz
  exact ⟨cs, a, rfl, by simpa [Value.cells] using h1, by simpa [Value.cells] using ha⟩

theorem openU_slice_by {P : Program} {H : Type} {enc : TypeId × Value → H} {W : World} {base n : Nat} {t e : TypeId} {v : Value} {d : DataW H} {p : List MemPlace} {α : Type} {R : World → List Value → α → Prop}
    (ho : OpensU P t 1 (RRowU n R)) (ht : P.underlying t = some (.slice e)) (hok : Value.okWide P W .any base t v) (h : DataW.Trod enc P W 0 (fun _ => true) true t v d p) (hz : Rows.uptoBulk d ≤ 1048576) :
    ∃ xs, RowU n R W v xs := by
  obtain ⟨a, len, cap, rfl⟩ := okWide_slice ht hok
  obtain ⟨fuel, hf⟩ := h
  obtain ⟨_, xs, v', hv, hr⟩ := ho enc W fuel _ _ hf hz
  simp [Value.cells] at hv
  exact ⟨xs, by rw [hv]; exact hr⟩

end Go.Proofs.YtlobohpbgghleaaGreatDoor
