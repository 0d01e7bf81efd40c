import Derived.Test.YtlobohpbgghleaaGreatDoorBase
import Derived.ProofKit
import Derived.OpenShut
import Derived.ShutString
import Derived.SizedLaws
namespace Go.Proofs.YtlobohpbgghleaaGreatDoor
open Go.RowKit Go.ChangeShapes Go.WideShapes

/-- 'whatever reads at type t in n cells reads by R' -/
def Opens (P : Program) (t : TypeId) (n : Nat) {α : Type} (R : World → List Value → α → Prop) : Prop :=
  ∀ {H : Type} (enc : TypeId × Value → H) (W : World) (fuel : Nat) (cs : List Value) (x : DataW H × List MemPlace),
    DataW.trod enc P W 0 (fun _ => true) true fuel t cs = some x → (x.1.weights P t).all (· ≤ reachBytes) = true → cs.length = n ∧ ∃ a, R W cs a

def RInt (k : IntKind) (_ : World) (cs : List Value) (a : Int) : Prop := cs = [.int k a] ∧ (Lit.int k a).wf = true
def RBool (_ : World) (cs : List Value) (a : Bool) : Prop := cs = [.bool a]
def RStr (_ : World) (cs : List Value) (l : List UInt8) : Prop := cs = [.string ⟨l.toArray⟩] ∧ l.length ≤ reachBytes

/-- a slice value (nil or not), n cells an element, whose elements read by R -/
def Row {α : Type} (n bytes : Nat) (R : World → List Value → α → Prop) (w : World) (v : Value) (xs : List α) : Prop :=
  ∃ oa cap, v = .slice oa xs.length cap ∧ xs.length ≤ cap ∧ cap ≤ maxLen ∧ cap * bytes ≤ reachBytes ∧
    (xs ≠ [] → ∃ b off, oa = some ⟨b, off, none⟩ ∧ ∀ (i : Nat) x, xs[i]? = some x → ∃ cs, cs.length = n ∧ (∀ (j : Nat) u, cs[j]? = some u → w.cell? ⟨b, off + i * n + j, none⟩ = some u) ∧ R w cs x)
def RRow {α : Type} (n bytes : Nat) (R : World → List Value → α → Prop) (w : World) (cs : List Value) (xs : List α) : Prop := ∃ v, cs = [v] ∧ Row n bytes R w v xs

theorem opens_int {P : Program} {t : TypeId} {k : IntKind} (h : P.underlying t = some (.int k)) : Opens P t 1 (RInt k) := by
  intro H enc W fuel cs x hx _
  obtain ⟨n, rfl, rfl, hw⟩ := DataW.trod_int h hx
  exact ⟨rfl, n, rfl, hw⟩
theorem opens_bool {P : Program} {t : TypeId} (h : P.underlying t = some .bool) : Opens P t 1 RBool := by
  intro H enc W fuel cs x hx _
  obtain ⟨b, rfl, rfl⟩ := DataW.trod_bool h hx
  exact ⟨rfl, b, rfl⟩
theorem opens_str {P : Program} {t : TypeId} (h : P.underlying t = some .string) : Opens P t 1 RStr := by
  intro H enc W fuel cs x hx hz
  obtain ⟨s, rfl, rfl, _⟩ := DataW.trod_string h hx
  refine ⟨rfl, s.data.toList, by simp, ?_⟩
  simpa [DataW.weights] using hz

theorem cells?_spec {W : World} {base : Nat} {a : Addr} {n : Nat} {cs : List Value} (h : W.cells? base a n = some cs) : cs.length = n ∧ ∀ (j : Nat) u, cs[j]? = some u → W.cell? (a.add j) = some u := by
  obtain ⟨_, hl, hc⟩ := World.cells?_some h
  refine ⟨hl, fun j u hj => ?_⟩
  rw [← hj]
  exact hc j (by have := getElem?_lt hj; omega)

theorem weightsAll_mem {H : Type} {P : Program} {e : TypeId} : ∀ {ds : List (DataW H)} {d : DataW H}, d ∈ ds → ∀ n ∈ d.weights P e, n ∈ DataW.weightsAll P e ds
  | d0 :: ds, d, hm, n, hn => by
    simp only [DataW.weightsAll, List.mem_append]
    rcases List.mem_cons.1 hm with rfl | hm
    · exact .inl hn
    · exact .inr (weightsAll_mem hm n hn)

theorem opens_slice {P : Program} {t e : TypeId} {n bytes : Nat} {α : Type} {R : World → List Value → α → Prop} (ht : P.underlying t = some (.slice e)) (hc : P.cellsOf e = n) (hb : P.bytesOf e = bytes) (hn : 0 < n)
    (he : Opens P e n R) : Opens P t 1 (RRow n bytes R) := by
  intro H enc W fuel cs x hx hz
  rcases DataW.trod_slice ht hx with ⟨rfl, rfl⟩ | ⟨a, len, cap, elems, rest, m, _, rfl, rfl, _, hl, hm, hel, hat, hsp, _⟩
  · exact ⟨rfl, [], _, rfl, none, 0, rfl, Nat.le_refl _, by decide, by simp, fun h => absurd rfl h⟩
  · obtain ⟨hrest, _⟩ := hsp rfl
    simp only [DataW.weights, ht, List.all_cons, List.all_append, Bool.and_eq_true, decide_eq_true_eq, List.length_map] at hz
    obtain ⟨hz0, hz1, _⟩ := hz
    have key : ∀ i, i < len → ∃ (a' : α) (cs' : List Value), cs'.length = n ∧ (∀ (j : Nat) u, cs'[j]? = some u → W.cell? ((a.add (i * n)).add j) = some u) ∧ R W cs' a' := by
      intro i hi
      have h1 := hat i hi
      rw [hc] at h1
      have hlt : i < elems.length := by omega
      rw [List.getElem?_eq_getElem hlt] at h1
      obtain ⟨cs', hcs', hx'⟩ := Option.bind_eq_some_iff.1 h1
      obtain ⟨_, hs2⟩ := cells?_spec hcs'
      obtain ⟨h3, a', h4⟩ := he enc W m cs' elems[i] hx' (by
        rw [List.all_eq_true]
        intro k hk
        exact List.all_eq_true.1 hz1 k (weightsAll_mem (List.mem_map.2 ⟨elems[i], List.getElem_mem hlt, rfl⟩) k hk))
      exact ⟨a', cs', h3, hs2, h4⟩
    obtain ⟨xs, hxl, hxs⟩ : ∃ xs : List α, xs.length = len ∧ ∀ (i : Nat) x, xs[i]? = some x → ∃ cs' : List Value, cs'.length = n ∧ (∀ (j : Nat) u, cs'[j]? = some u → W.cell? ((a.add (i * n)).add j) = some u) ∧ R W cs' x := by
      have : ∀ k, k ≤ len → ∃ xs : List α, xs.length = k ∧ ∀ (i : Nat) x, xs[i]? = some x → ∃ cs' : List Value, cs'.length = n ∧ (∀ (j : Nat) u, cs'[j]? = some u → W.cell? ((a.add (i * n)).add j) = some u) ∧ R W cs' x := by
        intro k
        induction k with
        | zero => intro _; exact ⟨[], rfl, by simp⟩
        | succ k ih =>
          intro hk
          obtain ⟨xs, h1, h2⟩ := ih (by omega)
          obtain ⟨x, cs', h3⟩ := key k (by omega)
          refine ⟨xs ++ [x], by simp [h1], fun i y hy => ?_⟩
          by_cases hi : i < xs.length
          · rw [List.getElem?_append_left hi] at hy; exact h2 i y hy
          · have hik : i = k := by have := getElem?_lt hy; simp at this; omega
            subst hik
            rw [List.getElem?_append_right (by omega), h1] at hy
            simp at hy
            subst hy
            exact ⟨cs', h3⟩
      exact this len (Nat.le_refl _)
    refine ⟨rfl, xs, _, rfl, some a, cap, by rw [hxl], by omega, hm, by rw [← hb]; rw [hel, hrest, show len + (cap - len) = cap by omega] at hz0; exact hz0, fun hne => ?_⟩
    obtain ⟨b, off, spot⟩ := a
    have hpos : 0 < xs.length := List.length_pos_iff.2 hne
    have hspot : spot = none := by
      obtain ⟨cs', h1, h2, _⟩ := hxs 0 _ (List.getElem?_eq_getElem hpos)
      have h3 := h2 0 _ (List.getElem?_eq_getElem (show 0 < cs'.length by omega))
      have := World.cell?_spot h3
      simpa [Addr.add] using this
    subst hspot
    refine ⟨b, off, rfl, fun i x hi => ?_⟩
    obtain ⟨cs', h1, h2, h3⟩ := hxs i x hi
    refine ⟨cs', h1, fun j u hj => ?_, h3⟩
    have := h2 j u hj
    rwa [addr_add, addr_add] at this

/-- the fields of a struct, from the cell 'off' on -/
def OpensAll (P : Program) (off : Nat) (fs : List Field) {α : Type} (R : World → List Value → α → Prop) : Prop :=
  ∀ {H : Type} (enc : TypeId × Value → H) (W : World) (fuel : Nat) (cs : List Value) (xs : List (DataW H × List MemPlace)),
    (∀ (i : Nat) (f : Field), fs[i]? = some f → DataW.trod enc P W 0 (fun _ => true) true fuel f.type ((cs.drop f.offset).take (P.cellsOf f.type)) = xs[i]?) → xs.length = fs.length →
    (DataW.weightsEach P (fs.map (·.type)) (xs.map (·.1))).all (· ≤ reachBytes) = true → ∃ a, R W (cs.drop off) a

def RNil (_ : World) (_ : List Value) (_ : Unit) : Prop := True
def RCons {α β : Type} (n : Nat) (R : World → List Value → α → Prop) (S : World → List Value → β → Prop) (w : World) (cs : List Value) (x : α × β) : Prop := R w (cs.take n) x.1 ∧ S w (cs.drop n) x.2

theorem opens_nil {P : Program} {off : Nat} : OpensAll P off [] RNil := fun _ _ _ _ _ _ _ _ => ⟨(), trivial⟩
theorem opens_cons {P : Program} {off n : Nat} {f : Field} {fs : List Field} {α β : Type} {R : World → List Value → α → Prop} {S : World → List Value → β → Prop} (ho : f.offset = off) (hn : P.cellsOf f.type = n)
    (h : Opens P f.type n R) (hs : OpensAll P (off + n) fs S) : OpensAll P off (f :: fs) (RCons n R S) := by
  intro H enc W fuel cs xs hx hl hz
  cases xs with
  | nil => simp at hl
  | cons x xs =>
    simp only [List.map_cons, DataW.weightsEach, List.all_append, Bool.and_eq_true] at hz
    have h0 := hx 0 f rfl
    rw [ho, hn] at h0
    obtain ⟨_, a, ha⟩ := h enc W fuel _ x (by simpa using h0) hz.1
    obtain ⟨b, hb⟩ := hs enc W fuel cs xs (fun i g hg => by simpa using hx (i + 1) g (by simpa using hg)) (by simpa using hl) hz.2
    exact ⟨(a, b), ha, by rw [List.drop_drop]; exact hb⟩

theorem opens_struct {P : Program} {t : TypeId} {n : Nat} {fs : Array Field} {α : Type} {R : World → List Value → α → Prop} (ht : P.underlying t = some (.struct fs)) (hc : P.cellsOf t = n) (h : OpensAll P 0 fs.toList R) :
    Opens P t n R := by
  intro H enc W fuel cs x hx hz
  obtain ⟨xs, m, rfl, rfl, hl, hxl, hat⟩ := DataW.trod_struct ht hx
  simp only [DataW.weights, ht] at hz
  obtain ⟨a, ha⟩ := h enc W m cs xs (fun i f hf => hat i f (by simpa using hf)) (by simpa using hxl) hz
  exact ⟨hl.trans hc, a, by simpa using ha⟩

end Go.Proofs.YtlobohpbgghleaaGreatDoor
