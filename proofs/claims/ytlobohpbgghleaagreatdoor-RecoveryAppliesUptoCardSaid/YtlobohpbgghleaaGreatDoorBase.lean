import Derived.Test.YtlobohpbgghleaaGreatDoorRows
import Derived.WalkKit
import Derived.WalkSpells
import Derived.WalkLawsBesides
import Derived.Lib.SlBytesConst
import Derived.Lib.SmallJoins
import Derived.Laws.BytesArg
import Derived.Lib.Hide
namespace Go.Proofs.YtlobohpbgghleaaGreatDoor
open Go.RowKit

theorem addr_add (b o j : Nat) : (⟨b, o, none⟩ : Addr).add j = ⟨b, o + j, none⟩ := by unfold Addr.add; split <;> simp_all

theorem snoc_ind {α : Type} {P : List α → Prop} (h0 : P []) (h1 : ∀ l a, P l → P (l ++ [a])) (l : List α) : P l := by
  have key : ∀ m : List α, P m.reverse := fun m => by
    induction m with
    | nil => exact h0
    | cons a m ih => rw [List.reverse_cons]; exact h1 _ _ ih
  have := key l.reverse
  rwa [List.reverse_reverse] at this
theorem take_snoc {α : Type} (l : List α) (k : Nat) (h : k < l.length) : l.take (k + 1) = l.take k ++ [l[k]] := by
  rw [List.take_succ_eq_append_getElem h]

theorem nth {α : Type} (l : List α) (k : Nat) (h : k < l.length) : ∃ x, l[k]? = some x ∧ l.take (k + 1) = l.take k ++ [x] ∧ x ∈ l :=
  ⟨l[k], List.getElem?_eq_getElem h, take_snoc l k h, List.getElem_mem h⟩
theorem getElem?_lt {α : Type} {l : List α} {j : Nat} {x : α} (h : l[j]? = some x) : j < l.length := (List.getElem?_eq_some_iff.1 h).1

theorem ba_get {l : List UInt8} {j : Nat} {x : UInt8} (h : l[j]? = some x) : ∀ hh, (⟨l.toArray⟩ : ByteArray)[j]'hh = x := by
  intro hh
  have hj := getElem?_lt h
  rw [List.getElem?_eq_getElem hj] at h
  have e : (⟨l.toArray⟩ : ByteArray)[j]'hh = l[j] := rfl
  rw [e]; simpa using h

theorem ret_str {a b : ByteArray} (h : a = b) : Ending.returned (.string a) = .returned (.string b) := by rw [h]
theorem ret_int {k : IntKind} {a b : Int} (h : a = b) : Ending.returned (.int k a) = .returned (.int k b) := by rw [h]
theorem ret_bool {a b : Bool} (h : a = b) : Ending.returned (.bool a) = .returned (.bool b) := by rw [h]
theorem ba_append (a b : List UInt8) : (⟨a.toArray⟩ : ByteArray) ++ ⟨b.toArray⟩ = ⟨(a ++ b).toArray⟩ := by
  apply ByteArray.ext; simp

/-- 'string([]byte{x})' -/
theorem conv_one (w : World) (x : Int) (c : Nat) :
    (convert 47 9 (.slice (some ⟨w.heap.size, 0, none⟩) 1 c)).run Tryz.prog (w.alloc (.cells #[.int .u8 x] 5)) = .ok (.string ⟨[UInt8.ofNat x.toNat].toArray⟩) (w.alloc (.cells #[.int .u8 x] 5)) :=
  run_convert_bytes_arg (P := Tryz.prog) (w.alloc (.cells #[.int .u8 x] 5)) 47 5 Tryz.underlying47 Tryz.underlying5 w.heap.size 0 1 c [x] rfl
    (fun i hi => by obtain rfl : i = 0 := by omega
                    rw [Nat.zero_add, World.cell?_alloc_new]; rfl) 9 Tryz.underlying9

/-- '[]byte(s)': a new block -/
theorem conv_bytes (w : World) (l : List UInt8) :
    ∃ c w', (convert 9 47 (.string ⟨l.toArray⟩)).run Tryz.prog w = .ok (.slice (some ⟨w.heap.size, 0, none⟩) l.length c) w' ∧ Below w.heap.size w w' ∧ w'.heap.size = w.heap.size + 1 ∧
      l.length ≤ c ∧ (∀ j x, l[j]? = some x → w'.cell? ⟨w.heap.size, j, none⟩ = some (.int .u8 (x.toNat : Int))) := by
  have hr := run_bytes_of_string (P := Tryz.prog) w 9 47 5 ⟨l.toArray⟩ Tryz.underlying9 Tryz.underlying47 Tryz.underlying5
  refine ⟨_, _, hr, ?_, by simp, grownCap_ge _ _ _ _, fun j x h => ?_⟩
  · exact ((Below.refl _ _).drew).alloc (Nat.le_refl _) _
  · refine (World.cell?_alloc_mark w.drew _ _ _ j).trans ?_
    have h' := getElem?_lt h
    rw [bytesRow_at _ _ _ (by simpa using h')]
    rw [List.getElem?_eq_getElem h'] at h
    simp at h ⊢; rw [h]

/-- two steps, each of which leaves all that was there -/
theorem Below.next {a b c : World} (h : Below a.heap.size a b) (k : Below b.heap.size b c) : Below a.heap.size a c := h.trans (k.mono h.size)

/-- a slice value (nil or not) that reads as these integers -/
def IntRow (k : IntKind) (w : World) (v : Value) (zs : List Int) : Prop :=
  ∃ oa cap, v = .slice oa zs.length cap ∧ zs.length ≤ cap ∧ cap ≤ maxLen ∧ (∀ x ∈ zs, (Lit.int k x).wf = true) ∧
    (zs ≠ [] → ∃ b off, oa = some ⟨b, off, none⟩ ∧ ∀ (i : Nat) x, zs[i]? = some x → w.cell? ⟨b, off + i, none⟩ = some (.int k x))

theorem IntRow.below {k : IntKind} {w w' : World} {v : Value} {zs : List Int} (h : IntRow k w v zs) (hb : Below w.heap.size w w') : IntRow k w' v zs := by
  obtain ⟨oa, cap, h1, h2, h3, h4, h5⟩ := h
  refine ⟨oa, cap, h1, h2, h3, h4, fun hn => ?_⟩
  obtain ⟨b, off, e, hc⟩ := h5 hn
  exact ⟨b, off, e, fun i x hx => cell_later hb (hc i x hx)⟩

/-- a slice value (nil or not) that reads as these strings -/
def StrRow (w : World) (v : Value) (ss : List (List UInt8)) : Prop :=
  ∃ oa cap, v = .slice oa ss.length cap ∧ ss.length ≤ cap ∧ cap ≤ maxLen ∧ (∀ s ∈ ss, s.length ≤ maxLen) ∧
    (ss ≠ [] → ∃ b off, oa = some ⟨b, off, none⟩ ∧ ∀ (i : Nat) s, ss[i]? = some s → w.cell? ⟨b, off + i, none⟩ = some (.string ⟨s.toArray⟩))

theorem StrRow.below {w w' : World} {v : Value} {ss : List (List UInt8)} (h : StrRow w v ss) (hb : Below w.heap.size w w') : StrRow w' v ss := by
  obtain ⟨oa, cap, h1, h2, h3, h4, h5⟩ := h
  refine ⟨oa, cap, h1, h2, h3, h4, fun hn => ?_⟩
  obtain ⟨b, off, e, hc⟩ := h5 hn
  exact ⟨b, off, e, fun i x hx => cell_later hb (hc i x hx)⟩

end Go.Proofs.YtlobohpbgghleaaGreatDoor
