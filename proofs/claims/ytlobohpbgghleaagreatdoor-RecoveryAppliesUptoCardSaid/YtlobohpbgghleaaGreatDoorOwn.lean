import Derived.Test.YtlobohpbgghleaaGreatDoorBase
import Derived.WalkKit
namespace Go.Proofs.YtlobohpbgghleaaGreatDoor
open Go.RowKit

theorem own_later {w w' : World} {B size n : Nat} {e : TypeId} {v : Value} {xs : List Value} (h : w.ownsRow B e size v n xs) (hb : Below w.heap.size w w') : w'.ownsRow B e size v n xs := by
  refine ⟨h.1, ?_⟩
  rcases h.2 with hn | ⟨g, cap, cur, rfl, hb1, hg, rest⟩
  · exact .inl hn
  · exact .inr ⟨g, cap, cur, rfl, hb1, by rw [hb.block _ (Array.getElem?_eq_some_iff.1 hg).1]; exact hg, rest⟩

/-- its shape, nil or not -/
theorem own_shape {w : World} {B size n : Nat} {e : TypeId} {v : Value} {xs : List Value} (h : w.ownsRow B e size v n xs) : ∃ oa cap, v = .slice oa n cap ∧ n ≤ cap ∧ cap ≤ maxLen := by
  rcases h.2 with ⟨rfl, rfl⟩ | ⟨g, cap, cur, rfl, _, _, h1, h2, _⟩
  · exact ⟨none, 0, rfl, Nat.le_refl _, by decide⟩
  · exact ⟨_, cap, rfl, h1, h2⟩

/-- a row that is not empty: where it lies, and its cells -/
theorem own_get {w : World} {B size n : Nat} {e : TypeId} {v : Value} {xs : List Value} (h : w.ownsRow B e size v n xs) (hn : 0 < n) :
    ∃ g cap, v = .slice (some ⟨g, 0, none⟩) n cap ∧ B ≤ g ∧ g < w.heap.size ∧ n ≤ cap ∧ cap ≤ maxLen ∧ ∀ (j : Nat) u, xs[j]? = some u → w.cell? ⟨g, j, none⟩ = some u := by
  have hx := h
  rcases h.2 with ⟨rfl, rfl⟩ | ⟨g, cap, cur, rfl, h0, hg, h1, h2, _⟩
  · omega
  · refine ⟨g, cap, rfl, h0, (Array.getElem?_eq_some_iff.1 hg).1, h1, h2, fun j u hj => ?_⟩
    rw [hx.cellAt j (by rw [← hx.1]; exact getElem?_lt hj)]
    exact hj

theorem infoStr : (Tryz.prog.info? 9).map (fun i => (i.zero, i.size, i.bytes)) = some (some (.string ByteArray.empty), 1, 16) := by kernel_rfl

/-- strings, as cells -/
def strs (l : List (List UInt8)) : List Value := l.map fun s => .string ⟨s.toArray⟩
theorem strs_get {l : List (List UInt8)} {j : Nat} {s : List UInt8} (h : l[j]? = some s) : (strs l)[j]? = some (.string ⟨s.toArray⟩) := by simp [strs, h]

theorem str_plus (a b m : List UInt8) (hm : m = a ++ b) (h : m.length ≤ 4611686018427387904) (wx : World) : (Op.stringOp .add ⟨a.toArray⟩ ⟨b.toArray⟩).run Tryz.prog wx = .ok (.string ⟨m.toArray⟩) wx := by
  subst hm
  rw [run_string_add_sum wx _ _ (by simp [ByteArray.size] at h ⊢; omega), ba_append]

end Go.Proofs.YtlobohpbgghleaaGreatDoor
