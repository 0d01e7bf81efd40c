import Derived.Test.YtlobohpbgghleaaDoorBase
import Derived.Test.YtlobohpbgghleaaDoorShelf
import Derived.Lib.LaidTab
namespace Go.Proofs.YtlobohpbgghleaaDoor
open Go.RowKit Go.Sort

/-- the library's table of powers of ten holds them -/
def PowTab (w : World) : Prop := Lib.TabIs Tryd.prog w "internal/strconv.uint64pow10" .u64 Lib.pow10Tab

theorem grow_below (w : World) (k : Nat) (os : Array Obj) : Below w.heap.size w (grow (w.drewN k) os) :=
  ⟨rfl, rfl, rfl, by simp [grow, World.drewN], fun i hi => by
    show (w.heap ++ os)[i]? = _
    rw [Array.getElem?_append_left hi]⟩

theorem var_below {P : Program} {n : String} {cs : Array Value} {w w' : World} (h : w.var? P n = some cs) (hb : Below w.heap.size w w') : w'.var? P n = some cs := by
  unfold World.var? at h ⊢
  cases hg : P.globalNamed n with
  | none => simp [hg] at h
  | some g =>
    simp only [hg, Option.bind_some] at h ⊢
    have hlt : g < w.heap.size := by
      rcases Nat.lt_or_ge g w.heap.size with h' | h'
      · exact h'
      · simp [Array.getElem?_eq_none h'] at h
    rw [hb.block g hlt]
    exact h
theorem PowTab.below {w w' : World} (h : PowTab w) (hb : Below w.heap.size w w') : PowTab w' := var_below h hb

/-- strconv.Itoa -/
theorem Itoa_any (n : Int) (w : World) (h0 : -9223372036854775808 ≤ n) (h1 : n ≤ 9223372036854775807) (ht : PowTab w) :
    Calls Tryd.prog 10 #[.int .i64 n] w fun e w' => e = .returned (.string ⟨(Lib.itoa n).toArray⟩) ∧ Below w.heap.size w w' :=
  (Tryd.strconv_Itoa n h0 h1 w ht).mono fun _ _ ⟨h, k, os, hw⟩ => ⟨h, by rw [hw]; exact grow_below w k os⟩

theorem decDigits_le : ∀ (k u : Nat), u < 10 ^ (k + 1) → (Lib.decDigits u).length ≤ k + 1
  | k, u, h => by
    rw [Lib.decDigits]
    split
    · simp
    · rename_i hu
      match k, h with
      | 0, h => simp at h; omega
      | k + 1, h =>
        have := decDigits_le k (u / 10) (by rw [Nat.pow_succ] at h; omega)
        simp; omega
theorem itoa_le (n : Int) (h0 : -9223372036854775808 ≤ n) (h1 : n ≤ 9223372036854775807) : (Lib.itoa n).length ≤ 20 := by
  unfold Lib.itoa
  split
  · have := decDigits_le 18 n.natAbs (by omega)
    simp; omega
  · have := decDigits_le 18 n.toNat (by omega)
    omega

end Go.Proofs.YtlobohpbgghleaaDoor
