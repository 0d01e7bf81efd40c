import Derived.Test.YtecmpmnidlfgnaaGreatDoorLibV
import Derived.Test.YtecmpmnidlfgnaaGreatDoorRows
import Derived.Shelf.Vars
import Derived.LaidMore
import Derived.LaidLaws
import Derived.Stop.LaidErr
import Derived.Lib.LaidTab
namespace Go.Proofs.YtecmpmnidlfgnaaGreatDoor
open Go.RowKit

/-! ## what the rows' lists give of the library's variables -/

theorem LibV.lt {w : World} (h : LibV w) : ∀ g, (g = 0 ∨ g = 2 ∨ g = 3 ∨ g = 1) → g < w.heap.size := by
  obtain ⟨h1, ⟨m, h2⟩, ⟨t, p, h3⟩, ⟨t', p', h4⟩⟩ := h
  rintro g (rfl | rfl | rfl | rfl)
  · exact World.block_lt_of_cell? _ _ h2
  · exact World.block_lt_of_cell? _ _ h3
  · exact World.block_lt_of_cell? _ _ h4
  · unfold PowTab Lib.TabIs at h1
    unfold World.var? at h1
    rw [show Tryz.prog.globalNamed "internal/strconv.uint64pow10" = some 1 by kernel_rfl] at h1
    simp only [Option.bind_some] at h1
    rcases Nat.lt_or_ge 1 w.heap.size with h' | h'
    · exact h'
    · simp [Array.getElem?_eq_none h'] at h1

theorem maxl_of {w : World} (hS : w.ShapedOpen Tryz.prog) : ∃ m, w.cell? ⟨0, 0, none⟩ = some (.int .i64 m) :=
  cell_of_shapedOpen_int (t := 3) (zero := #[.int .i64 0]) hS (of_decide_eq_true (by kernel_rfl)) (by kernel_rfl) (by kernel_rfl) (by kernel_rfl) (by kernel_rfl) Tryz.underlying3

theorem iface_head {W : World} {n nm : String} {d : DataW Unit} {l : List (String × DataW Unit)} (h : laidMet Tryz.prog ((n, .iface nm d) :: l) W) {g : Nat} (hg : Tryz.prog.globalNamed n = some g)
    (ht : (Tryz.prog.globals[g]?).map (·.type) = some 115) : ∃ t p, W.cell? ⟨g, 0, none⟩ = some (.iface t p) := by
  obtain ⟨ps, hv, _⟩ := h
  obtain ⟨g0, t0, cs, fuel, p, q, hg0, ht0, hv0, hd0, _⟩ := hv
  obtain rfl := Option.some.inj (hg.symm.trans hg0)
  obtain rfl := Option.some.inj (ht.symm.trans ht0)
  obtain ⟨l0⟩ := cs
  obtain ⟨f1, u, v, e, _⟩ := iface_of_trod Tryz.underlying115 hd0
  obtain rfl : l0 = [.iface u v] := e
  exact ⟨u, v, by simpa using World.var?_cell hg0 hv0 0⟩

end Go.Proofs.YtecmpmnidlfgnaaGreatDoor
