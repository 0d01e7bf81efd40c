import Derived.Test.YtlobohpbgghleaaDoorState
import Derived.Test.YtlobohpbgghleaaDoorItoa
import Derived.Test.YtlobohpbgghleaaDoorOpenBy
import Derived.Test.YtlobohpbgghleaaDoorOpen
import Derived.LaidMore
import Derived.Lay
import Derived.Test.YtlobohpbgghleaaDoorRows
import Derived.Stop.LaidErr
import Derived.LaidLaws
namespace Go.Proofs.YtlobohpbgghleaaDoor
open Go.RowKit Go.ChangeShapes Go.WideShapes

/-! ## a state as an argument -/

theorem i64_of_wf {n : Int} (h : (Lit.int .i64 n).wf = true) : I64 n := by
  unfold I64
  simpa [Lit.wf, show IntKind.i64.min = -9223372036854775808 from by decide] using h

theorem opens_Line : Opens Tryd.prog 40 4 (RCons 1 (RInt .i64) (RCons 1 (RInt .i64) (RCons 1 (RInt .i64) (RCons 1 (RInt .i64) RNil)))) :=
  opens_struct Tryd.underlying40 (by kernel_rfl) (opens_cons rfl (by kernel_rfl) (opens_int Tryd.underlying3) (opens_cons rfl (by kernel_rfl) (opens_int Tryd.underlying3) (opens_cons rfl (by kernel_rfl) (opens_int Tryd.underlying3) (opens_cons rfl (by kernel_rfl) (opens_int Tryd.underlying3) opens_nil))))
def RLn (_ : World) (cs : List Value) (l : Ln) : Prop := cs = (lnCs l).toList
theorem opens_Line' : Opens Tryd.prog 40 4 RLn := by
  intro H enc W fuel cs x hx hz
  obtain ⟨hl, ⟨a, b, c, d, _⟩, h0, h1, h2, h3, _⟩ := opens_Line enc W fuel cs x hx hz
  refine ⟨hl, ⟨a, b, c, d⟩, ?_⟩
  match cs, hl with
  | [c0, c1, c2, c3], _ =>
    have e0 := h0.1
    have e1 := h1.1
    have e2 := h2.1
    have e3 := h3.1
    simp at e0 e1 e2 e3
    simp [RLn, lnCs, e0, e1, e2, e3]
theorem lnRow_of {w : World} {v : Value} {ls : List Ln} (h : Row 4 32 RLn w v ls) : LnRow w v ls ∧ ls.length ≤ 4398046511104 := by
  obtain ⟨oa, cap, rfl, h1, h2, h3, h4⟩ := h
  refine ⟨⟨oa, cap, rfl, h1, by unfold maxLen at h2; omega, fun hn => ?_⟩, ?_⟩
  · obtain ⟨b, off, h5, h6⟩ := h4 hn
    refine ⟨b, off, h5, fun i l hi j u hj => ?_⟩
    obtain ⟨cs, _, hc, hR⟩ := h6 i l hi
    exact hc j u (by rw [show cs = _ from hR]; simpa using hj)
  · unfold reachBytes at h3; omega
def RdSt (w : World) (v : Value) (s : St) : Prop := ∃ lv, v = stV s lv ∧ LnRow w lv s.lines ∧ s.lines.length ≤ 4398046511104 ∧ s.who.length ≤ 281474976710656
set_option maxRecDepth 100000 in
theorem opens_State : Opens Tryd.prog 25 12 (RCons 1 (RInt .i64) (RCons 1 (RInt .i64) (RCons 1 (RInt .i64) (RCons 1 (RInt .i64) (RCons 1 (RInt .i64) (RCons 1 (RRow 4 32 RLn) (RCons 1 (RInt .i64) (RCons 1 (RInt .i64) (RCons 1 (RInt .i64) (RCons 1 (RInt .i64) (RCons 1 (RInt .i64) (RCons 1 RStr RNil)))))))))))) :=
  opens_struct Tryd.underlying25 (by kernel_rfl) (opens_cons rfl (by kernel_rfl) (opens_int Tryd.underlying3) (opens_cons rfl (by kernel_rfl) (opens_int Tryd.underlying22) (opens_cons rfl (by kernel_rfl) (opens_int Tryd.underlying22) (opens_cons rfl (by kernel_rfl) (opens_int Tryd.underlying3) (opens_cons rfl (by kernel_rfl) (opens_int Tryd.underlying3)
    (opens_cons rfl (by kernel_rfl) (opens_slice Tryd.underlying23 (by kernel_rfl) (by kernel_rfl) (by decide) opens_Line') (opens_cons rfl (by kernel_rfl) (opens_int Tryd.underlying3) (opens_cons rfl (by kernel_rfl) (opens_int Tryd.underlying3) (opens_cons rfl (by kernel_rfl) (opens_int Tryd.underlying3) (opens_cons rfl (by kernel_rfl) (opens_int Tryd.underlying3) (opens_cons rfl (by kernel_rfl) (opens_int Tryd.underlying3)
    (opens_cons rfl (by kernel_rfl) (opens_str Tryd.underlying9) opens_nil))))))))))))
set_option maxRecDepth 100000 in
theorem open_api_State {H : Type} {enc : TypeId × Value → H} {W : World} {base : Nat} {v : Value} {d : DataW H} {p : List MemPlace}
    (hok : Value.okWide Tryd.prog W .any base 25 v) (h : DataW.Trod enc Tryd.prog W 0 (fun _ => true) true 25 v d p) (hz : (d.weights Tryd.prog 25).all (· ≤ reachBytes) = true) :
    ∃ a, RdSt W v a := by
  obtain ⟨cs, ⟨k0, k1, k2, k3, k4, k5, k6, k7, k8, k9, k10, k11, _⟩, rfl, hl, h0, h1, h2, h3, h4, h5, h6, h7, h8, h9, h10, h11, _⟩ := open_struct_by (P := Tryd.prog) opens_State Tryd.underlying25 hok h hz
  obtain ⟨lv, e5, r5⟩ := h5
  obtain ⟨r5a, r5b⟩ := lnRow_of r5
  refine ⟨⟨k0, k1, k2, k3, k4, k5, k6, k7, k8, k9, k10, k11⟩, lv, ?_, r5a, r5b, Nat.le_trans h11.2 (by decide)⟩
  obtain ⟨l⟩ := cs
  match l, hl with
  | [c0, c1, c2, c3, c4, c5, c6, c7, c8, c9, c10, c11], _ =>
    have e0 := h0.1
    have e1 := h1.1
    have e2 := h2.1
    have e3 := h3.1
    have e4 := h4.1
    have e6 := h6.1
    have e7 := h7.1
    have e8 := h8.1
    have e9 := h9.1
    have e10 := h10.1
    have e11 := h11.1
    simp at e0 e1 e2 e3 e4 e5 e6 e7 e8 e9 e10 e11
    simp [stV, e0, e1, e2, e3, e4, e5, e6, e7, e8, e9, e10, e11]

theorem pow_of {w : World} {l : List (String × DataW Unit)} {d1 d2 : DataW Unit} (hl : l = ("math/bits.deBruijn32tab", d1) :: ("math/bits.deBruijn64tab", d2) :: [("internal/strconv.uint64pow10", Rows.laid_internal_strconv_uint64pow10)]) (h : laidMet Tryd.prog l w) : PowTab w := by
  subst hl
  exact Lib.tabIs_of_head (g := 2) (t := 94) (e := 64) (by kernel_rfl) (by kernel_rfl) Tryd.underlying94 Tryd.underlying64 (by kernel_rfl) (by kernel_rfl) h.tail.tail

end Go.Proofs.YtlobohpbgghleaaDoor
