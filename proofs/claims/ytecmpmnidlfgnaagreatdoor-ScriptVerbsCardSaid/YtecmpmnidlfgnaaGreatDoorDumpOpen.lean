import Derived.Test.YtecmpmnidlfgnaaGreatDoorReadsU
import Derived.Test.YtecmpmnidlfgnaaGreatDoorLibLaid
import Derived.Test.YtecmpmnidlfgnaaGreatDoorRecRow
namespace Go.Proofs.YtecmpmnidlfgnaaGreatDoor
open Go.RowKit Go.ChangeShapes Go.WideShapes

theorem i64_of_wf {n : Int} (h : (Lit.int .i64 n).wf = true) : I64 n := by
  unfold I64
  simpa [Lit.wf, show IntKind.i64.min = -9223372036854775808 from by decide] using h

/-- what a row's list of this seat gives -/
theorem libV_of {w : World} {l : List (String × DataW Unit)} {d1 d2 d3 d5 : DataW Unit} (hl : l = ("math/bits.deBruijn32tab", d1) :: ("math/bits.deBruijn64tab", d2) :: ("internal/strconv.uint64pow10", Rows.laid_internal_strconv_uint64pow10) :: ("unicode/utf8.acceptRanges", d3) ::
    ("strconv.ErrRange", Rows.laid_strconv_ErrRange) :: ("strconv.ErrSyntax", Rows.laid_strconv_ErrSyntax) :: [("unicode/utf8.first", d5)]) (h : laidMet Tryz.prog l w) (hS : w.ShapedOpen Tryz.prog) : LibV w := by
  subst hl
  have h2 := h.tail.tail
  have h4 := h2.tail.tail
  refine ⟨Lib.tabIs_of_head (g := 1) (t := 193) (e := 173) (by kernel_rfl) (by kernel_rfl) Tryz.underlying193 Tryz.underlying173 (by kernel_rfl) (by kernel_rfl) h2, maxl_of hS, ?_, ?_⟩
  · exact iface_head h4.tail (by kernel_rfl) (by kernel_rfl)
  · exact iface_head h4 (by kernel_rfl) (by kernel_rfl)

/-- an event as an argument -/
def RdEv (_ : World) (v : Value) (e : Ev) : Prop := v = evV e ∧ EvOk 1048576 e

theorem opensU_Event : OpensU Tryz.prog 24 10 (RCons 1 (RInt .i64) (RCons 1 (RInt .i64) (RCons 1 (RInt .i64) (RCons 1 (RInt .i64) (RCons 1 (RInt .i64) (RCons 1 (RInt .i64) (RCons 1 (RInt .i64) (RCons 1 RStrU (RCons 1 (RInt .i64) (RCons 1 RStrU RNil)))))))))) :=
  opensU_struct Tryz.underlying24 (by kernel_rfl) (opensU_cons rfl (by kernel_rfl) (opensU_int Tryz.underlying22) (opensU_cons rfl (by kernel_rfl) (opensU_int Tryz.underlying3) (opensU_cons rfl (by kernel_rfl) (opensU_int Tryz.underlying3) (opensU_cons rfl (by kernel_rfl) (opensU_int Tryz.underlying3) (opensU_cons rfl (by kernel_rfl) (opensU_int Tryz.underlying3) (opensU_cons rfl (by kernel_rfl) (opensU_int Tryz.underlying3) (opensU_cons rfl (by kernel_rfl) (opensU_int Tryz.underlying3) (opensU_cons rfl (by kernel_rfl) (opensU_str Tryz.underlying9) (opensU_cons rfl (by kernel_rfl) (opensU_int Tryz.underlying3) (opensU_cons rfl (by kernel_rfl) (opensU_str Tryz.underlying9) opensU_nil))))))))))

set_option maxRecDepth 100000 in
theorem openU_api_Event {H : Type} {enc : TypeId × Value → H} {W : World} {base : Nat} {v : Value} {d : DataW H} {p : List MemPlace}
    (hok : Value.okWide Tryz.prog W .any base 24 v) (h : DataW.Trod enc Tryz.prog W 0 (fun _ => true) true 24 v d p) (hz : Rows.uptoBulk d ≤ 1048576) :
    ∃ a, RdEv W v a := by
  obtain ⟨cs, ⟨k0, k1, k2, k3, k4, k5, k6, k7, k8, k9, _⟩, rfl, hl, h0, h1, h2, h3, h4, h5, h6, h7, h8, h9, _⟩ := openU_struct_by (P := Tryz.prog) opensU_Event Tryz.underlying24 hok h hz
  refine ⟨⟨k0, k1, k2, k3, k4, k5, k6, k7, k8, k9⟩, ?_, ⟨i64_of_wf h0.2, i64_of_wf h1.2, i64_of_wf h2.2, i64_of_wf h3.2, i64_of_wf h4.2, i64_of_wf h5.2, i64_of_wf h6.2, i64_of_wf h8.2, h7.2, h9.2⟩⟩
  obtain ⟨l⟩ := cs
  match l, hl with
  | [c0, c1, c2, c3, c4, c5, c6, c7, c8, c9], _ =>
    have e0 := h0.1
    have e1 := h1.1
    have e2 := h2.1
    have e3 := h3.1
    have e4 := h4.1
    have e5 := h5.1
    have e6 := h6.1
    have e7 := h7.1
    have e8 := h8.1
    have e9 := h9.1
    simp at e0 e1 e2 e3 e4 e5 e6 e7 e8 e9
    simp [evV, e0, e1, e2, e3, e4, e5, e6, e7, e8, e9]

theorem EvOk.mono {N M : Nat} {e : Ev} (h : EvOk N e) (hm : N ≤ M) : EvOk M e :=
  ⟨h.kind, h.order, h.item, h.qty, h.price, h.cur, h.tax, h.stamp, Nat.le_trans h.who hm, Nat.le_trans h.note hm⟩

/-- a record as an argument -/
theorem RecOk.mono {N M : Nat} {r : Rec} (h : RecOk N r) (hm : N ≤ M) : RecOk M r := ⟨h.seq, h.ev.mono hm⟩
def RdRec (_ : World) (v : Value) (r : Rec) : Prop := v = recV r ∧ RecOk 1048576 r
/-- a record's cells -/
def RRec (_ : World) (cs : List Value) (r : Rec) : Prop := cs = (rcCs r).toList ∧ RecOk 1048576 r

def REv (_ : World) (cs : List Value) (e : Ev) : Prop := cs = (evCs e).toList ∧ EvOk 1048576 e

theorem opensU_Event' : OpensU Tryz.prog 24 10 REv := by
  intro H enc W fuel cs x hx hz
  obtain ⟨hl, ⟨k0, k1, k2, k3, k4, k5, k6, k7, k8, k9, _⟩, h0, h1, h2, h3, h4, h5, h6, h7, h8, h9, _⟩ := opensU_Event enc W fuel cs x hx hz
  refine ⟨hl, ⟨k0, k1, k2, k3, k4, k5, k6, k7, k8, k9⟩, ?_, ⟨i64_of_wf h0.2, i64_of_wf h1.2, i64_of_wf h2.2, i64_of_wf h3.2, i64_of_wf h4.2, i64_of_wf h5.2, i64_of_wf h6.2, i64_of_wf h8.2, h7.2, h9.2⟩⟩
  match cs, hl with
  | [c0, c1, c2, c3, c4, c5, c6, c7, c8, c9], _ =>
    have e0 := h0.1
    have e1 := h1.1
    have e2 := h2.1
    have e3 := h3.1
    have e4 := h4.1
    have e5 := h5.1
    have e6 := h6.1
    have e7 := h7.1
    have e8 := h8.1
    have e9 := h9.1
    simp at e0 e1 e2 e3 e4 e5 e6 e7 e8 e9
    simp [evCs, e0, e1, e2, e3, e4, e5, e6, e7, e8, e9]

theorem opensU_Record : OpensU Tryz.prog 37 11 RRec := by
  intro H enc W fuel cs x hx hz
  have ho : OpensU Tryz.prog 37 11 (RCons 1 (RInt .i64) (RCons 10 REv RNil)) :=
    opensU_struct Tryz.underlying37 (by kernel_rfl) (opensU_cons rfl (by kernel_rfl) (opensU_int Tryz.underlying3) (opensU_cons rfl (by kernel_rfl) opensU_Event' opensU_nil))
  obtain ⟨hl, ⟨k0, e, _⟩, h0, h1, _⟩ := ho enc W fuel cs x hx hz
  refine ⟨hl, (k0, e), ?_, ⟨i64_of_wf h0.2, h1.2⟩⟩
  match cs, hl with
  | [c0, c1, c2, c3, c4, c5, c6, c7, c8, c9, c10], _ =>
    have e0 := h0.1
    have e1 := h1.1
    simp [evCs] at e0 e1
    simp [rcCs, e0, e1]

set_option maxRecDepth 100000 in
theorem openU_api_Record {H : Type} {enc : TypeId × Value → H} {W : World} {base : Nat} {v : Value} {d : DataW H} {p : List MemPlace}
    (hok : Value.okWide Tryz.prog W .any base 37 v) (h : DataW.Trod enc Tryz.prog W 0 (fun _ => true) true 37 v d p) (hz : Rows.uptoBulk d ≤ 1048576) :
    ∃ a, RdRec W v a := by
  obtain ⟨cs, r, rfl, hl, h1, h2⟩ := openU_struct_by (P := Tryz.prog) opensU_Record Tryz.underlying37 hok h hz
  refine ⟨r, ?_, h2⟩
  obtain ⟨l⟩ := cs
  have : l = (rcCs r).toList := h1
  subst this
  rfl

/-- a slice of records as an argument -/
def RdRecs (w : World) (v : Value) (rs : List Rec) : Prop := RecRow w v rs ∧ rs.length ≤ 1048576 ∧ ∀ r ∈ rs, RecOk 1048576 r
set_option maxRecDepth 100000 in
theorem openU_sl_api_Record {H : Type} {enc : TypeId × Value → H} {W : World} {base : Nat} {v : Value} {d : DataW H} {p : List MemPlace}
    (hok : Value.okWide Tryz.prog W .any base 45 v) (h : DataW.Trod enc Tryz.prog W 0 (fun _ => true) true 45 v d p) (hz : Rows.uptoBulk d ≤ 1048576) :
    ∃ a, RdRecs W v a := by
  obtain ⟨rs, oa, cap, rfl, h1, h2, h3⟩ := openU_slice_by (P := Tryz.prog) (opensU_slice Tryz.underlying45 (by kernel_rfl) (by decide) opensU_Record) Tryz.underlying45 hok h hz
  refine ⟨rs, ⟨oa, cap, rfl, fun h0 => ?_, h1, by omega, fun hn => ?_⟩, by omega, fun r hr => ?_⟩
  · subst h0
    obtain ⟨m, hm⟩ := h
    rcases DataW.trod_slice Tryz.underlying45 hm with ⟨he, _⟩ | ⟨a, len, cap', _, _, _, _, he, _⟩
    · simp [Value.cells] at he; exact he.2
    · simp [Value.cells] at he
  · obtain ⟨b, off, h4, h5⟩ := h3 hn
    refine ⟨b, off, h4, fun i r hi j u hj => ?_⟩
    obtain ⟨cs, _, hc, hR⟩ := h5 i r hi
    exact hc j u (by rw [hR.1]; simpa using hj)
  · obtain ⟨i, hi, he⟩ := List.getElem_of_mem hr
    obtain ⟨b, off, h4, h5⟩ := h3 (by rintro rfl; simp at hi)
    obtain ⟨cs, _, _, hR⟩ := h5 i r (by rw [List.getElem?_eq_getElem hi, he])
    exact hR.2

end Go.Proofs.YtecmpmnidlfgnaaGreatDoor
