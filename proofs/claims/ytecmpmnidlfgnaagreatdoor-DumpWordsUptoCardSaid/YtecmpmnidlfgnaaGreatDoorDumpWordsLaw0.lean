import Derived.Test.YtecmpmnidlfgnaaGreatDoorHead24
import Derived.Test.YtecmpmnidlfgnaaGreatDoorWords
import Derived.Test.YtecmpmnidlfgnaaGreatDoorRefWords
import Derived.Test.YtecmpmnidlfgnaaGreatDoorRefEvent
import Derived.Test.YtecmpmnidlfgnaaGreatDoorEvent2
import Derived.Test.YtecmpmnidlfgnaaGreatDoorReadsU
import Derived.Test.YtecmpmnidlfgnaaGreatDoorLibLaid
import Derived.Test.YtecmpmnidlfgnaaGreatDoorOpen
namespace Go.Proofs.YtecmpmnidlfgnaaGreatDoor
open Go.RowKit Go.ChangeShapes Go.WideShapes

theorem i64_of_wf {n : Int} (h : (Lit.int .i64 n).wf = true) : I64 n := by
  unfold I64
  simpa [Lit.wf, show IntKind.i64.min = -9223372036854775808 from by decide] using h

/-- what a row's list of this seat gives -/
theorem libV_of {w : World} {l : List (String × DataW Unit)} {d1 d2 d3 d5 : DataW Unit} (hl : l = ("math/bits.deBruijn32tab", d1) :: ("math/bits.deBruijn64tab", d2) :: ("internal/strconv.uint64pow10", Rows.laid_internal_strconv_uint64pow10) :: ("unicode/utf8.acceptRanges", d3) ::
    ("strconv.ErrRange", Rows.laid_strconv_ErrRange) :: ("strconv.ErrSyntax", Rows.laid_strconv_ErrSyntax) :: [("unicode/utf8.first", d5)]) (h : laidMet Tryz.prog l w) (hS : w.ShapedOpen Tryz.prog) : LibV w := by
  subst hl
  have h2 := h.tail.tail
  have h4 := h2.tail.tail
  refine ⟨Lib.tabIs_of_head (g := 1) (t := 193) (e := 173) (by kernel_rfl) (by kernel_rfl) Tryz.underlying193 Tryz.underlying173 (by kernel_rfl) (by kernel_rfl) h2, maxl_of hS, ?_, ?_⟩
  · exact iface_head h4.tail (by kernel_rfl) (by kernel_rfl)
  · exact iface_head h4 (by kernel_rfl) (by kernel_rfl)

/-- an event as an argument -/
def RdEv (_ : World) (v : Value) (e : Ev) : Prop := v = evV e ∧ EvOk 1048576 e

theorem opensU_Event : OpensU Tryz.prog 24 10 (RCons 1 (RInt .i64) (RCons 1 (RInt .i64) (RCons 1 (RInt .i64) (RCons 1 (RInt .i64) (RCons 1 (RInt .i64) (RCons 1 (RInt .i64) (RCons 1 (RInt .i64) (RCons 1 RStrU (RCons 1 (RInt .i64) (RCons 1 RStrU RNil)))))))))) :=
  opensU_struct Tryz.underlying24 (by kernel_rfl) (opensU_cons rfl (by kernel_rfl) (opensU_int Tryz.underlying22) (opensU_cons rfl (by kernel_rfl) (opensU_int Tryz.underlying3) (opensU_cons rfl (by kernel_rfl) (opensU_int Tryz.underlying3) (opensU_cons rfl (by kernel_rfl) (opensU_int Tryz.underlying3) (opensU_cons rfl (by kernel_rfl) (opensU_int Tryz.underlying3) (opensU_cons rfl (by kernel_rfl) (opensU_int Tryz.underlying3) (opensU_cons rfl (by kernel_rfl) (opensU_int Tryz.underlying3) (opensU_cons rfl (by kernel_rfl) (opensU_str Tryz.underlying9) (opensU_cons rfl (by kernel_rfl) (opensU_int Tryz.underlying3) (opensU_cons rfl (by kernel_rfl) (opensU_str Tryz.underlying9) opensU_nil))))))))))

set_option maxRecDepth 100000 in
theorem openU_api_Event {H : Type} {enc : TypeId × Value → H} {W : World} {base : Nat} {v : Value} {d : DataW H} {p : List MemPlace}
    (hok : Value.okWide Tryz.prog W .any base 24 v) (h : DataW.Trod enc Tryz.prog W 0 (fun _ => true) true 24 v d p) (hz : Rows.uptoBulk d ≤ 1048576) :
    ∃ a, RdEv W v a := by
  obtain ⟨cs, ⟨k0, k1, k2, k3, k4, k5, k6, k7, k8, k9, _⟩, rfl, hl, h0, h1, h2, h3, h4, h5, h6, h7, h8, h9, _⟩ := openU_struct_by (P := Tryz.prog) opensU_Event Tryz.underlying24 hok h hz
  refine ⟨⟨k0, k1, k2, k3, k4, k5, k6, k7, k8, k9⟩, ?_, ⟨i64_of_wf h0.2, i64_of_wf h1.2, i64_of_wf h2.2, i64_of_wf h3.2, i64_of_wf h4.2, i64_of_wf h5.2, i64_of_wf h6.2, i64_of_wf h8.2, h7.2, h9.2⟩⟩
  obtain ⟨l⟩ := cs
  match l, hl with
  | [c0, c1, c2, c3, c4, c5, c6, c7, c8, c9], _ =>
    have e0 := h0.1
    have e1 := h1.1
    have e2 := h2.1
    have e3 := h3.1
    have e4 := h4.1
    have e5 := h5.1
    have e6 := h6.1
    have e7 := h7.1
    have e8 := h8.1
    have e9 := h9.1
    simp at e0 e1 e2 e3 e4 e5 e6 e7 e8 e9
    simp [evV, e0, e1, e2, e3, e4, e5, e6, e7, e8, e9]

theorem EvOk.mono {N M : Nat} {e : Ev} (h : EvOk N e) (hm : N ≤ M) : EvOk M e :=
  ⟨h.kind, h.order, h.item, h.qty, h.price, h.cur, h.tax, h.stamp, Nat.le_trans h.who hm, Nat.le_trans h.note hm⟩

set_option maxRecDepth 100000 in
set_option maxHeartbeats 4000000 in
theorem dumpWords_walk0 (v : Int) (e : Ev) (s : List UInt8) (w : World) (hL : LibV w) (he : EvOk 2097152 e) (hs : s.length ≤ 2097152) :
    Calls Tryz.prog 3 #[.int .i64 v, evV e, .string ⟨s.toArray⟩] w fun x w' => x = .returned (.bool true) ∧ Below w.heap.size w w' := by
  have HL := Lib.hid hL
  have HOK := Lib.hid he
  have HB0 := Lib.hid (show Below w.heap.size w (w.alloc (.cells (evCs e) 24)) from (Below.refl _ _).alloc (Nat.le_refl _) _)
  have HE0 := Lib.hid (show EvBlk (w.alloc (.cells (evCs e) 24)) w.heap.size e from heap_alloc_new w _)
  unfold evCs at HB0 HE0
  clear hL he
  go_enter Tryz.func3, Tryz.ntmps3
  go_wp2_with fail
  generalize w.alloc (.cells #[.int .i64 e.kind, .int .i64 e.order, .int .i64 e.item, .int .i64 e.qty, .int .i64 e.price, .int .i64 e.cur, .int .i64 e.tax, .string ⟨e.who.toArray⟩, .int .i64 e.stamp, .string ⟨e.note.toArray⟩] 24) = w0 at *
  have HL0 := Lib.hid (HL.out.below HB0.out)
  refine (head24_any _ HL0.out HL0.out.lt).mono ?_
  rintro x w1 ⟨rfl, hb1⟩
  have HB1 := Lib.hid (Below.next HB0.out hb1)
  have HE1 := Lib.hid (HE0.out.below hb1)
  clear hb1 HB0 HE0
  go_wp2_with (with_reducible refine wpList_load_ev rfl (.tmp 4) rfl w.heap.size e rfl HE1.out ?_)
  refine (refWords_any v e _ HOK.out).mono ?_
  rintro x w2 ⟨rfl, hb2⟩
  have HB2 := Lib.hid (Below.next HB1.out hb2)
  have HE2 := Lib.hid (HE1.out.below hb2)
  clear hb2 HB1 HE1
  go_wp2_with (with_reducible refine wpList_load_ev rfl (.tmp 4) rfl w.heap.size e rfl HE2.out ?_)
  refine (dumpWords_any v e _ HOK.out (HL.out.below HB2.out)).mono ?_
  rintro x w3 ⟨rfl, hb3⟩
  have HB3 := Lib.hid (Below.next HB2.out hb3)
  clear hb3 HB2 HE2
  obtain ⟨D, hD⟩ : ∃ D, D = dumpWords v e := ⟨_, rfl⟩
  rw [← hD]
  clear hD
  have t1 : (D.1 != D.1) = false := by simp
  have t2 : (D.2 != D.2) = false := by simp
  go_wp2_with fail
  refine (refEvent_any v s _ hs).mono ?_
  rintro x w4 ⟨rfl, hb4⟩
  obtain ⟨X, hX⟩ : ∃ X, X = eventOf v s := ⟨_, rfl⟩
  rw [← hX]
  have HX := Lib.hid hX
  have HB4 := Lib.hid (Below.next HB3.out (Below.next hb4 (show Below w4.heap.size w4 (w4.alloc (.cells (evCs X.1) 24)) from (Below.refl _ _).alloc (Nat.le_refl _) _)))
  have HE4 := Lib.hid (show EvBlk (w4.alloc (.cells (evCs X.1) 24)) w4.heap.size X.1 from heap_alloc_new w4 _)
  unfold evCs at HB4 HE4
  clear hb4 HB3 hX
  go_wp2_with fail
  generalize w4.alloc (.cells #[.int .i64 X.1.kind, .int .i64 X.1.order, .int .i64 X.1.item, .int .i64 X.1.qty, .int .i64 X.1.price, .int .i64 X.1.cur, .int .i64 X.1.tax, .string ⟨X.1.who.toArray⟩, .int .i64 X.1.stamp, .string ⟨X.1.note.toArray⟩] 24) = w5 at *
  have HL5 := Lib.hid (HL.out.below HB4.out)
  refine (dumpEvent_any v s _ HL5.out hs HL5.out.lt).mono ?_
  rintro x w6 ⟨rfl, hb6⟩
  rw [← HX.out]
  have HB7 := Lib.hid (Below.next HB4.out (Below.next hb6 (show Below w6.heap.size w6 (w6.alloc (.cells (evCs X.1) 24)) from (Below.refl _ _).alloc (Nat.le_refl _) _)))
  have HE7 := Lib.hid ((HE4.out.below hb6).below (show Below w6.heap.size w6 (w6.alloc (.cells (evCs X.1) 24)) from (Below.refl _ _).alloc (Nat.le_refl _) _))
  have HF7 := Lib.hid (show EvBlk (w6.alloc (.cells (evCs X.1) 24)) w6.heap.size X.1 from heap_alloc_new w6 _)
  unfold evCs at HB7 HE7 HF7
  have heq := fun w => run_evEql X.1 X.1 w
  rw [(evSame_iff _ _).2 rfl] at heq
  have t3 : (X.2 == X.2) = true := by simp
  clear hb6 HB4 HE4 HX
  go_wp2_with (first
    | (with_reducible refine wpList_load_ev rfl (.tmp 11) rfl w4.heap.size X.1 rfl HE7.out ?_)
    | (with_reducible refine wpList_load_ev rfl (.tmp 13) rfl w6.heap.size X.1 rfl HF7.out ?_)
    | rw [heq])
  go_ret
  exact ⟨rfl, HB7.out⟩

theorem dumpWords_walk (a0 : Int) (v1 : Value) (a1 : Ev) (a2 : List UInt8) (w : World) (_ : (Lit.int .i64 a0).wf = true) (h1 : RdEv w v1 a1) (h2 : a2.length ≤ 1048576) (hL : laidMetH Tryz.prog Rows.dumpWordsUptoRow.laid w) (hS : w.ShapedOpen Tryz.prog) :
    Calls Tryz.prog 3 #[.int .i64 a0, v1, .string ⟨a2.toArray⟩] w fun x w' => x = .returned (.bool true) ∧ Below w.heap.size w w' := by
  obtain ⟨rfl, he⟩ := h1
  exact dumpWords_walk0 a0 a1 a2 w (libV_of rfl hL hS) (he.mono (by decide)) (by omega)

end Go.Proofs.YtecmpmnidlfgnaaGreatDoor
