import Derived.Test.YtecmpmnidlfgnaaDoorBytes
import Derived.Test.YtecmpmnidlfgnaaDoorHex
import Derived.Test.YtecmpmnidlfgnaaDoorUnhex
import Derived.Test.YtecmpmnidlfgnaaDoorRefUnhex
import Derived.Test.YtecmpmnidlfgnaaDoorRefNumber
import Derived.Test.YtecmpmnidlfgnaaDoorRefShow
import Derived.Test.YtecmpmnidlfgnaaDoorReadsU
import Derived.Test.YtecmpmnidlfgnaaDoorLibLaid
import Derived.Test.YtecmpmnidlfgnaaDoorOpen
namespace Go.Proofs.YtecmpmnidlfgnaaDoor
open Go.RowKit Go.ChangeShapes Go.WideShapes

theorem hex_two : hexOf [10, 240] = [48, 97, 102, 48] := by decide

theorem numVal_itoa {n : Int} (h : I64 n) : numVal (Lib.itoa n) = n := by unfold numVal; rw [(numberOf_iff _ n).2 ⟨h, rfl⟩]; rfl
theorem numErr_itoa {n : Int} (h : I64 n) : numErr (Lib.itoa n) = 0 := by unfold numErr; rw [(numberOf_iff _ n).2 ⟨h, rfl⟩]; rfl

set_option maxRecDepth 100000 in
set_option maxHeartbeats 8000000 in
theorem dumpBasics_walk0 (l : List UInt8) (v : Value) (s : List UInt8) (n : Int) (w : World) (hL : LibV w) (hv : BRow w v l) (hl : l.length ≤ 1048576) (hs : s.length ≤ 1048576) (hn : I64 n) :
    Calls Tryd.prog 4 #[v, .string ⟨s.toArray⟩, .int .i64 n] w fun x w' => x = .returned (.bool true) ∧ Below w.heap.size w w' := by
  have HL := Lib.hid hL
  have HV := Lib.hid hv
  have hhl : (hexOf l).length ≤ 2097152 := by rw [hexOf_length]; omega
  have hB0 : Below w.heap.size w (w.alloc (.cells #[.int .u8 10, .int .u8 240] 5)) := (Below.refl _ _).alloc (Nat.le_refl _) _
  have HB0 := Lib.hid hB0
  have HT0 : Hid (BRow (w.alloc (.cells #[.int .u8 10, .int .u8 240] 5)) (.slice (some ⟨w.heap.size, 0, none⟩) 2 2) [10, 240]) := Lib.hid ⟨_, 2, rfl, by decide, fun _ => ⟨_, 0, rfl, fun i x hx => by
    rw [World.cell?_alloc_new]
    match i, hx with
    | 0, hx => simp at hx; subst hx; rfl
    | 1, hx => simp at hx; subst hx; rfl
    | i + 2, hx => simp at hx⟩⟩
  clear hL hv hB0
  go_enter Tryd.func4, Tryd.ntmps4
  go_wp2_with fail
  refine (dumpHex_any [10, 240] _ _ HT0.out (by decide)).mono ?_
  rw [hex_two]
  rintro x w1 ⟨rfl, hb1⟩
  have HB1 := Lib.hid (Below.next HB0.out hb1)
  have HV1 := Lib.hid (HV.out.below HB1.out)
  clear hb1 HB0 HT0
  go_wp2_with fail
  refine (copyBytes_any l _ _ HV1.out hl).mono ?_
  rintro x w2 ⟨vm, rfl, hom, hb2⟩
  have HB2 := Lib.hid (Below.next HB1.out hb2)
  have HV2 := Lib.hid (HV1.out.below hb2)
  have HM2 := Lib.hid (brow_own hom)
  clear hom hb2 HV1 HB1
  go_wp2_with fail
  refine (dumpHex_any l _ _ HM2.out hl).mono ?_
  rintro x w3 ⟨rfl, hb3⟩
  have HB3 := Lib.hid (Below.next HB2.out hb3)
  have HV3 := Lib.hid (HV2.out.below hb3)
  have HM3 := Lib.hid (HM2.out.below hb3)
  clear hb3 HV2 HM2 HB2
  go_wp2_with fail
  refine (refHex_any l _ _ HV3.out (by omega)).mono ?_
  rintro x w4 ⟨rfl, hb4⟩
  have HB4 := Lib.hid (Below.next HB3.out hb4)
  have HV4 := Lib.hid (HV3.out.below hb4)
  have HM4 := Lib.hid (HM3.out.below hb4)
  clear hb4 HV3 HM3 HB3
  have HUH := Lib.hid (unhex_hex l)
  obtain ⟨h, hh⟩ : ∃ h, h = hexOf l := ⟨_, rfl⟩
  rw [← hh] at hhl HUH ⊢
  clear hh
  have t1 : (h != h) = false := by simp
  go_wp2_with (go_at_call 12; (with_reducible refine (sameBytes_any l _ _ _ HM4.out HV4.out (by omega)).mono ?_); rintro x w5 ⟨rfl, hb5⟩; have HB5 := Lib.hid (Below.next HB4.out hb5); have HV5 := Lib.hid (HV4.out.below hb5); clear hb5)
  clear HM4 HB4 HV4
  go_wp2_with fail
  refine (dumpUnhex_any h _ hhl).mono ?_
  rintro x w6 ⟨vb, rfl, hob, hb6⟩
  rw [show uVal h = l by unfold uVal; rw [HUH.out]; rfl] at hob
  rw [show uErr h = 0 by unfold uErr; rw [HUH.out]; rfl]
  have HB6 := Lib.hid (Below.next HB5.out hb6)
  have HV6 := Lib.hid (HV5.out.below hb6)
  have HO6 := Lib.hid (brow_own hob)
  clear hob hb6 HV5 HB5 HUH
  go_wp2_with (go_at_call 12; (with_reducible refine (sameBytes_any l _ _ _ HO6.out HV6.out (by omega)).mono ?_); rintro x w7 ⟨rfl, hb7⟩; have HB7 := Lib.hid (Below.next HB6.out hb7); clear hb7)
  clear HO6 HV6 HB6
  go_wp2_with fail
  refine (refUnhex_any s _ (by omega)).mono ?_
  rintro x w8 ⟨vw, rfl, how, hb8⟩
  have HB8 := Lib.hid (Below.next HB7.out hb8)
  have HW8 := Lib.hid how
  clear how hb8 HB7
  go_wp2_with fail
  refine (dumpUnhex_any s _ (by omega)).mono ?_
  rintro x w9 ⟨vc, rfl, hoc, hb9⟩
  have HB9 := Lib.hid (Below.next HB8.out hb9)
  have HW9 := Lib.hid (own_later HW8.out hb9)
  have HC9 := Lib.hid hoc
  clear hoc hb9 HB8 HW8
  have hul : (uVal s).length ≤ 9223372036854775807 := by obtain ⟨_, _, _, h1, h2⟩ := own_shape HC9.out; unfold maxLen at h2; omega
  obtain ⟨U, hU⟩ : ∃ U, U = uVal s := ⟨_, rfl⟩
  obtain ⟨c, hc⟩ : ∃ c, c = uErr s := ⟨_, rfl⟩
  rw [← hU] at HW9 HC9 hul
  rw [← hc]
  clear hU hc
  have t2 : (c != c) = false := by simp
  go_wp2_with (go_at_call 12; (with_reducible refine (sameBytes_any U _ _ _ (brow_own HC9.out) (brow_own HW9.out) hul).mono ?_); rintro x w10 ⟨rfl, hb10⟩; have HB10 := Lib.hid (Below.next HB9.out hb10); clear hb10)
  clear HW9 HC9 HB9
  go_wp2_with fail
  refine (refNumber_any s _ (by omega)).mono ?_
  rintro x w11 ⟨rfl, rfl⟩
  go_wp2_with fail
  refine (dumpNumber_any s _ (HL.out.below HB10.out) (by omega)).mono ?_
  rintro x w12 ⟨rfl, hb12⟩
  have HB12 := Lib.hid (Below.next HB10.out hb12)
  clear hb12 HB10
  have t3 : (numVal s != numVal s) = false := by simp
  obtain ⟨N, hN⟩ : ∃ N, N = numVal s := ⟨_, rfl⟩
  rw [← hN] at t3 ⊢
  clear hN
  rcases (show numOk s = true ∧ numErr s = 0 ∨ numOk s = false ∧ numErr s = 101 by unfold numOk numErr; cases (numberOf s).isSome <;> simp) with ⟨e1, e2⟩ | ⟨e1, e2⟩
  all_goals
    rw [e1, e2]
    clear e1 e2
    go_wp2_with fail
    refine (show_any n _ hn.1 hn.2).mono ?_
    rintro x w13 ⟨rfl, hb13⟩
    have HB13 := Lib.hid (Below.next HB12.out hb13)
    clear hb13
    go_wp2_with fail
    refine (dumpNumber_any (Lib.itoa n) _ (HL.out.below HB13.out) (by have := itoa_le n hn.1 hn.2; omega)).mono ?_
    rintro x w14 ⟨rfl, hb14⟩
    rw [numVal_itoa hn, numErr_itoa hn]
    have t4 : (n == n) = true := by simp
    go_wp2
    go_ret
    exact ⟨rfl, Below.next HB13.out hb14⟩

theorem i64_of_wf {n : Int} (h : (Lit.int .i64 n).wf = true) : I64 n := by
  unfold I64
  simpa [Lit.wf, show IntKind.i64.min = -9223372036854775808 from by decide] using h

theorem libV_of5 {w : World} {l : List (String × DataW Unit)} {d1 d2 : DataW Unit} (hl : l = ("math/bits.deBruijn32tab", d1) :: ("math/bits.deBruijn64tab", d2) :: ("internal/strconv.uint64pow10", Rows.laid_internal_strconv_uint64pow10) ::
    ("strconv.ErrRange", Rows.laid_strconv_ErrRange) :: [("strconv.ErrSyntax", Rows.laid_strconv_ErrSyntax)]) (h : laidMet Tryd.prog l w) (hS : w.ShapedOpen Tryd.prog) : LibV w := by
  subst hl
  have h2 := h.tail.tail
  refine ⟨Lib.tabIs_of_head (g := 5) (t := 130) (e := 97) (by kernel_rfl) (by kernel_rfl) Tryd.underlying130 Tryd.underlying97 (by kernel_rfl) (by kernel_rfl) h2, maxl_of hS, ?_, ?_⟩
  · exact iface_head h2.tail.tail (by kernel_rfl) (by kernel_rfl)
  · exact iface_head h2.tail (by kernel_rfl) (by kernel_rfl)

def RdBytes (w : World) (v : Value) (l : List UInt8) : Prop := BRow w v l ∧ l.length ≤ 1048576
theorem u8_of_wf {z : Int} (h : (Lit.int .u8 z).wf = true) : ∃ x : UInt8, z = (x.toNat : Int) := by
  have hz : 0 ≤ z ∧ z ≤ 255 := by simpa [Lit.wf, show IntKind.u8.min = 0 from by decide, show IntKind.u8.max = 255 from by decide] using h
  exact ⟨UInt8.ofNat z.toNat, by rw [UInt8.toNat_ofNat']; omega⟩
set_option maxRecDepth 100000 in
theorem openU_sl_bytes {H : Type} {enc : TypeId × Value → H} {W : World} {base : Nat} {v : Value} {d : DataW H} {p : List MemPlace}
    (hok : Value.okWide Tryd.prog W .any base 33 v) (h : DataW.Trod enc Tryd.prog W 0 (fun _ => true) true 33 v d p) (hz : Rows.uptoBulk d ≤ 1048576) :
    ∃ a, RdBytes W v a := by
  obtain ⟨zs, oa, cap, rfl, h1, h2, h3⟩ := openU_slice_by (P := Tryd.prog) (opensU_slice Tryd.underlying33 (by kernel_rfl) (by decide) (opensU_int (k := .u8) Tryd.underlying5)) Tryd.underlying33 hok h hz
  have hw : ∀ z ∈ zs, (Lit.int .u8 z).wf = true := fun z hzm => by
    obtain ⟨i, hi, he⟩ := List.getElem_of_mem hzm
    obtain ⟨b, off, _, h5⟩ := h3 (by rintro rfl; simp at hi)
    obtain ⟨cs, _, _, hR⟩ := h5 i z (by rw [List.getElem?_eq_getElem hi, he])
    exact hR.2
  have hc : ∀ z ∈ zs, ((UInt8.ofNat z.toNat).toNat : Int) = z := fun z hzm => by
    obtain ⟨x, rfl⟩ := u8_of_wf (hw z hzm)
    simp
  refine ⟨zs.map fun z => UInt8.ofNat z.toNat, ⟨oa, cap, by rw [List.length_map], by simpa using h1, fun hn => ?_⟩, by simp; omega⟩
  obtain ⟨b, off, h4, h5⟩ := h3 (by rintro rfl; exact hn rfl)
  refine ⟨b, off, h4, fun i x hx => ?_⟩
  rw [List.getElem?_map] at hx
  obtain ⟨z, hz1, rfl⟩ := Option.map_eq_some_iff.1 hx
  obtain ⟨cs, _, hcs, hR⟩ := h5 i z hz1
  have := hcs 0 (.int .u8 z) (by rw [hR.1]; rfl)
  rw [hc z (List.mem_of_getElem? hz1)]
  simpa using this

theorem dumpBasics_walk (v0 : Value) (a0 : List UInt8) (a1 : List UInt8) (a2 : Int) (w : World) (h0 : RdBytes w v0 a0) (h1 : a1.length ≤ 1048576) (h2 : (Lit.int .i64 a2).wf = true) (hL : laidMetH Tryd.prog Rows.dumpBasicsUptoRow.laid w) (hS : w.ShapedOpen Tryd.prog) :
    Calls Tryd.prog 4 #[v0, .string ⟨a1.toArray⟩, .int .i64 a2] w fun x w' => x = .returned (.bool true) ∧ Below w.heap.size w w' :=
  dumpBasics_walk0 a0 v0 a1 a2 w (libV_of5 rfl hL hS) h0.1 h0.2 h1 (i64_of_wf h2)

end Go.Proofs.YtecmpmnidlfgnaaDoor
