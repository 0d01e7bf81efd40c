import Derived.Test.YtecmpmnidlfgnaaGreatDoorRefHex
import Derived.Test.YtecmpmnidlfgnaaGreatDoorBuilder
import Derived.Test.YtecmpmnidlfgnaaGreatDoorShelf
import Derived.Laws.BitsLemmas
namespace Go.Proofs.YtecmpmnidlfgnaaGreatDoor
open Go.RowKit

theorem fresh_builder (w : World) : Lib.IsBuilder 113 5 w.heap.size w.heap.size [] (w.alloc (.cells #[.pointer none, .slice none 0 0] 113)) := Lib.fresh_isBuilder _ _ w

theorem hex_tab : ∀ (m : Fin 16), (#[48, 49, 50, 51, 52, 53, 54, 55, 56, 57, 97, 98, 99, 100, 101, 102] : Array UInt8)[m] = hx m.val := by decide
theorem hex_at (d : Nat) (h : d < 16) : ∀ hh, ((⟨#[48, 49, 50, 51, 52, 53, 54, 55, 56, 57, 97, 98, 99, 100, 101, 102]⟩ : ByteArray)[d]'hh) = hx d := fun _ => hex_tab ⟨d, h⟩

theorem byteCells_snoc' (l : List UInt8) (x : UInt8) : Lib.byteCells l ++ [.int .u8 (x.toNat : Int)] = Lib.byteCells (l ++ [x]) := by rw [Lib.byteCells_append]; rfl

set_option maxHeartbeats 1000000 in
theorem dumpHex_any (l : List UInt8) (v : Value) (w : World) (hv : BRow w v l) (hl : l.length ≤ 1048576) :
    Calls Tryz.prog 51 #[v] w fun e w' => e = .returned (.string ⟨(hexOf l).toArray⟩) ∧ Below w.heap.size w w' := by
  rcases hv.shape with ⟨rfl, oa, cap, rfl⟩ | ⟨b, off, cap, rfl, hlc, hc⟩
  · have hS := Lib.hid (fresh_builder w)
    go_enter Tryz.func51, Tryz.ntmps51
    go_wp2
    refine wp_loop_rounds 1 ?_
    rw [rounds_succ]
    go_wp2_with fail
    refine (Tryz.Builder_String_any w.heap.size w.heap.size [] _ hS.out (by simp)).mono ?_
    rintro e w2 ⟨rfl, hb2⟩
    go_wp2
    go_ret
    exact ⟨rfl, ((Below.refl _ _).alloc (Nat.le_refl _) _).trans hb2⟩
  clear hv
  have HC := Lib.hid hc
  clear hc
  have HS := Lib.hid (fresh_builder w)
  go_enter Tryz.func51, Tryz.ntmps51
  go_wp2
  go_loopw [8] (fun i wr => ∃ k : Nat, k ≤ l.length ∧ i = .int .i64 k ∧ Lib.IsBuilder 113 5 w.heap.size w.heap.size (Lib.byteCells (hexOf (l.take k))) wr ∧ Below w.heap.size w wr) (fun i _ => l.length - (intOf i).toNat)
  case atStart => exact ⟨0, Nat.zero_le _, rfl, HS.out, (Below.refl _ _).alloc (Nat.le_refl _) _⟩
  case round =>
    obtain ⟨k, hk, rfl, hbd, hb⟩ := hrel
    have HB := Lib.hid hb
    have HD := Lib.hid hbd
    clear hb hbd
    by_cases hlt : k < l.length
    · obtain ⟨x, hx1, hx2, _⟩ := nth l k hlt
      have hcell := cell_later HB.out (HC.out k x hx1)
      have hxlt := x.toNat_lt
      have hlen : (hexOf (l.take k)).length ≤ 2097152 := by rw [hexOf_length]; have := List.length_take_le k l; omega
      have HX := Lib.hid (show hexOf (l.take (k + 1)) = hexOf (l.take k) ++ [hx (x.toNat / 16)] ++ [hx (x.toNat % 16)] by rw [hx2, hexOf_append]; simp [hexOf])
      clear hx1 hx2
      have hsz := HB.out.size
      go_wp2_with fail
      rw [hex_at _ (by omega)]
      refine (WriteByte_any w.heap.size w.heap.size _ _ _ HD.out (by rw [Lib.byteCells_length]; omega) hsz).mono ?_
      rintro e w1 ⟨rfl, hd1, hb1⟩
      rw [byteCells_snoc'] at hd1
      have HD1 := Lib.hid (show Lib.IsBuilder 113 5 w.heap.size w.heap.size _ w1 from .inr hd1)
      have HB1 := Lib.hid (HB.out.trans hb1)
      have hsz1 := (HB.out.trans hb1).size
      clear hd1 hb1
      go_wp2_with fail
      rw [hex_at _ (by omega)]
      refine (WriteByte_any w.heap.size w.heap.size _ _ _ HD1.out (by rw [Lib.byteCells_length]; simp; omega) hsz1).mono ?_
      rintro e w2 ⟨rfl, hd2, hb2⟩
      rw [byteCells_snoc'] at hd2
      have HD2 := Lib.hid (show Lib.IsBuilder 113 5 w.heap.size w.heap.size _ w2 from .inr hd2)
      have HB2 := Lib.hid (HB1.out.trans hb2)
      clear hd2 hb2
      go_wp2
      go_roundw
      case rel => exact ⟨k + 1, by omega, by go_num, by rw [HX.out]; exact HD2.out, HB2.out⟩
      case measure => simp [intOf]; omega
    · obtain rfl : k = l.length := by omega
      have hsz := HB.out.size
      go_wp2_with fail
      refine (Tryz.Builder_String_any w.heap.size w.heap.size _ _ HD.out hsz).mono ?_
      rintro e w2 ⟨rfl, hb2⟩
      go_wp2
      go_ret
      exact ⟨ret_str (by simp), HB.out.trans hb2⟩

end Go.Proofs.YtecmpmnidlfgnaaGreatDoor
