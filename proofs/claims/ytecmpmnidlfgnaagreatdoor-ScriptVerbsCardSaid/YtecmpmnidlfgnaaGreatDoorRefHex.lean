import Derived.Test.YtecmpmnidlfgnaaGreatDoorBase
import Derived.Test.YtecmpmnidlfgnaaGreatDoorNumPlain
import Derived.Deep.QuietTactic
import Derived.BigQuiet
import Derived.Deep.RegionWith
import Derived.IntWalk
namespace Go.Proofs.YtecmpmnidlfgnaaGreatDoor
open Go.RowKit

/-! ## bytes, and the reference's Hex -/

/-- a slice value (nil or not) that reads as these bytes -/
def BRow (w : World) (v : Value) (l : List UInt8) : Prop :=
  ∃ oa cap, v = .slice oa l.length cap ∧ l.length ≤ cap ∧
    (l ≠ [] → ∃ b off, oa = some ⟨b, off, none⟩ ∧ ∀ (i : Nat) x, l[i]? = some x → w.cell? ⟨b, off + i, none⟩ = some (.int .u8 (x.toNat : Int)))

theorem BRow.below {w w' : World} {v : Value} {l : List UInt8} (h : BRow w v l) (hb : Below w.heap.size w w') : BRow w' v l := by
  obtain ⟨oa, cap, h1, h2, h5⟩ := h
  refine ⟨oa, cap, h1, h2, fun hn => ?_⟩
  obtain ⟨b, off, e, hc⟩ := h5 hn
  exact ⟨b, off, e, fun i x hx => cell_later hb (hc i x hx)⟩

/-- its shape: cells of a block, or nothing -/
theorem BRow.shape {w : World} {v : Value} {l : List UInt8} (h : BRow w v l) : (l = [] ∧ ∃ oa cap, v = .slice oa 0 cap) ∨
    ∃ b off cap, v = .slice (some ⟨b, off, none⟩) l.length cap ∧ l.length ≤ cap ∧ ∀ (i : Nat) x, l[i]? = some x → w.cell? ⟨b, off + i, none⟩ = some (.int .u8 (x.toNat : Int)) := by
  obtain ⟨oa, cap, rfl, h2, h5⟩ := h
  cases l with
  | nil => exact .inl ⟨rfl, oa, cap, rfl⟩
  | cons x l =>
    obtain ⟨b, off, rfl, hc⟩ := h5 (by simp)
    exact .inr ⟨b, off, cap, rfl, h2, hc⟩

theorem below_drewN' (w : World) (n : Nat) : Below w.heap.size w (w.drewN n) := ⟨rfl, rfl, rfl, Nat.le_refl _, fun _ _ => rfl⟩

theorem quiet_eq {P : Program} {f : FuncId} {args : Array Value} {w : World} {n : Nat} {v : Value}
    (h : Calls P f args (w.drewN n) fun e w' => e = .returned v ∧ w.drewN n = w') : Calls P f args (w.drewN n) fun e w' => e = .returned v ∧ ∃ m, w' = w.drewN m :=
  h.mono fun _ _ ⟨he, hw⟩ => ⟨he, n, hw.symm⟩

theorem str_add (a b m : List UInt8) (hm : m = a ++ b) (h : m.length ≤ 4611686018427387904) (wx : World) : (Op.stringOp .add ⟨a.toArray⟩ ⟨b.toArray⟩).run Tryz.prog wx = .ok (.string ⟨m.toArray⟩) wx := by
  subst hm
  rw [run_string_add_sum wx _ _ (by simp [ByteArray.size] at h ⊢; omega), ba_append]

theorem digit_tab : ∀ m : Fin 16, (⟨#[48, 49, 50, 51, 52, 53, 54, 55, 56, 57, 97, 98, 99, 100, 101, 102]⟩ : ByteArray).extract m.val (m.val + 1) = ⟨[hx m.val].toArray⟩ := by decide

theorem digit_any (n : Int) (w : World) (h0 : 0 ≤ n) (h1 : n < 16) :
    Calls Tryz.prog 76 #[.int .i64 n] w fun e w' => e = .returned (.string ⟨[hx n.toNat].toArray⟩) ∧ w = w' := by
  obtain ⟨m, rfl⟩ := Int.eq_ofNat_of_zero_le h0
  have ht := Lib.hid (digit_tab ⟨m, by omega⟩)
  go_enter Tryz.func76, Tryz.ntmps76
  go_wp2
  go_ret
  exact ⟨ret_str (by simpa using ht.out), rfl⟩

set_option maxHeartbeats 1000000 in
theorem refHex_any (l : List UInt8) (v : Value) (w : World) (hv : BRow w v l) (hl : l.length ≤ 1152921504606846976) :
    Calls Tryz.prog 47 #[v] w fun e w' => e = .returned (.string ⟨(hexOf l).toArray⟩) ∧ Below w.heap.size w w' := by
  rcases hv.shape with ⟨rfl, oa, cap, rfl⟩ | ⟨b, off, cap, rfl, hlc, hc⟩
  · go_enter Tryz.func47, Tryz.ntmps47
    go_wp2
    refine wp_loop_rounds 1 ?_
    rw [rounds_succ]
    go_wp2
    go_ret
    exact ⟨rfl, Below.refl _ _⟩
  clear hv
  have HC := Lib.hid hc
  clear hc
  go_enter Tryz.func47, Tryz.ntmps47
  go_wp2
  go_loopw [3, 7] (fun s i wr => ∃ k : Nat, k ≤ l.length ∧ i = .int .i64 k ∧ s = .string ⟨(hexOf (l.take k)).toArray⟩ ∧ Below w.heap.size w wr) (fun _ i _ => l.length - (intOf i).toNat)
  case atStart => exact ⟨0, Nat.zero_le _, rfl, rfl, Below.refl _ _⟩
  case round =>
    obtain ⟨k, hk, rfl, rfl, hb⟩ := hrel
    have HB := Lib.hid hb
    clear hb
    by_cases hlt : k < l.length
    · obtain ⟨x, hx1, hx2, _⟩ := nth l k hlt
      have hcell := cell_later HB.out (HC.out k x hx1)
      have hxlt := x.toNat_lt
      have HX := Lib.hid (show hexOf (l.take (k + 1)) = hexOf (l.take k) ++ [hx (x.toNat / 16), hx (x.toNat % 16)] by rw [hx2, hexOf_append]; rfl)
      have hlen : (hexOf (l.take k)).length ≤ 2 * l.length := by rw [hexOf_length]; have := List.length_take_le k l; omega
      obtain ⟨m2, hm2⟩ : ∃ m, m = hexOf (l.take k) ++ [hx (x.toNat / 16), hx (x.toNat % 16)] := ⟨_, rfl⟩
      have e1 := str_add [hx (x.toNat / 16)] [hx (x.toNat % 16)] [hx (x.toNat / 16), hx (x.toNat % 16)] rfl (by simp)
      have e2 := str_add _ _ _ hm2 (by rw [hm2]; simp; omega)
      have HM := Lib.hid hm2
      have d1 := fun W => digit_any ((x.toNat : Int) / 16) W (by omega) (by omega)
      have d2 := fun W => digit_any ((x.toNat : Int) % 16) W (by omega) (by omega)
      rw [show ((x.toNat : Int) / 16).toNat = x.toNat / 16 by omega] at d1
      rw [show ((x.toNat : Int) % 16).toNat = x.toNat % 16 by omega] at d2
      have q1 : IntKind.i64.wrap (x.toNat : Int) = x.toNat := IntWalk.i64_in _ (by omega)
      have q2 : (x.toNat : Int).tdiv 16 = (x.toNat : Int) / 16 := Int.tdiv_eq_ediv_of_nonneg (by omega)
      have q3 : IntKind.i64.wrap ((x.toNat : Int) / 16) = (x.toNat : Int) / 16 := IntWalk.i64_in _ (by omega)
      have q4 : (x.toNat : Int).tmod 16 = (x.toNat : Int) % 16 := Int.tmod_eq_emod_of_nonneg (by omega)
      have q5 : IntKind.i64.wrap ((x.toNat : Int) % 16) = (x.toNat : Int) % 16 := IntWalk.i64_in _ (by omega)
      have D1 := Lib.hid d1
      have D2 := Lib.hid d2
      clear d1 d2 hm2 hx1 hx2
      go_wp2
      go_quiet ((go_at_call 76; first | (with_reducible exact quiet_eq (D1.out _)) | (with_reducible exact quiet_eq (D2.out _))))
      go_wp2
      go_roundw
      case rel => exact ⟨k + 1, by omega, by go_num, by rw [HX.out, HM.out], Below.next HB.out (below_drewN' _ _)⟩
      case measure => simp [intOf]; omega
    · obtain rfl : k = l.length := by omega
      go_wp2
      go_ret
      exact ⟨ret_str (by rw [List.take_length]), HB.out⟩

end Go.Proofs.YtecmpmnidlfgnaaGreatDoor
