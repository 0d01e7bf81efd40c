import Derived.Test.YtecmpmnidlfgnaaGreatDoorItoa
import Derived.Test.YtecmpmnidlfgnaaGreatDoorDumpPlain
namespace Go.Proofs.YtecmpmnidlfgnaaGreatDoor
open Go.RowKit

/-! ## what the library's own variables hold, and the contracts that lean on it -/

structure LibV (w : World) : Prop where
  pow : PowTab w
  maxl : ∃ m, w.cell? ⟨0, 0, none⟩ = some (.int .i64 m)
  esyn : ∃ t p, w.cell? ⟨2, 0, none⟩ = some (.iface t p)
  eran : ∃ t p, w.cell? ⟨3, 0, none⟩ = some (.iface t p)

theorem LibV.below {w w' : World} (h : LibV w) (hb : Below w.heap.size w w') : LibV w' := by
  obtain ⟨h1, ⟨m, h2⟩, ⟨t, p, h3⟩, ⟨t', p', h4⟩⟩ := h
  exact ⟨h1.below hb, ⟨m, cell_later hb h2⟩, ⟨t, p, cell_later hb h3⟩, ⟨t', p', cell_later hb h4⟩⟩

theorem Itoa_lib (n : Int) (w : World) (hL : LibV w) (h : I64 n) :
    Calls Tryz.prog 50 #[.int .i64 n] w fun e w' => e = .returned (.string ⟨(Lib.itoa n).toArray⟩) ∧ Below w.heap.size w w' := Itoa_any n w h.1 h.2 hL.pow

/-- strconv.Atoi: what it says of a numeral, or an error -/
theorem Atoi_ok (l : List UInt8) (n : Int) (w : World) (hl : l.length ≤ 281474976710656) (h : Lib.atoiAll l = .ok n) :
    Calls Tryz.prog 88 #[.string ⟨l.toArray⟩] w fun e w' => e = .returned (.tuple #[.int .i64 n, .nilIface]) ∧ Below w.heap.size w w' :=
  (Tryz.strconv_Atoi_ok ⟨l.toArray⟩ (by simp [ByteArray.size]; omega) n (by simpa using h) w).mono fun e w' ⟨he, hw⟩ => ⟨he, by
    rcases hw with rfl | ⟨t, rfl⟩
    · exact Below.refl _ _
    · exact Lib.bytesWorld_below _ _ _⟩

theorem Atoi_bad (l : List UInt8) (w : World) (hL : LibV w) (hl : l.length ≤ 281474976710656) (h : ∀ n, Lib.atoiAll l ≠ .ok n) :
    Calls Tryz.prog 88 #[.string ⟨l.toArray⟩] w fun e w' => ∃ n t p, e = .returned (.tuple #[.int .i64 n, .iface t p]) ∧ I64 n ∧ Below w.heap.size w w' := by
  cases hc : Lib.atoiAll l with
  | ok n => exact absurd hc (h n)
  | range =>
    obtain ⟨t, p, hv⟩ := hL.eran
    refine (Tryz.strconv_Atoi_range ⟨l.toArray⟩ (by simp [ByteArray.size]; omega) (by simpa using hc) _ w hv (.inr ⟨_, _, rfl⟩)).mono ?_
    rintro e w' ⟨N, he, _, _, hb⟩
    exact ⟨_, _, _, he, by unfold I64 Lib.atoiSat; split <;> omega, hb⟩
  | _ =>
    obtain ⟨t, p, hv⟩ := hL.esyn
    refine (Tryz.strconv_Atoi_syntax ⟨l.toArray⟩ (by simp [ByteArray.size]; omega) (by simpa using hc) _ w hv (.inr ⟨_, _, rfl⟩)).mono ?_
    rintro e w' ⟨N, he, _, _, hb⟩
    exact ⟨_, _, _, he, ⟨by decide, by decide⟩, hb⟩

/-! ## Number -/

def numVal (s : List UInt8) : Int := (numberOf s).getD 0
def numErr (s : List UInt8) : Int := if (numberOf s).isSome then 0 else 101

theorem numVal_i64 (s : List UInt8) : I64 (numVal s) := by
  unfold numVal
  cases h : numberOf s with
  | none => exact ⟨by decide, by decide⟩
  | some n => exact ((numberOf_iff s n).1 h).1

theorem ret_num {a b c d : Int} (h1 : a = c) (h2 : b = d) : Ending.returned (.tuple #[.int .i64 c, .int .i64 d]) = .returned (.tuple #[.int .i64 a, .int .i64 b]) := by rw [h1, h2]

set_option maxHeartbeats 1000000 in
theorem dumpNumber_any (s : List UInt8) (w : World) (hL : LibV w) (hs : s.length ≤ 281474976710656) :
    Calls Tryz.prog 60 #[.string ⟨s.toArray⟩] w fun e w' => e = .returned (.tuple #[.int .i64 (numVal s), .int .i64 (numErr s)]) ∧ Below w.heap.size w w' := by
  have HL := Lib.hid hL
  clear hL
  cases hc : Lib.atoiAll s with
  | ok n =>
    have hi := atoiAll_i64 hc
    by_cases he : Lib.itoa n = s
    · have hv : numberOf s = some n := (numberOf_iff s n).2 ⟨hi, he⟩
      have H1 := Lib.hid (show numVal s = n ∧ numErr s = 0 by simp [numVal, numErr, hv])
      have ht := Lib.hid he
      have HC := Lib.hid hc
      have HI := Lib.hid hi
      clear hc he hv hi
      go_enter Tryz.func60, Tryz.ntmps60
      go_wp2_with fail
      refine (Atoi_ok s n _ hs HC.out).mono ?_
      rintro e w1 ⟨rfl, hb1⟩
      have HB1 := Lib.hid hb1
      clear hb1
      go_wp2_with fail
      refine (Itoa_lib n _ (HL.out.below HB1.out) HI.out).mono ?_
      rintro e w2 ⟨rfl, hb2⟩
      have hne : (Lib.itoa n == s) = true := by rw [beq_iff_eq]; exact ht.out
      go_wp2
      go_ret2
      exact ⟨ret_num H1.out.1 H1.out.2, Below.next HB1.out hb2⟩
    · have hv : numberOf s = none := by
        unfold numberOf; rw [hc]; simp [he]
      have H1 := Lib.hid (show numVal s = 0 ∧ numErr s = 101 by simp [numVal, numErr, hv])
      have ht := Lib.hid he
      have HC := Lib.hid hc
      have HI := Lib.hid hi
      clear hc he hv hi
      go_enter Tryz.func60, Tryz.ntmps60
      go_wp2_with fail
      refine (Atoi_ok s n _ hs HC.out).mono ?_
      rintro e w1 ⟨rfl, hb1⟩
      have HB1 := Lib.hid hb1
      clear hb1
      go_wp2_with fail
      refine (Itoa_lib n _ (HL.out.below HB1.out) HI.out).mono ?_
      rintro e w2 ⟨rfl, hb2⟩
      have hne : (Lib.itoa n == s) = false := by rw [beq_eq_false_iff_ne]; exact ht.out
      go_wp2
      go_ret2
      exact ⟨ret_num H1.out.1 H1.out.2, Below.next HB1.out hb2⟩
  | range =>
    have H1 := Lib.hid (show numVal s = 0 ∧ numErr s = 101 by simp [numVal, numErr, numberOf, hc])
    have HC := Lib.hid (show ∀ n, Lib.atoiAll s ≠ .ok n by rw [hc]; intro n h; cases h)
    clear hc
    go_enter Tryz.func60, Tryz.ntmps60
    go_wp2_with fail
    refine (Atoi_bad s _ HL.out hs HC.out).mono ?_
    rintro e w1 ⟨n, t, p, rfl, _, hb1⟩
    go_wp2
    go_ret2
    exact ⟨ret_num H1.out.1 H1.out.2, hb1⟩
  | _ =>
    have H1 := Lib.hid (show numVal s = 0 ∧ numErr s = 101 by simp [numVal, numErr, numberOf, hc])
    have HC := Lib.hid (show ∀ n, Lib.atoiAll s ≠ .ok n by rw [hc]; intro n h; cases h)
    clear hc
    go_enter Tryz.func60, Tryz.ntmps60
    go_wp2_with fail
    refine (Atoi_bad s _ HL.out hs HC.out).mono ?_
    rintro e w1 ⟨n, t, p, rfl, _, hb1⟩
    go_wp2
    go_ret2
    exact ⟨ret_num H1.out.1 H1.out.2, hb1⟩

end Go.Proofs.YtecmpmnidlfgnaaGreatDoor
