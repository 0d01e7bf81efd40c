import Derived.Test.YtkapjnlhkchpiaaDoorItoa
import Derived.Test.YtkapjnlhkchpiaaDoorFaultName
import Derived.Deep.RegionWith
namespace Go.Proofs.YtkapjnlhkchpiaaDoor
open Go.RowKit

/-- 'string([]byte{x})' of a block that was there before a call -/
theorem conv_below {wc w3 : World} (hb : Below wc.heap.size wc w3) (b : Nat) (x : Int) (h : wc.cell? ⟨b, 0, none⟩ = some (.int .u8 x)) (c : Nat) :
    (convert 58 9 (.slice (some ⟨b, 0, none⟩) 1 c)).run Tryd.prog w3 = .ok (.string ⟨[UInt8.ofNat x.toNat].toArray⟩) w3 :=
  run_convert_bytes_arg (P := Tryd.prog) w3 58 5 Tryd.underlying58 Tryd.underlying5 b 0 1 c [x] rfl
    (fun i hi => by obtain rfl : i = 0 := by omega
                    rw [Nat.zero_add]; exact cell_later hb h) 9 Tryd.underlying9

theorem conv_one_drew (w : World) (x : Int) (c : Nat) :
    (convert 58 9 (.slice (some ⟨w.heap.size, 0, none⟩) 1 c)).run Tryd.prog (w.alloc (.cells #[.int .u8 x] 5)).drew = .ok (.string ⟨[UInt8.ofNat x.toNat].toArray⟩) (w.alloc (.cells #[.int .u8 x] 5)).drew :=
  conv_one w.drew x c

set_option maxHeartbeats 1000000 in
set_option maxRecDepth 100000 in
theorem digits22_step (n : Int) (w : World) (h0 : 10 ≤ n) (h1 : n ≤ 18446744073709551615)
    (ih : ∀ w : World, Calls Tryd.prog 17 #[.int .u64 (n / 10)] w fun e w' => e = .returned (.string ⟨(Lib.decDigits (n / 10).toNat).toArray⟩) ∧ Below w.heap.size w w') :
    Calls Tryd.prog 17 #[.int .u64 n] w fun e w' => e = .returned (.string ⟨(Lib.decDigits n.toNat).toArray⟩) ∧ Below w.heap.size w w' := by
  have HD : Hid (Lib.decDigits n.toNat = Lib.decDigits (n / 10).toNat ++ [UInt8.ofNat (48 + n % 10).toNat]) := Lib.hid (by
    rw [Lib.decDigits, dif_neg (by omega), show n.toNat / 10 = (n / 10).toNat by omega, show 48 + n.toNat % 10 = (48 + n % 10).toNat by omega])
  have IH := Lib.hid ih
  clear ih
  have hcv := fun wx => conv_one wx (48 + n % 10)
  have hcv' := fun wx => conv_one_drew wx (48 + n % 10)
  go_enter Tryd.func17, Tryd.ntmps17
  go_wp2
  have q1 : n.tdiv 10 = n / 10 := Int.tdiv_eq_ediv_of_nonneg (by omega)
  have q2 : IntKind.u64.wrap (n / 10) = n / 10 := IntWalk.u64_in _ (by omega)
  have q3 : n.tmod 10 = n % 10 := Int.tmod_eq_emod_of_nonneg (by omega)
  have q4 : IntKind.u64.wrap (n % 10) = n % 10 := IntWalk.u64_in _ (by omega)
  have q5 : IntKind.u64.wrap (48 + n % 10) = 48 + n % 10 := IntWalk.u64_in _ (by omega)
  have q6 : IntKind.u8.wrap (48 + n % 10) = 48 + n % 10 := IntWalk.u8_in _ (by omega)
  have hlen : (Lib.decDigits (n / 10).toNat).length ≤ 20 := decDigits_le 19 _ (by omega)
  go_region_with (go_at_call 17; refine (IH.out _).mono ?_; rintro x w3 ⟨rfl, hb3⟩; have hcv3 := conv_below hb3 w.heap.size (48 + n % 10))
  all_goals go_wp2
  all_goals go_ret
  all_goals refine ⟨(ret_str (ba_append _ _)).trans (by rw [HD.out]), ?_⟩
  all_goals first | exact (Below.next ((Below.refl _ _).drew) hb3).alloc (Nat.le_trans (Nat.le_refl _) hb3.size) _ | exact Below.next (((Below.refl _ _).alloc (Nat.le_refl _) _).drew) hb3

theorem digits22_any (n : Int) (w : World) (h0 : 0 ≤ n) (h1 : n ≤ 18446744073709551615) :
    Calls Tryd.prog 17 #[.int .u64 n] w fun e w' => e = .returned (.string ⟨(Lib.decDigits n.toNat).toArray⟩) ∧ Below w.heap.size w w' := by
  obtain ⟨m, rfl⟩ := Int.eq_ofNat_of_zero_le h0
  induction m using Nat.strongRecOn generalizing w with
  | _ m ih =>
    by_cases h : m < 10
    · have hd := Lib.hid (show Lib.decDigits ((m : Int)).toNat = [UInt8.ofNat (48 + (m : Int)).toNat] by rw [Int.toNat_natCast, Lib.decDigits_one h]; congr 2)
      have hcv := fun wx => conv_one wx (48 + (m : Int))
      clear ih
      go_enter Tryd.func17, Tryd.ntmps17
      go_wp2
      go_ret
      exact ⟨by rw [hd.out]; rfl, (Below.refl _ _).alloc (Nat.le_refl _) _⟩
    · refine digits22_step m w (by omega) h1 fun w2 => ?_
      have e : (m : Int) / 10 = ((m / 10 : Nat) : Int) := by omega
      rw [e]
      exact ih (m / 10) (by omega) w2 (by omega) (by omega)

end Go.Proofs.YtkapjnlhkchpiaaDoor
