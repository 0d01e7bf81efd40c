import Derived.Test.YtlobohpbgghleaaDoorRefHex
import Derived.Deep.RegionWith
namespace Go.Proofs.YtlobohpbgghleaaDoor
open Go.RowKit

/-! ## the reference's Show -/

theorem conv_belowS {wc w3 : World} (hb : Below wc.heap.size wc w3) (b : Nat) (x : Int) (h : wc.cell? ⟨b, 0, none⟩ = some (.int .u8 x)) (c : Nat) :
    (convert 51 9 (.slice (some ⟨b, 0, none⟩) 1 c)).run Tryd.prog w3 = .ok (.string ⟨[UInt8.ofNat x.toNat].toArray⟩) w3 :=
  run_convert_bytes_arg (P := Tryd.prog) w3 51 5 Tryd.underlying51 Tryd.underlying5 b 0 1 c [x] rfl
    (fun i hi => by obtain rfl : i = 0 := by omega
                    rw [Nat.zero_add]; exact cell_later hb h) 9 Tryd.underlying9
theorem conv_one_drewS (w : World) (x : Int) (c : Nat) :
    (convert 51 9 (.slice (some ⟨w.heap.size, 0, none⟩) 1 c)).run Tryd.prog (w.alloc (.cells #[.int .u8 x] 5)).drew = .ok (.string ⟨[UInt8.ofNat x.toNat].toArray⟩) (w.alloc (.cells #[.int .u8 x] 5)).drew :=
  conv_one w.drew x c

theorem itoa_small (n : Int) (h0 : 0 ≤ n) (h1 : n < 10) : Lib.itoa n = [UInt8.ofNat (48 + n).toNat] := by
  unfold Lib.itoa
  rw [if_neg (by omega), Lib.decDigits_one (by omega), show 48 + n.toNat = (48 + n).toNat by omega]
theorem itoa_neg (n : Int) (h0 : n < 0) : Lib.itoa n = 45 :: Lib.itoa (0 - n) := by
  unfold Lib.itoa
  rw [if_pos h0, if_neg (by omega), show n.natAbs = (0 - n).toNat by omega]
theorem itoa_big (n : Int) (h0 : 10 ≤ n) : Lib.itoa n = Lib.itoa (n / 10) ++ [UInt8.ofNat (48 + n % 10).toNat] := by
  unfold Lib.itoa
  rw [if_neg (by omega), if_neg (by omega), decDigits_big (by omega), show n.toNat / 10 = (n / 10).toNat by omega, show 48 + n.toNat % 10 = (48 + n % 10).toNat by omega]
theorem tdiv_neg10 (n : Int) (h : n ≤ 0) : n.tdiv 10 = -((-n) / 10) := by
  have := Int.neg_tdiv (-n) 10
  rw [Int.neg_neg] at this
  rw [this, Int.tdiv_eq_ediv_of_nonneg (by omega)]
theorem tmod_neg10 (n : Int) (h : n ≤ 0) : n.tmod 10 = -((-n) % 10) := by
  have := Int.neg_tmod (-n) 10
  rw [Int.neg_neg] at this
  rw [this, Int.tmod_eq_emod_of_nonneg (by omega)]
theorem itoa_low (n : Int) (h0 : n ≤ -10) : Lib.itoa n = Lib.itoa (n.tdiv 10) ++ [UInt8.ofNat (48 - n.tmod 10).toNat] := by
  have hd := tdiv_neg10 n (by omega)
  have hm := tmod_neg10 n (by omega)
  rw [hd, hm]
  unfold Lib.itoa
  rw [if_pos (by omega), if_pos (by omega), decDigits_big (by omega), show n.natAbs / 10 = (-(-n / 10)).natAbs by omega, show 48 + n.natAbs % 10 = (48 - -(-n % 10)).toNat by omega]
  rfl

theorem itoa_len (n : Int) (h0 : -9223372036854775808 ≤ n) (h1 : n ≤ 9223372036854775807) : (Lib.itoa n).length ≤ 20 := by
  unfold Lib.itoa
  split
  · have := dig_count n.natAbs (by omega)
    simp; omega
  · have := dig_count n.toNat (by omega)
    omega

theorem show_small (n : Int) (w : World) (h0 : 0 ≤ n) (h1 : n < 10) :
    Calls Tryd.prog 12 #[.int .i64 n] w fun e w' => e = .returned (.string ⟨(Lib.itoa n).toArray⟩) ∧ Below w.heap.size w w' := by
  have HI := Lib.hid (itoa_small n h0 h1)
  have hcv := fun wx => conv_one wx (48 + n)
  go_enter Tryd.func12, Tryd.ntmps12
  go_wp2
  go_ret
  exact ⟨ret_str (by rw [HI.out]), (Below.refl _ _).alloc (Nat.le_refl _) _⟩

theorem show_neg1 (n : Int) (w : World) (h0 : -10 < n) (h1 : n < 0) :
    Calls Tryd.prog 12 #[.int .i64 n] w fun e w' => e = .returned (.string ⟨(Lib.itoa n).toArray⟩) ∧ Below w.heap.size w w' := by
  have HI := Lib.hid (itoa_neg n h1)
  have hl := itoa_len (0 - n) (by omega) (by omega)
  rw [show (0 - n) = -n by omega] at hl HI
  have e1 := str_add [45] (Lib.itoa (-n)) (45 :: Lib.itoa (-n)) rfl (by simp only [List.length_cons]; omega)
  have HS := Lib.hid (fun W => show_small (-n) W (by omega) (by omega))
  go_enter Tryd.func12, Tryd.ntmps12
  go_wp2_with fail
  refine (HS.out _).mono ?_
  rintro x w2 ⟨rfl, hb⟩
  go_wp2
  go_ret
  exact ⟨ret_str (by rw [HI.out]), hb⟩

set_option maxHeartbeats 1000000 in
set_option maxRecDepth 100000 in
theorem show_big (n : Int) (w : World) (h0 : 10 ≤ n) (h1 : n ≤ 9223372036854775807)
    (ih : ∀ w : World, Calls Tryd.prog 12 #[.int .i64 (n / 10)] w fun e w' => e = .returned (.string ⟨(Lib.itoa (n / 10)).toArray⟩) ∧ Below w.heap.size w w') :
    Calls Tryd.prog 12 #[.int .i64 n] w fun e w' => e = .returned (.string ⟨(Lib.itoa n).toArray⟩) ∧ Below w.heap.size w w' := by
  have HD := Lib.hid (itoa_big n h0)
  have IH := Lib.hid ih
  clear ih
  have hcv := fun wx => conv_one wx (48 + n % 10)
  have hcv' := fun wx => conv_one_drewS wx (48 + n % 10)
  have hlen : (Lib.itoa (n / 10)).length ≤ 20 := itoa_len _ (by omega) (by omega)
  go_enter Tryd.func12, Tryd.ntmps12
  go_wp2
  have q1 : n.tdiv 10 = n / 10 := Int.tdiv_eq_ediv_of_nonneg (by omega)
  have q2 : IntKind.i64.wrap (n / 10) = n / 10 := IntWalk.i64_in _ (by omega)
  have q3 : n.tmod 10 = n % 10 := Int.tmod_eq_emod_of_nonneg (by omega)
  have q4 : IntKind.i64.wrap (n % 10) = n % 10 := IntWalk.i64_in _ (by omega)
  have q5 : IntKind.i64.wrap (48 + n % 10) = 48 + n % 10 := IntWalk.i64_in _ (by omega)
  have q6 : IntKind.u8.wrap (48 + n % 10) = 48 + n % 10 := IntWalk.u8_in _ (by omega)
  go_region_with (go_at_call 12; refine (IH.out _).mono ?_; rintro x w3 ⟨rfl, hb3⟩; have hcv3 := conv_belowS hb3 w.heap.size (48 + n % 10))
  all_goals go_wp2
  all_goals go_ret
  all_goals refine ⟨(ret_str (ba_append _ _)).trans (by rw [HD.out]), ?_⟩
  all_goals first | exact (Below.next ((Below.refl _ _).drew) hb3).alloc (Nat.le_trans (Nat.le_refl _) hb3.size) _ | exact Below.next (((Below.refl _ _).alloc (Nat.le_refl _) _).drew) hb3

set_option maxHeartbeats 1000000 in
set_option maxRecDepth 100000 in
theorem show_low (n : Int) (w : World) (h0 : n ≤ -10) (h1 : -9223372036854775808 ≤ n)
    (ih : ∀ w : World, Calls Tryd.prog 12 #[.int .i64 (n.tdiv 10)] w fun e w' => e = .returned (.string ⟨(Lib.itoa (n.tdiv 10)).toArray⟩) ∧ Below w.heap.size w w') :
    Calls Tryd.prog 12 #[.int .i64 n] w fun e w' => e = .returned (.string ⟨(Lib.itoa n).toArray⟩) ∧ Below w.heap.size w w' := by
  have HD := Lib.hid (itoa_low n h0)
  have IH := Lib.hid ih
  clear ih
  have hcv := fun wx => conv_one wx (48 - n.tmod 10)
  have hcv' := fun wx => conv_one_drewS wx (48 - n.tmod 10)
  have t1 : -9 ≤ n.tmod 10 ∧ n.tmod 10 ≤ 0 := by rw [tmod_neg10 n (by omega)]; omega
  have t2 : -922337203685477580 ≤ n.tdiv 10 ∧ n.tdiv 10 ≤ 0 := by rw [tdiv_neg10 n (by omega)]; omega
  have hlen : (Lib.itoa (n.tdiv 10)).length ≤ 20 := itoa_len _ (by omega) (by omega)
  go_enter Tryd.func12, Tryd.ntmps12
  go_wp2
  have q2 : IntKind.i64.wrap (n.tdiv 10) = n.tdiv 10 := IntWalk.i64_in _ (by omega)
  have q4 : IntKind.i64.wrap (n.tmod 10) = n.tmod 10 := IntWalk.i64_in _ (by omega)
  have q5 : IntKind.i64.wrap (48 - n.tmod 10) = 48 - n.tmod 10 := IntWalk.i64_in _ (by omega)
  have q6 : IntKind.u8.wrap (48 - n.tmod 10) = 48 - n.tmod 10 := IntWalk.u8_in _ (by omega)
  go_region_with (go_at_call 12; refine (IH.out _).mono ?_; rintro x w3 ⟨rfl, hb3⟩; have hcv3 := conv_belowS hb3 w.heap.size (48 - n.tmod 10))
  all_goals go_wp2
  all_goals go_ret
  all_goals refine ⟨(ret_str (ba_append _ _)).trans (by rw [HD.out]), ?_⟩
  all_goals first | exact (Below.next ((Below.refl _ _).drew) hb3).alloc (Nat.le_trans (Nat.le_refl _) hb3.size) _ | exact Below.next (((Below.refl _ _).alloc (Nat.le_refl _) _).drew) hb3

theorem show_any (n : Int) (w : World) (h0 : -9223372036854775808 ≤ n) (h1 : n ≤ 9223372036854775807) :
    Calls Tryd.prog 12 #[.int .i64 n] w fun e w' => e = .returned (.string ⟨(Lib.itoa n).toArray⟩) ∧ Below w.heap.size w w' := by
  have key : ∀ (m : Nat) (n : Int) (w : World), n.natAbs = m → -9223372036854775808 ≤ n → n ≤ 9223372036854775807 →
      Calls Tryd.prog 12 #[.int .i64 n] w fun e w' => e = .returned (.string ⟨(Lib.itoa n).toArray⟩) ∧ Below w.heap.size w w' := by
    intro m
    induction m using Nat.strongRecOn with
    | _ m ih =>
      intro n w hm h0 h1
      by_cases c1 : 10 ≤ n
      · exact show_big n w c1 h1 fun w2 => ih _ (by omega) (n / 10) w2 rfl (by omega) (by omega)
      · by_cases c2 : 0 ≤ n
        · exact show_small n w c2 (by omega)
        · by_cases c3 : n ≤ -10
          · have hd := tdiv_neg10 n (by omega)
            exact show_low n w c3 h0 fun w2 => ih (n.tdiv 10).natAbs (by omega) (n.tdiv 10) w2 rfl (by omega) (by omega)
          · exact show_neg1 n w (by omega) (by omega)
  exact key _ n w rfl h0 h1

end Go.Proofs.YtlobohpbgghleaaDoor
