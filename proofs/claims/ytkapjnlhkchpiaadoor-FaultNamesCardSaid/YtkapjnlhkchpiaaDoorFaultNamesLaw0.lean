import Derived.Test.YtkapjnlhkchpiaaDoorFaultName
namespace Go.Proofs.YtkapjnlhkchpiaaDoor
open Go.RowKit

set_option maxHeartbeats 2000000 in
theorem faultNames_walk0 (v : Value) (zs : List Int) (w : World) (ads : List Addr) (hS : Sents w ads) (hr : IntRow .i64 w v zs) :
    Calls Tryd.prog 5 #[v] w fun e w' => e = .returned (.bool true) ∧ Below w.heap.size w w' := by
  obtain ⟨oa, cap, rfl, hcap, hmax, -, hrow⟩ := hr
  unfold maxLen at hmax
  have HS := Lib.hid hS
  have HR := Lib.hid hrow
  clear hS hrow
  go_enter Tryd.func5, Tryd.ntmps5
  go_wp2
  go_loopw [3] (fun iv wr => ∃ k : Int, -3 ≤ k ∧ k ≤ 111 ∧ iv = .int .i64 k ∧ Below w.heap.size w wr) (fun iv _ => (111 - intOf iv).toNat)
  case atStart => exact ⟨-3, by omega, by omega, rfl, Below.refl _ _⟩
  case round =>
    obtain ⟨k, hk0, hk, rfl, hb⟩ := hrel
    have HB := Lib.hid hb
    clear hb
    by_cases hk6 : k < 111
    · go_wp2_with fail
      refine (Name_any k _ ads (HS.out.below HB.out)).mono ?_
      rintro e w' ⟨rfl, rfl⟩
      go_wp2_with fail
      refine (refName_any k _).mono ?_
      rintro e w2 ⟨rfl, hb2⟩
      have HB2 := Lib.hid hb2
      clear hb2
      go_wp2
      go_roundw
      case rel => exact ⟨k + 1, by omega, by omega, by go_num, Below.next HB.out HB2.out⟩
      case measure => simp [intOf]; omega
    · obtain rfl : k = 111 := by omega
      go_wp2
      obtain ⟨wo, rfl⟩ : ∃ wo : World, wo = wr := ⟨_, rfl⟩
      go_loopw [17] (fun iv w1 => ∃ k : Nat, k ≤ zs.length ∧ iv = .int .i64 k ∧ Below w.heap.size w w1) (fun iv _ => (zs.length - intOf iv).toNat)
      case atStart => exact ⟨0, by omega, rfl, HB.out⟩
      case round =>
        obtain ⟨k, hk, rfl, hb⟩ := hrel
        have HB' := Lib.hid hb
        clear hb
        by_cases hk6 : k < zs.length
        · obtain ⟨x, hx, -⟩ := nth zs k hk6
          obtain ⟨b, off, rfl, hc⟩ := HR.out (by rintro rfl; simp at hk6)
          have hcl := cell_later HB'.out (hc k x hx)
          clear hx hc
          go_wp2_with fail
          refine (Name_any x _ ads (HS.out.below HB'.out)).mono ?_
          rintro e w' ⟨rfl, rfl⟩
          go_wp2_with fail
          refine (refName_any x _).mono ?_
          rintro e w2 ⟨rfl, hb2⟩
          have HB2 := Lib.hid hb2
          clear hb2
          go_wp2
          go_roundw
          case rel => exact ⟨k + 1, by omega, by go_num, Below.next HB'.out HB2.out⟩
          case measure => simp [intOf]; omega
        · obtain rfl : k = zs.length := by omega
          go_wp2
          go_ret
          exact ⟨rfl, HB'.out⟩

theorem faultNames_walk (v : Value) (zs : List Int) (w : World) (hr : IntRow .i64 w v zs) (hL : laidMetH Tryd.prog Rows.faultNamesRow.laid w) :
    Calls Tryd.prog 5 #[v] w fun e w' => e = .returned (.bool true) ∧ Below w.heap.size w w' := by
  obtain ⟨ads, hS⟩ := sents_of_met (l := Rows.faultNamesRow.laid) hL (by kernel_rfl) sntTypes (by kernel_rfl)
  exact faultNames_walk0 v zs w ads hS hr

end Go.Proofs.YtkapjnlhkchpiaaDoor
