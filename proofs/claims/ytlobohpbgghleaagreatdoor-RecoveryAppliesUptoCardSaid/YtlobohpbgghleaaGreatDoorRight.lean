import Derived.Test.YtlobohpbgghleaaGreatDoorNames
namespace Go.Proofs.YtlobohpbgghleaaGreatDoor
open Go.RowKit

def okCh (c : UInt8) : Bool := decide (97 ≤ (c.toNat : Int)) && decide ((c.toNat : Int) ≤ 122) || decide (48 ≤ (c.toNat : Int)) && decide ((c.toNat : Int) ≤ 57) || decide ((c.toNat : Int) = 45) || decide ((c.toNat : Int) = 46)
/-- a file may have that name -/
def rightName (l : List UInt8) : Bool := decide (1 ≤ l.length) && decide (l.length ≤ 24) && l.all okCh

set_option maxHeartbeats 1000000 in
theorem Right_any (l : List UInt8) (w : World) :
    Calls Tryz.prog 35 #[.string ⟨l.toArray⟩] w fun e w' => e = .returned (.bool (rightName l)) ∧ w = w' := by
  by_cases h0 : l = []
  · subst h0
    go_enter Tryz.func35, Tryz.ntmps35
    go_wp2
    go_ret
    exact ⟨rfl, rfl⟩
  have h0' : l.isEmpty = false := by simpa using h0
  have h0p : 0 < l.length := List.length_pos_iff.2 h0
  by_cases h1 : 24 < l.length
  · have hp : Hid (rightName l = false) := Lib.hid (by simp [rightName]; omega)
    clear h0
    go_enter Tryz.func35, Tryz.ntmps35
    go_wp2
    go_ret
    exact ⟨by rw [hp.out]; rfl, rfl⟩
  clear h0
  go_enter Tryz.func35, Tryz.ntmps35
  go_wp2
  go_loop [14] (fun iv => ∃ k : Nat, k ≤ l.length ∧ iv = .int .i64 k ∧ (l.take k).all okCh = true) (fun iv => (l.length - intOf iv).toNat)
  case atStart => exact ⟨0, by omega, rfl, rfl⟩
  case round =>
    obtain ⟨k, hk, rfl, hall⟩ := hrel
    have HA := Lib.hid hall
    by_cases hk6 : k < l.length
    · obtain ⟨x, hx, hts, hmem⟩ := nth l k hk6
      have hy := ba_get hx
      have HT := Lib.hid hts
      have hno : Hid (okCh x = false → rightName l = false) := Lib.hid fun hf => by
        rw [rightName]
        have : l.all okCh = false := by
          rw [Bool.eq_false_iff]; intro ha
          have := List.all_eq_true.1 ha x hmem
          rw [hf] at this; cases this
        rw [this]; simp
      clear hx hts hall hmem
      by_cases hc : okCh x = true
      · have hrel : Hid (∃ j : Nat, j ≤ l.length ∧ Value.int .i64 ((k : Int) + 1) = .int .i64 j ∧ (l.take j).all okCh = true) := Lib.hid ⟨k + 1, hk6, by go_num, by rw [HT.out]; simp [HA.out, hc]⟩
        simp only [okCh, Bool.or_eq_true, Bool.and_eq_true, decide_eq_true_eq] at hc
        go_wp2
        all_goals first | (go_round; (case rel => exact hrel.out); (case measure => simp [intOf]; omega)) | (exfalso; simp only [bne_iff_ne, ne_eq] at *; omega)
      · have hc' : okCh x = false := by simpa using hc
        have hp : Hid (rightName l = false) := Lib.hid (hno.out hc')
        clear hno hc
        simp only [okCh, Bool.or_eq_false_iff, Bool.and_eq_false_iff, decide_eq_false_iff_not] at hc'
        go_wp2
        all_goals first | (go_ret; exact ⟨by rw [hp.out]; rfl, rfl⟩) | (exfalso; simp only [bne_eq_false_iff_eq] at *; omega)
    · obtain rfl : k = l.length := by omega
      rw [List.take_length] at hall
      have hp : Hid (rightName l = true) := Lib.hid (by simp [rightName, hall]; omega)
      clear hall HA
      go_wp2
      go_ret
      exact ⟨by rw [hp.out]; rfl, rfl⟩

end Go.Proofs.YtlobohpbgghleaaGreatDoor
