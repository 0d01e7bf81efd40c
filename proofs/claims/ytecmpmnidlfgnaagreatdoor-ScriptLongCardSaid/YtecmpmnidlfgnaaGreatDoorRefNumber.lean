import Derived.Test.YtecmpmnidlfgnaaGreatDoorLibV
import Derived.Test.YtecmpmnidlfgnaaGreatDoorRefShow
namespace Go.Proofs.YtecmpmnidlfgnaaGreatDoor
open Go.RowKit

/-! ## the reference's Number -/

def numOk (s : List UInt8) : Bool := (numberOf s).isSome
def RefNum (s : List UInt8) (w : World) (e : Ending) (w' : World) : Prop := e = .returned (.tuple #[.int .i64 (numVal s), .bool (numOk s)]) ∧ w = w'

theorem refNum_bad {s : List UInt8} (h : refNumber s = none) (w : World) : RefNum s w (.returned (.tuple #[.int .i64 0, .bool false])) w := by
  rw [refNumber_eq] at h
  exact ⟨by simp [numVal, numOk, h], rfl⟩
theorem refNum_good {s : List UInt8} {n : Int} (h : refNumber s = some n) (w : World) : RefNum s w (.returned (.tuple #[.int .i64 n, .bool true])) w := by
  rw [refNumber_eq] at h
  exact ⟨by simp [numVal, numOk, h], rfl⟩

set_option maxHeartbeats 2000000 in
theorem refNumber_minus (r : List UInt8) (c : UInt8) (x : UInt8) (q : List UInt8) (w : World) (hc : c.toNat = 45) (hr : r = x :: q) (h1 : r.length ≤ 19) (hx : x.toNat ≠ 48) :
    Calls Tryz.prog 55 #[.string ⟨(c :: r).toArray⟩] w (RefNum (c :: r) w) := by
  subst hr
  have hfin : Hid (refNumber (c :: x :: q) = (downs 0 (x :: q)).map fun D => -(D : Int)) := Lib.hid (by
    unfold refNumber; simp only; rw [if_pos hc, if_neg]; simp; exact ⟨by simpa using h1, hx⟩)
  obtain ⟨s, hs⟩ : ∃ s, s = c :: x :: q := ⟨_, rfl⟩
  have g0 : ∀ hh, (⟨s.toArray⟩ : ByteArray)[0]'hh = c := ba_get (by rw [hs]; rfl)
  have g1 : ∀ hh, (⟨s.toArray⟩ : ByteArray)[1]'hh = x := ba_get (by rw [hs]; rfl)
  have hl : s.length = q.length + 2 := by rw [hs]; simp
  have hd : s.drop 1 = x :: q := by rw [hs]; rfl
  rw [← hs, ← hd] at hfin
  rw [← hs]
  have hl1 : 2 ≤ s.length := by omega
  have hl2 : s.length ≤ 20 := by simp at h1; omega
  have HS := Lib.hid hs
  clear hs hl hd h1
  have k0 : ((c.toNat : Int) == 45) = true := by rw [beq_iff_eq]; omega
  have k1 : ((x.toNat : Int) == 48) = false := by rw [beq_eq_false_iff_ne]; omega
  have k2 : decide (0 < s.length) = true := by simp; omega
  have k3 : ((s.length : Int) == 1) = false := by rw [beq_eq_false_iff_ne]; omega
  have k4 : decide ((20 : Int) < s.length) = false := by simp; omega
  clear hc hx
  go_enter Tryz.func55, Tryz.ntmps55
  go_wp2
  go_loop [6, 7] (fun n i => ∃ (k D : Nat), 1 ≤ k ∧ k ≤ s.length ∧ i = .int .i64 k ∧ n = .int .i64 (-(D : Int)) ∧ D ≤ 9223372036854775808 ∧ Hid (downs 0 (s.drop 1) = downs D (s.drop k))) (fun _ i => s.length - (intOf i).toNat)
  case atStart => exact ⟨1, 0, Nat.le_refl _, by omega, rfl, rfl, by omega, Lib.hid rfl⟩
  case round =>
    obtain ⟨k, D, hk0, hk, rfl, rfl, hD, HDN⟩ := hrel
    by_cases hlt : k < s.length
    · obtain ⟨y, hy1, hy2, _⟩ := nth s k hlt
      have gy : ∀ hh, (⟨s.toArray⟩ : ByteArray)[k]'hh = y := ba_get hy1
      have hyl := y.toNat_lt
      have hdr : s.drop k = y :: s.drop (k + 1) := by
        rw [List.drop_eq_getElem_cons hlt]
        rw [List.getElem?_eq_getElem hlt] at hy1
        congr 1; simpa using hy1
      have HDR := Lib.hid hdr
      clear hdr hy1 hy2 g0 g1
      by_cases hdig : isDig y
      · have HG := Lib.hid hdig
        unfold isDig at hdig
        have d1 : decide ((y.toNat : Int) < 48) = false := by simp; omega
        have d2 : decide ((57 : Int) < (y.toNat : Int)) = false := by simp; omega
        by_cases hov : 9223372036854775808 < 10 * D + (y.toNat - 48)
        · have hnone := Lib.hid (show downs 0 (s.drop 1) = none by rw [HDN.out, HDR.out, downs, if_pos HG.out, if_pos hov])
          have ht : -(D : Int) < (-9223372036854775808 + ((y.toNat : Int) - 48)).tdiv 10 := by rw [tdiv_neg10 _ (by omega)]; omega
          go_wp2
          go_ret2
          exact refNum_bad (by rw [hfin.out, hnone.out]; rfl) _
        · have ht : (-9223372036854775808 + ((y.toNat : Int) - 48)).tdiv 10 ≤ -(D : Int) := by rw [tdiv_neg10 _ (by omega)]; omega
          have hnext := Lib.hid (show downs 0 (s.drop 1) = downs (10 * D + (y.toNat - 48)) (s.drop (k + 1)) by rw [HDN.out, HDR.out, downs, if_pos HG.out, if_neg hov])
          go_wp2
          go_round
          case rel => exact ⟨k + 1, 10 * D + (y.toNat - 48), by omega, by omega, by go_num, by go_num, by omega, hnext⟩
          case measure => simp [intOf]; omega
      · have hnone := Lib.hid (show downs 0 (s.drop 1) = none by rw [HDN.out, HDR.out, downs, if_neg hdig])
        unfold isDig at hdig
        go_wp2
        all_goals go_ret2
        all_goals exact refNum_bad (by rw [hfin.out, hnone.out]; rfl) _
    · obtain rfl : k = s.length := by omega
      have hsome := Lib.hid (show downs 0 (s.drop 1) = some D by rw [HDN.out, List.drop_length]; rfl)
      go_wp2
      go_ret2
      rw [HS.out]
      exact refNum_good (by rw [← HS.out, hfin.out, hsome.out]; rfl) _

set_option maxHeartbeats 2000000 in
theorem refNumber_plus (c : UInt8) (r : List UInt8) (w : World) (hc : c.toNat ≠ 45) (h1 : r.length ≤ 18) (hx : ¬ (c.toNat = 48 ∧ r ≠ [])) :
    Calls Tryz.prog 55 #[.string ⟨(c :: r).toArray⟩] w (RefNum (c :: r) w) := by
  have hfin : Hid (refNumber (c :: r) = match downs 0 (c :: r) with | some D => if D = 9223372036854775808 then none else some (D : Int) | none => none) := Lib.hid (by
    unfold refNumber; simp only; rw [if_neg hc]; refine if_neg ?_; rintro (h | ⟨h, h2⟩)
    · simp at h; omega
    · exact hx ⟨h, by rintro rfl; simp at h2⟩)
  obtain ⟨s, hs⟩ : ∃ s, s = c :: r := ⟨_, rfl⟩
  have g0 : ∀ hh, (⟨s.toArray⟩ : ByteArray)[0]'hh = c := ba_get (by rw [hs]; rfl)
  have hl : s.length = r.length + 1 := by rw [hs]; simp
  have hpos : 1 ≤ s.length := by omega
  have hd : s.drop 0 = s := rfl
  have hx' : ¬ (c.toNat = 48 ∧ 1 < s.length) := by
    rintro ⟨h, h2⟩
    exact hx ⟨h, by rintro rfl; simp at hl; omega⟩
  have hfin := Lib.hid (show refNumber s = match downs 0 (s.drop 0) with | some D => if D = 9223372036854775808 then none else some (D : Int) | none => none by rw [hd, hs, hfin.out])
  rw [← hs]
  have hl2 : s.length ≤ 19 := by omega
  have HS := Lib.hid hs
  clear hs hl hd h1 hx
  have k0 : ((c.toNat : Int) == 45) = false := by rw [beq_eq_false_iff_ne]; omega
  have k2 : decide (0 < s.length) = true := by simp; omega
  have k3 : ((s.length : Int) == 0) = false := by rw [beq_eq_false_iff_ne]; omega
  have k4 : decide ((19 : Int) < s.length) = false := by simp; omega
  by_cases h48 : c.toNat = 48
  · have k1 : ((c.toNat : Int) == 48) = true := by rw [beq_iff_eq]; omega
    have k6 : s.length = 1 := by omega
    have k7 : ((s.length : Int) > 1) = False := by simp; omega
    have k8 : decide ((1 : Int) < s.length) = false := by simp; omega
    have K6 := Lib.hid k6
    clear h48 hx' hc k6 k7
    go_enter Tryz.func55, Tryz.ntmps55
    go_wp2
    go_loop [6, 7] (fun n i => ∃ (k D : Nat), 0 ≤ k ∧ k ≤ s.length ∧ i = .int .i64 k ∧ n = .int .i64 (-(D : Int)) ∧ D ≤ 9223372036854775808 ∧ Hid (downs 0 (s.drop 0) = downs D (s.drop k))) (fun _ i => s.length - (intOf i).toNat)
    case atStart => exact ⟨0, 0, Nat.le_refl _, by omega, rfl, rfl, by omega, Lib.hid rfl⟩
    case round =>
      obtain ⟨k, D, hk0, hk, rfl, rfl, hD, HDN⟩ := hrel
      by_cases hlt : k < s.length
      · obtain ⟨y, hy1, hy2, _⟩ := nth s k hlt
        have gy : ∀ hh, (⟨s.toArray⟩ : ByteArray)[k]'hh = y := ba_get hy1
        have hyl := y.toNat_lt
        have hdr : s.drop k = y :: s.drop (k + 1) := by
          rw [List.drop_eq_getElem_cons hlt]
          rw [List.getElem?_eq_getElem hlt] at hy1
          congr 1; simpa using hy1
        have HDR := Lib.hid hdr
        clear hdr hy1 hy2 g0
        by_cases hdig : isDig y
        · have HG := Lib.hid hdig
          unfold isDig at hdig
          have d1 : decide ((y.toNat : Int) < 48) = false := by simp; omega
          have d2 : decide ((57 : Int) < (y.toNat : Int)) = false := by simp; omega
          by_cases hov : 9223372036854775808 < 10 * D + (y.toNat - 48)
          · have hnone := Lib.hid (show downs 0 (s.drop 0) = none by rw [HDN.out, HDR.out, downs, if_pos HG.out, if_pos hov])
            have ht : -(D : Int) < (-9223372036854775808 + ((y.toNat : Int) - 48)).tdiv 10 := by rw [tdiv_neg10 _ (by omega)]; omega
            go_wp2
            go_ret2
            exact refNum_bad (by rw [hfin.out, hnone.out]) _
          · have ht : (-9223372036854775808 + ((y.toNat : Int) - 48)).tdiv 10 ≤ -(D : Int) := by rw [tdiv_neg10 _ (by omega)]; omega
            have hnext := Lib.hid (show downs 0 (s.drop 0) = downs (10 * D + (y.toNat - 48)) (s.drop (k + 1)) by rw [HDN.out, HDR.out, downs, if_pos HG.out, if_neg hov])
            go_wp2
            go_round
            case rel => exact ⟨k + 1, 10 * D + (y.toNat - 48), by omega, by omega, by go_num, by go_num, by omega, hnext⟩
            case measure => simp [intOf]; omega
        · have hnone := Lib.hid (show downs 0 (s.drop 0) = none by rw [HDN.out, HDR.out, downs, if_neg hdig])
          unfold isDig at hdig
          go_wp2
          all_goals go_ret2
          all_goals exact refNum_bad (by rw [hfin.out, hnone.out]) _
      · obtain rfl : k = s.length := by omega
        have hsome := Lib.hid (show downs 0 (s.drop 0) = some D by rw [HDN.out, List.drop_length]; rfl)
        by_cases hbig : D = 9223372036854775808
        · have hD2 := Lib.hid hbig
          have k5 : (-(D : Int) == -9223372036854775808) = true := by rw [beq_iff_eq]; omega
          clear hbig
          go_wp2
          go_ret2
          rw [HS.out]
          exact refNum_bad (by rw [← HS.out, hfin.out, hsome.out]; simp only; rw [if_pos hD2.out]) _
        · have hD2 := Lib.hid hbig
          have k5 : (-(D : Int) == -9223372036854775808) = false := by rw [beq_eq_false_iff_ne]; omega
          have hD3 : D ≤ 9223372036854775807 := by omega
          clear hbig hD
          go_wp2
          go_ret2
          rw [HS.out]
          exact refNum_good (by rw [← HS.out, hfin.out, hsome.out]; simp only; rw [if_neg hD2.out]) _

  · have k1 : ((c.toNat : Int) == 48) = false := by rw [beq_eq_false_iff_ne]; omega
    clear h48 hx' hc
    go_enter Tryz.func55, Tryz.ntmps55
    go_wp2
    go_loop [6, 7] (fun n i => ∃ (k D : Nat), 0 ≤ k ∧ k ≤ s.length ∧ i = .int .i64 k ∧ n = .int .i64 (-(D : Int)) ∧ D ≤ 9223372036854775808 ∧ Hid (downs 0 (s.drop 0) = downs D (s.drop k))) (fun _ i => s.length - (intOf i).toNat)
    case atStart => exact ⟨0, 0, Nat.le_refl _, by omega, rfl, rfl, by omega, Lib.hid rfl⟩
    case round =>
      obtain ⟨k, D, hk0, hk, rfl, rfl, hD, HDN⟩ := hrel
      by_cases hlt : k < s.length
      · obtain ⟨y, hy1, hy2, _⟩ := nth s k hlt
        have gy : ∀ hh, (⟨s.toArray⟩ : ByteArray)[k]'hh = y := ba_get hy1
        have hyl := y.toNat_lt
        have hdr : s.drop k = y :: s.drop (k + 1) := by
          rw [List.drop_eq_getElem_cons hlt]
          rw [List.getElem?_eq_getElem hlt] at hy1
          congr 1; simpa using hy1
        have HDR := Lib.hid hdr
        clear hdr hy1 hy2 g0
        by_cases hdig : isDig y
        · have HG := Lib.hid hdig
          unfold isDig at hdig
          have d1 : decide ((y.toNat : Int) < 48) = false := by simp; omega
          have d2 : decide ((57 : Int) < (y.toNat : Int)) = false := by simp; omega
          by_cases hov : 9223372036854775808 < 10 * D + (y.toNat - 48)
          · have hnone := Lib.hid (show downs 0 (s.drop 0) = none by rw [HDN.out, HDR.out, downs, if_pos HG.out, if_pos hov])
            have ht : -(D : Int) < (-9223372036854775808 + ((y.toNat : Int) - 48)).tdiv 10 := by rw [tdiv_neg10 _ (by omega)]; omega
            go_wp2
            go_ret2
            exact refNum_bad (by rw [hfin.out, hnone.out]) _
          · have ht : (-9223372036854775808 + ((y.toNat : Int) - 48)).tdiv 10 ≤ -(D : Int) := by rw [tdiv_neg10 _ (by omega)]; omega
            have hnext := Lib.hid (show downs 0 (s.drop 0) = downs (10 * D + (y.toNat - 48)) (s.drop (k + 1)) by rw [HDN.out, HDR.out, downs, if_pos HG.out, if_neg hov])
            go_wp2
            go_round
            case rel => exact ⟨k + 1, 10 * D + (y.toNat - 48), by omega, by omega, by go_num, by go_num, by omega, hnext⟩
            case measure => simp [intOf]; omega
        · have hnone := Lib.hid (show downs 0 (s.drop 0) = none by rw [HDN.out, HDR.out, downs, if_neg hdig])
          unfold isDig at hdig
          go_wp2
          all_goals go_ret2
          all_goals exact refNum_bad (by rw [hfin.out, hnone.out]) _
      · obtain rfl : k = s.length := by omega
        have hsome := Lib.hid (show downs 0 (s.drop 0) = some D by rw [HDN.out, List.drop_length]; rfl)
        by_cases hbig : D = 9223372036854775808
        · have hD2 := Lib.hid hbig
          have k5 : (-(D : Int) == -9223372036854775808) = true := by rw [beq_iff_eq]; omega
          clear hbig
          go_wp2
          go_ret2
          rw [HS.out]
          exact refNum_bad (by rw [← HS.out, hfin.out, hsome.out]; simp only; rw [if_pos hD2.out]) _
        · have hD2 := Lib.hid hbig
          have k5 : (-(D : Int) == -9223372036854775808) = false := by rw [beq_eq_false_iff_ne]; omega
          have hD3 : D ≤ 9223372036854775807 := by omega
          clear hbig hD
          go_wp2
          go_ret2
          rw [HS.out]
          exact refNum_good (by rw [← HS.out, hfin.out, hsome.out]; simp only; rw [if_neg hD2.out]) _

/-- what is refused ahead of the loop -/
theorem refNumber_empty (w : World) : Calls Tryz.prog 55 #[.string ⟨([] : List UInt8).toArray⟩] w (RefNum [] w) := by
  go_enter Tryz.func55, Tryz.ntmps55
  go_wp2
  go_ret2
  exact refNum_bad rfl _

set_option maxHeartbeats 1000000 in
theorem refNumber_minus_no (c : UInt8) (r : List UInt8) (w : World) (hs9 : r.length ≤ 9223372036854775000) (hc : c.toNat = 45) (h : r = [] ∨ 19 < r.length ∨ r.head?.map (·.toNat) = some 48) :
    Calls Tryz.prog 55 #[.string ⟨(c :: r).toArray⟩] w (RefNum (c :: r) w) := by
  have hfin := Lib.hid (show refNumber (c :: r) = none by unfold refNumber; simp only; rw [if_pos hc, if_pos h])
  obtain ⟨s, hs⟩ : ∃ s, s = c :: r := ⟨_, rfl⟩
  have g0 : ∀ hh, (⟨s.toArray⟩ : ByteArray)[0]'hh = c := ba_get (by rw [hs]; rfl)
  have hl : s.length = r.length + 1 := by rw [hs]; simp
  have hpos : 1 ≤ s.length := by omega
  have g1 : ∀ x, r.head? = some x → ∀ hh, (⟨s.toArray⟩ : ByteArray)[1]'hh = x := fun x hx => ba_get (by rw [hs]; cases r with | nil => simp at hx | cons y q => simpa using hx)
  rw [← hs] at hfin ⊢
  clear hs
  have k0 : ((c.toNat : Int) == 45) = true := by rw [beq_iff_eq]; omega
  have k2 : decide (0 < s.length) = true := by simp; omega
  clear hc
  by_cases h0 : r = []
  · have k3 : ((s.length : Int) == 1) = true := by rw [beq_iff_eq, hl, h0]; rfl
    clear h0 h g1 hl
    go_enter Tryz.func55, Tryz.ntmps55
    go_wp2
    go_ret2
    exact refNum_bad hfin.out _
  · have hr0 : r.length ≠ 0 := fun h => h0 (List.length_eq_zero_iff.1 h)
    have k3 : ((s.length : Int) == 1) = false := by rw [beq_eq_false_iff_ne]; omega
    by_cases h1 : 19 < r.length
    · have k4 : decide ((20 : Int) < s.length) = true := by simp; omega
      have hl' : s.length ≤ 9223372036854775001 := by omega
      clear h0 h g1 h1 hl hr0
      go_enter Tryz.func55, Tryz.ntmps55
      go_wp2
      go_ret2
      exact refNum_bad hfin.out _
    · have k4 : decide ((20 : Int) < s.length) = false := by simp; omega
      obtain ⟨x, hx, hx48⟩ : ∃ x, r.head? = some x ∧ x.toNat = 48 := by
        rcases h with h | h | h
        · exact absurd h h0
        · exact absurd h h1
        · cases hh : r.head? with
          | none => rw [hh] at h; simp at h
          | some x => rw [hh] at h; exact ⟨x, rfl, by simpa using h⟩
      have g1 := g1 x hx
      have k5 : ((x.toNat : Int) == 48) = true := by rw [beq_iff_eq]; omega
      have k6 : decide ((1 : Int) < s.length) = true := by simp; omega
      have hl1 : 2 ≤ s.length := by omega
      have hl2 : s.length ≤ 20 := by omega
      clear h0 h h1 hl hr0 hx hx48
      go_enter Tryz.func55, Tryz.ntmps55
      go_wp2
      go_ret2
      exact refNum_bad hfin.out _

set_option maxHeartbeats 1000000 in
theorem refNumber_plus_no (c : UInt8) (r : List UInt8) (w : World) (hs9 : r.length ≤ 9223372036854775000) (hc : c.toNat ≠ 45) (h : 18 < r.length ∨ c.toNat = 48 ∧ r ≠ []) :
    Calls Tryz.prog 55 #[.string ⟨(c :: r).toArray⟩] w (RefNum (c :: r) w) := by
  have hfin := Lib.hid (show refNumber (c :: r) = none by
    unfold refNumber; simp only; rw [if_neg hc]; refine if_pos ?_
    rcases h with h | ⟨h, h2⟩
    · left; simp; omega
    · refine .inr ⟨h, ?_⟩
      have : r.length ≠ 0 := fun h => h2 (List.length_eq_zero_iff.1 h)
      simp; omega)
  obtain ⟨s, hs⟩ : ∃ s, s = c :: r := ⟨_, rfl⟩
  have g0 : ∀ hh, (⟨s.toArray⟩ : ByteArray)[0]'hh = c := ba_get (by rw [hs]; rfl)
  have hl : s.length = r.length + 1 := by rw [hs]; simp
  have hpos : 1 ≤ s.length := by omega
  rw [← hs] at hfin ⊢
  clear hs
  have k0 : ((c.toNat : Int) == 45) = false := by rw [beq_eq_false_iff_ne]; omega
  have k2 : decide (0 < s.length) = true := by simp; omega
  have k3 : ((s.length : Int) == 0) = false := by rw [beq_eq_false_iff_ne]; omega
  clear hc
  by_cases h1 : 18 < r.length
  · have k4 : decide ((19 : Int) < s.length) = true := by simp; omega
    have hl' : s.length ≤ 9223372036854775001 := by omega
    clear h h1 hl
    go_enter Tryz.func55, Tryz.ntmps55
    go_wp2
    go_ret2
    exact refNum_bad hfin.out _
  · have k4 : decide ((19 : Int) < s.length) = false := by simp; omega
    obtain ⟨h48, hr⟩ : c.toNat = 48 ∧ r ≠ [] := by
      rcases h with h | h
      · exact absurd h h1
      · exact h
    have hr0 : r.length ≠ 0 := fun h => hr (List.length_eq_zero_iff.1 h)
    have k5 : ((c.toNat : Int) == 48) = true := by rw [beq_iff_eq]; omega
    have k6 : decide ((1 : Int) < s.length) = true := by simp; omega
    have hl1 : 2 ≤ s.length := by omega
    have hl2 : s.length ≤ 19 := by omega
    clear h h1 hl hr0 hr h48
    go_enter Tryz.func55, Tryz.ntmps55
    go_wp2
    go_ret2
    exact refNum_bad hfin.out _

theorem refNumber_any (s : List UInt8) (w : World) (hs : s.length ≤ 9223372036854775000) : Calls Tryz.prog 55 #[.string ⟨s.toArray⟩] w (RefNum s w) := by
  cases s with
  | nil => exact refNumber_empty w
  | cons c r =>
    simp only [List.length_cons] at hs
    by_cases hc : c.toNat = 45
    · by_cases h : r = [] ∨ 19 < r.length ∨ r.head?.map (·.toNat) = some 48
      · exact refNumber_minus_no c r w (by omega) hc h
      · cases r with
        | nil => exact absurd (.inl rfl) h
        | cons x q => exact refNumber_minus (x :: q) c x q w hc rfl (by omega) (fun hx => h (.inr (.inr (by simp [hx]))))
    · by_cases h : 18 < r.length ∨ c.toNat = 48 ∧ r ≠ []
      · exact refNumber_plus_no c r w (by omega) hc h
      · exact refNumber_plus c r w hc (by omega) (fun hx => h (.inr hx))

end Go.Proofs.YtecmpmnidlfgnaaGreatDoor
