import Derived.Test.YtecmpmnidlfgnaaGreatDoorSchema0
namespace Go.Proofs.YtecmpmnidlfgnaaGreatDoor
open Go.RowKit

theorem last1_any (e : Ev) (w : World) : Calls Tryz.prog 172 #[v1V e] w fun x w' => x = .returned (.int .i64 5) ∧ Below w.heap.size w w' := by
  unfold v1V
  go_enter Tryz.func172, Tryz.ntmps172
  go_wp2
  go_ret
  exact ⟨rfl, (Below.refl _ _).alloc (Nat.le_refl _) _⟩
theorem last3_any (e : Ev) (w : World) : Calls Tryz.prog 181 #[v3V e] w fun x w' => x = .returned (.int .i64 7) ∧ Below w.heap.size w w' := by
  unfold v3V
  go_enter Tryz.func181, Tryz.ntmps181
  go_wp2
  go_ret
  exact ⟨rfl, (Below.refl _ _).alloc (Nat.le_refl _) _⟩
theorem last4_any (e : Ev) (w : World) : Calls Tryz.prog 185 #[v4V e] w fun x w' => x = .returned (.int .i64 9) ∧ Below w.heap.size w w' := by
  unfold v4V
  go_enter Tryz.func185, Tryz.ntmps185
  go_wp2
  go_ret
  exact ⟨rfl, (Below.refl _ _).alloc (Nat.le_refl _) _⟩
theorem last5_any (e : Ev) (w : World) : Calls Tryz.prog 190 #[v5V e] w fun x w' => x = .returned (.int .i64 10) ∧ Below w.heap.size w w' := by
  unfold v5V
  go_enter Tryz.func190, Tryz.ntmps190
  go_wp2
  go_ret
  exact ⟨rfl, (Below.refl _ _).alloc (Nat.le_refl _) _⟩

set_option maxHeartbeats 1000000 in
theorem plain_any (s : List UInt8) (w : World) (hs : s.length ≤ 9223372036854775000) : Calls Tryz.prog 187 #[.string ⟨s.toArray⟩] w fun x w' => x = .returned (.bool (plainS s)) ∧ Below w.heap.size w w' := by
  go_enter Tryz.func187, Tryz.ntmps187
  go_wp2
  go_loopw [7] (fun i wr => ∃ k : Nat, k ≤ s.length ∧ i = .int .i64 k ∧ Hid (plainS (s.take k) = true) ∧ w = wr) (fun i _ => s.length - (intOf i).toNat)
  case atStart => exact ⟨0, by omega, rfl, Lib.hid rfl, rfl⟩
  case round =>
    obtain ⟨k, hk, rfl, HP, rfl⟩ := hrel
    by_cases hlt : k < s.length
    · obtain ⟨x, hx, ht, hmem⟩ := nth s k hlt
      have gx : ∀ hh, (⟨s.toArray⟩ : ByteArray)[k]'hh = x := ba_get hx
      have HX := Lib.hid (show plainS (s.take (k + 1)) = plainC x by
        rw [ht]; unfold plainS; rw [List.all_append]; have := HP.out; unfold plainS at this; rw [this]; simp)
      have hxl := x.toNat_lt
      have hno : Hid (plainC x = false → plainS s = false) := Lib.hid fun h => by
        rw [← Bool.not_eq_true]; intro h2
        have := List.all_eq_true.1 h2 x hmem
        rw [h] at this; cases this
      clear hx ht hmem
      have hpc : Hid (plainC x = true ↔ x.toNat = 45 ∨ (48 ≤ x.toNat ∧ x.toNat ≤ 57) ∨ (97 ≤ x.toNat ∧ x.toNat ≤ 122)) := Lib.hid (by
        simp only [plainC, Bool.or_eq_true, Bool.and_eq_true, beq_iff_eq, decide_eq_true_eq]; omega)
      by_cases hp : plainC x = true
      · have hpa := hpc.out.1 hp
        have HP2 := Lib.hid (HX.out.trans hp)
        clear hp
        by_cases h45 : x.toNat = 45
        · have k45 : ((x.toNat : Int) != 45) = false := by rw [bne_eq_false_iff_eq]; omega
          clear hpa h45
          go_wp2
          go_roundw
          case rel => exact ⟨k + 1, by omega, by go_num, HP2, trivial⟩
          case measure => simp [intOf]; omega
        · have k45 : ((x.toNat : Int) != 45) = true := by rw [bne_iff_ne]; omega
          by_cases h57 : x.toNat ≤ 57
          · have hr : 48 ≤ x.toNat := by omega
            have t48 : decide ((x.toNat : Int) < 48) = false := by simp; omega
            have t57 : decide ((57 : Int) < x.toNat) = false := by simp; omega
            have t97 : decide ((x.toNat : Int) < 97) = true := by simp; omega
            have t122 : decide ((122 : Int) < x.toNat) = false := by simp; omega
            clear hpa h45 h57 hr
            go_wp2
            go_roundw
            case rel => exact ⟨k + 1, by omega, by go_num, HP2, trivial⟩
            case measure => simp [intOf]; omega
          · have hr : 97 ≤ x.toNat ∧ x.toNat ≤ 122 := by omega
            have t48 : decide ((x.toNat : Int) < 48) = false := by simp; omega
            have t57 : decide ((57 : Int) < x.toNat) = true := by simp; omega
            have t97 : decide ((x.toNat : Int) < 97) = false := by simp; omega
            have t122 : decide ((122 : Int) < x.toNat) = false := by simp; omega
            clear hpa h45 h57 hr
            go_wp2
            go_roundw
            case rel => exact ⟨k + 1, by omega, by go_num, HP2, trivial⟩
            case measure => simp [intOf]; omega
      · have hpa : ¬ (x.toNat = 45 ∨ (48 ≤ x.toNat ∧ x.toNat ≤ 57) ∨ (97 ≤ x.toNat ∧ x.toNat ≤ 122)) := fun h => hp (hpc.out.2 h)
        have hfin := Lib.hid (hno.out (by simpa using hp))
        have k45 : ((x.toNat : Int) != 45) = true := by rw [bne_iff_ne]; omega
        clear hp
        by_cases h48 : x.toNat < 48
        · have hr : x.toNat < 48 := h48
          have t48 : decide ((x.toNat : Int) < 48) = true := by simp; omega
          have t57 : decide ((57 : Int) < x.toNat) = false := by simp; omega
          have t97 : decide ((x.toNat : Int) < 97) = true := by simp; omega
          have t122 : decide ((122 : Int) < x.toNat) = false := by simp; omega
          clear hpa h48 hr
          go_wp2
          go_ret
          exact ⟨by rw [hfin.out]; rfl, Below.refl _ _⟩
        · by_cases h97 : x.toNat < 97
          · have hr : 57 < x.toNat := by omega
            have t48 : decide ((x.toNat : Int) < 48) = false := by simp; omega
            have t57 : decide ((57 : Int) < x.toNat) = true := by simp; omega
            have t97 : decide ((x.toNat : Int) < 97) = true := by simp; omega
            have t122 : decide ((122 : Int) < x.toNat) = false := by simp; omega
            clear hpa h48 h97 hr
            go_wp2
            go_ret
            exact ⟨by rw [hfin.out]; rfl, Below.refl _ _⟩
          · have hr : 122 < x.toNat := by omega
            have t48 : decide ((x.toNat : Int) < 48) = false := by simp; omega
            have t57 : decide ((57 : Int) < x.toNat) = true := by simp; omega
            have t97 : decide ((x.toNat : Int) < 97) = false := by simp; omega
            have t122 : decide ((122 : Int) < x.toNat) = true := by simp; omega
            clear hpa h48 h97 hr
            go_wp2
            go_ret
            exact ⟨by rw [hfin.out]; rfl, Below.refl _ _⟩
    · obtain rfl : k = s.length := by omega
      have hfin := Lib.hid (show plainS s = true by simpa using HP.out)
      go_wp2
      go_ret
      exact ⟨by rw [hfin.out]; rfl, Below.refl _ _⟩

def fitsV1 (e : Ev) : Bool := coreB e (-10000) 1000000
def fits2 (e : Ev) : Bool := coreB e (-10000) 100000000 && btw e.cur 0 3
def fits3 (e : Ev) : Bool := fits2 e && decide (0 ≤ e.qty) && btw e.tax 0 5000
def fits4 (e : Ev) : Bool := fits3 e && plainS e.who
def fits5 (e : Ev) : Bool := fits4 e && btw e.stamp 0 1099511627776

theorem fits1_any (e : Ev) (w : World) : Calls Tryz.prog 171 #[v1V e] w fun x w' => x = .returned (.bool (fitsV1 e)) ∧ Below w.heap.size w w' := by
  unfold v1V
  go_enter Tryz.func171, Tryz.ntmps171
  go_wp2_with fail
  refine (core_any e _ _ _).mono ?_
  rintro x w2 ⟨rfl, hb⟩
  go_wp2
  go_ret
  exact ⟨rfl, Below.next ((Below.refl _ _).alloc (Nat.le_refl _) _) hb⟩

set_option maxHeartbeats 1000000 in
theorem fits2_any (e : Ev) (w : World) : Calls Tryz.prog 177 #[v2V e] w fun x w' => x = .returned (.bool (fits2 e)) ∧ Below w.heap.size w w' := by
  obtain ⟨b1, hb1⟩ : ∃ b, b = coreB e (-10000) 100000000 := ⟨_, rfl⟩
  obtain ⟨b2, hb2⟩ : ∃ b, b = btw e.cur 0 3 := ⟨_, rfl⟩
  have hr := Lib.hid (show fits2 e = (b1 && b2) by rw [fits2, hb1, hb2])
  have W1 := Lib.hid (fun W => hb1 ▸ core_any e (-10000) 100000000 W)
  have W2 := Lib.hid (fun W => hb2 ▸ within_any e.cur 0 3 W)
  clear hb1 hb2
  cases b1 <;> cases b2
  all_goals
    unfold v2V
    go_enter Tryz.func177, Tryz.ntmps177
    go_wp2_with fail
    refine (W1.out _).mono ?_
    rintro x w2 ⟨rfl, hb⟩
    have c1 : w2.cell? ⟨w.heap.size, 5, none⟩ = some (.int .i64 e.cur) := cell_later hb (by rw [World.cell?_alloc_new]; rfl)
    have HB := Lib.hid hb
    clear hb
    go_wp2_with (first | (go_at_call 175; (with_reducible refine (W2.out _).mono ?_); rintro x w' ⟨rfl, rfl⟩))
    go_ret
    exact ⟨by rw [hr.out]; rfl, Below.next ((Below.refl _ _).alloc (Nat.le_refl _) _) HB.out⟩

set_option maxHeartbeats 1000000 in
theorem fits3_any (e : Ev) (w : World) : Calls Tryz.prog 180 #[v3V e] w fun x w' => x = .returned (.bool (fits3 e)) ∧ Below w.heap.size w w' := by
  obtain ⟨b1, hb1⟩ : ∃ b, b = fits2 e := ⟨_, rfl⟩
  obtain ⟨b2, hb2⟩ : ∃ b, b = decide (0 ≤ e.qty) := ⟨_, rfl⟩
  obtain ⟨b3, hb3⟩ : ∃ b, b = btw e.tax 0 5000 := ⟨_, rfl⟩
  have hr := Lib.hid (show fits3 e = (b1 && b2 && b3) by rw [fits3, hb1, hb2, hb3])
  have W1 := Lib.hid (fun W => hb1 ▸ fits2_any e W)
  have W2 := Lib.hid (fun W => hb3 ▸ within_any e.tax 0 5000 W)
  clear hb1 hb3
  cases b1 <;> cases b2 <;> cases b3
  all_goals
    have k := hb2.symm
    clear hb2
    unfold v3V
    go_enter Tryz.func180, Tryz.ntmps180
    go_wp2_with fail
    refine (W1.out _).mono ?_
    rintro x w2 ⟨rfl, hb⟩
    have c1 : w2.cell? ⟨w.heap.size, 3, none⟩ = some (.int .i64 e.qty) := cell_later hb (by rw [World.cell?_alloc_new]; rfl)
    have c2 : w2.cell? ⟨w.heap.size, 6, none⟩ = some (.int .i64 e.tax) := cell_later hb (by rw [World.cell?_alloc_new]; rfl)
    have HB := Lib.hid hb
    clear hb
    go_wp2_with (first | (go_at_call 175; (with_reducible refine (W2.out _).mono ?_); rintro x w' ⟨rfl, rfl⟩))
    go_ret
    exact ⟨by rw [hr.out]; rfl, Below.next ((Below.refl _ _).alloc (Nat.le_refl _) _) HB.out⟩

set_option maxHeartbeats 1000000 in
theorem fits4_any (e : Ev) (w : World) (hs : e.who.length ≤ 9223372036854775000) : Calls Tryz.prog 184 #[v4V e] w fun x w' => x = .returned (.bool (fits4 e)) ∧ Below w.heap.size w w' := by
  obtain ⟨b1, hb1⟩ : ∃ b, b = fits3 e := ⟨_, rfl⟩
  obtain ⟨b2, hb2⟩ : ∃ b, b = plainS e.who := ⟨_, rfl⟩
  have hr := Lib.hid (show fits4 e = (b1 && b2) by rw [fits4, hb1, hb2])
  have W1 := Lib.hid (fun W => hb1 ▸ fits3_any e W)
  have W2 := Lib.hid (fun W => hb2 ▸ plain_any e.who W hs)
  clear hb1 hb2
  cases b1 <;> cases b2
  all_goals
    unfold v4V
    go_enter Tryz.func184, Tryz.ntmps184
    go_wp2_with fail
    refine (W1.out _).mono ?_
    rintro x w2 ⟨rfl, hb⟩
    have c1 : w2.cell? ⟨w.heap.size, 7, none⟩ = some (.string ⟨e.who.toArray⟩) := cell_later hb (by rw [World.cell?_alloc_new]; rfl)
    have HB := Lib.hid (Below.next ((Below.refl _ _).alloc (Nat.le_refl _) _) hb)
    clear hb
    go_wp2_with (first | (go_at_call 187; (with_reducible refine (W2.out _).mono ?_); rintro x w3 ⟨rfl, hb3⟩))
    go_ret
    exact ⟨by rw [hr.out]; rfl, by first | exact Below.next HB.out hb3 | exact HB.out⟩

set_option maxHeartbeats 1000000 in
theorem fits5_any (e : Ev) (w : World) (hs : e.who.length ≤ 9223372036854775000) : Calls Tryz.prog 189 #[v5V e] w fun x w' => x = .returned (.bool (fits5 e)) ∧ Below w.heap.size w w' := by
  obtain ⟨b1, hb1⟩ : ∃ b, b = fits4 e := ⟨_, rfl⟩
  obtain ⟨b2, hb2⟩ : ∃ b, b = btw e.stamp 0 1099511627776 := ⟨_, rfl⟩
  have hr := Lib.hid (show fits5 e = (b1 && b2) by rw [fits5, hb1, hb2])
  have W1 := Lib.hid (fun W => hb1 ▸ fits4_any e W hs)
  have W2 := Lib.hid (fun W => hb2 ▸ within_any e.stamp 0 1099511627776 W)
  clear hb1 hb2
  cases b1 <;> cases b2
  all_goals
    unfold v5V
    go_enter Tryz.func189, Tryz.ntmps189
    go_wp2_with fail
    refine (W1.out _).mono ?_
    rintro x w2 ⟨rfl, hb⟩
    have c1 : w2.cell? ⟨w.heap.size, 8, none⟩ = some (.int .i64 e.stamp) := cell_later hb (by rw [World.cell?_alloc_new]; rfl)
    have HB := Lib.hid hb
    clear hb
    go_wp2_with (first | (go_at_call 175; (with_reducible refine (W2.out _).mono ?_); rintro x w' ⟨rfl, rfl⟩))
    go_ret
    exact ⟨by rw [hr.out]; rfl, Below.next ((Below.refl _ _).alloc (Nat.le_refl _) _) HB.out⟩

end Go.Proofs.YtecmpmnidlfgnaaGreatDoor
