import Derived.Test.YtlobohpbgghleaaDoorRefCheck
namespace Go.Proofs.YtlobohpbgghleaaDoor
open Go.RowKit

/-! ## schema: bounds -/

theorem within_any (x lo hi : Int) (w : World) : Calls Tryd.prog 83 #[.int .i64 x, .int .i64 lo, .int .i64 hi] w fun e w' => e = .returned (.bool (btw x lo hi)) ∧ w = w' := by
  by_cases h1 : lo ≤ x
  · by_cases h2 : x ≤ hi
    · have hr := Lib.hid (show btw x lo hi = true by simp [btw, h1, h2])
      have d1 := decide_eq_true h1
      have d2 := decide_eq_true h2
      go_enter Tryd.func83, Tryd.ntmps83
      go_wp2
      go_ret
      exact ⟨by rw [hr.out]; rfl, rfl⟩
    · have hr := Lib.hid (show btw x lo hi = false by simp [btw, h2])
      have d1 := decide_eq_true h1
      have d2 := decide_eq_false h2
      go_enter Tryd.func83, Tryd.ntmps83
      go_wp2
      go_ret
      exact ⟨by rw [hr.out]; rfl, rfl⟩
  · have hr := Lib.hid (show btw x lo hi = false by simp [btw, h1])
    have d1 := decide_eq_false h1
    go_enter Tryd.func83, Tryd.ntmps83
    go_wp2
    go_ret
    exact ⟨by rw [hr.out]; rfl, rfl⟩

def coreB (e : Ev) (least dear : Int) : Bool := btw e.order 1 1099511627776 && btw e.item 0 65535 && btw e.qty least 10000 && btw e.price 0 dear
@[reducible] def v1V (e : Ev) : Value := .agg #[.int .i64 e.kind, .int .i64 e.order, .int .i64 e.item, .int .i64 e.qty, .int .i64 e.price]
@[reducible] def v2V (e : Ev) : Value := .agg #[.int .i64 e.kind, .int .i64 e.order, .int .i64 e.item, .int .i64 e.qty, .int .i64 e.price, .int .i64 e.cur]
@[reducible] def v3V (e : Ev) : Value := .agg #[.int .i64 e.kind, .int .i64 e.order, .int .i64 e.item, .int .i64 e.qty, .int .i64 e.price, .int .i64 e.cur, .int .i64 e.tax]
@[reducible] def v4V (e : Ev) : Value := .agg #[.int .i64 e.kind, .int .i64 e.order, .int .i64 e.item, .int .i64 e.qty, .int .i64 e.price, .int .i64 e.cur, .int .i64 e.tax, .string ⟨e.who.toArray⟩]
@[reducible] def v5V (e : Ev) : Value := .agg #[.int .i64 e.kind, .int .i64 e.order, .int .i64 e.item, .int .i64 e.qty, .int .i64 e.price, .int .i64 e.cur, .int .i64 e.tax, .string ⟨e.who.toArray⟩, .int .i64 e.stamp, .string ⟨e.note.toArray⟩]

set_option maxHeartbeats 1000000 in
theorem core_any (e : Ev) (least dear : Int) (w : World) : Calls Tryd.prog 82 #[v1V e, .int .i64 least, .int .i64 dear] w fun x w' => x = .returned (.bool (coreB e least dear)) ∧ Below w.heap.size w w' := by
  obtain ⟨b1, hb1⟩ : ∃ b, b = btw e.order 1 1099511627776 := ⟨_, rfl⟩
  obtain ⟨b2, hb2⟩ : ∃ b, b = btw e.item 0 65535 := ⟨_, rfl⟩
  obtain ⟨b3, hb3⟩ : ∃ b, b = btw e.qty least 10000 := ⟨_, rfl⟩
  obtain ⟨b4, hb4⟩ : ∃ b, b = btw e.price 0 dear := ⟨_, rfl⟩
  have hr := Lib.hid (show coreB e least dear = (b1 && b2 && b3 && b4) by rw [coreB, hb1, hb2, hb3, hb4])
  have W1 := Lib.hid (fun W => hb1 ▸ within_any e.order 1 1099511627776 W)
  have W2 := Lib.hid (fun W => hb2 ▸ within_any e.item 0 65535 W)
  have W3 := Lib.hid (fun W => hb3 ▸ within_any e.qty least 10000 W)
  have W4 := Lib.hid (fun W => hb4 ▸ within_any e.price 0 dear W)
  clear hb1 hb2 hb3 hb4
  cases b1 <;> cases b2 <;> cases b3 <;> cases b4
  all_goals
    go_enter Tryd.func82, Tryd.ntmps82
    go_wp2_with (first
      | (go_at_call 83; (with_reducible refine (W1.out _).mono ?_); rintro x w' ⟨rfl, rfl⟩)
      | (go_at_call 83; (with_reducible refine (W2.out _).mono ?_); rintro x w' ⟨rfl, rfl⟩)
      | (go_at_call 83; (with_reducible refine (W3.out _).mono ?_); rintro x w' ⟨rfl, rfl⟩)
      | (go_at_call 83; (with_reducible refine (W4.out _).mono ?_); rintro x w' ⟨rfl, rfl⟩))
    go_ret
    exact ⟨by rw [hr.out]; rfl, (Below.refl _ _).alloc (Nat.le_refl _) _⟩

end Go.Proofs.YtlobohpbgghleaaDoor

namespace Go.Proofs.YtlobohpbgghleaaDoor
open Go.RowKit

theorem last1_any (e : Ev) (w : World) : Calls Tryd.prog 80 #[v1V e] w fun x w' => x = .returned (.int .i64 5) ∧ Below w.heap.size w w' := by
  unfold v1V
  go_enter Tryd.func80, Tryd.ntmps80
  go_wp2
  go_ret
  exact ⟨rfl, (Below.refl _ _).alloc (Nat.le_refl _) _⟩
theorem last3_any (e : Ev) (w : World) : Calls Tryd.prog 89 #[v3V e] w fun x w' => x = .returned (.int .i64 7) ∧ Below w.heap.size w w' := by
  unfold v3V
  go_enter Tryd.func89, Tryd.ntmps89
  go_wp2
  go_ret
  exact ⟨rfl, (Below.refl _ _).alloc (Nat.le_refl _) _⟩
theorem last4_any (e : Ev) (w : World) : Calls Tryd.prog 93 #[v4V e] w fun x w' => x = .returned (.int .i64 9) ∧ Below w.heap.size w w' := by
  unfold v4V
  go_enter Tryd.func93, Tryd.ntmps93
  go_wp2
  go_ret
  exact ⟨rfl, (Below.refl _ _).alloc (Nat.le_refl _) _⟩
theorem last5_any (e : Ev) (w : World) : Calls Tryd.prog 98 #[v5V e] w fun x w' => x = .returned (.int .i64 10) ∧ Below w.heap.size w w' := by
  unfold v5V
  go_enter Tryd.func98, Tryd.ntmps98
  go_wp2
  go_ret
  exact ⟨rfl, (Below.refl _ _).alloc (Nat.le_refl _) _⟩

set_option maxHeartbeats 1000000 in
theorem plain_any (s : List UInt8) (w : World) (hs : s.length ≤ 9223372036854775000) : Calls Tryd.prog 95 #[.string ⟨s.toArray⟩] w fun x w' => x = .returned (.bool (plainS s)) ∧ Below w.heap.size w w' := by
  go_enter Tryd.func95, Tryd.ntmps95
  go_wp2
  go_loopw [7] (fun i wr => ∃ k : Nat, k ≤ s.length ∧ i = .int .i64 k ∧ Hid (plainS (s.take k) = true) ∧ w = wr) (fun i _ => s.length - (intOf i).toNat)
  case atStart => exact ⟨0, by omega, rfl, Lib.hid rfl, rfl⟩
  case round =>
    obtain ⟨k, hk, rfl, HP, rfl⟩ := hrel
    by_cases hlt : k < s.length
    · obtain ⟨x, hx, ht, hmem⟩ := nth s k hlt
      have gx : ∀ hh, (⟨s.toArray⟩ : ByteArray)[k]'hh = x := ba_get hx
      have HX := Lib.hid (show plainS (s.take (k + 1)) = plainC x by
        rw [ht]; unfold plainS; rw [List.all_append]; have := HP.out; unfold plainS at this; rw [this]; simp)
      have hxl := x.toNat_lt
      have hno : Hid (plainC x = false → plainS s = false) := Lib.hid fun h => by
        rw [← Bool.not_eq_true]; intro h2
        have := List.all_eq_true.1 h2 x hmem
        rw [h] at this; cases this
      clear hx ht hmem
      have hpc : Hid (plainC x = true ↔ x.toNat = 45 ∨ (48 ≤ x.toNat ∧ x.toNat ≤ 57) ∨ (97 ≤ x.toNat ∧ x.toNat ≤ 122)) := Lib.hid (by
        simp only [plainC, Bool.or_eq_true, Bool.and_eq_true, beq_iff_eq, decide_eq_true_eq]; omega)
      by_cases hp : plainC x = true
      · have hpa := hpc.out.1 hp
        have HP2 := Lib.hid (HX.out.trans hp)
        clear hp
        by_cases h45 : x.toNat = 45
        · have k45 : ((x.toNat : Int) != 45) = false := by rw [bne_eq_false_iff_eq]; omega
          clear hpa h45
          go_wp2
          go_roundw
          case rel => exact ⟨k + 1, by omega, by go_num, HP2, trivial⟩
          case measure => simp [intOf]; omega
        · have k45 : ((x.toNat : Int) != 45) = true := by rw [bne_iff_ne]; omega
          by_cases h57 : x.toNat ≤ 57
          · have hr : 48 ≤ x.toNat := by omega
            have t48 : decide ((x.toNat : Int) < 48) = false := by simp; omega
            have t57 : decide ((57 : Int) < x.toNat) = false := by simp; omega
            have t97 : decide ((x.toNat : Int) < 97) = true := by simp; omega
            have t122 : decide ((122 : Int) < x.toNat) = false := by simp; omega
            clear hpa h45 h57 hr
            go_wp2
            go_roundw
            case rel => exact ⟨k + 1, by omega, by go_num, HP2, trivial⟩
            case measure => simp [intOf]; omega
          · have hr : 97 ≤ x.toNat ∧ x.toNat ≤ 122 := by omega
            have t48 : decide ((x.toNat : Int) < 48) = false := by simp; omega
            have t57 : decide ((57 : Int) < x.toNat) = true := by simp; omega
            have t97 : decide ((x.toNat : Int) < 97) = false := by simp; omega
            have t122 : decide ((122 : Int) < x.toNat) = false := by simp; omega
            clear hpa h45 h57 hr
            go_wp2
            go_roundw
            case rel => exact ⟨k + 1, by omega, by go_num, HP2, trivial⟩
            case measure => simp [intOf]; omega
      · have hpa : ¬ (x.toNat = 45 ∨ (48 ≤ x.toNat ∧ x.toNat ≤ 57) ∨ (97 ≤ x.toNat ∧ x.toNat ≤ 122)) := fun h => hp (hpc.out.2 h)
        have hfin := Lib.hid (hno.out (by simpa using hp))
        have k45 : ((x.toNat : Int) != 45) = true := by rw [bne_iff_ne]; omega
        clear hp
        by_cases h48 : x.toNat < 48
        · have hr : x.toNat < 48 := h48
          have t48 : decide ((x.toNat : Int) < 48) = true := by simp; omega
          have t57 : decide ((57 : Int) < x.toNat) = false := by simp; omega
          have t97 : decide ((x.toNat : Int) < 97) = true := by simp; omega
          have t122 : decide ((122 : Int) < x.toNat) = false := by simp; omega
          clear hpa h48 hr
          go_wp2
          go_ret
          exact ⟨by rw [hfin.out]; rfl, Below.refl _ _⟩
        · by_cases h97 : x.toNat < 97
          · have hr : 57 < x.toNat := by omega
            have t48 : decide ((x.toNat : Int) < 48) = false := by simp; omega
            have t57 : decide ((57 : Int) < x.toNat) = true := by simp; omega
            have t97 : decide ((x.toNat : Int) < 97) = true := by simp; omega
            have t122 : decide ((122 : Int) < x.toNat) = false := by simp; omega
            clear hpa h48 h97 hr
            go_wp2
            go_ret
            exact ⟨by rw [hfin.out]; rfl, Below.refl _ _⟩
          · have hr : 122 < x.toNat := by omega
            have t48 : decide ((x.toNat : Int) < 48) = false := by simp; omega
            have t57 : decide ((57 : Int) < x.toNat) = true := by simp; omega
            have t97 : decide ((x.toNat : Int) < 97) = false := by simp; omega
            have t122 : decide ((122 : Int) < x.toNat) = true := by simp; omega
            clear hpa h48 h97 hr
            go_wp2
            go_ret
            exact ⟨by rw [hfin.out]; rfl, Below.refl _ _⟩
    · obtain rfl : k = s.length := by omega
      have hfin := Lib.hid (show plainS s = true by simpa using HP.out)
      go_wp2
      go_ret
      exact ⟨by rw [hfin.out]; rfl, Below.refl _ _⟩

def fitsV1 (e : Ev) : Bool := coreB e (-10000) 1000000
def fits2 (e : Ev) : Bool := coreB e (-10000) 100000000 && btw e.cur 0 3
def fits3 (e : Ev) : Bool := fits2 e && decide (0 ≤ e.qty) && btw e.tax 0 5000
def fits4 (e : Ev) : Bool := fits3 e && plainS e.who
def fits5 (e : Ev) : Bool := fits4 e && btw e.stamp 0 1099511627776

theorem fits1_any (e : Ev) (w : World) : Calls Tryd.prog 79 #[v1V e] w fun x w' => x = .returned (.bool (fitsV1 e)) ∧ Below w.heap.size w w' := by
  unfold v1V
  go_enter Tryd.func79, Tryd.ntmps79
  go_wp2_with fail
  refine (core_any e _ _ _).mono ?_
  rintro x w2 ⟨rfl, hb⟩
  go_wp2
  go_ret
  exact ⟨rfl, Below.next ((Below.refl _ _).alloc (Nat.le_refl _) _) hb⟩

set_option maxHeartbeats 1000000 in
theorem fits2_any (e : Ev) (w : World) : Calls Tryd.prog 85 #[v2V e] w fun x w' => x = .returned (.bool (fits2 e)) ∧ Below w.heap.size w w' := by
  obtain ⟨b1, hb1⟩ : ∃ b, b = coreB e (-10000) 100000000 := ⟨_, rfl⟩
  obtain ⟨b2, hb2⟩ : ∃ b, b = btw e.cur 0 3 := ⟨_, rfl⟩
  have hr := Lib.hid (show fits2 e = (b1 && b2) by rw [fits2, hb1, hb2])
  have W1 := Lib.hid (fun W => hb1 ▸ core_any e (-10000) 100000000 W)
  have W2 := Lib.hid (fun W => hb2 ▸ within_any e.cur 0 3 W)
  clear hb1 hb2
  cases b1 <;> cases b2
  all_goals
    unfold v2V
    go_enter Tryd.func85, Tryd.ntmps85
    go_wp2_with fail
    refine (W1.out _).mono ?_
    rintro x w2 ⟨rfl, hb⟩
    have c1 : w2.cell? ⟨w.heap.size, 5, none⟩ = some (.int .i64 e.cur) := cell_later hb (by rw [World.cell?_alloc_new]; rfl)
    have HB := Lib.hid hb
    clear hb
    go_wp2_with (first | (go_at_call 83; (with_reducible refine (W2.out _).mono ?_); rintro x w' ⟨rfl, rfl⟩))
    go_ret
    exact ⟨by rw [hr.out]; rfl, Below.next ((Below.refl _ _).alloc (Nat.le_refl _) _) HB.out⟩

set_option maxHeartbeats 1000000 in
theorem fits3_any (e : Ev) (w : World) : Calls Tryd.prog 88 #[v3V e] w fun x w' => x = .returned (.bool (fits3 e)) ∧ Below w.heap.size w w' := by
  obtain ⟨b1, hb1⟩ : ∃ b, b = fits2 e := ⟨_, rfl⟩
  obtain ⟨b2, hb2⟩ : ∃ b, b = decide (0 ≤ e.qty) := ⟨_, rfl⟩
  obtain ⟨b3, hb3⟩ : ∃ b, b = btw e.tax 0 5000 := ⟨_, rfl⟩
  have hr := Lib.hid (show fits3 e = (b1 && b2 && b3) by rw [fits3, hb1, hb2, hb3])
  have W1 := Lib.hid (fun W => hb1 ▸ fits2_any e W)
  have W2 := Lib.hid (fun W => hb3 ▸ within_any e.tax 0 5000 W)
  clear hb1 hb3
  cases b1 <;> cases b2 <;> cases b3
  all_goals
    have k := hb2.symm
    clear hb2
    unfold v3V
    go_enter Tryd.func88, Tryd.ntmps88
    go_wp2_with fail
    refine (W1.out _).mono ?_
    rintro x w2 ⟨rfl, hb⟩
    have c1 : w2.cell? ⟨w.heap.size, 3, none⟩ = some (.int .i64 e.qty) := cell_later hb (by rw [World.cell?_alloc_new]; rfl)
    have c2 : w2.cell? ⟨w.heap.size, 6, none⟩ = some (.int .i64 e.tax) := cell_later hb (by rw [World.cell?_alloc_new]; rfl)
    have HB := Lib.hid hb
    clear hb
    go_wp2_with (first | (go_at_call 83; (with_reducible refine (W2.out _).mono ?_); rintro x w' ⟨rfl, rfl⟩))
    go_ret
    exact ⟨by rw [hr.out]; rfl, Below.next ((Below.refl _ _).alloc (Nat.le_refl _) _) HB.out⟩

set_option maxHeartbeats 1000000 in
theorem fits4_any (e : Ev) (w : World) (hs : e.who.length ≤ 9223372036854775000) : Calls Tryd.prog 92 #[v4V e] w fun x w' => x = .returned (.bool (fits4 e)) ∧ Below w.heap.size w w' := by
  obtain ⟨b1, hb1⟩ : ∃ b, b = fits3 e := ⟨_, rfl⟩
  obtain ⟨b2, hb2⟩ : ∃ b, b = plainS e.who := ⟨_, rfl⟩
  have hr := Lib.hid (show fits4 e = (b1 && b2) by rw [fits4, hb1, hb2])
  have W1 := Lib.hid (fun W => hb1 ▸ fits3_any e W)
  have W2 := Lib.hid (fun W => hb2 ▸ plain_any e.who W hs)
  clear hb1 hb2
  cases b1 <;> cases b2
  all_goals
    unfold v4V
    go_enter Tryd.func92, Tryd.ntmps92
    go_wp2_with fail
    refine (W1.out _).mono ?_
    rintro x w2 ⟨rfl, hb⟩
    have c1 : w2.cell? ⟨w.heap.size, 7, none⟩ = some (.string ⟨e.who.toArray⟩) := cell_later hb (by rw [World.cell?_alloc_new]; rfl)
    have HB := Lib.hid (Below.next ((Below.refl _ _).alloc (Nat.le_refl _) _) hb)
    clear hb
    go_wp2_with (first | (go_at_call 95; (with_reducible refine (W2.out _).mono ?_); rintro x w3 ⟨rfl, hb3⟩))
    go_ret
    exact ⟨by rw [hr.out]; rfl, by first | exact Below.next HB.out hb3 | exact HB.out⟩

set_option maxHeartbeats 1000000 in
theorem fits5_any (e : Ev) (w : World) (hs : e.who.length ≤ 9223372036854775000) : Calls Tryd.prog 97 #[v5V e] w fun x w' => x = .returned (.bool (fits5 e)) ∧ Below w.heap.size w w' := by
  obtain ⟨b1, hb1⟩ : ∃ b, b = fits4 e := ⟨_, rfl⟩
  obtain ⟨b2, hb2⟩ : ∃ b, b = btw e.stamp 0 1099511627776 := ⟨_, rfl⟩
  have hr := Lib.hid (show fits5 e = (b1 && b2) by rw [fits5, hb1, hb2])
  have W1 := Lib.hid (fun W => hb1 ▸ fits4_any e W hs)
  have W2 := Lib.hid (fun W => hb2 ▸ within_any e.stamp 0 1099511627776 W)
  clear hb1 hb2
  cases b1 <;> cases b2
  all_goals
    unfold v5V
    go_enter Tryd.func97, Tryd.ntmps97
    go_wp2_with fail
    refine (W1.out _).mono ?_
    rintro x w2 ⟨rfl, hb⟩
    have c1 : w2.cell? ⟨w.heap.size, 8, none⟩ = some (.int .i64 e.stamp) := cell_later hb (by rw [World.cell?_alloc_new]; rfl)
    have HB := Lib.hid hb
    clear hb
    go_wp2_with (first | (go_at_call 83; (with_reducible refine (W2.out _).mono ?_); rintro x w' ⟨rfl, rfl⟩))
    go_ret
    exact ⟨by rw [hr.out]; rfl, Below.next ((Below.refl _ _).alloc (Nat.le_refl _) _) HB.out⟩

end Go.Proofs.YtlobohpbgghleaaDoor

namespace Go.Proofs.YtlobohpbgghleaaDoor
open Go.RowKit

/-! ## schema: the plain form -/

def ev1 (e : Ev) : Ev := { e with cur := 0, tax := 0, who := [], stamp := 0, note := [] }
def ev2 (e : Ev) : Ev := { e with tax := 0, who := [], stamp := 0, note := [] }
def ev3 (e : Ev) : Ev := { e with who := [], stamp := 0, note := [] }
def ev4 (e : Ev) : Ev := { e with stamp := 0, note := [] }

theorem event1_x (e : Ev) (w : World) : Calls Tryd.prog 77 #[v1V e] w fun x w' => x = .returned (evV (ev1 e)) ∧ ((w.alloc (.cells #[.int .i64 e.kind, .int .i64 e.order, .int .i64 e.item, .int .i64 e.qty, .int .i64 e.price] 101)).alloc (.cells #[.int .i64 e.kind, .int .i64 e.order, .int .i64 e.item, .int .i64 e.qty, .int .i64 e.price, .int .i64 0, .int .i64 0, .string ⟨#[]⟩, .int .i64 0, .string ⟨#[]⟩] 49)) = w' := by
  unfold v1V
  go_enter Tryd.func77, Tryd.ntmps77
  go_wp2
  refine bodyPost_ret (v := .agg #[.int .i64 e.kind, .int .i64 e.order, .int .i64 e.item, .int .i64 e.qty, .int .i64 e.price, .int .i64 0, .int .i64 0, .string ⟨#[]⟩, .int .i64 0, .string ⟨#[]⟩]) (by simp [results, Tryd.results77, go_sem]) rfl ⟨rfl, rfl⟩
theorem event2_x (e : Ev) (w : World) : Calls Tryd.prog 84 #[v2V e] w fun x w' => x = .returned (evV (ev2 e)) ∧ (((((w.alloc (.cells #[.int .i64 e.kind, .int .i64 e.order, .int .i64 e.item, .int .i64 e.qty, .int .i64 e.price, .int .i64 e.cur] 103)).alloc (.cells #[.int .i64 e.kind, .int .i64 e.order, .int .i64 e.item, .int .i64 e.qty, .int .i64 e.price, .int .i64 e.cur, .int .i64 0, .string ⟨#[]⟩, .int .i64 0, .string ⟨#[]⟩] 49)).alloc (.cells #[.int .i64 e.kind, .int .i64 e.order, .int .i64 e.item, .int .i64 e.qty, .int .i64 e.price] 101)).alloc (.cells #[.int .i64 e.kind, .int .i64 e.order, .int .i64 e.item, .int .i64 e.qty, .int .i64 e.price, .int .i64 0, .int .i64 0, .string ⟨#[]⟩, .int .i64 0, .string ⟨#[]⟩] 49)).alloc (.cells #[.int .i64 e.kind, .int .i64 e.order, .int .i64 e.item, .int .i64 e.qty, .int .i64 e.price, .int .i64 e.cur, .int .i64 0, .string ⟨#[]⟩, .int .i64 0, .string ⟨#[]⟩] 49)) = w' := by
  unfold v2V
  go_enter Tryd.func84, Tryd.ntmps84
  go_wp2_with (go_at_call 77; (with_reducible refine (event1_x e _).mono ?_); rintro x w' ⟨rfl, rfl⟩)
  refine bodyPost_ret (v := .agg #[.int .i64 e.kind, .int .i64 e.order, .int .i64 e.item, .int .i64 e.qty, .int .i64 e.price, .int .i64 e.cur, .int .i64 0, .string ⟨#[]⟩, .int .i64 0, .string ⟨#[]⟩]) (by simp [results, Tryd.results84, go_sem, ev1]) rfl ⟨rfl, rfl⟩
theorem event3_x (e : Ev) (w : World) : Calls Tryd.prog 87 #[v3V e] w fun x w' => x = .returned (evV (ev3 e)) ∧ ((((((((w.alloc (.cells #[.int .i64 e.kind, .int .i64 e.order, .int .i64 e.item, .int .i64 e.qty, .int .i64 e.price, .int .i64 e.cur, .int .i64 e.tax] 105)).alloc (.cells #[.int .i64 e.kind, .int .i64 e.order, .int .i64 e.item, .int .i64 e.qty, .int .i64 e.price, .int .i64 e.cur, .int .i64 e.tax, .string ⟨#[]⟩, .int .i64 0, .string ⟨#[]⟩] 49)).alloc (.cells #[.int .i64 e.kind, .int .i64 e.order, .int .i64 e.item, .int .i64 e.qty, .int .i64 e.price, .int .i64 e.cur] 103)).alloc (.cells #[.int .i64 e.kind, .int .i64 e.order, .int .i64 e.item, .int .i64 e.qty, .int .i64 e.price, .int .i64 e.cur, .int .i64 0, .string ⟨#[]⟩, .int .i64 0, .string ⟨#[]⟩] 49)).alloc (.cells #[.int .i64 e.kind, .int .i64 e.order, .int .i64 e.item, .int .i64 e.qty, .int .i64 e.price] 101)).alloc (.cells #[.int .i64 e.kind, .int .i64 e.order, .int .i64 e.item, .int .i64 e.qty, .int .i64 e.price, .int .i64 0, .int .i64 0, .string ⟨#[]⟩, .int .i64 0, .string ⟨#[]⟩] 49)).alloc (.cells #[.int .i64 e.kind, .int .i64 e.order, .int .i64 e.item, .int .i64 e.qty, .int .i64 e.price, .int .i64 e.cur, .int .i64 0, .string ⟨#[]⟩, .int .i64 0, .string ⟨#[]⟩] 49)).alloc (.cells #[.int .i64 e.kind, .int .i64 e.order, .int .i64 e.item, .int .i64 e.qty, .int .i64 e.price, .int .i64 e.cur, .int .i64 e.tax, .string ⟨#[]⟩, .int .i64 0, .string ⟨#[]⟩] 49)) = w' := by
  unfold v3V
  go_enter Tryd.func87, Tryd.ntmps87
  go_wp2_with (go_at_call 84; (with_reducible refine (event2_x e _).mono ?_); rintro x w' ⟨rfl, rfl⟩)
  refine bodyPost_ret (v := .agg #[.int .i64 e.kind, .int .i64 e.order, .int .i64 e.item, .int .i64 e.qty, .int .i64 e.price, .int .i64 e.cur, .int .i64 e.tax, .string ⟨#[]⟩, .int .i64 0, .string ⟨#[]⟩]) (by simp [results, Tryd.results87, go_sem, ev2]) rfl ⟨rfl, rfl⟩
theorem event4_x (e : Ev) (w : World) : Calls Tryd.prog 91 #[v4V e] w fun x w' => x = .returned (evV (ev4 e)) ∧ (((((((((((w.alloc (.cells #[.int .i64 e.kind, .int .i64 e.order, .int .i64 e.item, .int .i64 e.qty, .int .i64 e.price, .int .i64 e.cur, .int .i64 e.tax, .string ⟨e.who.toArray⟩] 107)).alloc (.cells #[.int .i64 e.kind, .int .i64 e.order, .int .i64 e.item, .int .i64 e.qty, .int .i64 e.price, .int .i64 e.cur, .int .i64 e.tax, .string ⟨e.who.toArray⟩, .int .i64 0, .string ⟨#[]⟩] 49)).alloc (.cells #[.int .i64 e.kind, .int .i64 e.order, .int .i64 e.item, .int .i64 e.qty, .int .i64 e.price, .int .i64 e.cur, .int .i64 e.tax] 105)).alloc (.cells #[.int .i64 e.kind, .int .i64 e.order, .int .i64 e.item, .int .i64 e.qty, .int .i64 e.price, .int .i64 e.cur, .int .i64 e.tax, .string ⟨#[]⟩, .int .i64 0, .string ⟨#[]⟩] 49)).alloc (.cells #[.int .i64 e.kind, .int .i64 e.order, .int .i64 e.item, .int .i64 e.qty, .int .i64 e.price, .int .i64 e.cur] 103)).alloc (.cells #[.int .i64 e.kind, .int .i64 e.order, .int .i64 e.item, .int .i64 e.qty, .int .i64 e.price, .int .i64 e.cur, .int .i64 0, .string ⟨#[]⟩, .int .i64 0, .string ⟨#[]⟩] 49)).alloc (.cells #[.int .i64 e.kind, .int .i64 e.order, .int .i64 e.item, .int .i64 e.qty, .int .i64 e.price] 101)).alloc (.cells #[.int .i64 e.kind, .int .i64 e.order, .int .i64 e.item, .int .i64 e.qty, .int .i64 e.price, .int .i64 0, .int .i64 0, .string ⟨#[]⟩, .int .i64 0, .string ⟨#[]⟩] 49)).alloc (.cells #[.int .i64 e.kind, .int .i64 e.order, .int .i64 e.item, .int .i64 e.qty, .int .i64 e.price, .int .i64 e.cur, .int .i64 0, .string ⟨#[]⟩, .int .i64 0, .string ⟨#[]⟩] 49)).alloc (.cells #[.int .i64 e.kind, .int .i64 e.order, .int .i64 e.item, .int .i64 e.qty, .int .i64 e.price, .int .i64 e.cur, .int .i64 e.tax, .string ⟨#[]⟩, .int .i64 0, .string ⟨#[]⟩] 49)).alloc (.cells #[.int .i64 e.kind, .int .i64 e.order, .int .i64 e.item, .int .i64 e.qty, .int .i64 e.price, .int .i64 e.cur, .int .i64 e.tax, .string ⟨e.who.toArray⟩, .int .i64 0, .string ⟨#[]⟩] 49)) = w' := by
  unfold v4V
  go_enter Tryd.func91, Tryd.ntmps91
  go_wp2_with (go_at_call 87; (with_reducible refine (event3_x e _).mono ?_); rintro x w' ⟨rfl, rfl⟩)
  refine bodyPost_ret (v := .agg #[.int .i64 e.kind, .int .i64 e.order, .int .i64 e.item, .int .i64 e.qty, .int .i64 e.price, .int .i64 e.cur, .int .i64 e.tax, .string ⟨e.who.toArray⟩, .int .i64 0, .string ⟨#[]⟩]) (by simp [results, Tryd.results91, go_sem, ev3]) rfl ⟨rfl, rfl⟩
theorem event5_x (e : Ev) (w : World) : Calls Tryd.prog 96 #[v5V e] w fun x w' => x = .returned (evV e) ∧ ((((((((((((((w.alloc (.cells #[.int .i64 e.kind, .int .i64 e.order, .int .i64 e.item, .int .i64 e.qty, .int .i64 e.price, .int .i64 e.cur, .int .i64 e.tax, .string ⟨e.who.toArray⟩, .int .i64 e.stamp, .string ⟨e.note.toArray⟩] 109)).alloc (.cells #[.int .i64 e.kind, .int .i64 e.order, .int .i64 e.item, .int .i64 e.qty, .int .i64 e.price, .int .i64 e.cur, .int .i64 e.tax, .string ⟨e.who.toArray⟩, .int .i64 e.stamp, .string ⟨e.note.toArray⟩] 49)).alloc (.cells #[.int .i64 e.kind, .int .i64 e.order, .int .i64 e.item, .int .i64 e.qty, .int .i64 e.price, .int .i64 e.cur, .int .i64 e.tax, .string ⟨e.who.toArray⟩] 107)).alloc (.cells #[.int .i64 e.kind, .int .i64 e.order, .int .i64 e.item, .int .i64 e.qty, .int .i64 e.price, .int .i64 e.cur, .int .i64 e.tax, .string ⟨e.who.toArray⟩, .int .i64 0, .string ⟨#[]⟩] 49)).alloc (.cells #[.int .i64 e.kind, .int .i64 e.order, .int .i64 e.item, .int .i64 e.qty, .int .i64 e.price, .int .i64 e.cur, .int .i64 e.tax] 105)).alloc (.cells #[.int .i64 e.kind, .int .i64 e.order, .int .i64 e.item, .int .i64 e.qty, .int .i64 e.price, .int .i64 e.cur, .int .i64 e.tax, .string ⟨#[]⟩, .int .i64 0, .string ⟨#[]⟩] 49)).alloc (.cells #[.int .i64 e.kind, .int .i64 e.order, .int .i64 e.item, .int .i64 e.qty, .int .i64 e.price, .int .i64 e.cur] 103)).alloc (.cells #[.int .i64 e.kind, .int .i64 e.order, .int .i64 e.item, .int .i64 e.qty, .int .i64 e.price, .int .i64 e.cur, .int .i64 0, .string ⟨#[]⟩, .int .i64 0, .string ⟨#[]⟩] 49)).alloc (.cells #[.int .i64 e.kind, .int .i64 e.order, .int .i64 e.item, .int .i64 e.qty, .int .i64 e.price] 101)).alloc (.cells #[.int .i64 e.kind, .int .i64 e.order, .int .i64 e.item, .int .i64 e.qty, .int .i64 e.price, .int .i64 0, .int .i64 0, .string ⟨#[]⟩, .int .i64 0, .string ⟨#[]⟩] 49)).alloc (.cells #[.int .i64 e.kind, .int .i64 e.order, .int .i64 e.item, .int .i64 e.qty, .int .i64 e.price, .int .i64 e.cur, .int .i64 0, .string ⟨#[]⟩, .int .i64 0, .string ⟨#[]⟩] 49)).alloc (.cells #[.int .i64 e.kind, .int .i64 e.order, .int .i64 e.item, .int .i64 e.qty, .int .i64 e.price, .int .i64 e.cur, .int .i64 e.tax, .string ⟨#[]⟩, .int .i64 0, .string ⟨#[]⟩] 49)).alloc (.cells #[.int .i64 e.kind, .int .i64 e.order, .int .i64 e.item, .int .i64 e.qty, .int .i64 e.price, .int .i64 e.cur, .int .i64 e.tax, .string ⟨e.who.toArray⟩, .int .i64 0, .string ⟨#[]⟩] 49)).alloc (.cells #[.int .i64 e.kind, .int .i64 e.order, .int .i64 e.item, .int .i64 e.qty, .int .i64 e.price, .int .i64 e.cur, .int .i64 e.tax, .string ⟨e.who.toArray⟩, .int .i64 e.stamp, .string ⟨e.note.toArray⟩] 49)) = w' := by
  unfold v5V
  go_enter Tryd.func96, Tryd.ntmps96
  go_wp2_with (go_at_call 91; (with_reducible refine (event4_x e _).mono ?_); rintro x w' ⟨rfl, rfl⟩)
  refine bodyPost_ret (v := .agg #[.int .i64 e.kind, .int .i64 e.order, .int .i64 e.item, .int .i64 e.qty, .int .i64 e.price, .int .i64 e.cur, .int .i64 e.tax, .string ⟨e.who.toArray⟩, .int .i64 e.stamp, .string ⟨e.note.toArray⟩]) (by simp [results, Tryd.results96, go_sem, ev4]) rfl ⟨rfl, rfl⟩
theorem event1_any (e : Ev) (w : World) : Calls Tryd.prog 77 #[v1V e] w fun x w' => x = .returned (evV (ev1 e)) ∧ Below w.heap.size w w' :=
  (event1_x e w).mono fun x w' ⟨he, hw⟩ => ⟨he, by
    subst hw
    repeat (first | exact Below.refl _ _ | refine Below.alloc ?_ (by simp; try omega) _)⟩
theorem event2_any (e : Ev) (w : World) : Calls Tryd.prog 84 #[v2V e] w fun x w' => x = .returned (evV (ev2 e)) ∧ Below w.heap.size w w' :=
  (event2_x e w).mono fun x w' ⟨he, hw⟩ => ⟨he, by
    subst hw
    repeat (first | exact Below.refl _ _ | refine Below.alloc ?_ (by simp; try omega) _)⟩
theorem event3_any (e : Ev) (w : World) : Calls Tryd.prog 87 #[v3V e] w fun x w' => x = .returned (evV (ev3 e)) ∧ Below w.heap.size w w' :=
  (event3_x e w).mono fun x w' ⟨he, hw⟩ => ⟨he, by
    subst hw
    repeat (first | exact Below.refl _ _ | refine Below.alloc ?_ (by simp; try omega) _)⟩
theorem event4_any (e : Ev) (w : World) : Calls Tryd.prog 91 #[v4V e] w fun x w' => x = .returned (evV (ev4 e)) ∧ Below w.heap.size w w' :=
  (event4_x e w).mono fun x w' ⟨he, hw⟩ => ⟨he, by
    subst hw
    repeat (first | exact Below.refl _ _ | refine Below.alloc ?_ (by simp; try omega) _)⟩
theorem event5_any (e : Ev) (w : World) : Calls Tryd.prog 96 #[v5V e] w fun x w' => x = .returned (evV e) ∧ Below w.heap.size w w' :=
  (event5_x e w).mono fun x w' ⟨he, hw⟩ => ⟨he, by
    subst hw
    repeat (first | exact Below.refl _ _ | refine Below.alloc ?_ (by simp; try omega) _)⟩

theorem lift_x (e : Ev) (w : World) : Calls Tryd.prog 59 #[evV e] w fun x w' => x = .returned (v5V e) ∧ Below w.heap.size w w' := by
  unfold evV
  go_enter Tryd.func59, Tryd.ntmps59
  go_wp2
  refine bodyPost_ret (v := v5V e) (by simp [results, Tryd.results59, go_sem]) rfl ⟨rfl, ?_⟩
  repeat (first | exact Below.refl _ _ | refine Below.alloc ?_ (by simp; try omega) _)

end Go.Proofs.YtlobohpbgghleaaDoor

namespace Go.Proofs.YtlobohpbgghleaaDoor
open Go.RowKit

/-! ## schema.Check -/

theorem m1last (k : Nat) (e : Ev) (w : World) : (Go.method (k + 1) 101 (v1V e) "daybook/schema.last").run Tryd.prog w = .ok (80, v1V e) w := by kernel_rfl
theorem m2last (k : Nat) (e : Ev) (w : World) : (Go.method (k + 1) 103 (v2V e) "daybook/schema.last").run Tryd.prog w = .ok (80, v1V e) w := by kernel_rfl
theorem m3last (k : Nat) (e : Ev) (w : World) : (Go.method (k + 1) 105 (v3V e) "daybook/schema.last").run Tryd.prog w = .ok (89, v3V e) w := by kernel_rfl
theorem m4last (k : Nat) (e : Ev) (w : World) : (Go.method (k + 1) 107 (v4V e) "daybook/schema.last").run Tryd.prog w = .ok (93, v4V e) w := by kernel_rfl
theorem m5last (k : Nat) (e : Ev) (w : World) : (Go.method (k + 1) 109 (v5V e) "daybook/schema.last").run Tryd.prog w = .ok (98, v5V e) w := by kernel_rfl
theorem m1fits (k : Nat) (e : Ev) (w : World) : (Go.method (k + 1) 101 (v1V e) "daybook/schema.fits").run Tryd.prog w = .ok (79, v1V e) w := by kernel_rfl
theorem m2fits (k : Nat) (e : Ev) (w : World) : (Go.method (k + 1) 103 (v2V e) "daybook/schema.fits").run Tryd.prog w = .ok (85, v2V e) w := by kernel_rfl
theorem m3fits (k : Nat) (e : Ev) (w : World) : (Go.method (k + 1) 105 (v3V e) "daybook/schema.fits").run Tryd.prog w = .ok (88, v3V e) w := by kernel_rfl
theorem m4fits (k : Nat) (e : Ev) (w : World) : (Go.method (k + 1) 107 (v4V e) "daybook/schema.fits").run Tryd.prog w = .ok (92, v4V e) w := by kernel_rfl
theorem m5fits (k : Nat) (e : Ev) (w : World) : (Go.method (k + 1) 109 (v5V e) "daybook/schema.fits").run Tryd.prog w = .ok (97, v5V e) w := by kernel_rfl
theorem m1event (k : Nat) (e : Ev) (w : World) : (Go.method (k + 1) 101 (v1V e) "Event").run Tryd.prog w = .ok (77, v1V e) w := by kernel_rfl
theorem m2event (k : Nat) (e : Ev) (w : World) : (Go.method (k + 1) 103 (v2V e) "Event").run Tryd.prog w = .ok (84, v2V e) w := by kernel_rfl
theorem m3event (k : Nat) (e : Ev) (w : World) : (Go.method (k + 1) 105 (v3V e) "Event").run Tryd.prog w = .ok (87, v3V e) w := by kernel_rfl
theorem m4event (k : Nat) (e : Ev) (w : World) : (Go.method (k + 1) 107 (v4V e) "Event").run Tryd.prog w = .ok (91, v4V e) w := by kernel_rfl
theorem m5event (k : Nat) (e : Ev) (w : World) : (Go.method (k + 1) 109 (v5V e) "Event").run Tryd.prog w = .ok (96, v5V e) w := by kernel_rfl

def typedV (v : Int) (e : Ev) : Value :=
  if v = 1 then .iface 101 (v1V e) else if v = 2 then .iface 103 (v2V e) else if v = 3 then .iface 105 (v3V e) else if v = 4 then .iface 107 (v4V e) else if v = 5 then .iface 109 (v5V e) else .nilIface

set_option maxHeartbeats 1000000 in
theorem typed_any (v : Int) (e : Ev) (w : World) : Calls Tryd.prog 49 #[.int .i64 v, evV e] w fun x w' => x = .returned (typedV v e) ∧ Below w.heap.size w w' := by
  have HL := Lib.hid (lift_x e)
  unfold evV
  have hE := evAt_alloc w e 49
  have HE := Lib.hid hE
  clear hE
  by_cases h : 1 ≤ v ∧ v ≤ 5
  · rcases (show v = 1 ∨ v = 2 ∨ v = 3 ∨ v = 4 ∨ v = 5 by omega) with rfl | rfl | rfl | rfl | rfl
    all_goals
      clear h
      go_enter Tryd.func49, Tryd.ntmps49
      go_wp2_with fail
      refine (HL.out _).mono ?_
      rintro x w2 ⟨rfl, hb⟩
      have HB := Lib.hid (Below.next ((Below.refl _ _).alloc (Nat.le_refl _) _) hb)
      clear hb
      go_wp2
      go_ret
      exact ⟨rfl, Below.next HB.out ((Below.refl _ _).alloc (Nat.le_refl _) _)⟩
  · have d1 : (v == 1) = false := by simp; omega
    have d2 : (v == 2) = false := by simp; omega
    have d3 : (v == 3) = false := by simp; omega
    have d4 : (v == 4) = false := by simp; omega
    have d5 : (v == 5) = false := by simp; omega
    have hv := Lib.hid (show typedV v e = .nilIface by unfold typedV; rw [if_neg (by omega), if_neg (by omega), if_neg (by omega), if_neg (by omega), if_neg (by omega)])
    clear h
    go_enter Tryd.func49, Tryd.ntmps49
    go_wp2_with fail
    refine (HL.out _).mono ?_
    rintro x w2 ⟨rfl, hb⟩
    have HB := Lib.hid (Below.next ((Below.refl _ _).alloc (Nat.le_refl _) _) hb)
    clear hb
    go_wp2
    go_ret
    exact ⟨by rw [hv.out]; rfl, Below.next HB.out ((Below.refl _ _).alloc (Nat.le_refl _) _)⟩

end Go.Proofs.YtlobohpbgghleaaDoor

namespace Go.Proofs.YtlobohpbgghleaaDoor
open Go.RowKit

theorem schemaCheck_version (v : Int) (e : Ev) (w : World) (h : v < 1 ∨ 5 < v) : Calls Tryd.prog 36 #[.int .i64 v, evV e] w (ChkPost (evCheck v e) w) := by
  have hf := Lib.hid (chk30 (e := e) h)
  have hT := Lib.hid (show typedV v e = .nilIface by unfold typedV; rw [if_neg (by omega), if_neg (by omega), if_neg (by omega), if_neg (by omega), if_neg (by omega)])
  have HT := Lib.hid (fun W => hT.out ▸ typed_any v e W)
  clear h
  unfold evV
  go_enter Tryd.func36, Tryd.ntmps36
  go_wp2_with fail
  refine (HT.out _).mono ?_
  rintro x w2 ⟨rfl, hb⟩
  have HB := Lib.hid (Below.next ((Below.refl _ _).alloc (Nat.le_refl _) _) hb)
  clear hb
  go_wp2
  go_ret
  exact ⟨by rw [hf.out]; rfl, HB.out⟩


theorem evCells {w' : World} {b : Nat} {e : Ev} (h : EvAt w' b e) : w'.cell? ⟨b, 0, none⟩ = some (.int .i64 e.kind) ∧ w'.cell? ⟨b, 1, none⟩ = some (.int .i64 e.order) ∧ w'.cell? ⟨b, 2, none⟩ = some (.int .i64 e.item) ∧ w'.cell? ⟨b, 3, none⟩ = some (.int .i64 e.qty) ∧ w'.cell? ⟨b, 4, none⟩ = some (.int .i64 e.price) ∧ w'.cell? ⟨b, 5, none⟩ = some (.int .i64 e.cur) ∧ w'.cell? ⟨b, 6, none⟩ = some (.int .i64 e.tax) ∧ w'.cell? ⟨b, 7, none⟩ = some (.string ⟨e.who.toArray⟩) ∧ w'.cell? ⟨b, 8, none⟩ = some (.int .i64 e.stamp) ∧ w'.cell? ⟨b, 9, none⟩ = some (.string ⟨e.note.toArray⟩) :=
  ⟨h.c0, h.c1, h.c2, h.c3, h.c4, h.c5, h.c6, h.c7, h.c8, h.c9⟩
theorem evFits_1 (e : Ev) : evFits 1 e = (fitsV1 e && evSame (ev1 e) e) := by
  rw [Bool.eq_iff_iff]
  simp only [evFits, fitsV1, coreB, ev1, evSame, btw, Bool.and_eq_true, decide_eq_true_eq, beq_iff_eq, Bool.or_eq_true, List.isEmpty_iff]
  grind
theorem evFits_2 (e : Ev) : evFits 2 e = (fits2 e && evSame (ev2 e) e) := by
  rw [Bool.eq_iff_iff]
  simp only [evFits, fits2, coreB, ev2, evSame, btw, Bool.and_eq_true, decide_eq_true_eq, beq_iff_eq, Bool.or_eq_true, List.isEmpty_iff]
  grind
theorem evFits_3 (e : Ev) : evFits 3 e = (fits3 e && evSame (ev3 e) e) := by
  rw [Bool.eq_iff_iff]
  simp only [evFits, fits3, fits2, coreB, ev3, evSame, btw, Bool.and_eq_true, decide_eq_true_eq, beq_iff_eq, Bool.or_eq_true, List.isEmpty_iff]
  grind
theorem evFits_4 (e : Ev) : evFits 4 e = (fits4 e && evSame (ev4 e) e) := by
  rw [Bool.eq_iff_iff]
  simp only [evFits, fits4, fits3, fits2, coreB, ev4, evSame, btw, Bool.and_eq_true, decide_eq_true_eq, beq_iff_eq, Bool.or_eq_true, List.isEmpty_iff]
  grind
theorem evFits_5 (e : Ev) : evFits 5 e = fits5 e := by
  rw [Bool.eq_iff_iff]
  simp only [evFits, fits5, fits4, fits3, fits2, coreB, btw, Bool.and_eq_true, decide_eq_true_eq, Bool.or_eq_true, List.isEmpty_iff]
  grind

end Go.Proofs.YtlobohpbgghleaaDoor
