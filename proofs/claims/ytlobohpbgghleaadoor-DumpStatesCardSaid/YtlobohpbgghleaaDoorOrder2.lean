import Derived.Test.YtlobohpbgghleaaDoorState
import Derived.Test.YtlobohpbgghleaaDoorMulDiv
import Derived.Test.YtlobohpbgghleaaDoorSchema5
namespace Go.Proofs.YtlobohpbgghleaaDoor
open Go.RowKit

/-! ## order: what is due, and whether a state is one that an order can have -/

theorem owithin_any (x lo hi : Int) (w : World) : Calls Tryd.prog 25 #[.int .i64 x, .int .i64 lo, .int .i64 hi] w fun e w' => e = .returned (.bool (btw x lo hi)) ∧ w = w' := by
  by_cases h1 : lo ≤ x
  · by_cases h2 : x ≤ hi
    · have hr := Lib.hid (show btw x lo hi = true by simp [btw, h1, h2])
      have d1 := decide_eq_true h1
      have d2 := decide_eq_true h2
      go_enter Tryd.func25, Tryd.ntmps25
      go_wp2
      go_ret
      exact ⟨by rw [hr.out]; rfl, rfl⟩
    · have hr := Lib.hid (show btw x lo hi = false by simp [btw, h2])
      have d1 := decide_eq_true h1
      have d2 := decide_eq_false h2
      go_enter Tryd.func25, Tryd.ntmps25
      go_wp2
      go_ret
      exact ⟨by rw [hr.out]; rfl, rfl⟩
  · have hr := Lib.hid (show btw x lo hi = false by simp [btw, h1])
    have d1 := decide_eq_false h1
    go_enter Tryd.func25, Tryd.ntmps25
    go_wp2
    go_ret
    exact ⟨by rw [hr.out]; rfl, rfl⟩

set_option maxRecDepth 100000 in
set_option maxHeartbeats 4000000 in
theorem onet_any (s : St) (lv : Value) (w : World) (hr : LnRow w lv s.lines) (hf : ∀ l ∈ s.lines, lnFine l = true) (hn : s.lines.length ≤ 16) :
    Calls Tryd.prog 28 #[stV s lv] w fun e w' => e = .returned (.int .i64 (netOf s.lines)) ∧ Below w.heap.size w w' := by
  obtain ⟨oa, cap, rfl, hl1, hl2, hcs⟩ := hr.shape
  have HC := Lib.hid hcs
  have HF := Lib.hid hf
  have HN := Lib.hid hn
  have hB0 := Lib.hid (show Below w.heap.size w (w.alloc (.cells (stCs s (.slice oa s.lines.length cap)) 25)) from (Below.refl _ _).alloc (Nat.le_refl _) _)
  clear hr hcs hf
  go_enter Tryd.func28, Tryd.ntmps28
  go_wp2
  go_loopw [3, 9] (fun nv iv wr => ∃ (k : Nat), k ≤ s.lines.length ∧ iv = .int .i64 k ∧ nv = .int .i64 (netOf (s.lines.take k)) ∧ Below w.heap.size w wr) (fun _ iv _ => s.lines.length - (intOf iv).toNat)
  case atStart => exact ⟨0, Nat.zero_le _, rfl, rfl, hB0.out⟩
  case round =>
    obtain ⟨k, hk, rfl, rfl, hb⟩ := hrel
    have HB := Lib.hid hb
    clear hb
    by_cases hlt : k < s.lines.length
    · obtain ⟨l, hl, _, hmem⟩ := nth s.lines k hlt
      have q1 : (k : Int) < (s.lines.length : Int) := by omega
      obtain ⟨b, off, rfl, hcell⟩ := HC.out k l hl
      have HCE := Lib.hid (range_later hcell HB.out)
      have hfl := HF.out l hmem
      have hnt := net_take s.lines k l hl
      have hb1 := net_bound (s.lines.take k) fun x hx => HF.out x (List.mem_of_mem_take hx)
      have hb2 := net_bound (s.lines.take (k + 1)) fun x hx => HF.out x (List.mem_of_mem_take hx)
      have hlen : ((s.lines.take k).length : Int) ≤ 16 := by have := List.length_take_le k s.lines; have := HN.out; simp only [List.length_take]; omega
      have hlen2 : ((s.lines.take (k + 1)).length : Int) ≤ 16 := by have := HN.out; simp only [List.length_take]; omega
      obtain ⟨n, hnn⟩ : ∃ n, n = netOf (s.lines.take k) := ⟨_, rfl⟩
      obtain ⟨n', hnn'⟩ : ∃ n', n' = netOf (s.lines.take (k + 1)) := ⟨_, rfl⟩
      obtain ⟨m, hm⟩ : ∃ m, m = l.qty * l.price := ⟨_, rfl⟩
      rw [← hnn, ← hm, ← hnn'] at hnt
      rw [← hnn] at hb1 ⊢
      rw [← hnn'] at hb2
      have e1 : IntKind.i64.wrap (l.qty * l.price) = m := by rw [← hm, IntKind.wrap_i64]; omega
      have e2 : IntKind.i64.wrap (n + m) = n' := by rw [IntKind.wrap_i64]; omega
      have HNN := Lib.hid hnn'
      clear hl hmem hcell hfl hnt hb1 hb2 hlen hlen2 hnn hnn' hm
      go_wp2_with (with_reducible refine wpList_load_ln rfl (.tmp 11) rfl b (off + k * 4) l rfl HCE.out ?_)
      go_roundw
      case rel => exact ⟨k + 1, by omega, by go_num, by rw [HNN.out], HB.out.alloc HB.out.size _⟩
      case measure => simp [intOf]; omega
    · obtain rfl : k = s.lines.length := by omega
      rw [List.take_length]
      go_wp2
      go_ret
      exact ⟨rfl, HB.out⟩

theorem due_bound (s : St) (h : ∀ l ∈ s.lines, lnFine l = true) (hn : s.lines.length ≤ 16) (h0 : 0 ≤ s.tax) (h1 : s.tax ≤ 5000) :
    ∃ n t d : Nat, netOf s.lines = (n : Int) ∧ s.tax = (t : Int) ∧ dueOf s = (d : Int) ∧ n ≤ 160000000000000 ∧ t ≤ 5000 ∧ d = n + n * t / 10000 ∧ n * t ≤ 800000000000000000 ∧ d ≤ 240000000000000 := by
  have hb := net_bound s.lines h
  obtain ⟨n, hn'⟩ := Int.eq_ofNat_of_zero_le hb.1
  obtain ⟨t, ht⟩ := Int.eq_ofNat_of_zero_le h0
  have hm : n * t ≤ 160000000000000 * 5000 := Nat.mul_le_mul (by omega) (by omega)
  refine ⟨n, t, n + n * t / 10000, hn', ht, ?_, by omega, by omega, rfl, by omega, by omega⟩
  unfold dueOf
  rw [hn', ht]
  rfl

set_option maxRecDepth 100000 in
set_option maxHeartbeats 4000000 in
theorem odue_any (s : St) (lv : Value) (w : World) (hr : LnRow w lv s.lines) (hf : ∀ l ∈ s.lines, lnFine l = true) (hn : s.lines.length ≤ 16) (h0 : 0 ≤ s.tax) (h1 : s.tax ≤ 5000) :
    Calls Tryd.prog 16 #[stV s lv] w fun e w' => e = .returned (.int .i64 (dueOf s)) ∧ Below w.heap.size w w' := by
  obtain ⟨n, t, d, hN, hT, hD, hn1, ht1, hd1, hm1, hd2⟩ := due_bound s hf hn h0 h1
  have HN := Lib.hid (fun W (h : Below w.heap.size w W) => onet_any s lv W (hr.below h) hf hn)
  have hB0 := Lib.hid (show Below w.heap.size w (w.alloc (.cells (stCs s lv) 25)) from (Below.refl _ _).alloc (Nat.le_refl _) _)
  have hE := stBlk_alloc w s lv
  have HM := Lib.hid (show ∀ W : World, Calls Tryd.prog 29 #[.int .i64 (n : Int), .int .i64 (t : Int), .int .i64 10000] W fun e w' => e = .returned (.tuple #[.int .i64 ((n * t / 10000 : Nat) : Int), .bool true]) ∧ Below W.heap.size W w' from fun W => mulDivS_any n t 10000 W (by omega) (by omega) (by omega) (by omega) (by omega))
  obtain ⟨q, hq⟩ : ∃ q, q = n * t / 10000 := ⟨_, rfl⟩
  rw [← hq] at HM hd1
  have e1 : IntKind.i64.wrap ((n : Int) + (q : Int)) = (d : Int) := by rw [IntKind.wrap_i64]; omega
  have HE := Lib.hid hE
  rw [hD]
  have HNN := Lib.hid hN
  have HTT := Lib.hid hT
  clear hf hn h0 h1 hN hT hD hn1 ht1 hd1 hm1 hd2 hq hE hr
  go_enter Tryd.func16, Tryd.ntmps16
  go_wp2_with (first
    | (go_at_call 28; refine (HN.out _ hB0.out).mono ?_; rintro e w1 ⟨rfl, hb1⟩; have HB1 := Lib.hid (Below.next hB0.out hb1); have c4 : w1.cell? ⟨w.heap.size, 4, none⟩ = some (.int .i64 s.tax) := (HE.out.below hb1).cell 4; rw [HTT.out] at c4; rw [HNN.out]; clear hb1)
    | (go_at_call 29; (with_reducible refine (HM.out _).mono ?_); rintro e w2 ⟨rfl, hb2⟩; have HB2 := Lib.hid (Below.next HB1.out hb2); clear hb2))
  go_ret
  exact ⟨rfl, HB2.out⟩

def evWho (who : List UInt8) : Ev := ⟨1, 1, 0, 0, 0, 0, 0, who, 0, []⟩
theorem evWho_ok (who : List UInt8) (hw : who.length ≤ 281474976710656) : EvOk 281474976710656 (evWho who) :=
  have h0 : I64 0 := by unfold I64; decide
  have h1 : I64 1 := by unfold I64; decide
  ⟨h1, h1, h0, h0, h0, h0, h0, h0, hw, Nat.zero_le _⟩
theorem evWho_check (v : Int) (hv : v = 4 ∨ v = 5) (who : List UInt8) : (evCheck v (evWho who) == 0) = namedB who := by
  have hl : lastKind v = 9 ∨ lastKind v = 10 := by rcases hv with rfl | rfl <;> decide
  unfold evCheck namedB
  rw [if_neg (by omega), if_neg (by show ¬ ((1 : Int) < 1 ∨ lastKind v < 1); omega)]
  by_cases h1 : 16 < who.length
  · rw [if_pos (.inl h1)]
    rw [decide_eq_false (by omega)]; rfl
  · rw [if_neg (by show ¬ (16 < who.length ∨ 120 < 0); omega), decide_eq_true (by omega)]
    have hf : evFits v (evWho who) = plainS who := by
      unfold evFits evWho
      rcases hv with rfl | rfl <;> simp [btw]
    rw [hf]
    by_cases h2 : plainS who = true
    · rw [if_pos h2, h2]; rfl
    · rw [if_neg h2]
      have : plainS who = false := by simpa using h2
      rw [this]; rfl

set_option maxRecDepth 100000 in
set_option maxHeartbeats 4000000 in
theorem onamed_any (who : List UInt8) (w : World) (hw : who.length ≤ 281474976710656) :
    Calls Tryd.prog 27 #[.string ⟨who.toArray⟩] w fun e w' => e = .returned (.bool (namedB who)) ∧ Below w.heap.size w w' := by
  obtain ⟨c, hc⟩ : ∃ c, c = evCheck 5 (evWho who) := ⟨_, rfl⟩
  have hn := Lib.hid (show namedB who = (c == 0) by rw [hc]; exact (evWho_check 5 (.inr rfl) who).symm)
  have HC := Lib.hid (show ∀ W : World, Calls Tryd.prog 36 #[.int .i64 5, .agg #[.int .i64 1, .int .i64 1, .int .i64 0, .int .i64 0, .int .i64 0, .int .i64 0, .int .i64 0, .string ⟨who.toArray⟩, .int .i64 0, .string ⟨#[]⟩]] W (ChkPost c W) from fun W => hc ▸ schemaCheckB_any 5 (evWho who) W (evWho_ok who hw))
  clear hc
  go_enter Tryd.func27, Tryd.ntmps27
  go_wp2_with (go_at_call 36; (with_reducible refine (HC.out _).mono ?_); rintro e w1 ⟨rfl, hb1⟩)
  go_ret
  exact ⟨by rw [hn.out]; rfl, hb1⟩

set_option maxRecDepth 100000 in
set_option maxHeartbeats 8000000 in
theorem oshipped_any (s : St) (lv : Value) (w : World) (hr : LnRow w lv s.lines) :
    Calls Tryd.prog 17 #[stV s lv] w fun e w' => e = .returned (.tuple #[.bool (noneB s.lines), .bool (wholeB s.lines)]) ∧ Below w.heap.size w w' := by
  obtain ⟨oa, cap, rfl, hl1, hl2, hcs⟩ := hr.shape
  have HC := Lib.hid hcs
  have hB0 := Lib.hid (show Below w.heap.size w (w.alloc (.cells (stCs s (.slice oa s.lines.length cap)) 25)) from (Below.refl _ _).alloc (Nat.le_refl _) _)
  clear hr hcs
  go_enter Tryd.func17, Tryd.ntmps17
  go_wp2
  go_loopw [2, 3, 9] (fun av bv iv wr => ∃ (k : Nat), k ≤ s.lines.length ∧ iv = .int .i64 k ∧ av = .bool (noneB (s.lines.take k)) ∧ bv = .bool (wholeB (s.lines.take k)) ∧ Below w.heap.size w wr) (fun _ _ iv _ => s.lines.length - (intOf iv).toNat)
  case atStart => exact ⟨0, Nat.zero_le _, rfl, rfl, rfl, hB0.out⟩
  case round =>
    obtain ⟨k, hk, rfl, rfl, rfl, hb⟩ := hrel
    have HB := Lib.hid hb
    clear hb
    by_cases hlt : k < s.lines.length
    · obtain ⟨l, hl, htk, _⟩ := nth s.lines k hlt
      have q1 : (k : Int) < (s.lines.length : Int) := by omega
      obtain ⟨b, off, rfl, hcell⟩ := HC.out k l hl
      have HCE := Lib.hid (range_later hcell HB.out)
      have HN := Lib.hid (show noneB (s.lines.take (k + 1)) = (noneB (s.lines.take k) && (l.shipped == 0)) by rw [htk]; simp [noneB])
      have HW := Lib.hid (show wholeB (s.lines.take (k + 1)) = (wholeB (s.lines.take k) && (l.shipped == l.qty)) by rw [htk]; simp [wholeB])
      obtain ⟨x, hx⟩ : ∃ x, x = noneB (s.lines.take k) := ⟨_, rfl⟩
      obtain ⟨y, hy⟩ : ∃ y, y = wholeB (s.lines.take k) := ⟨_, rfl⟩
      rw [← hx] at HN ⊢
      rw [← hy] at HW ⊢
      clear hl htk hcell hx hy
      cases x <;> cases y
      all_goals
        go_wp2_with (with_reducible refine wpList_load_ln rfl (.tmp 11) rfl b (off + k * 4) l rfl HCE.out ?_)
        go_roundw
        case rel => exact ⟨k + 1, by omega, by go_num, by rw [HN.out]; rfl, by rw [HW.out]; rfl, HB.out.alloc HB.out.size _⟩
        case measure => simp [intOf]; omega
    · obtain rfl : k = s.lines.length := by omega
      rw [List.take_length]
      go_wp2
      go_ret2
      exact ⟨rfl, HB.out⟩

set_option maxRecDepth 100000 in
set_option maxHeartbeats 8000000 in
theorem obounded_any (s : St) (lv : Value) (w : World) (hw : s.who.length ≤ 281474976710656)
    (HLI : ∀ W : World, Below w.heap.size w W → Calls Tryd.prog 26 #[lv] W fun e w' => e = .returned (.bool (linedB s.lines)) ∧ Below W.heap.size W w') :
    Calls Tryd.prog 15 #[stV s lv] w fun e w' => e = .returned (.bool (boundedB s)) ∧ Below w.heap.size w w' := by
  obtain ⟨b1, hb1⟩ : ∃ b, b = btw s.order 1 1099511627776 := ⟨_, rfl⟩
  obtain ⟨b2, hb2⟩ : ∃ b, b = btw s.status 0 5 := ⟨_, rfl⟩
  obtain ⟨b3, hb3⟩ : ∃ b, b = btw s.cur 0 3 := ⟨_, rfl⟩
  obtain ⟨b4, hb4⟩ : ∃ b, b = btw s.tax 0 5000 := ⟨_, rfl⟩
  obtain ⟨b5, hb5⟩ : ∃ b, b = linedB s.lines := ⟨_, rfl⟩
  obtain ⟨b6, hb6⟩ : ∃ b, b = btw s.refunded 0 s.paid := ⟨_, rfl⟩
  obtain ⟨b7, hb7⟩ : ∃ b, b = btw s.events 0 1099511627776 := ⟨_, rfl⟩
  obtain ⟨b8, hb8⟩ : ∃ b, b = btw s.refused 0 s.events := ⟨_, rfl⟩
  obtain ⟨b9, hb9⟩ : ∃ b, b = btw s.stamp 0 1099511627776 := ⟨_, rfl⟩
  obtain ⟨b10, hb10⟩ : ∃ b, b = namedB s.who := ⟨_, rfl⟩
  have HR := Lib.hid (show boundedB s = (b1 && (b2 && (b3 && (b4 && (b5 && (b6 && (b7 && (b8 && (b9 && b10))))))))) by rw [boundedB, hb1, hb2, hb3, hb4, hb5, hb6, hb7, hb8, hb9, hb10])
  have W1 := Lib.hid (fun W => hb1 ▸ owithin_any s.order 1 1099511627776 W)
  have W2 := Lib.hid (fun W => hb2 ▸ owithin_any s.status 0 5 W)
  have W3 := Lib.hid (fun W => hb3 ▸ owithin_any s.cur 0 3 W)
  have W4 := Lib.hid (fun W => hb4 ▸ owithin_any s.tax 0 5000 W)
  have W5 := Lib.hid (fun W h => hb5 ▸ HLI W h)
  have W6 := Lib.hid (fun W => hb6 ▸ owithin_any s.refunded 0 s.paid W)
  have W7 := Lib.hid (fun W => hb7 ▸ owithin_any s.events 0 1099511627776 W)
  have W8 := Lib.hid (fun W => hb8 ▸ owithin_any s.refused 0 s.events W)
  have W9 := Lib.hid (fun W => hb9 ▸ owithin_any s.stamp 0 1099511627776 W)
  have W10 := Lib.hid (fun W => hb10 ▸ onamed_any s.who W hw)
  have HE := Lib.hid (stBlk_alloc w s lv)
  have hB0 := Lib.hid (show Below w.heap.size w (w.alloc (.cells (stCs s lv) 25)) from (Below.refl _ _).alloc (Nat.le_refl _) _)
  clear hb1 hb2 hb3 hb4 hb5 hb6 hb7 hb8 hb9 hb10 HLI hw
  have key : ∀ x, boundedB s = x → Calls Tryd.prog 15 #[stV s lv] w (fun e w' => e = .returned (.bool x) ∧ Below w.heap.size w w') → Calls Tryd.prog 15 #[stV s lv] w fun e w' => e = .returned (.bool (boundedB s)) ∧ Below w.heap.size w w' := fun x h c => h ▸ c
  cases b5
  case false =>
    refine key false (by rw [HR.out]; cases b1 <;> cases b2 <;> cases b3 <;> cases b4 <;> rfl) ?_
    clear HR key W6 W7 W8 W9 W10
    cases b1 <;> try cases b2 <;> try cases b3 <;> try cases b4
    all_goals
      go_enter Tryd.func15, Tryd.ntmps15
      go_wp2_with (first
        | (go_at_call 25; (with_reducible refine (W1.out _).mono ?_); rintro x w' ⟨rfl, rfl⟩)
        | (go_at_call 25; (with_reducible refine (W2.out _).mono ?_); rintro x w' ⟨rfl, rfl⟩)
        | (go_at_call 25; (with_reducible refine (W3.out _).mono ?_); rintro x w' ⟨rfl, rfl⟩)
        | (go_at_call 25; (with_reducible refine (W4.out _).mono ?_); rintro x w' ⟨rfl, rfl⟩)
        | (go_at_call 26; refine (W5.out _ hB0.out).mono ?_; rintro x w5 ⟨rfl, hb5⟩; have HB5 := Lib.hid (Below.next hB0.out hb5); clear hb5))
      go_ret
      first | exact ⟨rfl, HB5.out⟩ | exact ⟨rfl, hB0.out⟩
  case true =>
    by_cases hall : (b1 && (b2 && (b3 && b4))) = true
    · simp only [Bool.and_eq_true] at hall
      obtain ⟨rfl, rfl, rfl, rfl⟩ := hall
      have key2 : boundedB s = (b6 && (b7 && (b8 && (b9 && b10)))) := by rw [HR.out]; simp
      refine key _ key2 ?_
      clear HR key key2
      cases b6 <;> try cases b7 <;> try cases b8 <;> try cases b9 <;> try cases b10
      all_goals
        go_enter Tryd.func15, Tryd.ntmps15
        go_wp2_with (first
          | (go_at_call 25; (with_reducible refine (W1.out _).mono ?_); rintro x w' ⟨rfl, rfl⟩)
          | (go_at_call 25; (with_reducible refine (W2.out _).mono ?_); rintro x w' ⟨rfl, rfl⟩)
          | (go_at_call 25; (with_reducible refine (W3.out _).mono ?_); rintro x w' ⟨rfl, rfl⟩)
          | (go_at_call 25; (with_reducible refine (W4.out _).mono ?_); rintro x w' ⟨rfl, rfl⟩)
          | (go_at_call 26; refine (W5.out _ hB0.out).mono ?_; rintro x w5 ⟨rfl, hb5⟩; have HB5 := Lib.hid (Below.next hB0.out hb5); have HE5 := Lib.hid (HE.out.below hb5); clear hb5
             have c6 := HE5.out.cell 6; have c7 := HE5.out.cell 7; have c8 := HE5.out.cell 8; have c9 := HE5.out.cell 9; have c10 := HE5.out.cell 10; have c11 := HE5.out.cell 11
             simp only [stCs] at c6 c7 c8 c9 c10 c11)
          | (go_at_call 25; (with_reducible refine (W6.out _).mono ?_); rintro x w' ⟨rfl, rfl⟩)
          | (go_at_call 25; (with_reducible refine (W7.out _).mono ?_); rintro x w' ⟨rfl, rfl⟩)
          | (go_at_call 25; (with_reducible refine (W8.out _).mono ?_); rintro x w' ⟨rfl, rfl⟩)
          | (go_at_call 25; (with_reducible refine (W9.out _).mono ?_); rintro x w' ⟨rfl, rfl⟩)
          | (go_at_call 27; (with_reducible refine (W10.out _).mono ?_); rintro x w6 ⟨rfl, hb6⟩; have HB6 := Lib.hid (Below.next HB5.out hb6); clear hb6))
        go_ret
        first | exact ⟨rfl, HB6.out⟩ | exact ⟨rfl, HB5.out⟩
    · have hf : (b1 && (b2 && (b3 && b4))) = false := by simpa using hall
      refine key false (by rw [HR.out]; revert hf; cases b1 <;> cases b2 <;> cases b3 <;> cases b4 <;> simp) ?_
      clear HR key W6 W7 W8 W9 W10 hall
      cases b1 <;> try cases b2 <;> try cases b3 <;> try cases b4
      all_goals first
        | (simp at hf; done)
        | (clear hf
           go_enter Tryd.func15, Tryd.ntmps15
           go_wp2_with (first
             | (go_at_call 25; (with_reducible refine (W1.out _).mono ?_); rintro x w' ⟨rfl, rfl⟩)
             | (go_at_call 25; (with_reducible refine (W2.out _).mono ?_); rintro x w' ⟨rfl, rfl⟩)
             | (go_at_call 25; (with_reducible refine (W3.out _).mono ?_); rintro x w' ⟨rfl, rfl⟩)
             | (go_at_call 25; (with_reducible refine (W4.out _).mono ?_); rintro x w' ⟨rfl, rfl⟩))
           go_ret
           exact ⟨rfl, hB0.out⟩)

end Go.Proofs.YtlobohpbgghleaaDoor

namespace Go.Proofs.YtlobohpbgghleaaDoor
open Go.RowKit

theorem risen_snoc : ∀ (ls : List Ln) (b : Int) (l : Ln), risen b (ls ++ [l]) = (risen b ls && (decide ((ls.getLast?.map (·.item)).getD b < l.item) && lnFine l))
  | [], b, l => by simp [risen] <;> rfl
  | x :: ls, b, l => by
    rw [List.cons_append, risen, risen, risen_snoc ls]
    cases ls with
    | nil => simp [Bool.and_assoc] <;> rfl
    | cons y ls =>
      rw [List.getLast?_cons_cons]
      cases h : (y :: ls).getLast? with
      | none => simp at h
      | some z => simp [Bool.and_assoc]
theorem risen_take_false : ∀ (ls : List Ln) (b : Int) (k : Nat), risen b (ls.take k) = false → risen b ls = false
  | [], b, k, h => by simp [risen] at h
  | x :: ls, b, 0, h => by simp [risen] at h
  | x :: ls, b, k + 1, h => by
    rw [List.take_succ_cons, risen] at h
    rw [risen]
    cases h1 : (decide (b < x.item) && lnFine x) with
    | false => simp
    | true =>
      rw [h1] at h
      simp only [Bool.true_and] at h ⊢
      exact risen_take_false ls _ k h

theorem five (b1 b2 b3 b4 : Bool) : b1 = false ∨ (b1 = true ∧ b2 = false) ∨ (b1 = true ∧ b2 = true ∧ b3 = false) ∨ (b1 = true ∧ b2 = true ∧ b3 = true ∧ b4 = false) ∨ (b1 = true ∧ b2 = true ∧ b3 = true ∧ b4 = true) := by
  cases b1 <;> cases b2 <;> cases b3 <;> cases b4 <;> decide

set_option maxRecDepth 100000 in
set_option maxHeartbeats 16000000 in
theorem olined_any (ls : List Ln) (lv : Value) (w : World) (hr : LnRow w lv ls) :
    Calls Tryd.prog 26 #[lv] w fun e w' => e = .returned (.bool (linedB ls)) ∧ Below w.heap.size w w' := by
  obtain ⟨oa, cap, rfl, hl1, hl2, hcs⟩ := hr.shape
  have HC := Lib.hid hcs
  clear hr hcs
  by_cases h16 : 16 < ls.length
  · have hf := Lib.hid (show linedB ls = false by unfold linedB; rw [decide_eq_false (by omega)]; rfl)
    have q1 : (16 : Int) < (ls.length : Int) := by omega
    go_enter Tryd.func26, Tryd.ntmps26
    go_wp2
    go_ret
    exact ⟨by rw [hf.out]; rfl, Below.refl _ _⟩
  have HL := Lib.hid (show linedB ls = risen (-1) ls by unfold linedB; rw [decide_eq_true (by omega)]; rfl)
  have q16 : ¬ ((16 : Int) < (ls.length : Int)) := by omega
  go_enter Tryd.func26, Tryd.ntmps26
  go_wp2
  go_loopw [10] (fun iv wr => ∃ (k : Nat), k ≤ ls.length ∧ iv = .int .i64 k ∧ Hid (risen (-1) (ls.take k) = true) ∧ Below w.heap.size w wr) (fun iv _ => ls.length - (intOf iv).toNat)
  case atStart => exact ⟨0, Nat.zero_le _, rfl, Lib.hid (by simp [risen]), Below.refl _ _⟩
  case round =>
    obtain ⟨k, hk, rfl, HRI, hb⟩ := hrel
    have HB := Lib.hid hb
    clear hb
    by_cases hlt : k < ls.length
    · obtain ⟨l, hl, htk, _⟩ := nth ls k hlt
      have q1 : (k : Int) < (ls.length : Int) := by omega
      obtain ⟨b, off, rfl, hcell⟩ := HC.out k l hl
      have HCE := Lib.hid (range_later hcell HB.out)
      have HSN := Lib.hid (show risen (-1) (ls.take (k + 1)) = (decide ((((ls.take k).getLast?).map (·.item)).getD (-1) < l.item) && lnFine l) by rw [htk, risen_snoc, HRI.out, Bool.true_and])
      have HFA := Lib.hid (show risen (-1) (ls.take (k + 1)) = false → linedB ls = false from fun h => by rw [HL.out]; exact risen_take_false ls _ _ h)
      obtain ⟨b1, hb1⟩ : ∃ b, b = btw l.item 0 65535 := ⟨_, rfl⟩
      obtain ⟨b2, hb2⟩ : ∃ b, b = btw l.price 0 100000000 := ⟨_, rfl⟩
      obtain ⟨b3, hb3⟩ : ∃ b, b = btw l.qty 1 100000 := ⟨_, rfl⟩
      obtain ⟨b4, hb4⟩ : ∃ b, b = btw l.shipped 0 l.qty := ⟨_, rfl⟩
      have HFI := Lib.hid (show lnFine l = (b1 && b2 && b3 && b4) by rw [lnFine, hb1, hb2, hb3, hb4])
      have HI0 := Lib.hid (show b1 = true → 0 ≤ l.item from fun h => by rw [hb1] at h; simp only [btw, Bool.and_eq_true, decide_eq_true_eq] at h; exact h.1)
      have W1 := Lib.hid (fun W => hb1 ▸ owithin_any l.item 0 65535 W)
      have W2 := Lib.hid (fun W => hb2 ▸ owithin_any l.price 0 100000000 W)
      have W3 := Lib.hid (fun W => hb3 ▸ owithin_any l.qty 1 100000 W)
      have W4 := Lib.hid (fun W => hb4 ▸ owithin_any l.shipped 0 l.qty W)
      clear hb1 hb2 hb3 hb4 htk
      rcases Nat.eq_zero_or_pos k with rfl | hpos
      · -- the first line
        have HZ := Lib.hid (show risen (-1) (ls.take (0 + 1)) = (b1 && b2 && b3 && b4) by
          rw [HSN.out, HFI.out]
          cases b1 with
          | false => simp
          | true =>
            have := HI0.out rfl
            rw [decide_eq_true (by simp; omega), Bool.true_and])
        have q0 : decide ((0 : Int) < ((0 : Nat) : Int)) = false := by decide
        clear HSN HFI HI0 hl hcell
        have HA := Lib.hid (show ∀ n, Below w.heap.size w ((wr.alloc (.cells (lnCs l) 40)).drewN n) from fun n => Below.next (HB.out.alloc HB.out.size _) (below_drewN' _ n))
        rcases five b1 b2 b3 b4 with rfl | ⟨rfl, rfl⟩ | ⟨rfl, rfl, rfl⟩ | ⟨rfl, rfl, rfl, rfl⟩ | ⟨rfl, rfl, rfl, rfl⟩
        case inr.inr.inr.inr =>
          go_wp2_with (with_reducible refine wpList_load_ln rfl (.tmp 13) rfl b (off + 0 * 4) l rfl HCE.out ?_)
          go_quiet (fail)
          go_wp2_with (first
            | (go_at_call 25; (with_reducible refine (W1.out _).mono ?_); rintro x w' ⟨rfl, rfl⟩)
            | (go_at_call 25; (with_reducible refine (W2.out _).mono ?_); rintro x w' ⟨rfl, rfl⟩)
            | (go_at_call 25; (with_reducible refine (W3.out _).mono ?_); rintro x w' ⟨rfl, rfl⟩)
            | (go_at_call 25; (with_reducible refine (W4.out _).mono ?_); rintro x w' ⟨rfl, rfl⟩))
          go_roundw
          case rel => exact ⟨0 + 1, by omega, by go_num, Lib.hid (by rw [HZ.out]; rfl), HA.out _⟩
          case measure => first | (simp [intOf]; done) | (simp [intOf]; omega)
        all_goals
          have hfin := Lib.hid (HFA.out (by rw [HZ.out]; rfl))
          go_wp2_with (with_reducible refine wpList_load_ln rfl (.tmp 13) rfl b (off + 0 * 4) l rfl HCE.out ?_)
          go_quiet (fail)
          go_wp2_with (first
            | (go_at_call 25; (with_reducible refine (W1.out _).mono ?_); rintro x w' ⟨rfl, rfl⟩)
            | (go_at_call 25; (with_reducible refine (W2.out _).mono ?_); rintro x w' ⟨rfl, rfl⟩)
            | (go_at_call 25; (with_reducible refine (W3.out _).mono ?_); rintro x w' ⟨rfl, rfl⟩)
            | (go_at_call 25; (with_reducible refine (W4.out _).mono ?_); rintro x w' ⟨rfl, rfl⟩))
          go_ret
          exact ⟨by rw [hfin.out]; rfl, HA.out _⟩
      · -- a later line
        obtain ⟨j, rfl⟩ : ∃ j, k = j + 1 := ⟨k - 1, by omega⟩
        obtain ⟨p, hp, htp, _⟩ := nth ls j (by omega)
        obtain ⟨b', off', hbo, hcp⟩ := HC.out j p hp
        obtain ⟨rfl, rfl⟩ : b' = b ∧ off' = off := by
          simp only [Option.some.injEq, Addr.mk.injEq, and_true] at hbo
          exact ⟨hbo.1.symm, hbo.2.symm⟩
        have hlast : (((ls.take (j + 1)).getLast?).map (·.item)).getD (-1) = p.item := by rw [htp]; simp
        have c1 : wr.cell? ⟨b', off' + j * 4, none⟩ = some (.int .i64 p.item) := cell_later HB.out (hcp 0 _ rfl)
        have c1' : (wr.alloc (.cells #[.int .i64 l.item, .int .i64 l.price, .int .i64 l.qty, .int .i64 l.shipped] 40)).cell? ⟨b', off' + j * 4, none⟩ = some (.int .i64 p.item) := cell_later ((Below.refl _ _).alloc (Nat.le_refl _) _) c1
        have q0 : decide ((0 : Int) < ((j + 1 : Nat) : Int)) = true := by rw [decide_eq_true_eq]; omega
        have q2 : (j : Int) < (ls.length : Int) := by omega
        have ej : IntKind.i64.wrap (((j + 1 : Nat) : Int) - 1) = (j : Int) := by rw [IntKind.wrap_i64]; omega
        have ej2 : IntKind.i64.wrap (j : Int) = (j : Int) := by rw [IntKind.wrap_i64]; omega
        have q3 : (0 : Int) < ((j + 1 : Nat) : Int) := by omega
        rw [hlast] at HSN
        by_cases hle : l.item ≤ p.item
        · have hfin := Lib.hid (HFA.out (by rw [HSN.out, decide_eq_false (by omega)]; rfl))
          have HA := Lib.hid (show ∀ n, Below w.heap.size w ((wr.alloc (.cells (lnCs l) 40)).drewN n) from fun n => Below.next (HB.out.alloc HB.out.size _) (below_drewN' _ n))
          have d1 : decide (l.item ≤ p.item) = true := decide_eq_true hle
          clear HSN HFI HI0 hl hcell hp htp hbo hcp hlast hpos HFA
          go_wp2_with (with_reducible refine wpList_load_ln rfl (.tmp 13) rfl b' (off' + (j + 1) * 4) l rfl HCE.out ?_)
          go_quiet (fail)
          go_wp2
          go_ret
          exact ⟨by rw [hfin.out]; rfl, HA.out _⟩
        · have HZ := Lib.hid (show risen (-1) (ls.take (j + 1 + 1)) = (b1 && b2 && b3 && b4) by rw [HSN.out, decide_eq_true (by omega), Bool.true_and, HFI.out])
          have HA := Lib.hid (show ∀ n, Below w.heap.size w ((wr.alloc (.cells (lnCs l) 40)).drewN n) from fun n => Below.next (HB.out.alloc HB.out.size _) (below_drewN' _ n))
          have d1 : decide (l.item ≤ p.item) = false := decide_eq_false hle
          clear HSN HFI HI0 hl hcell hp htp hbo hcp hlast hpos
          rcases five b1 b2 b3 b4 with rfl | ⟨rfl, rfl⟩ | ⟨rfl, rfl, rfl⟩ | ⟨rfl, rfl, rfl, rfl⟩ | ⟨rfl, rfl, rfl, rfl⟩
          case inr.inr.inr.inr =>
            go_wp2_with (with_reducible refine wpList_load_ln rfl (.tmp 13) rfl b' (off' + (j + 1) * 4) l rfl HCE.out ?_)
            go_quiet (fail)
            go_wp2_with (first
              | (go_at_call 25; (with_reducible refine (W1.out _).mono ?_); rintro x w' ⟨rfl, rfl⟩)
              | (go_at_call 25; (with_reducible refine (W2.out _).mono ?_); rintro x w' ⟨rfl, rfl⟩)
              | (go_at_call 25; (with_reducible refine (W3.out _).mono ?_); rintro x w' ⟨rfl, rfl⟩)
              | (go_at_call 25; (with_reducible refine (W4.out _).mono ?_); rintro x w' ⟨rfl, rfl⟩))
            go_roundw
            case rel => exact ⟨j + 1 + 1, by omega, by go_num, Lib.hid (by rw [HZ.out]; rfl), HA.out _⟩
            case measure => first | (simp [intOf]; done) | (simp [intOf]; omega)
          all_goals
            have hfin := Lib.hid (HFA.out (by rw [HZ.out]; rfl))
            go_wp2_with (with_reducible refine wpList_load_ln rfl (.tmp 13) rfl b' (off' + (j + 1) * 4) l rfl HCE.out ?_)
            go_quiet (fail)
            go_wp2_with (first
              | (go_at_call 25; (with_reducible refine (W1.out _).mono ?_); rintro x w' ⟨rfl, rfl⟩)
              | (go_at_call 25; (with_reducible refine (W2.out _).mono ?_); rintro x w' ⟨rfl, rfl⟩)
              | (go_at_call 25; (with_reducible refine (W3.out _).mono ?_); rintro x w' ⟨rfl, rfl⟩)
              | (go_at_call 25; (with_reducible refine (W4.out _).mono ?_); rintro x w' ⟨rfl, rfl⟩))
            go_ret
            exact ⟨by rw [hfin.out]; rfl, HA.out _⟩
    · obtain rfl : k = ls.length := by omega
      have hfin := Lib.hid (show linedB ls = true by rw [HL.out, ← HRI.out, List.take_length])
      go_wp2
      go_ret
      exact ⟨by rw [hfin.out]; rfl, HB.out⟩

end Go.Proofs.YtlobohpbgghleaaDoor
