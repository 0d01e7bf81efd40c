import Derived.Test.YtlobohpbgghleaaDoorLong
namespace Go.Proofs.YtlobohpbgghleaaDoor
open Go.RowKit

theorem lval_cut (l : List Nat) (n : Nat) (h : ∀ (k d : Nat), n ≤ k → l[k]? = some d → d = 0) : lval l = lval (l.take n) := by
  induction n generalizing l with
  | zero =>
    rw [List.take_zero, lval]
    induction l with
    | nil => rfl
    | cons d l ih =>
      have h0 := h 0 d (Nat.zero_le _) rfl
      have h1 := ih fun k e hk he => h (k + 1) e (Nat.zero_le _) (by simpa using he)
      rw [lval, h0, h1]
  | succ n ih =>
    cases l with
    | nil => rfl
    | cons d l => rw [List.take_succ_cons, lval, lval, ih l fun k e hk he => h (k + 1) e (by omega) (by simpa using he)]

/-- a small number, long -/
def smallL (u : Nat) : List Nat := digsOf 4 u ++ List.replicate 12 0
theorem smallL_digs (u : Nat) : Digs (smallL u) := ⟨by simp [smallL, digsOf_length], fun d hd => by
  rcases List.mem_append.1 hd with hd | hd
  · exact digsOf_lt _ _ d hd
  · rw [(List.mem_replicate.1 hd).2]; decide⟩
theorem smallL_val (u : Nat) (h : u < 18446744073709551616) : lval (smallL u) = u := by
  rw [lval_cut (smallL u) 4 (fun k d hk hd => by
    unfold smallL at hd
    rw [List.getElem?_append_right (by rw [digsOf_length]; exact hk)] at hd
    exact (List.mem_replicate.1 (List.mem_of_getElem? hd)).2)]
  unfold smallL
  rw [List.take_append_of_le_length (by rw [digsOf_length]; omega), List.take_of_length_le (by rw [digsOf_length]; omega), lval_digsOf]
  omega
/-- k digits of u, the rest 0 -/
def ofTo (u k : Nat) : List Nat := digsOf k u ++ List.replicate (16 - k) 0
theorem ofTo_digs (u k : Nat) (h : k ≤ 16) : Digs (ofTo u k) := ⟨by simp [ofTo, digsOf_length]; omega, fun d hd => by
  rcases List.mem_append.1 hd with hd | hd
  · exact digsOf_lt _ _ d hd
  · rw [(List.mem_replicate.1 hd).2]; decide⟩
theorem digsOf_snoc : ∀ (k u : Nat), digsOf (k + 1) u = digsOf k u ++ [u / 65536 ^ k % 65536]
  | 0, u => by simp [digsOf]
  | k + 1, u => by
    rw [digsOf, digsOf_snoc k, digsOf, List.cons_append, Nat.div_div_eq_div_mul, Nat.pow_succ, Nat.mul_comm 65536 (65536 ^ k)]
theorem ofTo_set (u k : Nat) (h : k < 16) : (ofTo u k).set k (u / 65536 ^ k % 65536) = ofTo u (k + 1) := by
  unfold ofTo
  rw [List.set_append_right _ _ (by rw [digsOf_length]; omega), digsOf_length, Nat.sub_self, digsOf_snoc]
  obtain ⟨m, hm⟩ : ∃ m, 16 - k = m + 1 := ⟨15 - k, by omega⟩
  rw [hm, show 16 - (k + 1) = m by omega, List.replicate_succ, List.set_cons_zero, List.append_assoc]; rfl
theorem ofTo_at (u k : Nat) (h : k < 16) : (ofTo u k)[k]? = some 0 := by
  unfold ofTo
  rw [List.getElem?_append_right (by rw [digsOf_length]; omega), digsOf_length, Nat.sub_self]
  obtain ⟨m, hm⟩ : ∃ m, 16 - k = m + 1 := ⟨15 - k, by omega⟩
  rw [hm]; rfl

set_option maxRecDepth 100000 in
set_option maxHeartbeats 4000000 in
theorem of_any (n : Nat) (w : World) (hn : n < 9223372036854775808) :
    Calls Tryd.prog 47 #[.int .i64 (n : Int)] w fun e w' => ∃ l, e = .returned (lgV false l) ∧ Digs l ∧ lval l = n ∧ Below w.heap.size w w' := by
  have q0 : ¬ ((n : Int) < 0) := by omega
  have e0 : IntKind.u64.wrap (n : Int) = (n : Int) := by rw [IntKind.wrap_u64]; omega
  go_enter Tryd.func47, Tryd.ntmps47
  go_wp2
  go_loopw [4, 5] (fun uv iv wr => ∃ (k : Nat), k ≤ 4 ∧ iv = .int .i64 k ∧ uv = .int .u64 ((n / 65536 ^ k : Nat) : Int) ∧ Hid (LgBlk wr w.heap.size false lg0 ∧ LgBlk wr (w.heap.size + 1) false (ofTo n k) ∧ Below w.heap.size w wr)) (fun _ iv _ => 4 - (intOf iv).toNat)
  case atStart =>
    have h1 := lgBlk_alloc w false lg0
    have h2 := lgBlk_alloc (w.alloc (.cells (lgCs false lg0) 78)) false lg0
    have a : ∀ (w : World) (o : Obj), Below w.heap.size w (w.alloc o) := fun w o => (Below.refl _ _).alloc (Nat.le_refl _) _
    simp only [show ∀ (w : World) (o : Obj), (w.alloc o).heap.size = w.heap.size + 1 from fun w o => by simp] at h2
    refine ⟨0, by omega, rfl, by simp, Lib.hid ?_⟩
    exact ⟨h1.below (a _ _), h2, Below.next (a _ _) (a _ _)⟩
  case round =>
    obtain ⟨k, hk, rfl, rfl, HW⟩ := hrel
    by_cases hlt : k < 4
    · have q1 : (k : Int) < 4 := by omega
      have q16 : (k : Int) < 16 := by omega
      have c3 := HW.out.2.1.dig (ofTo_at n k (by omega))
      have f3 := HW.out.2.1.free (1 + k)
      obtain ⟨s, hs⟩ : ∃ s : Nat, s = n / 65536 ^ k := ⟨_, rfl⟩
      have hb : s ≤ n := by rw [hs]; exact Nat.div_le_self _ _
      have HN := Lib.hid (show s / 65536 = n / 65536 ^ (k + 1) by rw [hs, Nat.div_div_eq_div_mul, Nat.pow_succ])
      have e3 : IntKind.u64.wrap ((s : Int) / 65536) = (s : Int) / 65536 := by rw [IntKind.wrap_u64]; omega
      have HP := Lib.hid (show LgBlk (wr.setCell ⟨w.heap.size + 1, 1 + k, none⟩ (.int .u64 ((s : Int) % 65536))) (w.heap.size + 1) false (ofTo n (k + 1)) from by
        have := LgBlk.put HW.out.2.1 k (s % 65536)
        rw [Int.natCast_emod, hs, ofTo_set n k (by omega)] at this; rw [hs]; exact this)
      have HO := Lib.hid (show LgBlk (wr.setCell ⟨w.heap.size + 1, 1 + k, none⟩ (.int .u64 ((s : Int) % 65536))) w.heap.size false lg0 from LgBlk.other HW.out.1 (by omega) _ _)
      rw [← hs]
      clear hs hb
      go_wp2
      go_roundw
      case rel => exact ⟨k + 1, by omega, by go_num, by rw [← HN.out]; rfl, Lib.hid ⟨HO.out, HP.out, HW.out.2.2.setCell (p := ⟨w.heap.size + 1, 1 + k, none⟩) (by show w.heap.size ≤ w.heap.size + 1; omega) _⟩⟩
      case measure => first | (simp [intOf]; done) | (simp [intOf]; omega)
    · obtain rfl : k = 4 := by omega
      have HD := Lib.hid (ofTo_digs n 4 (by omega))
      have HV := Lib.hid (show lval (ofTo n 4) = n from smallL_val n (by omega))
      have HR := Lib.hid (LgBlk.row HW.out.1 false (ofTo n 4))
      have HB := Lib.hid (show Below w.heap.size w (wr.setRow w.heap.size (lgCs false (ofTo n 4))) from below_row HW.out.2.2 (Nat.le_refl _) _)
      go_wp2_with (first
        | (with_reducible refine wpList_load_lg rfl (.tmp 3) rfl (w.heap.size + 1) false (ofTo n 4) rfl HW.out.2.1 HD.out ?_)
        | (with_reducible refine wpList_store_lg rfl (.tmp 2) (.tmp 28) rfl w.heap.size false false lg0 (ofTo n 4) rfl rfl HW.out.1 lg0_digs HD.out ?_))
      exact bodyPost_ret (v := lgV false (ofTo n 4)) (results_lg rfl _ _ w.heap.size false (ofTo n 4) rfl HR.out HD.out) rfl ⟨_, rfl, HD.out, HV.out, HB.out⟩

/-! ## as an int64 -/

theorem lval_top (l : List Nat) (j d : Nat) (h : l[j]? = some d) : lval (l.drop j) = d + 65536 * lval (l.drop (j + 1)) := by
  have h1 := List.getElem?_eq_some_iff.1 h
  rw [List.drop_eq_getElem_cons h1.1, h1.2, lval]
theorem lval_mod : ∀ (l : List Nat) (j : Nat), lval l = lval (l.take j) + 65536 ^ j * lval (l.drop j)
  | l, 0 => by simp [lval]
  | [], j + 1 => by simp [lval]
  | d :: l, j + 1 => by
    rw [List.take_succ_cons, List.drop_succ_cons, lval, lval, lval_mod l j, Nat.pow_succ, Nat.mul_add, Nat.mul_comm (65536 ^ j) 65536, Nat.mul_assoc]
    rw [Nat.add_assoc]

set_option maxRecDepth 100000 in
set_option maxHeartbeats 4000000 in
theorem fits_any (l : List Nat) (w : World) (hd : Digs l) (hl : lval l < 9223372036854775808) :
    Calls Tryd.prog 48 #[lgV false l] w fun e w' => e = .returned (.tuple #[.int .i64 (lval l : Int), .bool true]) ∧ Below w.heap.size w w' := by
  have HD := Lib.hid hd
  have HL := Lib.hid hl
  have HZ := Lib.hid (show ∀ k d, 4 ≤ k → l[k]? = some d → d = 0 from fun k d hk h => by
    have h1 := lval_digit l hd.2 k d h
    rw [Nat.div_eq_of_lt] at h1
    · simpa using h1.symm
    · have : 65536 ^ 4 ≤ 65536 ^ k := Nat.pow_le_pow_right (by decide) hk
      have e : (65536 : Nat) ^ 4 = 18446744073709551616 := by decide
      omega)
  clear hd hl
  go_enter Tryd.func48, Tryd.ntmps48
  go_wp2
  have HB := Lib.hid (show LgBlk (w.alloc (.cells (lgCs false l) 78)) w.heap.size false l ∧ Below w.heap.size w (w.alloc (.cells (lgCs false l) 78)) from ⟨lgBlk_alloc w false l, (Below.refl _ _).alloc (Nat.le_refl _) _⟩)
  go_loopw [4] (fun iv wr => ∃ (k : Nat), 4 ≤ k ∧ k ≤ 16 ∧ iv = .int .i64 k ∧ wr = w.alloc (.cells (lgCs false l) 78)) (fun iv _ => 16 - (intOf iv).toNat)
  case atStart => exact ⟨4, by omega, by omega, rfl, rfl⟩
  case round =>
    obtain ⟨k, hk4, hk, rfl, rfl⟩ := hrel
    by_cases hlt : k < 16
    · obtain ⟨a, ha, ha'⟩ := HD.out.at k hlt
      obtain rfl := HZ.out k a hk4 ha
      have q1 : (k : Int) < 16 := by omega
      have c1 := HB.out.1.dig ha
      clear ha ha'
      go_wp2
      go_roundw
      case rel => exact ⟨k + 1, by omega, by omega, by go_num, trivial⟩
      case measure => first | (simp [intOf]; done) | (simp [intOf]; omega)
    · obtain rfl : k = 16 := by omega
      clear hlt hk4
      go_wp2
      go_loopw [5, 6] (fun uv iv wr => ∃ (k : Nat), k ≤ 4 ∧ iv = .int .i64 ((k : Int) - 1) ∧ uv = .int .u64 ((lval (l.drop k) : Nat) : Int) ∧ wr = w.alloc (.cells (lgCs false l) 78)) (fun _ iv _ => (intOf iv + 1).toNat)
      case atStart =>
        refine ⟨4, by omega, by rfl, ?_, rfl⟩
        have : lval (l.drop 4) = 0 := by
          have h := lval_cut (l.drop 4) 0 fun k d _ hd => HZ.out (4 + k) d (by omega) (by rw [List.getElem?_drop] at hd; exact hd)
          rw [h]; rfl
        rw [this]; rfl
      case round =>
        obtain ⟨k, hk, rfl, rfl, rfl⟩ := hrel
        by_cases hlt : 0 < k
        · obtain ⟨j, rfl⟩ : ∃ j, k = j + 1 := ⟨k - 1, by omega⟩
          obtain ⟨a, ha, ha'⟩ := HD.out.at j (by omega)
          have c1 := HB.out.1.dig ha
          have ht := lval_top l j a ha
          obtain ⟨t, hT⟩ : ∃ t, t = lval (l.drop (j + 1)) := ⟨_, rfl⟩
          have hm := lval_mod l j
          have hs : lval (l.drop j) ≤ lval l := by
            rw [hm]
            exact Nat.le_trans (Nat.le_mul_of_pos_left _ (Nat.pow_pos (by decide))) (Nat.le_add_left _ _)
          have hl := HL.out
          rw [← hT] at ht
          have ej : ((j + 1 : Nat) : Int) - 1 = (j : Int) := by omega
          rw [ej, ← hT]
          have q1 : (0 : Int) ≤ (j : Int) := by omega
          have q16 : (j : Int) < 16 := by omega
          have e1 : IntKind.u64.wrap ((t : Int) * 65536) = (t : Int) * 65536 := by rw [IntKind.wrap_u64]; omega
          have e2 : IntKind.u64.wrap ((t : Int) * 65536 + (a : Int)) = ((lval (l.drop j) : Nat) : Int) := by rw [IntKind.wrap_u64]; omega
          clear ha ha' ht hm hs hl hT
          go_wp2
          go_roundw
          case rel => exact ⟨j, by omega, by go_num, rfl, trivial⟩
          case measure => first | (simp [intOf]; done) | (simp [intOf]; omega)
        · obtain rfl : k = 0 := by omega
          have s0 := HB.out.1.sign
          have hl := HL.out
          rw [List.drop_zero]
          obtain ⟨u, hu⟩ : ∃ u, u = lval l := ⟨_, rfl⟩
          rw [← hu] at hl ⊢
          have q5 : ¬ ((9223372036854775807 : Int) < (u : Int)) := by omega
          have e1 : IntKind.i64.wrap (u : Int) = (u : Int) := by rw [IntKind.wrap_i64]; omega
          clear hl hlt
          go_wp2
          go_ret2
          exact ⟨rfl, HB.out.2⟩

end Go.Proofs.YtlobohpbgghleaaDoor
