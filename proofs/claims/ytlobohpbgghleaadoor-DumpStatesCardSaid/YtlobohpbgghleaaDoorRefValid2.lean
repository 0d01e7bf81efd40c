import Derived.Test.YtlobohpbgghleaaDoorRefLines
namespace Go.Proofs.YtlobohpbgghleaaDoor
open Go.RowKit

theorem bounded_lined {s : St} (h : boundedB s = true) : linedB s.lines = true ∧ namedB s.who = true := by
  unfold boundedB at h
  simp only [Bool.and_eq_true] at h
  obtain ⟨h1, h2, h3, h4, h5, h7, h8, h9, h10, h11⟩ := h
  exact ⟨h5, h11⟩

set_option maxRecDepth 100000 in
set_option maxHeartbeats 16000000 in
theorem rv5_1 (s : St) (lv : Value) (w : World) (hr : LnRow w lv s.lines) (hw : s.who.length ≤ 281474976710656) (k1 : decide (s.order < 1) = false) (k2 : decide (1099511627776 < s.order) = false) (k3 : decide (s.status < 0) = false) (k4 : decide (5 < s.status) = false) (k5 : decide (s.cur < 0) = false) (k6 : decide (3 < s.cur) = false) (k7 : decide (s.tax < 0) = false) (k8 : decide (5000 < s.tax) = false) (e1 : decide (s.events < 0) = false) (e2 : decide (1099511627776 < s.events) = false) (e3 : decide (s.refused < 0) = false) (e4 : decide (s.events < s.refused) = false) (e5 : decide (s.stamp < 0) = false) (e6 : decide (1099511627776 < s.stamp) = false) (hn : namedB s.who = false) :
    Calls Tryd.prog 11 #[stV s lv] w fun e w' => e = .returned (.bool (validB s)) ∧ Below w.heap.size w w' := by
  have hv := Lib.hid (show validB s = false by rw [Bool.eq_false_iff]; intro h; have := (bounded_lined (valid_bounded h)).2; rw [hn] at this; cases this)
  obtain ⟨c, hc⟩ : ∃ c, c = evCheck 4 (evWho s.who) := ⟨_, rfl⟩
  have hcn : (c == 0) = namedB s.who := by rw [hc]; exact evWho_check 4 (.inl rfl) s.who
  have HC := Lib.hid (show ∀ W : World, Calls Tryd.prog 19 #[.int .i64 4, .agg #[.int .i64 1, .int .i64 1, .int .i64 0, .int .i64 0, .int .i64 0, .int .i64 0, .int .i64 0, .string ⟨s.who.toArray⟩, .int .i64 0, .string ⟨#[]⟩]] W (ChkPost c W) from fun W => hc ▸ refCheckB_any 4 (evWho s.who) W (evWho_ok s.who hw))
  have HLN := Lib.hid (show ∀ W : World, LnRow W lv s.lines → Calls Tryd.prog 20 #[stV s lv] W fun e w' => e = .returned (.bool (linedB s.lines)) ∧ Below W.heap.size W w' from fun W h => rlines_any s lv W h)
  have HE0 := Lib.hid (show StBlk (w.alloc (.cells (stCs s lv) 25)) w.heap.size s lv ∧ LnRow (w.alloc (.cells (stCs s lv) 25)) lv s.lines ∧ Below w.heap.size w (w.alloc (.cells (stCs s lv) 25)) from by
    have hb : Below w.heap.size w (w.alloc (.cells (stCs s lv) 25)) := (Below.refl _ _).alloc (Nat.le_refl _) _
    exact ⟨stBlk_alloc w s lv, hr.below hb, hb⟩)
  have c0 : (c != 0) = true := by rw [hn, beq_eq_false_iff_ne] at hcn; rw [bne_iff_ne]; exact hcn
  clear hc hcn hn hr hw
  go_enter Tryd.func11, Tryd.ntmps11
  go_wp2_with (first
    | (go_at_call 19; (with_reducible refine (HC.out _).mono ?_); rintro x w1 ⟨rfl, hb1⟩; have HE1 := Lib.hid (show StBlk w1 w.heap.size s lv ∧ LnRow w1 lv s.lines ∧ Below w.heap.size w w1 from ⟨HE0.out.1.below hb1, HE0.out.2.1.below hb1, Below.next HE0.out.2.2 hb1⟩); clear hb1; have z0 : w1.cell? ⟨w.heap.size, 0, none⟩ = some (.int .i64 s.order) := HE1.out.1.cell 0; have z1 : w1.cell? ⟨w.heap.size, 1, none⟩ = some (.int .i64 s.status) := HE1.out.1.cell 1; have z2 : w1.cell? ⟨w.heap.size, 2, none⟩ = some (.int .i64 s.prior) := HE1.out.1.cell 2; have z3 : w1.cell? ⟨w.heap.size, 3, none⟩ = some (.int .i64 s.cur) := HE1.out.1.cell 3; have z4 : w1.cell? ⟨w.heap.size, 4, none⟩ = some (.int .i64 s.tax) := HE1.out.1.cell 4; have z5 : w1.cell? ⟨w.heap.size, 5, none⟩ = some (lv) := HE1.out.1.cell 5; have z6 : w1.cell? ⟨w.heap.size, 6, none⟩ = some (.int .i64 s.paid) := HE1.out.1.cell 6; have z7 : w1.cell? ⟨w.heap.size, 7, none⟩ = some (.int .i64 s.refunded) := HE1.out.1.cell 7; have z8 : w1.cell? ⟨w.heap.size, 8, none⟩ = some (.int .i64 s.events) := HE1.out.1.cell 8; have z9 : w1.cell? ⟨w.heap.size, 9, none⟩ = some (.int .i64 s.refused) := HE1.out.1.cell 9; have z10 : w1.cell? ⟨w.heap.size, 10, none⟩ = some (.int .i64 s.stamp) := HE1.out.1.cell 10; have z11 : w1.cell? ⟨w.heap.size, 11, none⟩ = some (.string ⟨s.who.toArray⟩) := HE1.out.1.cell 11))
  go_ret
  exact ⟨by rw [hv.out]; rfl, HE1.out.2.2⟩

set_option maxRecDepth 100000 in
set_option maxHeartbeats 16000000 in
theorem rv5_2 (s : St) (lv : Value) (w : World) (hr : LnRow w lv s.lines) (hw : s.who.length ≤ 281474976710656) (k1 : decide (s.order < 1) = false) (k2 : decide (1099511627776 < s.order) = false) (k3 : decide (s.status < 0) = false) (k4 : decide (5 < s.status) = false) (k5 : decide (s.cur < 0) = false) (k6 : decide (3 < s.cur) = false) (k7 : decide (s.tax < 0) = false) (k8 : decide (5000 < s.tax) = false) (e1 : decide (s.events < 0) = false) (e2 : decide (1099511627776 < s.events) = false) (e3 : decide (s.refused < 0) = false) (e4 : decide (s.events < s.refused) = false) (e5 : decide (s.stamp < 0) = false) (e6 : decide (1099511627776 < s.stamp) = false) (hn : namedB s.who = true) (hl : linedB s.lines = false) :
    Calls Tryd.prog 11 #[stV s lv] w fun e w' => e = .returned (.bool (validB s)) ∧ Below w.heap.size w w' := by
  have hv := Lib.hid (show validB s = false by rw [Bool.eq_false_iff]; intro h; have := (bounded_lined (valid_bounded h)).1; rw [hl] at this; cases this)
  obtain ⟨c, hc⟩ : ∃ c, c = evCheck 4 (evWho s.who) := ⟨_, rfl⟩
  have hcn : (c == 0) = namedB s.who := by rw [hc]; exact evWho_check 4 (.inl rfl) s.who
  have HC := Lib.hid (show ∀ W : World, Calls Tryd.prog 19 #[.int .i64 4, .agg #[.int .i64 1, .int .i64 1, .int .i64 0, .int .i64 0, .int .i64 0, .int .i64 0, .int .i64 0, .string ⟨s.who.toArray⟩, .int .i64 0, .string ⟨#[]⟩]] W (ChkPost c W) from fun W => hc ▸ refCheckB_any 4 (evWho s.who) W (evWho_ok s.who hw))
  have HLN := Lib.hid (show ∀ W : World, LnRow W lv s.lines → Calls Tryd.prog 20 #[stV s lv] W fun e w' => e = .returned (.bool (linedB s.lines)) ∧ Below W.heap.size W w' from fun W h => rlines_any s lv W h)
  have HE0 := Lib.hid (show StBlk (w.alloc (.cells (stCs s lv) 25)) w.heap.size s lv ∧ LnRow (w.alloc (.cells (stCs s lv) 25)) lv s.lines ∧ Below w.heap.size w (w.alloc (.cells (stCs s lv) 25)) from by
    have hb : Below w.heap.size w (w.alloc (.cells (stCs s lv) 25)) := (Below.refl _ _).alloc (Nat.le_refl _) _
    exact ⟨stBlk_alloc w s lv, hr.below hb, hb⟩)
  have c0 : (c != 0) = false := by rw [hn, beq_iff_eq] at hcn; rw [bne_eq_false_iff_eq]; exact hcn
  rw [hl] at HLN
  clear hc hcn hn hl hr hw
  go_enter Tryd.func11, Tryd.ntmps11
  go_wp2_with (first
    | (go_at_call 19; (with_reducible refine (HC.out _).mono ?_); rintro x w1 ⟨rfl, hb1⟩; have HE1 := Lib.hid (show StBlk w1 w.heap.size s lv ∧ LnRow w1 lv s.lines ∧ Below w.heap.size w w1 from ⟨HE0.out.1.below hb1, HE0.out.2.1.below hb1, Below.next HE0.out.2.2 hb1⟩); clear hb1; have z0 : w1.cell? ⟨w.heap.size, 0, none⟩ = some (.int .i64 s.order) := HE1.out.1.cell 0; have z1 : w1.cell? ⟨w.heap.size, 1, none⟩ = some (.int .i64 s.status) := HE1.out.1.cell 1; have z2 : w1.cell? ⟨w.heap.size, 2, none⟩ = some (.int .i64 s.prior) := HE1.out.1.cell 2; have z3 : w1.cell? ⟨w.heap.size, 3, none⟩ = some (.int .i64 s.cur) := HE1.out.1.cell 3; have z4 : w1.cell? ⟨w.heap.size, 4, none⟩ = some (.int .i64 s.tax) := HE1.out.1.cell 4; have z5 : w1.cell? ⟨w.heap.size, 5, none⟩ = some (lv) := HE1.out.1.cell 5; have z6 : w1.cell? ⟨w.heap.size, 6, none⟩ = some (.int .i64 s.paid) := HE1.out.1.cell 6; have z7 : w1.cell? ⟨w.heap.size, 7, none⟩ = some (.int .i64 s.refunded) := HE1.out.1.cell 7; have z8 : w1.cell? ⟨w.heap.size, 8, none⟩ = some (.int .i64 s.events) := HE1.out.1.cell 8; have z9 : w1.cell? ⟨w.heap.size, 9, none⟩ = some (.int .i64 s.refused) := HE1.out.1.cell 9; have z10 : w1.cell? ⟨w.heap.size, 10, none⟩ = some (.int .i64 s.stamp) := HE1.out.1.cell 10; have z11 : w1.cell? ⟨w.heap.size, 11, none⟩ = some (.string ⟨s.who.toArray⟩) := HE1.out.1.cell 11)
    | (with_reducible refine wpList_load_st rfl (.tmp 1) rfl w.heap.size s lv rfl HE1.out.1 ?_)
    | (go_at_call 20; refine (HLN.out _ HE1.out.2.1).mono ?_; rintro x w2 ⟨rfl, hb2⟩; have HE2 := Lib.hid (show StBlk w2 w.heap.size s lv ∧ LnRow w2 lv s.lines ∧ Below w.heap.size w w2 from ⟨HE1.out.1.below hb2, HE1.out.2.1.below hb2, Below.next HE1.out.2.2 hb2⟩); clear hb2))
  go_ret
  exact ⟨by rw [hv.out]; rfl, HE2.out.2.2⟩

set_option maxRecDepth 100000 in
set_option maxHeartbeats 16000000 in
theorem rv7_1 (s : St) (lv : Value) (w : World) (hr : LnRow w lv s.lines) (hw : s.who.length ≤ 281474976710656) (k1 : decide (s.order < 1) = false) (k2 : decide (1099511627776 < s.order) = false) (k3 : decide (s.status < 0) = false) (k4 : decide (5 < s.status) = false) (k5 : decide (s.cur < 0) = false) (k6 : decide (3 < s.cur) = false) (k7 : decide (s.tax < 0) = false) (k8 : decide (5000 < s.tax) = false) (e1 : decide (s.events < 0) = false) (e2 : decide (1099511627776 < s.events) = false) (e3 : decide (s.refused < 0) = false) (e4 : decide (s.events < s.refused) = false) (e5 : decide (s.stamp < 0) = false) (e6 : decide (1099511627776 < s.stamp) = false) (hn : namedB s.who = true) (hl : linedB s.lines = true) (q1 : decide (s.refunded < 0) = true) :
    Calls Tryd.prog 11 #[stV s lv] w fun e w' => e = .returned (.bool (validB s)) ∧ Below w.heap.size w w' := by
  have hv := Lib.hid (show validB s = false by
    rw [Bool.eq_false_iff]
    intro h
    have hb := bounded_p (valid_bounded h)
    have h1 := hb.order; have h2 := hb.status; have h3 := hb.cur; have h4 := hb.tax; have h5 := hb.refunded; have h6 := hb.events; have h7 := hb.refused; have h8 := hb.stamp
    simp only [decide_eq_true_eq] at q1
    omega)
  obtain ⟨c, hc⟩ : ∃ c, c = evCheck 4 (evWho s.who) := ⟨_, rfl⟩
  have hcn : (c == 0) = namedB s.who := by rw [hc]; exact evWho_check 4 (.inl rfl) s.who
  have HC := Lib.hid (show ∀ W : World, Calls Tryd.prog 19 #[.int .i64 4, .agg #[.int .i64 1, .int .i64 1, .int .i64 0, .int .i64 0, .int .i64 0, .int .i64 0, .int .i64 0, .string ⟨s.who.toArray⟩, .int .i64 0, .string ⟨#[]⟩]] W (ChkPost c W) from fun W => hc ▸ refCheckB_any 4 (evWho s.who) W (evWho_ok s.who hw))
  have HLN := Lib.hid (show ∀ W : World, LnRow W lv s.lines → Calls Tryd.prog 20 #[stV s lv] W fun e w' => e = .returned (.bool (linedB s.lines)) ∧ Below W.heap.size W w' from fun W h => rlines_any s lv W h)
  have HE0 := Lib.hid (show StBlk (w.alloc (.cells (stCs s lv) 25)) w.heap.size s lv ∧ LnRow (w.alloc (.cells (stCs s lv) 25)) lv s.lines ∧ Below w.heap.size w (w.alloc (.cells (stCs s lv) 25)) from by
    have hb : Below w.heap.size w (w.alloc (.cells (stCs s lv) 25)) := (Below.refl _ _).alloc (Nat.le_refl _) _
    exact ⟨stBlk_alloc w s lv, hr.below hb, hb⟩)
  have c0 : (c != 0) = false := by rw [hn, beq_iff_eq] at hcn; rw [bne_eq_false_iff_eq]; exact hcn
  rw [hl] at HLN
  clear hc hcn hn hl hr hw
  go_enter Tryd.func11, Tryd.ntmps11
  go_wp2_with (first
    | (go_at_call 19; (with_reducible refine (HC.out _).mono ?_); rintro x w1 ⟨rfl, hb1⟩; have HE1 := Lib.hid (show StBlk w1 w.heap.size s lv ∧ LnRow w1 lv s.lines ∧ Below w.heap.size w w1 from ⟨HE0.out.1.below hb1, HE0.out.2.1.below hb1, Below.next HE0.out.2.2 hb1⟩); clear hb1; have z0 : w1.cell? ⟨w.heap.size, 0, none⟩ = some (.int .i64 s.order) := HE1.out.1.cell 0; have z1 : w1.cell? ⟨w.heap.size, 1, none⟩ = some (.int .i64 s.status) := HE1.out.1.cell 1; have z2 : w1.cell? ⟨w.heap.size, 2, none⟩ = some (.int .i64 s.prior) := HE1.out.1.cell 2; have z3 : w1.cell? ⟨w.heap.size, 3, none⟩ = some (.int .i64 s.cur) := HE1.out.1.cell 3; have z4 : w1.cell? ⟨w.heap.size, 4, none⟩ = some (.int .i64 s.tax) := HE1.out.1.cell 4; have z5 : w1.cell? ⟨w.heap.size, 5, none⟩ = some (lv) := HE1.out.1.cell 5; have z6 : w1.cell? ⟨w.heap.size, 6, none⟩ = some (.int .i64 s.paid) := HE1.out.1.cell 6; have z7 : w1.cell? ⟨w.heap.size, 7, none⟩ = some (.int .i64 s.refunded) := HE1.out.1.cell 7; have z8 : w1.cell? ⟨w.heap.size, 8, none⟩ = some (.int .i64 s.events) := HE1.out.1.cell 8; have z9 : w1.cell? ⟨w.heap.size, 9, none⟩ = some (.int .i64 s.refused) := HE1.out.1.cell 9; have z10 : w1.cell? ⟨w.heap.size, 10, none⟩ = some (.int .i64 s.stamp) := HE1.out.1.cell 10; have z11 : w1.cell? ⟨w.heap.size, 11, none⟩ = some (.string ⟨s.who.toArray⟩) := HE1.out.1.cell 11)
    | (with_reducible refine wpList_load_st rfl (.tmp 1) rfl w.heap.size s lv rfl HE1.out.1 ?_)
    | (go_at_call 20; refine (HLN.out _ HE1.out.2.1).mono ?_; rintro x w2 ⟨rfl, hb2⟩; have HE2 := Lib.hid (show StBlk w2 w.heap.size s lv ∧ LnRow w2 lv s.lines ∧ Below w.heap.size w w2 from ⟨HE1.out.1.below hb2, HE1.out.2.1.below hb2, Below.next HE1.out.2.2 hb2⟩); clear hb2))
  have c6 : w2.cell? ⟨w.heap.size, 6, none⟩ = some (.int .i64 s.paid) := HE2.out.1.cell 6
  have c7 : w2.cell? ⟨w.heap.size, 7, none⟩ = some (.int .i64 s.refunded) := HE2.out.1.cell 7
  go_quiet (fail)
  go_wp2
  go_ret
  exact ⟨by rw [hv.out]; rfl, Below.next HE2.out.2.2 (below_drewN' _ _)⟩

set_option maxRecDepth 100000 in
set_option maxHeartbeats 16000000 in
theorem rv7_2 (s : St) (lv : Value) (w : World) (hr : LnRow w lv s.lines) (hw : s.who.length ≤ 281474976710656) (k1 : decide (s.order < 1) = false) (k2 : decide (1099511627776 < s.order) = false) (k3 : decide (s.status < 0) = false) (k4 : decide (5 < s.status) = false) (k5 : decide (s.cur < 0) = false) (k6 : decide (3 < s.cur) = false) (k7 : decide (s.tax < 0) = false) (k8 : decide (5000 < s.tax) = false) (e1 : decide (s.events < 0) = false) (e2 : decide (1099511627776 < s.events) = false) (e3 : decide (s.refused < 0) = false) (e4 : decide (s.events < s.refused) = false) (e5 : decide (s.stamp < 0) = false) (e6 : decide (1099511627776 < s.stamp) = false) (hn : namedB s.who = true) (hl : linedB s.lines = true) (q1 : decide (s.refunded < 0) = false) (q2 : decide (s.paid < s.refunded) = true) :
    Calls Tryd.prog 11 #[stV s lv] w fun e w' => e = .returned (.bool (validB s)) ∧ Below w.heap.size w w' := by
  have hv := Lib.hid (show validB s = false by
    rw [Bool.eq_false_iff]
    intro h
    have hb := bounded_p (valid_bounded h)
    have h1 := hb.order; have h2 := hb.status; have h3 := hb.cur; have h4 := hb.tax; have h5 := hb.refunded; have h6 := hb.events; have h7 := hb.refused; have h8 := hb.stamp
    simp only [decide_eq_true_eq] at q2
    omega)
  obtain ⟨c, hc⟩ : ∃ c, c = evCheck 4 (evWho s.who) := ⟨_, rfl⟩
  have hcn : (c == 0) = namedB s.who := by rw [hc]; exact evWho_check 4 (.inl rfl) s.who
  have HC := Lib.hid (show ∀ W : World, Calls Tryd.prog 19 #[.int .i64 4, .agg #[.int .i64 1, .int .i64 1, .int .i64 0, .int .i64 0, .int .i64 0, .int .i64 0, .int .i64 0, .string ⟨s.who.toArray⟩, .int .i64 0, .string ⟨#[]⟩]] W (ChkPost c W) from fun W => hc ▸ refCheckB_any 4 (evWho s.who) W (evWho_ok s.who hw))
  have HLN := Lib.hid (show ∀ W : World, LnRow W lv s.lines → Calls Tryd.prog 20 #[stV s lv] W fun e w' => e = .returned (.bool (linedB s.lines)) ∧ Below W.heap.size W w' from fun W h => rlines_any s lv W h)
  have HE0 := Lib.hid (show StBlk (w.alloc (.cells (stCs s lv) 25)) w.heap.size s lv ∧ LnRow (w.alloc (.cells (stCs s lv) 25)) lv s.lines ∧ Below w.heap.size w (w.alloc (.cells (stCs s lv) 25)) from by
    have hb : Below w.heap.size w (w.alloc (.cells (stCs s lv) 25)) := (Below.refl _ _).alloc (Nat.le_refl _) _
    exact ⟨stBlk_alloc w s lv, hr.below hb, hb⟩)
  have c0 : (c != 0) = false := by rw [hn, beq_iff_eq] at hcn; rw [bne_eq_false_iff_eq]; exact hcn
  rw [hl] at HLN
  clear hc hcn hn hl hr hw
  go_enter Tryd.func11, Tryd.ntmps11
  go_wp2_with (first
    | (go_at_call 19; (with_reducible refine (HC.out _).mono ?_); rintro x w1 ⟨rfl, hb1⟩; have HE1 := Lib.hid (show StBlk w1 w.heap.size s lv ∧ LnRow w1 lv s.lines ∧ Below w.heap.size w w1 from ⟨HE0.out.1.below hb1, HE0.out.2.1.below hb1, Below.next HE0.out.2.2 hb1⟩); clear hb1; have z0 : w1.cell? ⟨w.heap.size, 0, none⟩ = some (.int .i64 s.order) := HE1.out.1.cell 0; have z1 : w1.cell? ⟨w.heap.size, 1, none⟩ = some (.int .i64 s.status) := HE1.out.1.cell 1; have z2 : w1.cell? ⟨w.heap.size, 2, none⟩ = some (.int .i64 s.prior) := HE1.out.1.cell 2; have z3 : w1.cell? ⟨w.heap.size, 3, none⟩ = some (.int .i64 s.cur) := HE1.out.1.cell 3; have z4 : w1.cell? ⟨w.heap.size, 4, none⟩ = some (.int .i64 s.tax) := HE1.out.1.cell 4; have z5 : w1.cell? ⟨w.heap.size, 5, none⟩ = some (lv) := HE1.out.1.cell 5; have z6 : w1.cell? ⟨w.heap.size, 6, none⟩ = some (.int .i64 s.paid) := HE1.out.1.cell 6; have z7 : w1.cell? ⟨w.heap.size, 7, none⟩ = some (.int .i64 s.refunded) := HE1.out.1.cell 7; have z8 : w1.cell? ⟨w.heap.size, 8, none⟩ = some (.int .i64 s.events) := HE1.out.1.cell 8; have z9 : w1.cell? ⟨w.heap.size, 9, none⟩ = some (.int .i64 s.refused) := HE1.out.1.cell 9; have z10 : w1.cell? ⟨w.heap.size, 10, none⟩ = some (.int .i64 s.stamp) := HE1.out.1.cell 10; have z11 : w1.cell? ⟨w.heap.size, 11, none⟩ = some (.string ⟨s.who.toArray⟩) := HE1.out.1.cell 11)
    | (with_reducible refine wpList_load_st rfl (.tmp 1) rfl w.heap.size s lv rfl HE1.out.1 ?_)
    | (go_at_call 20; refine (HLN.out _ HE1.out.2.1).mono ?_; rintro x w2 ⟨rfl, hb2⟩; have HE2 := Lib.hid (show StBlk w2 w.heap.size s lv ∧ LnRow w2 lv s.lines ∧ Below w.heap.size w w2 from ⟨HE1.out.1.below hb2, HE1.out.2.1.below hb2, Below.next HE1.out.2.2 hb2⟩); clear hb2))
  have c6 : w2.cell? ⟨w.heap.size, 6, none⟩ = some (.int .i64 s.paid) := HE2.out.1.cell 6
  have c7 : w2.cell? ⟨w.heap.size, 7, none⟩ = some (.int .i64 s.refunded) := HE2.out.1.cell 7
  go_quiet (fail)
  go_wp2
  go_ret
  exact ⟨by rw [hv.out]; rfl, Below.next HE2.out.2.2 (below_drewN' _ _)⟩

set_option maxRecDepth 100000 in
set_option maxHeartbeats 16000000 in
theorem rv7_3 (s : St) (lv : Value) (w : World) (hr : LnRow w lv s.lines) (hw : s.who.length ≤ 281474976710656) (k1 : decide (s.order < 1) = false) (k2 : decide (1099511627776 < s.order) = false) (k3 : decide (s.status < 0) = false) (k4 : decide (5 < s.status) = false) (k5 : decide (s.cur < 0) = false) (k6 : decide (3 < s.cur) = false) (k7 : decide (s.tax < 0) = false) (k8 : decide (5000 < s.tax) = false) (e1 : decide (s.events < 0) = false) (e2 : decide (1099511627776 < s.events) = false) (e3 : decide (s.refused < 0) = false) (e4 : decide (s.events < s.refused) = false) (e5 : decide (s.stamp < 0) = false) (e6 : decide (1099511627776 < s.stamp) = false) (hn : namedB s.who = true) (hl : linedB s.lines = true) (q1 : decide (s.refunded < 0) = false) (q2 : decide (s.paid < s.refunded) = false) (q3 : decide (s.paid < 0) = true) :
    Calls Tryd.prog 11 #[stV s lv] w fun e w' => e = .returned (.bool (validB s)) ∧ Below w.heap.size w w' := by
  have hv := Lib.hid (show validB s = false by
    rw [Bool.eq_false_iff]
    intro h
    have hb := bounded_p (valid_bounded h)
    have h1 := hb.order; have h2 := hb.status; have h3 := hb.cur; have h4 := hb.tax; have h5 := hb.refunded; have h6 := hb.events; have h7 := hb.refused; have h8 := hb.stamp
    simp only [decide_eq_true_eq] at q3
    omega)
  obtain ⟨c, hc⟩ : ∃ c, c = evCheck 4 (evWho s.who) := ⟨_, rfl⟩
  have hcn : (c == 0) = namedB s.who := by rw [hc]; exact evWho_check 4 (.inl rfl) s.who
  have HC := Lib.hid (show ∀ W : World, Calls Tryd.prog 19 #[.int .i64 4, .agg #[.int .i64 1, .int .i64 1, .int .i64 0, .int .i64 0, .int .i64 0, .int .i64 0, .int .i64 0, .string ⟨s.who.toArray⟩, .int .i64 0, .string ⟨#[]⟩]] W (ChkPost c W) from fun W => hc ▸ refCheckB_any 4 (evWho s.who) W (evWho_ok s.who hw))
  have HLN := Lib.hid (show ∀ W : World, LnRow W lv s.lines → Calls Tryd.prog 20 #[stV s lv] W fun e w' => e = .returned (.bool (linedB s.lines)) ∧ Below W.heap.size W w' from fun W h => rlines_any s lv W h)
  have HE0 := Lib.hid (show StBlk (w.alloc (.cells (stCs s lv) 25)) w.heap.size s lv ∧ LnRow (w.alloc (.cells (stCs s lv) 25)) lv s.lines ∧ Below w.heap.size w (w.alloc (.cells (stCs s lv) 25)) from by
    have hb : Below w.heap.size w (w.alloc (.cells (stCs s lv) 25)) := (Below.refl _ _).alloc (Nat.le_refl _) _
    exact ⟨stBlk_alloc w s lv, hr.below hb, hb⟩)
  have c0 : (c != 0) = false := by rw [hn, beq_iff_eq] at hcn; rw [bne_eq_false_iff_eq]; exact hcn
  rw [hl] at HLN
  clear hc hcn hn hl hr hw
  go_enter Tryd.func11, Tryd.ntmps11
  go_wp2_with (first
    | (go_at_call 19; (with_reducible refine (HC.out _).mono ?_); rintro x w1 ⟨rfl, hb1⟩; have HE1 := Lib.hid (show StBlk w1 w.heap.size s lv ∧ LnRow w1 lv s.lines ∧ Below w.heap.size w w1 from ⟨HE0.out.1.below hb1, HE0.out.2.1.below hb1, Below.next HE0.out.2.2 hb1⟩); clear hb1; have z0 : w1.cell? ⟨w.heap.size, 0, none⟩ = some (.int .i64 s.order) := HE1.out.1.cell 0; have z1 : w1.cell? ⟨w.heap.size, 1, none⟩ = some (.int .i64 s.status) := HE1.out.1.cell 1; have z2 : w1.cell? ⟨w.heap.size, 2, none⟩ = some (.int .i64 s.prior) := HE1.out.1.cell 2; have z3 : w1.cell? ⟨w.heap.size, 3, none⟩ = some (.int .i64 s.cur) := HE1.out.1.cell 3; have z4 : w1.cell? ⟨w.heap.size, 4, none⟩ = some (.int .i64 s.tax) := HE1.out.1.cell 4; have z5 : w1.cell? ⟨w.heap.size, 5, none⟩ = some (lv) := HE1.out.1.cell 5; have z6 : w1.cell? ⟨w.heap.size, 6, none⟩ = some (.int .i64 s.paid) := HE1.out.1.cell 6; have z7 : w1.cell? ⟨w.heap.size, 7, none⟩ = some (.int .i64 s.refunded) := HE1.out.1.cell 7; have z8 : w1.cell? ⟨w.heap.size, 8, none⟩ = some (.int .i64 s.events) := HE1.out.1.cell 8; have z9 : w1.cell? ⟨w.heap.size, 9, none⟩ = some (.int .i64 s.refused) := HE1.out.1.cell 9; have z10 : w1.cell? ⟨w.heap.size, 10, none⟩ = some (.int .i64 s.stamp) := HE1.out.1.cell 10; have z11 : w1.cell? ⟨w.heap.size, 11, none⟩ = some (.string ⟨s.who.toArray⟩) := HE1.out.1.cell 11)
    | (with_reducible refine wpList_load_st rfl (.tmp 1) rfl w.heap.size s lv rfl HE1.out.1 ?_)
    | (go_at_call 20; refine (HLN.out _ HE1.out.2.1).mono ?_; rintro x w2 ⟨rfl, hb2⟩; have HE2 := Lib.hid (show StBlk w2 w.heap.size s lv ∧ LnRow w2 lv s.lines ∧ Below w.heap.size w w2 from ⟨HE1.out.1.below hb2, HE1.out.2.1.below hb2, Below.next HE1.out.2.2 hb2⟩); clear hb2))
  have c6 : w2.cell? ⟨w.heap.size, 6, none⟩ = some (.int .i64 s.paid) := HE2.out.1.cell 6
  have c7 : w2.cell? ⟨w.heap.size, 7, none⟩ = some (.int .i64 s.refunded) := HE2.out.1.cell 7
  go_quiet (fail)
  go_wp2
  go_ret
  exact ⟨by rw [hv.out]; rfl, Below.next HE2.out.2.2 (below_drewN' _ _)⟩

end Go.Proofs.YtlobohpbgghleaaDoor
