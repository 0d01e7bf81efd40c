import Derived.Test.YtecmpmnidlfgnaaGreatDoorScriptCmd
namespace Go.Proofs.YtecmpmnidlfgnaaGreatDoor
open Go.RowKit

/-! ## script.Line -/


set_option maxRecDepth 100000 in
set_option maxHeartbeats 16000000 in
theorem lineS_100 (c : Cmd) (nv rv : Value) (w : World) (hs : CmSl w c nv rv) (h : shapeV c.verb = 6 ∨ countOk (shapeV c.verb) c.nums.length = false) :
    Calls Tryz.prog 30 #[cmV c nv rv] w (WordsPost (cmdLine c) w) := by
  have HF := Lib.hid (cmdLine_100 h)
  obtain ⟨oa, cap, rfl, hl1, hl2⟩ := hs.1.at
  obtain ⟨ob, cb, rfl, hl3⟩ := hs.2.at
  have HB0 := Lib.hid (show Below w.heap.size w (w.alloc (.cells (cmCs c (.slice oa c.nums.length cap) (.slice ob c.raw.length cb)) 59)) from (Below.refl _ _).alloc (Nat.le_refl _) _)
  have HC0 := Lib.hid (cmBlk_alloc w c (.slice oa c.nums.length cap) (.slice ob c.raw.length cb))
  have HS0 := Lib.hid (hs.below HB0.out)
  unfold cmCs at HB0 HC0 HS0
  clear hs
  go_enter Tryz.func30, Tryz.ntmps30
  go_wp2_with fail
  generalize w.alloc (.cells #[.string ⟨c.verb.toArray⟩, .slice oa c.nums.length cap, .int .i64 c.ev.kind, .int .i64 c.ev.order, .int .i64 c.ev.item, .int .i64 c.ev.qty, .int .i64 c.ev.price, .int .i64 c.ev.cur, .int .i64 c.ev.tax, .string ⟨c.ev.who.toArray⟩, .int .i64 c.ev.stamp, .string ⟨c.ev.note.toArray⟩, .slice ob c.raw.length cb] 59) = w0 at *
  refine (shapeOf_any _ _).mono ?_
  rintro x w1 ⟨rfl, rfl⟩
  have c1 : w0.cell? ⟨w.heap.size, 1, none⟩ = some (.slice oa c.nums.length cap) := HC0.out.cell 1
  by_cases h6 : shapeV c.verb = 6
  · have k6 : ((shapeV c.verb : Int) == 6) = true := by rw [beq_iff_eq]; omega
    clear h h6
    go_wp2
    go_ret2
    exact ⟨by rw [HF.out]; rfl, HB0.out⟩
  · have k6 : ((shapeV c.verb : Int) == 6) = false := by rw [beq_eq_false_iff_ne]; omega
    have hc := h.resolve_left h6
    clear h h6
    go_wp2_with (go_at_call 67; (with_reducible refine (counted_any (shapeV c.verb) c.nums.length _ (shape_le _)).mono ?_); rintro x w2 ⟨rfl, rfl⟩)
    go_ret2
    exact ⟨by rw [HF.out]; rfl, HB0.out⟩

set_option maxRecDepth 100000 in
set_option maxHeartbeats 16000000 in
theorem lineS_32 (c : Cmd) (nv rv : Value) (w : World) (hs : CmSl w c nv rv) (h6 : ¬ (shapeV c.verb = 6 ∨ countOk (shapeV c.verb) c.nums.length = false)) (h : (shapeV c.verb ≠ 4 ∧ c.ev ≠ evNone) ∨ (shapeV c.verb ≠ 5 ∧ c.raw ≠ [])) :
    Calls Tryz.prog 30 #[cmV c nv rv] w (WordsPost (cmdLine c) w) := by
  have HF := Lib.hid (cmdLine_32 h6 h)
  obtain ⟨oa, cap, rfl, hl1, hl2⟩ := hs.1.at
  obtain ⟨ob, cb, rfl, hl3⟩ := hs.2.at
  have HB0 := Lib.hid (show Below w.heap.size w (w.alloc (.cells (cmCs c (.slice oa c.nums.length cap) (.slice ob c.raw.length cb)) 59)) from (Below.refl _ _).alloc (Nat.le_refl _) _)
  have HC0 := Lib.hid (cmBlk_alloc w c (.slice oa c.nums.length cap) (.slice ob c.raw.length cb))
  have HS0 := Lib.hid (hs.below HB0.out)
  unfold cmCs at HB0 HC0 HS0
  clear hs
  go_enter Tryz.func30, Tryz.ntmps30
  go_wp2_with fail
  generalize w.alloc (.cells #[.string ⟨c.verb.toArray⟩, .slice oa c.nums.length cap, .int .i64 c.ev.kind, .int .i64 c.ev.order, .int .i64 c.ev.item, .int .i64 c.ev.qty, .int .i64 c.ev.price, .int .i64 c.ev.cur, .int .i64 c.ev.tax, .string ⟨c.ev.who.toArray⟩, .int .i64 c.ev.stamp, .string ⟨c.ev.note.toArray⟩, .slice ob c.raw.length cb] 59) = w0 at *
  refine (shapeOf_any _ _).mono ?_
  rintro x w1 ⟨rfl, rfl⟩
  have c0v : w0.cell? ⟨w.heap.size, 0, none⟩ = some (.string ⟨c.verb.toArray⟩) := HC0.out.cell 0
  have c1 : w0.cell? ⟨w.heap.size, 1, none⟩ = some (.slice oa c.nums.length cap) := HC0.out.cell 1
  have c12 : w0.cell? ⟨w.heap.size, 12, none⟩ = some (.slice ob c.raw.length cb) := HC0.out.cell 12
  obtain ⟨f0, f1, f2, f3, f4, f5, f6, f7, f8, f9⟩ := HC0.out.evs
  have k6 : ((shapeV c.verb : Int) == 6) = false := by rw [beq_eq_false_iff_ne]; intro h; exact h6 (.inl (by omega))
  have hc : countOk (shapeV c.verb) c.nums.length = true := by simpa using fun x => h6 (.inr x)
  clear h6
  by_cases hx : shapeV c.verb ≠ 4 ∧ c.ev ≠ evNone
  · have he := hx.2
    have k4 : ((shapeV c.verb : Int) != 4) = true := by rw [bne_iff_ne]; have := hx.1; omega
    have heq : ∀ w : World, (binOp .neq 24 (.agg #[.int .i64 c.ev.kind, .int .i64 c.ev.order, .int .i64 c.ev.item, .int .i64 c.ev.qty, .int .i64 c.ev.price, .int .i64 c.ev.cur, .int .i64 c.ev.tax, .string ⟨c.ev.who.toArray⟩, .int .i64 c.ev.stamp, .string ⟨c.ev.note.toArray⟩]) (.agg #[.int .i64 0, .int .i64 0, .int .i64 0, .int .i64 0, .int .i64 0, .int .i64 0, .int .i64 0, .string ⟨#[]⟩, .int .i64 0, .string ⟨#[]⟩])).run Tryz.prog w = .ok (.bool true) w := fun w => by
      have h := run_evNeq c.ev evNone w
      rw [show evSame c.ev evNone = false from by rw [Bool.eq_false_iff]; intro h; exact he ((evSame_iff _ _).1 h)] at h
      exact h
    clear h hx he
    go_wp2_with (first | (go_at_call 67; (with_reducible refine (counted_any (shapeV c.verb) c.nums.length _ (shape_le _)).mono ?_); rintro x w2 ⟨rfl, rfl⟩) | rw [heq])
    go_ret2
    exact ⟨by rw [HF.out]; rfl, HB0.out⟩
  · have hy := h.resolve_left hx
    have k5 : ((shapeV c.verb : Int) != 5) = true := by rw [bne_iff_ne]; have := hy.1; omega
    have kr : 0 < c.raw.length := List.length_pos_iff.2 hy.2
    by_cases h4 : shapeV c.verb = 4
    · have k4 : ((shapeV c.verb : Int) != 4) = false := by rw [bne_eq_false_iff_eq]; omega
      clear h hx hy h4
      go_wp2_with (go_at_call 67; (with_reducible refine (counted_any (shapeV c.verb) c.nums.length _ (shape_le _)).mono ?_); rintro x w2 ⟨rfl, rfl⟩)
      go_ret2
      exact ⟨by rw [HF.out]; rfl, HB0.out⟩
    · have k4 : ((shapeV c.verb : Int) != 4) = true := by rw [bne_iff_ne]; omega
      have he : c.ev = evNone := Classical.byContradiction fun x => hx ⟨h4, x⟩
      have heq : ∀ w : World, (binOp .neq 24 (.agg #[.int .i64 c.ev.kind, .int .i64 c.ev.order, .int .i64 c.ev.item, .int .i64 c.ev.qty, .int .i64 c.ev.price, .int .i64 c.ev.cur, .int .i64 c.ev.tax, .string ⟨c.ev.who.toArray⟩, .int .i64 c.ev.stamp, .string ⟨c.ev.note.toArray⟩]) (.agg #[.int .i64 0, .int .i64 0, .int .i64 0, .int .i64 0, .int .i64 0, .int .i64 0, .int .i64 0, .string ⟨#[]⟩, .int .i64 0, .string ⟨#[]⟩])).run Tryz.prog w = .ok (.bool false) w := fun w => by
        have h := run_evNeq c.ev evNone w
        rw [show evSame c.ev evNone = true from (evSame_iff _ _).2 he] at h
        exact h
      clear h hx hy h4 he
      go_wp2_with (first | (go_at_call 67; (with_reducible refine (counted_any (shapeV c.verb) c.nums.length _ (shape_le _)).mono ?_); rintro x w2 ⟨rfl, rfl⟩) | rw [heq])
      go_ret2
      exact ⟨by rw [HF.out]; rfl, HB0.out⟩

set_option maxRecDepth 100000 in
set_option maxHeartbeats 16000000 in
theorem lineS_4 (c : Cmd) (nv rv : Value) (w : World) (hs : CmSl w c nv rv) (hok : CmOk 1048576 c) (hL : LibV w) (h6 : ¬ (shapeV c.verb = 6 ∨ countOk (shapeV c.verb) c.nums.length = false)) (h : ¬ ((shapeV c.verb ≠ 4 ∧ c.ev ≠ evNone) ∨ (shapeV c.verb ≠ 5 ∧ c.raw ≠ []))) (h4 : shapeV c.verb = 4) :
    Calls Tryz.prog 30 #[cmV c nv rv] w (WordsPost (cmdLine c) w) := by
  have HF := Lib.hid (cmdLine_main h6 h)
  rw [if_pos h4] at HF
  have HL := Lib.hid hL
  have HOK := Lib.hid hok
  obtain ⟨oa, cap, rfl, hl1, hl2⟩ := hs.1.at
  obtain ⟨ob, cb, rfl, hl3⟩ := hs.2.at
  have HB0 := Lib.hid (show Below w.heap.size w (w.alloc (.cells (cmCs c (.slice oa c.nums.length cap) (.slice ob c.raw.length cb)) 59)) from (Below.refl _ _).alloc (Nat.le_refl _) _)
  have HC0 := Lib.hid (cmBlk_alloc w c (.slice oa c.nums.length cap) (.slice ob c.raw.length cb))
  have HS0 := Lib.hid (hs.below HB0.out)
  unfold cmCs at HB0 HC0 HS0
  clear hs
  go_enter Tryz.func30, Tryz.ntmps30
  go_wp2_with fail
  generalize w.alloc (.cells #[.string ⟨c.verb.toArray⟩, .slice oa c.nums.length cap, .int .i64 c.ev.kind, .int .i64 c.ev.order, .int .i64 c.ev.item, .int .i64 c.ev.qty, .int .i64 c.ev.price, .int .i64 c.ev.cur, .int .i64 c.ev.tax, .string ⟨c.ev.who.toArray⟩, .int .i64 c.ev.stamp, .string ⟨c.ev.note.toArray⟩, .slice ob c.raw.length cb] 59) = w0 at *
  refine (shapeOf_any _ _).mono ?_
  rintro x w1 ⟨rfl, rfl⟩
  have c0v : w0.cell? ⟨w.heap.size, 0, none⟩ = some (.string ⟨c.verb.toArray⟩) := HC0.out.cell 0
  have c1 : w0.cell? ⟨w.heap.size, 1, none⟩ = some (.slice oa c.nums.length cap) := HC0.out.cell 1
  have c12 : w0.cell? ⟨w.heap.size, 12, none⟩ = some (.slice ob c.raw.length cb) := HC0.out.cell 12
  obtain ⟨f0, f1, f2, f3, f4, f5, f6, f7, f8, f9⟩ := HC0.out.evs
  have k6 : ((shapeV c.verb : Int) == 6) = false := by rw [beq_eq_false_iff_ne]; intro h; exact h6 (.inl (by omega))
  have hc : countOk (shapeV c.verb) c.nums.length = true := by simpa using fun x => h6 (.inr x)
  have k4 : ((shapeV c.verb : Int) != 4) = false := by rw [bne_eq_false_iff_eq]; omega
  have k4e : ((shapeV c.verb : Int) == 4) = true := by rw [beq_iff_eq]; omega
  have k5 : ((shapeV c.verb : Int) != 5) = true := by rw [bne_iff_ne]; omega
  have hr : c.raw = [] := Classical.byContradiction fun x => h (.inr ⟨by omega, x⟩)
  have kr : ¬ 0 < c.raw.length := by rw [hr]; simp
  have hl1' : c.nums.length = 1 := by
    have := hc
    rw [h4] at this
    simpa [countOk] using this
  have HL1 := Lib.hid hl1'
  clear h6 h h4 hr hL hok hl1'
  go_wp2_with (go_at_call 67; (with_reducible refine (counted_any (shapeV c.verb) c.nums.length _ (shape_le _)).mono ?_); rintro x w2 ⟨rfl, rfl⟩)
  go_loopw [5, 46] (fun sv iv wr => ∃ k : Nat, k ≤ c.nums.length ∧ iv = .int .i64 k ∧ sv = .string ⟨(c.verb ++ numTail (c.nums.take k)).toArray⟩ ∧ Below w.heap.size w wr ∧ Below w0.heap.size w0 wr) (fun _ iv _ => c.nums.length - (intOf iv).toNat)
  case atStart => exact ⟨0, Nat.zero_le _, rfl, by simp [numTail, blanked], HB0.out, Below.refl _ _⟩
  case round =>
    obtain ⟨k, hk, rfl, rfl, hb, hb0⟩ := hrel
    have HB := Lib.hid hb
    have HBr := Lib.hid hb0
    have hTl : (c.verb ++ numTail (c.nums.take k)).length ≤ 1048576 + k * 21 := by
      have := numTail_len (c.nums.take k) (fun n hn => HOK.out.i64 n (List.mem_of_mem_take hn))
      have h2 := HOK.out.verb
      rw [List.length_take] at this
      rw [List.length_append]
      have : min k c.nums.length * 21 ≤ k * 21 := Nat.mul_le_mul_right _ (Nat.min_le_left _ _)
      omega
    clear hb hb0
    by_cases hlt : k < c.nums.length
    · obtain ⟨x, hx, htk, hmem⟩ := nth c.nums k hlt
      have hne : c.nums ≠ [] := by intro h; rw [h] at hlt; simp at hlt
      have HNT := Lib.hid (show c.verb ++ numTail (c.nums.take (k + 1)) = (c.verb ++ numTail (c.nums.take k)) ++ (32 :: Lib.itoa x) by rw [numTail_take htk, List.append_assoc])
      obtain ⟨T, hT⟩ : ∃ T, T = c.verb ++ numTail (c.nums.take k) := ⟨_, rfl⟩
      rw [← hT] at HNT hTl ⊢
      obtain ⟨nb, no, rfl, hcs⟩ := HS0.out.1.cells hne
      have c0 := cell_later HBr.out (hcs k x hx)
      have c1r : wr.cell? ⟨w.heap.size, 1, none⟩ = some (.slice (some ⟨nb, no, none⟩) c.nums.length cap) := cell_later HBr.out (HC0.out.cell 1)
      have q1 : (k : Int) < (c.nums.length : Int) := by omega
      have hxi := HOK.out.i64 x hmem
      have hil : (Lib.itoa x).length ≤ 20 := itoa_le _ hxi.1 hxi.2
      have HXI := Lib.hid hxi
      have hnl := HOK.out.nums
      obtain ⟨m1, hm1⟩ : ∃ m, m = [32] ++ Lib.itoa x := ⟨_, rfl⟩
      obtain ⟨m2, hm2⟩ : ∃ m, m = T ++ m1 := ⟨_, rfl⟩
      have l1 : m1.length ≤ 21 := by rw [hm1]; simp; omega
      have l2 : m2.length = T.length + m1.length := by rw [hm2]; simp
      have e1 := str_add _ _ _ hm1 (by omega)
      have e2 := str_add _ _ _ hm2 (by omega)
      have HF := Lib.hid (show c.verb ++ numTail (c.nums.take (k + 1)) = m2 by rw [HNT.out, hm2, hm1]; rfl)
      clear hm1 hm2 hT hx htk hmem hcs hne HNT hxi
      go_wp2_with fail
      refine (Itoa_lib x _ (HL.out.below HB.out) HXI.out).mono ?_
      rintro y w2 ⟨rfl, hb2⟩
      have HB2 := Lib.hid (Below.next HB.out hb2)
      have HBr2 := Lib.hid (Below.next HBr.out hb2)
      clear hb2
      go_wp2
      go_roundw
      case rel => exact ⟨k + 1, by omega, by go_num, by rw [HF.out], HB2.out, HBr2.out⟩
      case measure => simp [intOf]; omega
    · obtain rfl : k = c.nums.length := by omega
      rw [List.take_length] at hTl ⊢
      have hnl := HOK.out.nums
      obtain ⟨T, hT⟩ : ∃ T, T = c.verb ++ numTail c.nums := ⟨_, rfl⟩
      rw [← hT] at hTl HF ⊢
      clear hT
      obtain ⟨n, hn⟩ := List.length_eq_one_iff.1 HL1.out
      have hne : c.nums ≠ [] := by rw [hn]; simp
      obtain ⟨nb, no, rfl, hcs⟩ := HS0.out.1.cells hne
      have cn := cell_later HBr.out (hcs 0 n (by rw [hn]; rfl))
      rw [Nat.add_zero] at cn
      have hcr := HC0.out.below HBr.out
      have c1r : wr.cell? ⟨w.heap.size, 1, none⟩ = some (.slice (some ⟨nb, no, none⟩) c.nums.length cap) := hcr.cell 1
      obtain ⟨g0, g1, g2, g3, g4, g5, g6, g7, g8, g9⟩ := hcr.evs
      have hhd : c.nums.headD 0 = n := by rw [hn]; rfl
      rw [hhd] at HF
      have hdl := dumpWords_len (v := n) (e := c.ev)
      have HEV := Lib.hid (HOK.out.ev.mono' (show 1048576 ≤ 2097152 by decide))
      have q1 : 0 < c.nums.length := by have := HL1.out; omega
      clear hcr hcs hne hn hhd c1 c12 f0 f1 f2 f3 f4 f5 f6 f7 f8 f9
      have keep0 : Hid (wr.drew.cell? ⟨w.heap.size, 1, none⟩ = some (.slice (some ⟨nb, no, none⟩) c.nums.length cap) ∧ wr.drew.cell? ⟨w.heap.size, 2, none⟩ = some (.int .i64 c.ev.kind) ∧ wr.drew.cell? ⟨w.heap.size, 3, none⟩ = some (.int .i64 c.ev.order) ∧ wr.drew.cell? ⟨w.heap.size, 4, none⟩ = some (.int .i64 c.ev.item) ∧ wr.drew.cell? ⟨w.heap.size, 5, none⟩ = some (.int .i64 c.ev.qty) ∧ wr.drew.cell? ⟨w.heap.size, 6, none⟩ = some (.int .i64 c.ev.price) ∧ wr.drew.cell? ⟨w.heap.size, 7, none⟩ = some (.int .i64 c.ev.cur) ∧ wr.drew.cell? ⟨w.heap.size, 8, none⟩ = some (.int .i64 c.ev.tax) ∧ wr.drew.cell? ⟨w.heap.size, 9, none⟩ = some (.string ⟨c.ev.who.toArray⟩) ∧ wr.drew.cell? ⟨w.heap.size, 10, none⟩ = some (.int .i64 c.ev.stamp) ∧ wr.drew.cell? ⟨w.heap.size, 11, none⟩ = some (.string ⟨c.ev.note.toArray⟩) ∧ wr.drew.cell? ⟨nb, no, none⟩ = some (.int .i64 n) ∧ Below wr.heap.size wr wr.drew) :=
        Lib.hid ⟨c1r, g0, g1, g2, g3, g4, g5, g6, g7, g8, g9, cn, (Below.refl _ _).drew⟩
      have keepN : Hid (∀ a b : World, Below a.heap.size a b → Below wr.heap.size wr a → b.cell? ⟨w.heap.size, 1, none⟩ = some (.slice (some ⟨nb, no, none⟩) c.nums.length cap) ∧ b.cell? ⟨w.heap.size, 2, none⟩ = some (.int .i64 c.ev.kind) ∧ b.cell? ⟨w.heap.size, 3, none⟩ = some (.int .i64 c.ev.order) ∧ b.cell? ⟨w.heap.size, 4, none⟩ = some (.int .i64 c.ev.item) ∧ b.cell? ⟨w.heap.size, 5, none⟩ = some (.int .i64 c.ev.qty) ∧ b.cell? ⟨w.heap.size, 6, none⟩ = some (.int .i64 c.ev.price) ∧ b.cell? ⟨w.heap.size, 7, none⟩ = some (.int .i64 c.ev.cur) ∧ b.cell? ⟨w.heap.size, 8, none⟩ = some (.int .i64 c.ev.tax) ∧ b.cell? ⟨w.heap.size, 9, none⟩ = some (.string ⟨c.ev.who.toArray⟩) ∧ b.cell? ⟨w.heap.size, 10, none⟩ = some (.int .i64 c.ev.stamp) ∧ b.cell? ⟨w.heap.size, 11, none⟩ = some (.string ⟨c.ev.note.toArray⟩) ∧ b.cell? ⟨nb, no, none⟩ = some (.int .i64 n) ∧ Below wr.heap.size wr b) :=
        Lib.hid fun a b h1 h2 => by
          have h3 := Below.next h2 h1
          exact ⟨cell_later h3 c1r, cell_later h3 g0, cell_later h3 g1, cell_later h3 g2, cell_later h3 g3, cell_later h3 g4, cell_later h3 g5, cell_later h3 g6, cell_later h3 g7, cell_later h3 g8, cell_later h3 g9, cell_later h3 cn, h3⟩
      clear c1r g0 g1 g2 g3 g4 g5 g6 g7 g8 g9 cn
      go_wp2_with fail
      first | (go_region_held3 (fun w' => w'.cell? ⟨w.heap.size, 1, none⟩ = some (.slice (some ⟨nb, no, none⟩) c.nums.length cap) ∧ w'.cell? ⟨w.heap.size, 2, none⟩ = some (.int .i64 c.ev.kind) ∧ w'.cell? ⟨w.heap.size, 3, none⟩ = some (.int .i64 c.ev.order) ∧ w'.cell? ⟨w.heap.size, 4, none⟩ = some (.int .i64 c.ev.item) ∧ w'.cell? ⟨w.heap.size, 5, none⟩ = some (.int .i64 c.ev.qty) ∧ w'.cell? ⟨w.heap.size, 6, none⟩ = some (.int .i64 c.ev.price) ∧ w'.cell? ⟨w.heap.size, 7, none⟩ = some (.int .i64 c.ev.cur) ∧ w'.cell? ⟨w.heap.size, 8, none⟩ = some (.int .i64 c.ev.tax) ∧ w'.cell? ⟨w.heap.size, 9, none⟩ = some (.string ⟨c.ev.who.toArray⟩) ∧ w'.cell? ⟨w.heap.size, 10, none⟩ = some (.int .i64 c.ev.stamp) ∧ w'.cell? ⟨w.heap.size, 11, none⟩ = some (.string ⟨c.ev.note.toArray⟩) ∧ w'.cell? ⟨nb, no, none⟩ = some (.int .i64 n) ∧ Below wr.heap.size wr w')
        (first | exact keep0.out | assumption | (go_split_ands; exact keepN.out _ _ hb7 (by assumption)))
        (first
          | (go_at_call 14; go_split_ands; refine (dumpWords_any n c.ev _ HEV.out (HL.out.below (Below.next HB.out (by assumption)))).mono ?_; rintro x w7 ⟨rfl, hb7⟩))) | fail
      all_goals go_split_ands
      all_goals
        obtain ⟨D, hD⟩ : ∃ D, D = dumpWords n c.ev := ⟨_, rfl⟩
        rw [← hD] at HF hdl ⊢
        clear hD
        by_cases hd : D.2 ≠ 0
        · rw [if_pos hd] at HF
          have kd : (D.2 != 0) = true := by rw [bne_iff_ne]; exact hd
          clear hd
          go_wp2
          go_ret2
          exact ⟨by rw [HF.out]; rfl, Below.next HB.out (by assumption)⟩
        · rw [if_neg hd] at HF
          have kd : (D.2 != 0) = false := by rw [bne_eq_false_iff_eq]; exact Classical.byContradiction hd
          obtain ⟨m1, hm1⟩ : ∃ m, m = [32] ++ D.1 := ⟨_, rfl⟩
          obtain ⟨m2, hm2⟩ : ∃ m, m = T ++ m1 := ⟨_, rfl⟩
          have l1 : m1.length ≤ 2001 := by rw [hm1]; simp; omega
          have l2 : m2.length = T.length + m1.length := by rw [hm2]; simp
          have e1 := str_add _ _ _ hm1 (by omega)
          have e2 := str_add _ _ _ hm2 (by omega)
          have HF2 := Lib.hid (show cmdLine c = (m2, 0) by rw [HF.out, hm2, hm1]; rfl)
          clear hm1 hm2 hd HF
          go_wp2
          go_ret2
          exact ⟨by rw [HF2.out]; rfl, Below.next HB.out (by assumption)⟩

set_option maxRecDepth 100000 in
set_option maxHeartbeats 16000000 in
theorem lineS_5 (c : Cmd) (nv rv : Value) (w : World) (hs : CmSl w c nv rv) (hok : CmOk 1048576 c) (hL : LibV w) (h6 : ¬ (shapeV c.verb = 6 ∨ countOk (shapeV c.verb) c.nums.length = false)) (h : ¬ ((shapeV c.verb ≠ 4 ∧ c.ev ≠ evNone) ∨ (shapeV c.verb ≠ 5 ∧ c.raw ≠ []))) (h5 : shapeV c.verb = 5) :
    Calls Tryz.prog 30 #[cmV c nv rv] w (WordsPost (cmdLine c) w) := by
  have HF := Lib.hid (cmdLine_main h6 h)
  have h4 : shapeV c.verb ≠ 4 := by omega
  rw [if_neg h4, if_pos h5] at HF
  have HL := Lib.hid hL
  have HOK := Lib.hid hok
  obtain ⟨oa, cap, rfl, hl1, hl2⟩ := hs.1.at
  obtain ⟨ob, cb, rfl, hl3⟩ := hs.2.at
  have HB0 := Lib.hid (show Below w.heap.size w (w.alloc (.cells (cmCs c (.slice oa c.nums.length cap) (.slice ob c.raw.length cb)) 59)) from (Below.refl _ _).alloc (Nat.le_refl _) _)
  have HC0 := Lib.hid (cmBlk_alloc w c (.slice oa c.nums.length cap) (.slice ob c.raw.length cb))
  have HS0 := Lib.hid (hs.below HB0.out)
  unfold cmCs at HB0 HC0 HS0
  clear hs
  go_enter Tryz.func30, Tryz.ntmps30
  go_wp2_with fail
  generalize w.alloc (.cells #[.string ⟨c.verb.toArray⟩, .slice oa c.nums.length cap, .int .i64 c.ev.kind, .int .i64 c.ev.order, .int .i64 c.ev.item, .int .i64 c.ev.qty, .int .i64 c.ev.price, .int .i64 c.ev.cur, .int .i64 c.ev.tax, .string ⟨c.ev.who.toArray⟩, .int .i64 c.ev.stamp, .string ⟨c.ev.note.toArray⟩, .slice ob c.raw.length cb] 59) = w0 at *
  refine (shapeOf_any _ _).mono ?_
  rintro x w1 ⟨rfl, rfl⟩
  have c0v : w0.cell? ⟨w.heap.size, 0, none⟩ = some (.string ⟨c.verb.toArray⟩) := HC0.out.cell 0
  have c1 : w0.cell? ⟨w.heap.size, 1, none⟩ = some (.slice oa c.nums.length cap) := HC0.out.cell 1
  have c12 : w0.cell? ⟨w.heap.size, 12, none⟩ = some (.slice ob c.raw.length cb) := HC0.out.cell 12
  obtain ⟨f0, f1, f2, f3, f4, f5, f6, f7, f8, f9⟩ := HC0.out.evs
  have k6 : ((shapeV c.verb : Int) == 6) = false := by rw [beq_eq_false_iff_ne]; intro h; exact h6 (.inl (by omega))
  have hc : countOk (shapeV c.verb) c.nums.length = true := by simpa using fun x => h6 (.inr x)
  have k4 : ((shapeV c.verb : Int) != 4) = true := by rw [bne_iff_ne]; omega
  have k4e : ((shapeV c.verb : Int) == 4) = false := by rw [beq_eq_false_iff_ne]; omega
  have k5 : ((shapeV c.verb : Int) != 5) = false := by rw [bne_eq_false_iff_eq]; omega
  have k5e : ((shapeV c.verb : Int) == 5) = true := by rw [beq_iff_eq]; omega
  have he : c.ev = evNone := Classical.byContradiction fun x => h (.inl ⟨h4, x⟩)
  have heq : ∀ w : World, (binOp .neq 24 (.agg #[.int .i64 c.ev.kind, .int .i64 c.ev.order, .int .i64 c.ev.item, .int .i64 c.ev.qty, .int .i64 c.ev.price, .int .i64 c.ev.cur, .int .i64 c.ev.tax, .string ⟨c.ev.who.toArray⟩, .int .i64 c.ev.stamp, .string ⟨c.ev.note.toArray⟩]) (.agg #[.int .i64 0, .int .i64 0, .int .i64 0, .int .i64 0, .int .i64 0, .int .i64 0, .int .i64 0, .string ⟨#[]⟩, .int .i64 0, .string ⟨#[]⟩])).run Tryz.prog w = .ok (.bool false) w := fun w => by
    have h := run_evNeq c.ev evNone w
    rw [show evSame c.ev evNone = true from (evSame_iff _ _).2 he] at h
    exact h
  clear h6 h h4 h5 hL hok he
  go_wp2_with (first | (go_at_call 67; (with_reducible refine (counted_any (shapeV c.verb) c.nums.length _ (shape_le _)).mono ?_); rintro x w2 ⟨rfl, rfl⟩) | rw [heq])
  clear heq
  go_loopw [5, 46] (fun sv iv wr => ∃ k : Nat, k ≤ c.nums.length ∧ iv = .int .i64 k ∧ sv = .string ⟨(c.verb ++ numTail (c.nums.take k)).toArray⟩ ∧ Below w.heap.size w wr ∧ Below w0.heap.size w0 wr) (fun _ iv _ => c.nums.length - (intOf iv).toNat)
  case atStart => exact ⟨0, Nat.zero_le _, rfl, by simp [numTail, blanked], HB0.out, Below.refl _ _⟩
  case round =>
    obtain ⟨k, hk, rfl, rfl, hb, hb0⟩ := hrel
    have HB := Lib.hid hb
    have HBr := Lib.hid hb0
    have hTl : (c.verb ++ numTail (c.nums.take k)).length ≤ 1048576 + k * 21 := by
      have := numTail_len (c.nums.take k) (fun n hn => HOK.out.i64 n (List.mem_of_mem_take hn))
      have h2 := HOK.out.verb
      rw [List.length_take] at this
      rw [List.length_append]
      have : min k c.nums.length * 21 ≤ k * 21 := Nat.mul_le_mul_right _ (Nat.min_le_left _ _)
      omega
    clear hb hb0
    by_cases hlt : k < c.nums.length
    · obtain ⟨x, hx, htk, hmem⟩ := nth c.nums k hlt
      have hne : c.nums ≠ [] := by intro h; rw [h] at hlt; simp at hlt
      have HNT := Lib.hid (show c.verb ++ numTail (c.nums.take (k + 1)) = (c.verb ++ numTail (c.nums.take k)) ++ (32 :: Lib.itoa x) by rw [numTail_take htk, List.append_assoc])
      obtain ⟨T, hT⟩ : ∃ T, T = c.verb ++ numTail (c.nums.take k) := ⟨_, rfl⟩
      rw [← hT] at HNT hTl ⊢
      obtain ⟨nb, no, rfl, hcs⟩ := HS0.out.1.cells hne
      have c0 := cell_later HBr.out (hcs k x hx)
      have c1r : wr.cell? ⟨w.heap.size, 1, none⟩ = some (.slice (some ⟨nb, no, none⟩) c.nums.length cap) := cell_later HBr.out (HC0.out.cell 1)
      have q1 : (k : Int) < (c.nums.length : Int) := by omega
      have hxi := HOK.out.i64 x hmem
      have hil : (Lib.itoa x).length ≤ 20 := itoa_le _ hxi.1 hxi.2
      have HXI := Lib.hid hxi
      have hnl := HOK.out.nums
      obtain ⟨m1, hm1⟩ : ∃ m, m = [32] ++ Lib.itoa x := ⟨_, rfl⟩
      obtain ⟨m2, hm2⟩ : ∃ m, m = T ++ m1 := ⟨_, rfl⟩
      have l1 : m1.length ≤ 21 := by rw [hm1]; simp; omega
      have l2 : m2.length = T.length + m1.length := by rw [hm2]; simp
      have e1 := str_add _ _ _ hm1 (by omega)
      have e2 := str_add _ _ _ hm2 (by omega)
      have HF := Lib.hid (show c.verb ++ numTail (c.nums.take (k + 1)) = m2 by rw [HNT.out, hm2, hm1]; rfl)
      clear hm1 hm2 hT hx htk hmem hcs hne HNT hxi
      go_wp2_with fail
      refine (Itoa_lib x _ (HL.out.below HB.out) HXI.out).mono ?_
      rintro y w2 ⟨rfl, hb2⟩
      have HB2 := Lib.hid (Below.next HB.out hb2)
      have HBr2 := Lib.hid (Below.next HBr.out hb2)
      clear hb2
      go_wp2
      go_roundw
      case rel => exact ⟨k + 1, by omega, by go_num, by rw [HF.out], HB2.out, HBr2.out⟩
      case measure => simp [intOf]; omega
    · obtain rfl : k = c.nums.length := by omega
      rw [List.take_length] at hTl ⊢
      have hnl := HOK.out.nums
      obtain ⟨T, hT⟩ : ∃ T, T = c.verb ++ numTail c.nums := ⟨_, rfl⟩
      rw [← hT] at hTl HF ⊢
      clear hT
      have c12r : wr.cell? ⟨w.heap.size, 12, none⟩ = some (.slice ob c.raw.length cb) := (HC0.out.below HBr.out).cell 12
      by_cases hraw : c.raw = []
      · rw [if_pos hraw] at HF
        have kr : ((c.raw.length : Int) == 0) = true := by rw [hraw]; rfl
        clear hraw
        go_wp2
        go_ret2
        exact ⟨by rw [HF.out]; rfl, HB.out⟩
      · rw [if_neg hraw] at HF
        have kr : ((c.raw.length : Int) == 0) = false := by rw [beq_eq_false_iff_ne]; intro h; exact hraw (List.length_eq_zero_iff.1 (by omega))
        have hrl := HOK.out.raw
        have HRr := Lib.hid (HS0.out.2.below HBr.out)
        have hhl := hexOf_length c.raw
        obtain ⟨m1, hm1⟩ : ∃ m, m = [32] ++ hexOf c.raw := ⟨_, rfl⟩
        obtain ⟨m2, hm2⟩ : ∃ m, m = T ++ m1 := ⟨_, rfl⟩
        have l1 : m1.length ≤ 2097153 := by rw [hm1]; simp; omega
        have l2 : m2.length = T.length + m1.length := by rw [hm2]; simp
        have e1 := str_add _ _ _ hm1 (by omega)
        have e2 := str_add _ _ _ hm2 (by omega)
        have HF2 := Lib.hid (show cmdLine c = (m2, 0) by rw [HF.out, hm2, hm1]; rfl)
        clear hm1 hm2 HF hraw
        go_wp2_with fail
        refine (dumpHex_any c.raw _ _ HRr.out hrl).mono ?_
        rintro y w2 ⟨rfl, hb2⟩
        have HB2 := Lib.hid (Below.next HB.out hb2)
        clear hb2
        go_wp2
        go_ret2
        exact ⟨by rw [HF2.out]; rfl, HB2.out⟩

set_option maxRecDepth 100000 in
set_option maxHeartbeats 16000000 in
theorem lineS_n (c : Cmd) (nv rv : Value) (w : World) (hs : CmSl w c nv rv) (hok : CmOk 1048576 c) (hL : LibV w) (h6 : ¬ (shapeV c.verb = 6 ∨ countOk (shapeV c.verb) c.nums.length = false)) (h : ¬ ((shapeV c.verb ≠ 4 ∧ c.ev ≠ evNone) ∨ (shapeV c.verb ≠ 5 ∧ c.raw ≠ []))) (h4 : shapeV c.verb ≠ 4) (h5 : shapeV c.verb ≠ 5) :
    Calls Tryz.prog 30 #[cmV c nv rv] w (WordsPost (cmdLine c) w) := by
  have HF := Lib.hid (cmdLine_main h6 h)
  rw [if_neg h4, if_neg h5] at HF
  have HL := Lib.hid hL
  have HOK := Lib.hid hok
  obtain ⟨oa, cap, rfl, hl1, hl2⟩ := hs.1.at
  obtain ⟨ob, cb, rfl, hl3⟩ := hs.2.at
  have HB0 := Lib.hid (show Below w.heap.size w (w.alloc (.cells (cmCs c (.slice oa c.nums.length cap) (.slice ob c.raw.length cb)) 59)) from (Below.refl _ _).alloc (Nat.le_refl _) _)
  have HC0 := Lib.hid (cmBlk_alloc w c (.slice oa c.nums.length cap) (.slice ob c.raw.length cb))
  have HS0 := Lib.hid (hs.below HB0.out)
  unfold cmCs at HB0 HC0 HS0
  clear hs
  go_enter Tryz.func30, Tryz.ntmps30
  go_wp2_with fail
  generalize w.alloc (.cells #[.string ⟨c.verb.toArray⟩, .slice oa c.nums.length cap, .int .i64 c.ev.kind, .int .i64 c.ev.order, .int .i64 c.ev.item, .int .i64 c.ev.qty, .int .i64 c.ev.price, .int .i64 c.ev.cur, .int .i64 c.ev.tax, .string ⟨c.ev.who.toArray⟩, .int .i64 c.ev.stamp, .string ⟨c.ev.note.toArray⟩, .slice ob c.raw.length cb] 59) = w0 at *
  refine (shapeOf_any _ _).mono ?_
  rintro x w1 ⟨rfl, rfl⟩
  have c0v : w0.cell? ⟨w.heap.size, 0, none⟩ = some (.string ⟨c.verb.toArray⟩) := HC0.out.cell 0
  have c1 : w0.cell? ⟨w.heap.size, 1, none⟩ = some (.slice oa c.nums.length cap) := HC0.out.cell 1
  have c12 : w0.cell? ⟨w.heap.size, 12, none⟩ = some (.slice ob c.raw.length cb) := HC0.out.cell 12
  obtain ⟨f0, f1, f2, f3, f4, f5, f6, f7, f8, f9⟩ := HC0.out.evs
  have k6 : ((shapeV c.verb : Int) == 6) = false := by rw [beq_eq_false_iff_ne]; intro h; exact h6 (.inl (by omega))
  have hc : countOk (shapeV c.verb) c.nums.length = true := by simpa using fun x => h6 (.inr x)
  have k4 : ((shapeV c.verb : Int) != 4) = true := by rw [bne_iff_ne]; omega
  have k4e : ((shapeV c.verb : Int) == 4) = false := by rw [beq_eq_false_iff_ne]; omega
  have k5 : ((shapeV c.verb : Int) != 5) = true := by rw [bne_iff_ne]; omega
  have k5e : ((shapeV c.verb : Int) == 5) = false := by rw [beq_eq_false_iff_ne]; omega
  have hr : c.raw = [] := Classical.byContradiction fun x => h (.inr ⟨h5, x⟩)
  have kr : ¬ 0 < c.raw.length := by rw [hr]; simp
  have he : c.ev = evNone := Classical.byContradiction fun x => h (.inl ⟨h4, x⟩)
  have heq : ∀ w : World, (binOp .neq 24 (.agg #[.int .i64 c.ev.kind, .int .i64 c.ev.order, .int .i64 c.ev.item, .int .i64 c.ev.qty, .int .i64 c.ev.price, .int .i64 c.ev.cur, .int .i64 c.ev.tax, .string ⟨c.ev.who.toArray⟩, .int .i64 c.ev.stamp, .string ⟨c.ev.note.toArray⟩]) (.agg #[.int .i64 0, .int .i64 0, .int .i64 0, .int .i64 0, .int .i64 0, .int .i64 0, .int .i64 0, .string ⟨#[]⟩, .int .i64 0, .string ⟨#[]⟩])).run Tryz.prog w = .ok (.bool false) w := fun w => by
    have h := run_evNeq c.ev evNone w
    rw [show evSame c.ev evNone = true from (evSame_iff _ _).2 he] at h
    exact h
  clear h6 h h4 h5 hr hL hok he
  go_wp2_with (first | (go_at_call 67; (with_reducible refine (counted_any (shapeV c.verb) c.nums.length _ (shape_le _)).mono ?_); rintro x w2 ⟨rfl, rfl⟩) | rw [heq])
  clear heq
  go_loopw [5, 46] (fun sv iv wr => ∃ k : Nat, k ≤ c.nums.length ∧ iv = .int .i64 k ∧ sv = .string ⟨(c.verb ++ numTail (c.nums.take k)).toArray⟩ ∧ Below w.heap.size w wr ∧ Below w0.heap.size w0 wr) (fun _ iv _ => c.nums.length - (intOf iv).toNat)
  case atStart => exact ⟨0, Nat.zero_le _, rfl, by simp [numTail, blanked], HB0.out, Below.refl _ _⟩
  case round =>
    obtain ⟨k, hk, rfl, rfl, hb, hb0⟩ := hrel
    have HB := Lib.hid hb
    have HBr := Lib.hid hb0
    have hTl : (c.verb ++ numTail (c.nums.take k)).length ≤ 1048576 + k * 21 := by
      have := numTail_len (c.nums.take k) (fun n hn => HOK.out.i64 n (List.mem_of_mem_take hn))
      have h2 := HOK.out.verb
      rw [List.length_take] at this
      rw [List.length_append]
      have : min k c.nums.length * 21 ≤ k * 21 := Nat.mul_le_mul_right _ (Nat.min_le_left _ _)
      omega
    clear hb hb0
    by_cases hlt : k < c.nums.length
    · obtain ⟨x, hx, htk, hmem⟩ := nth c.nums k hlt
      have hne : c.nums ≠ [] := by intro h; rw [h] at hlt; simp at hlt
      have HNT := Lib.hid (show c.verb ++ numTail (c.nums.take (k + 1)) = (c.verb ++ numTail (c.nums.take k)) ++ (32 :: Lib.itoa x) by rw [numTail_take htk, List.append_assoc])
      obtain ⟨T, hT⟩ : ∃ T, T = c.verb ++ numTail (c.nums.take k) := ⟨_, rfl⟩
      rw [← hT] at HNT hTl ⊢
      obtain ⟨nb, no, rfl, hcs⟩ := HS0.out.1.cells hne
      have c0 := cell_later HBr.out (hcs k x hx)
      have c1r : wr.cell? ⟨w.heap.size, 1, none⟩ = some (.slice (some ⟨nb, no, none⟩) c.nums.length cap) := cell_later HBr.out (HC0.out.cell 1)
      have q1 : (k : Int) < (c.nums.length : Int) := by omega
      have hxi := HOK.out.i64 x hmem
      have hil : (Lib.itoa x).length ≤ 20 := itoa_le _ hxi.1 hxi.2
      have HXI := Lib.hid hxi
      have hnl := HOK.out.nums
      obtain ⟨m1, hm1⟩ : ∃ m, m = [32] ++ Lib.itoa x := ⟨_, rfl⟩
      obtain ⟨m2, hm2⟩ : ∃ m, m = T ++ m1 := ⟨_, rfl⟩
      have l1 : m1.length ≤ 21 := by rw [hm1]; simp; omega
      have l2 : m2.length = T.length + m1.length := by rw [hm2]; simp
      have e1 := str_add _ _ _ hm1 (by omega)
      have e2 := str_add _ _ _ hm2 (by omega)
      have HF := Lib.hid (show c.verb ++ numTail (c.nums.take (k + 1)) = m2 by rw [HNT.out, hm2, hm1]; rfl)
      clear hm1 hm2 hT hx htk hmem hcs hne HNT hxi
      go_wp2_with fail
      refine (Itoa_lib x _ (HL.out.below HB.out) HXI.out).mono ?_
      rintro y w2 ⟨rfl, hb2⟩
      have HB2 := Lib.hid (Below.next HB.out hb2)
      have HBr2 := Lib.hid (Below.next HBr.out hb2)
      clear hb2
      go_wp2
      go_roundw
      case rel => exact ⟨k + 1, by omega, by go_num, by rw [HF.out], HB2.out, HBr2.out⟩
      case measure => simp [intOf]; omega
    · obtain rfl : k = c.nums.length := by omega
      rw [List.take_length] at hTl ⊢
      have hnl := HOK.out.nums
      obtain ⟨T, hT⟩ : ∃ T, T = c.verb ++ numTail c.nums := ⟨_, rfl⟩
      rw [← hT] at hTl HF ⊢
      clear hT
      go_wp2
      go_ret2
      exact ⟨by rw [HF.out]; rfl, HB.out⟩

theorem lineS_any (c : Cmd) (nv rv : Value) (w : World) (hs : CmSl w c nv rv) (hok : CmOk 1048576 c) (hL : LibV w) :
    Calls Tryz.prog 30 #[cmV c nv rv] w (WordsPost (cmdLine c) w) := by
  by_cases h6 : shapeV c.verb = 6 ∨ countOk (shapeV c.verb) c.nums.length = false
  · exact lineS_100 c nv rv w hs h6
  by_cases h : (shapeV c.verb ≠ 4 ∧ c.ev ≠ evNone) ∨ (shapeV c.verb ≠ 5 ∧ c.raw ≠ [])
  · exact lineS_32 c nv rv w hs h6 h
  by_cases h4 : shapeV c.verb = 4
  · exact lineS_4 c nv rv w hs hok hL h6 h h4
  by_cases h5 : shapeV c.verb = 5
  · exact lineS_5 c nv rv w hs hok hL h6 h h5
  · exact lineS_n c nv rv w hs hok hL h6 h h4 h5

end Go.Proofs.YtecmpmnidlfgnaaGreatDoor
