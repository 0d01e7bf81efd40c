import Derived.Test.YtecmpmnidlfgnaaGreatDoorRec
namespace Go.Proofs.YtecmpmnidlfgnaaGreatDoor
open Go.RowKit

/-! ## dump.Line -/

set_option maxRecDepth 100000 in
set_option maxHeartbeats 4000000 in
theorem dumpLine_any (n : Int) (e : Ev) (w : World) (hok : EvOk 2097152 e) (hn : I64 n) (hL : LibV w) :
    Calls Tryz.prog 18 #[recV (n, e)] w (WordsPost (lineOf n e) w) := by
  have HOK := Lib.hid hok
  have hB0 := Lib.hid (show RcBlk (w.alloc (.cells #[.int .i64 n, .int .i64 e.kind, .int .i64 e.order, .int .i64 e.item, .int .i64 e.qty, .int .i64 e.price, .int .i64 e.cur, .int .i64 e.tax, .string ⟨e.who.toArray⟩, .int .i64 e.stamp, .string ⟨e.note.toArray⟩] 37)) w.heap.size (n, e) from rcBlk_alloc w (n, e))
  have hb0 := Lib.hid (show Below w.heap.size w (w.alloc (.cells #[.int .i64 n, .int .i64 e.kind, .int .i64 e.order, .int .i64 e.item, .int .i64 e.qty, .int .i64 e.price, .int .i64 e.cur, .int .i64 e.tax, .string ⟨e.who.toArray⟩, .int .i64 e.stamp, .string ⟨e.note.toArray⟩] 37)) from (Below.refl _ _).alloc (Nat.le_refl _) _)
  have HL := Lib.hid hL; clear hL
  clear hok
  unfold recV
  by_cases h1 : n < 1
  · have hfin := Lib.hid (line_seq (e := e) (Or.inl h1))
    have t1 : decide (n < 1) = true := by rw [decide_eq_true_eq]; exact h1
    go_enter Tryz.func18, Tryz.ntmps18
    go_wp2
    go_ret2
    exact ⟨by rw [hfin.out]; rfl, hb0.out⟩
  have t1 : decide (n < 1) = false := by rw [decide_eq_false_iff_not]; exact h1
  by_cases h2 : 1099511627776 < n
  · have hfin := Lib.hid (line_seq (e := e) (Or.inr h2))
    have t2 : decide (1099511627776 < n) = true := by rw [decide_eq_true_eq]; exact h2
    go_enter Tryz.func18, Tryz.ntmps18
    go_wp2
    go_ret2
    exact ⟨by rw [hfin.out]; rfl, hb0.out⟩
  have t2 : decide (1099511627776 < n) = false := by rw [decide_eq_false_iff_not]; exact h2
  have HS := Lib.hid (show ¬ (n < 1 ∨ 1099511627776 < n) by omega)
  clear h1 h2
  go_enter Tryz.func18, Tryz.ntmps18
  go_wp2_with fail
  refine (dumpWords_any 5 e _ HOK.out (HL.out.below hb0.out)).mono ?_
  rintro x w2 ⟨rfl, hb⟩
  have HB2 := Lib.hid (Below.next hb0.out hb)
  have HR2 := Lib.hid (hB0.out.below hb)
  have c0 : w2.cell? ⟨w.heap.size, 0, none⟩ = some (.int .i64 n) := HR2.out.cell 0
  clear hb
  by_cases hc : evCheck 5 e ≠ 0
  · have hfin := Lib.hid (line_bad HS.out hc)
    have t3 : (evCheck 5 e != 0) = true := by rw [bne_iff_ne]; exact hc
    have hw := Lib.hid (words_bad hc)
    clear hc
    rw [hw.out]
    go_wp2
    go_ret2
    exact ⟨by rw [hfin.out]; rfl, HB2.out⟩
  · have hc0 : evCheck 5 e = 0 := Classical.byContradiction hc
    have hfin := Lib.hid (line_good HS.out hc0)
    have hw := Lib.hid (words_good hc0)
    have hwl := wordsOf_len HOK.out
    have hil : (Lib.itoa n).length ≤ 20 := itoa_le _ hn.1 hn.2
    obtain ⟨W, hW⟩ : ∃ W, W = wordsOf e := ⟨_, rfl⟩
    rw [hw.out]
    rw [← hW] at hfin hwl ⊢
    obtain ⟨m1, hm1⟩ : ∃ m, m = Lib.itoa n ++ [32] := ⟨_, rfl⟩
    obtain ⟨m2, hm2⟩ : ∃ m, m = m1 ++ W := ⟨_, rfl⟩
    have l1 : m1.length = (Lib.itoa n).length + 1 := by rw [hm1]; simp
    have l2 : m2.length = m1.length + W.length := by rw [hm2]; simp
    have e1 := str_add _ _ _ hm1 (by omega)
    have e2 := str_add _ _ _ hm2 (by omega)
    have HF := Lib.hid (show Lib.itoa n ++ 32 :: W = m2 by rw [hm2, hm1]; simp)
    clear hc hc0 hm1 hm2 l1 l2 hW
    go_wp2_with fail
    refine (Itoa_lib n _ (HL.out.below HB2.out) hn).mono ?_
    rintro x w3 ⟨rfl, hb3⟩
    have HB3 := Lib.hid (Below.next HB2.out hb3)
    clear hb3
    go_wp2
    go_ret2
    exact ⟨by rw [hfin.out, HF.out]; rfl, HB3.out⟩

end Go.Proofs.YtecmpmnidlfgnaaGreatDoor
