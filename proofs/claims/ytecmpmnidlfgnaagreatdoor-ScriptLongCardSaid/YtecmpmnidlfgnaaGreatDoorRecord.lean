import Derived.Test.YtecmpmnidlfgnaaGreatDoorRecRow
import Derived.Test.YtecmpmnidlfgnaaGreatDoorEvent2
namespace Go.Proofs.YtecmpmnidlfgnaaGreatDoor
open Go.RowKit

/-! ## dump.Line -/

set_option maxRecDepth 100000 in
set_option maxHeartbeats 4000000 in
theorem dumpLine_any (n : Int) (e : Ev) (w : World) (hok : EvOk 2097152 e) (hn : I64 n) (hL : LibV w) :
    Calls Tryz.prog 18 #[recV (n, e)] w (WordsPost (lineOf n e) w) := by
  have HOK := Lib.hid hok
  have hB0 := Lib.hid (show RcBlk (w.alloc (.cells #[.int .i64 n, .int .i64 e.kind, .int .i64 e.order, .int .i64 e.item, .int .i64 e.qty, .int .i64 e.price, .int .i64 e.cur, .int .i64 e.tax, .string ⟨e.who.toArray⟩, .int .i64 e.stamp, .string ⟨e.note.toArray⟩] 37)) w.heap.size (n, e) from rcBlk_alloc w (n, e))
  have hb0 := Lib.hid (show Below w.heap.size w (w.alloc (.cells #[.int .i64 n, .int .i64 e.kind, .int .i64 e.order, .int .i64 e.item, .int .i64 e.qty, .int .i64 e.price, .int .i64 e.cur, .int .i64 e.tax, .string ⟨e.who.toArray⟩, .int .i64 e.stamp, .string ⟨e.note.toArray⟩] 37)) from (Below.refl _ _).alloc (Nat.le_refl _) _)
  have HL := Lib.hid hL; clear hL
  clear hok
  unfold recV
  by_cases h1 : n < 1
  · have hfin := Lib.hid (line_seq (e := e) (Or.inl h1))
    have t1 : decide (n < 1) = true := by rw [decide_eq_true_eq]; exact h1
    go_enter Tryz.func18, Tryz.ntmps18
    go_wp2
    go_ret2
    exact ⟨by rw [hfin.out]; rfl, hb0.out⟩
  have t1 : decide (n < 1) = false := by rw [decide_eq_false_iff_not]; exact h1
  by_cases h2 : 1099511627776 < n
  · have hfin := Lib.hid (line_seq (e := e) (Or.inr h2))
    have t2 : decide (1099511627776 < n) = true := by rw [decide_eq_true_eq]; exact h2
    go_enter Tryz.func18, Tryz.ntmps18
    go_wp2
    go_ret2
    exact ⟨by rw [hfin.out]; rfl, hb0.out⟩
  have t2 : decide (1099511627776 < n) = false := by rw [decide_eq_false_iff_not]; exact h2
  have HS := Lib.hid (show ¬ (n < 1 ∨ 1099511627776 < n) by omega)
  clear h1 h2
  go_enter Tryz.func18, Tryz.ntmps18
  go_wp2_with fail
  refine (dumpWords_any 5 e _ HOK.out (HL.out.below hb0.out)).mono ?_
  rintro x w2 ⟨rfl, hb⟩
  have HB2 := Lib.hid (Below.next hb0.out hb)
  have HR2 := Lib.hid (hB0.out.below hb)
  have c0 : w2.cell? ⟨w.heap.size, 0, none⟩ = some (.int .i64 n) := HR2.out.cell 0
  clear hb
  by_cases hc : evCheck 5 e ≠ 0
  · have hfin := Lib.hid (line_bad HS.out hc)
    have t3 : (evCheck 5 e != 0) = true := by rw [bne_iff_ne]; exact hc
    have hw := Lib.hid (words_bad hc)
    clear hc
    rw [hw.out]
    go_wp2
    go_ret2
    exact ⟨by rw [hfin.out]; rfl, HB2.out⟩
  · have hc0 : evCheck 5 e = 0 := Classical.byContradiction hc
    have hfin := Lib.hid (line_good HS.out hc0)
    have hw := Lib.hid (words_good hc0)
    have hwl := wordsOf_len HOK.out
    have hil : (Lib.itoa n).length ≤ 20 := itoa_le _ hn.1 hn.2
    obtain ⟨W, hW⟩ : ∃ W, W = wordsOf e := ⟨_, rfl⟩
    rw [hw.out]
    rw [← hW] at hfin hwl ⊢
    obtain ⟨m1, hm1⟩ : ∃ m, m = Lib.itoa n ++ [32] := ⟨_, rfl⟩
    obtain ⟨m2, hm2⟩ : ∃ m, m = m1 ++ W := ⟨_, rfl⟩
    have l1 : m1.length = (Lib.itoa n).length + 1 := by rw [hm1]; simp
    have l2 : m2.length = m1.length + W.length := by rw [hm2]; simp
    have e1 := str_add _ _ _ hm1 (by omega)
    have e2 := str_add _ _ _ hm2 (by omega)
    have HF := Lib.hid (show Lib.itoa n ++ 32 :: W = m2 by rw [hm2, hm1]; simp)
    clear hc hc0 hm1 hm2 l1 l2 hW
    go_wp2_with fail
    refine (Itoa_lib n _ (HL.out.below HB2.out) hn).mono ?_
    rintro x w3 ⟨rfl, hb3⟩
    have HB3 := Lib.hid (Below.next HB2.out hb3)
    clear hb3
    go_wp2
    go_ret2
    exact ⟨by rw [hfin.out, HF.out]; rfl, HB3.out⟩

end Go.Proofs.YtecmpmnidlfgnaaGreatDoor

namespace Go.Proofs.YtecmpmnidlfgnaaGreatDoor
open Go.RowKit

/-! ## dump.Record -/

set_option maxRecDepth 100000 in
set_option maxHeartbeats 4000000 in
theorem dumpRecord_any (s : List UInt8) (w : World) (hL : LibV w) (hgl : ∀ g, (g = 0 ∨ g = 2 ∨ g = 3 ∨ g = 1) → g < w.heap.size) (hs : s.length ≤ 2097152) :
    Calls Tryz.prog 20 #[.string ⟨s.toArray⟩] w (RecPost (recordOf s) w) := by
  have HL := Lib.hid hL
  have HGL := Lib.hid hgl
  clear hL hgl
  have HB0 := Lib.hid (show Below w.heap.size w (w.alloc (.cells #[.int .i64 0, .int .i64 0, .int .i64 0, .int .i64 0, .int .i64 0, .int .i64 0, .int .i64 0, .int .i64 0, .string ⟨#[]⟩, .int .i64 0, .string ⟨#[]⟩] 37)) from (Below.refl _ _).alloc (Nat.le_refl _) _)
  have HR0 := Lib.hid (show RcBlk (w.alloc (.cells #[.int .i64 0, .int .i64 0, .int .i64 0, .int .i64 0, .int .i64 0, .int .i64 0, .int .i64 0, .int .i64 0, .string ⟨#[]⟩, .int .i64 0, .string ⟨#[]⟩] 37)) w.heap.size recNone from rcBlk_alloc w recNone)
  have HC := Lib.hid (fun W (h : LibV W) => Cut_any s 32 W h (by omega))
  have HL0 := Lib.hid (HL.out.below HB0.out)
  go_enter Tryz.func20, Tryz.ntmps20
  go_wp2_with fail
  generalize w.alloc (.cells #[.int .i64 0, .int .i64 0, .int .i64 0, .int .i64 0, .int .i64 0, .int .i64 0, .int .i64 0, .int .i64 0, .string ⟨#[]⟩, .int .i64 0, .string ⟨#[]⟩] 37) = w0 at *
  refine (HC.out _ HL0.out).mono ?_
  rintro x w1 ⟨rfl, hb1⟩
  have HB1 := Lib.hid (Below.next HB0.out hb1)
  have HR1 := Lib.hid (HR0.out.below hb1)
  clear hb1 HB0 HR0
  cases hcut : cutAt 32 s with
  | none =>
    have hfin := Lib.hid (rec_nocut hcut)
    have hcv := Lib.hid (show cutV 32 s = (s, [], false) by unfold cutV; rw [hcut])
    clear hcut
    rw [hcv.out]
    go_wp2_with (with_reducible refine wpList_store_rc rfl (.tmp 2) (.tmp 18) rfl w.heap.size recNone recNone rfl rfl HR1.out ?_)
    exact bodyPost_ret (v := .tuple #[recV recNone, .int .i64 100]) (results_rc rfl _ _ w.heap.size recNone _ rfl rfl (HR1.out.row recNone)) rfl ⟨by rw [hfin.out], Below.row HB1.out (Nat.le_refl _) _⟩
  | some p =>
    obtain ⟨a, b⟩ := p
    have HCUT := Lib.hid hcut
    have hcv := Lib.hid (show cutV 32 s = (a, b, true) by unfold cutV; rw [hcut])
    obtain ⟨hsp, _⟩ := cutAt_some hcut
    have hal : a.length + b.length ≤ 2097152 := by
      have := congrArg List.length hsp
      simp at this; omega
    clear hcut hsp
    rw [hcv.out]
    go_wp2_with fail
    refine (dumpNumber_any a _ (HL.out.below HB1.out) (by omega)).mono ?_
    rintro x w2 ⟨rfl, hb2⟩
    have HB2 := Lib.hid (Below.next HB1.out hb2)
    have HR2 := Lib.hid (HR1.out.below hb2)
    clear hb2 HB1 HR1
    cases hn : numberOf a with
    | none =>
      have hfin := Lib.hid (rec_nonum HCUT.out hn)
      rw [show numVal a = 0 by unfold numVal; rw [hn]; rfl, show numErr a = 101 by unfold numErr; rw [hn]; rfl]
      clear hn
      go_wp2_with (with_reducible refine wpList_store_rc rfl (.tmp 2) (.tmp 26) rfl w.heap.size recNone recNone rfl rfl HR2.out ?_)
      exact bodyPost_ret (v := .tuple #[recV recNone, .int .i64 101]) (results_rc rfl _ _ w.heap.size recNone _ rfl rfl (HR2.out.row recNone)) rfl ⟨by rw [hfin.out], Below.row HB2.out (Nat.le_refl _) _⟩
    | some n =>
      have HN := Lib.hid hn
      rw [show numVal a = n by unfold numVal; rw [hn]; rfl, show numErr a = 0 by unfold numErr; rw [hn]; rfl]
      clear hn
      by_cases h1 : n < 1
      · have hfin := Lib.hid (rec_seq HCUT.out HN.out (Or.inl h1))
        have t1 : decide (n < 1) = true := by rw [decide_eq_true_eq]; exact h1
        go_wp2_with (with_reducible refine wpList_store_rc rfl (.tmp 2) (.tmp 34) rfl w.heap.size recNone recNone rfl rfl HR2.out ?_)
        exact bodyPost_ret (v := .tuple #[recV recNone, .int .i64 1]) (results_rc rfl _ _ w.heap.size recNone _ rfl rfl (HR2.out.row recNone)) rfl ⟨by rw [hfin.out], Below.row HB2.out (Nat.le_refl _) _⟩
      have t1 : decide (n < 1) = false := by rw [decide_eq_false_iff_not]; exact h1
      by_cases h2 : 1099511627776 < n
      · have hfin := Lib.hid (rec_seq HCUT.out HN.out (Or.inr h2))
        have t2 : decide (1099511627776 < n) = true := by rw [decide_eq_true_eq]; exact h2
        go_wp2_with (with_reducible refine wpList_store_rc rfl (.tmp 2) (.tmp 34) rfl w.heap.size recNone recNone rfl rfl HR2.out ?_)
        exact bodyPost_ret (v := .tuple #[recV recNone, .int .i64 1]) (results_rc rfl _ _ w.heap.size recNone _ rfl rfl (HR2.out.row recNone)) rfl ⟨by rw [hfin.out], Below.row HB2.out (Nat.le_refl _) _⟩
      have t2 : decide (1099511627776 < n) = false := by rw [decide_eq_false_iff_not]; exact h2
      have HS := Lib.hid (show ¬ (n < 1 ∨ 1099511627776 < n) by omega)
      clear h1 h2
      go_wp2_with fail
      refine (dumpEvent_any 5 b _ (HL.out.below HB2.out) (by omega) (fun g h => by have := HGL.out g h; have := HB2.out.size; omega)).mono ?_
      rintro x w3 ⟨rfl, hb3⟩
      have HB3 := Lib.hid (Below.next HB2.out hb3)
      have HR3 := Lib.hid (HR2.out.below hb3)
      clear hb3
      obtain ⟨X, hX⟩ : ∃ X, X = eventOf 5 b := ⟨_, rfl⟩
      rw [← hX]
      have HB4 := Lib.hid (Below.next HB3.out (show Below w3.heap.size w3 (w3.alloc (.cells (evCs X.1) 24)) from (Below.refl _ _).alloc (Nat.le_refl _) _))
      have HR4 := Lib.hid (HR3.out.below (show Below w3.heap.size w3 (w3.alloc (.cells (evCs X.1) 24)) from (Below.refl _ _).alloc (Nat.le_refl _) _))
      have HE4 := Lib.hid (show EvBlk (w3.alloc (.cells (evCs X.1) 24)) w3.heap.size X.1 from heap_alloc_new w3 _)
      unfold evCs at HB4 HR4 HE4
      by_cases hx : X.2 ≠ 0
      · have hfin := Lib.hid (show recordOf s = (recNone, X.2) by rw [hX]; exact rec_evbad HCUT.out HN.out HS.out (by rw [← hX]; exact hx))
        have t3 : (X.2 != 0) = true := by rw [bne_iff_ne]; exact hx
        clear hx hX
        go_wp2_with (with_reducible refine wpList_store_rc rfl (.tmp 2) (.tmp 42) rfl w.heap.size recNone recNone rfl rfl HR4.out ?_)
        exact bodyPost_ret (v := .tuple #[recV recNone, .int .i64 X.2]) (results_rc rfl _ _ w.heap.size recNone _ rfl rfl (HR4.out.row recNone)) rfl ⟨by rw [hfin.out], Below.row HB4.out (Nat.le_refl _) _⟩
      · have hx0 : X.2 = 0 := Classical.byContradiction hx
        have hfin := Lib.hid (show recordOf s = ((n, X.1), 0) by rw [hX]; exact rec_good HCUT.out HN.out HS.out (by rw [← hX]; exact hx0))
        have t3 : (X.2 != 0) = false := by rw [bne_eq_false_iff_eq]; exact hx0
        clear hx hx0 hX
        go_wp2_with (first
          | (with_reducible refine wpList_load_ev rfl (.tmp 9) rfl w3.heap.size X.1 rfl HE4.out ?_)
          | (with_reducible refine wpList_store_rc rfl (.tmp 2) (.tmp 46) rfl w.heap.size recNone (n, X.1) rfl rfl HR4.out ?_))
        exact bodyPost_ret (v := .tuple #[recV (n, X.1), .int .i64 0]) (results_rc rfl _ _ w.heap.size (n, X.1) _ rfl rfl (HR4.out.row (n, X.1))) rfl ⟨by rw [hfin.out], Below.row HB4.out (Nat.le_refl _) _⟩

end Go.Proofs.YtecmpmnidlfgnaaGreatDoor
