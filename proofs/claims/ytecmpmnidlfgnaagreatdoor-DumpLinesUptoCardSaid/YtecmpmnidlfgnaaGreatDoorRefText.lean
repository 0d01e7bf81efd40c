import Derived.Test.YtecmpmnidlfgnaaGreatDoorRecRow
import Derived.Test.YtecmpmnidlfgnaaGreatDoorRefWords
namespace Go.Proofs.YtecmpmnidlfgnaaGreatDoor
open Go.RowKit

/-! ## the reference's Line -/

set_option maxRecDepth 100000 in
set_option maxHeartbeats 4000000 in
theorem refLine_any (n : Int) (e : Ev) (w : World) (hok : EvOk 2097152 e) (hn : I64 n) :
    Calls Tryz.prog 17 #[recV (n, e)] w (WordsPost (lineOf n e) w) := by
  have HOK := Lib.hid hok
  have hB0 := Lib.hid (show RcBlk (w.alloc (.cells #[.int .i64 n, .int .i64 e.kind, .int .i64 e.order, .int .i64 e.item, .int .i64 e.qty, .int .i64 e.price, .int .i64 e.cur, .int .i64 e.tax, .string ⟨e.who.toArray⟩, .int .i64 e.stamp, .string ⟨e.note.toArray⟩] 37)) w.heap.size (n, e) from rcBlk_alloc w (n, e))
  have hb0 := Lib.hid (show Below w.heap.size w (w.alloc (.cells #[.int .i64 n, .int .i64 e.kind, .int .i64 e.order, .int .i64 e.item, .int .i64 e.qty, .int .i64 e.price, .int .i64 e.cur, .int .i64 e.tax, .string ⟨e.who.toArray⟩, .int .i64 e.stamp, .string ⟨e.note.toArray⟩] 37)) from (Below.refl _ _).alloc (Nat.le_refl _) _)
  
  clear hok
  unfold recV
  by_cases h1 : n < 1
  · have hfin := Lib.hid (line_seq (e := e) (Or.inl h1))
    have t1 : decide (n < 1) = true := by rw [decide_eq_true_eq]; exact h1
    go_enter Tryz.func17, Tryz.ntmps17
    go_wp2
    go_ret2
    exact ⟨by rw [hfin.out]; rfl, hb0.out⟩
  have t1 : decide (n < 1) = false := by rw [decide_eq_false_iff_not]; exact h1
  by_cases h2 : 1099511627776 < n
  · have hfin := Lib.hid (line_seq (e := e) (Or.inr h2))
    have t2 : decide (1099511627776 < n) = true := by rw [decide_eq_true_eq]; exact h2
    go_enter Tryz.func17, Tryz.ntmps17
    go_wp2
    go_ret2
    exact ⟨by rw [hfin.out]; rfl, hb0.out⟩
  have t2 : decide (1099511627776 < n) = false := by rw [decide_eq_false_iff_not]; exact h2
  have HS := Lib.hid (show ¬ (n < 1 ∨ 1099511627776 < n) by omega)
  clear h1 h2
  go_enter Tryz.func17, Tryz.ntmps17
  go_wp2_with fail
  refine (refWords_any 5 e _ HOK.out).mono ?_
  rintro x w2 ⟨rfl, hb⟩
  have HB2 := Lib.hid (Below.next hb0.out hb)
  have HR2 := Lib.hid (hB0.out.below hb)
  have c0 : w2.cell? ⟨w.heap.size, 0, none⟩ = some (.int .i64 n) := HR2.out.cell 0
  clear hb
  by_cases hc : evCheck 5 e ≠ 0
  · have hfin := Lib.hid (line_bad HS.out hc)
    have t3 : (evCheck 5 e != 0) = true := by rw [bne_iff_ne]; exact hc
    have hw := Lib.hid (words_bad hc)
    clear hc
    rw [hw.out]
    go_wp2
    go_ret2
    exact ⟨by rw [hfin.out]; rfl, HB2.out⟩
  · have hc0 : evCheck 5 e = 0 := Classical.byContradiction hc
    have hfin := Lib.hid (line_good HS.out hc0)
    have hw := Lib.hid (words_good hc0)
    have hwl := wordsOf_len HOK.out
    have hil : (Lib.itoa n).length ≤ 20 := itoa_le _ hn.1 hn.2
    obtain ⟨W, hW⟩ : ∃ W, W = wordsOf e := ⟨_, rfl⟩
    rw [hw.out]
    rw [← hW] at hfin hwl ⊢
    obtain ⟨m1, hm1⟩ : ∃ m, m = Lib.itoa n ++ [32] := ⟨_, rfl⟩
    obtain ⟨m2, hm2⟩ : ∃ m, m = m1 ++ W := ⟨_, rfl⟩
    have l1 : m1.length = (Lib.itoa n).length + 1 := by rw [hm1]; simp
    have l2 : m2.length = m1.length + W.length := by rw [hm2]; simp
    have e1 := str_add _ _ _ hm1 (by omega)
    have e2 := str_add _ _ _ hm2 (by omega)
    have HF := Lib.hid (show Lib.itoa n ++ 32 :: W = m2 by rw [hm2, hm1]; simp)
    clear hc hc0 hm1 hm2 l1 l2 hW
    go_wp2_with fail
    refine (show_any n _ hn.1 hn.2).mono ?_
    rintro x w3 ⟨rfl, hb3⟩
    have HB3 := Lib.hid (Below.next HB2.out hb3)
    clear hb3
    go_wp2
    go_ret2
    exact ⟨by rw [hfin.out, HF.out]; rfl, HB3.out⟩

end Go.Proofs.YtecmpmnidlfgnaaGreatDoor

namespace Go.Proofs.YtecmpmnidlfgnaaGreatDoor
open Go.RowKit

/-! ## the reference's Text -/

set_option maxRecDepth 100000 in
set_option maxHeartbeats 4000000 in
theorem refText_any (rs : List Rec) (v : Value) (w : World) (hv : RecRow w v rs) (hn : rs.length ≤ 2097152) (hok : ∀ r ∈ rs, RecOk 2097152 r) :
    Calls Tryz.prog 21 #[v] w (WordsPost (textOf rs) w) := by
  have HOK := Lib.hid hok
  have HT := Lib.hid (addT_nil rs)
  clear hok
  rcases hv.shape with ⟨rfl, oa, cap, rfl⟩ | ⟨b, off, cap, rfl, hlc, hc9, hcs⟩
  · go_enter Tryz.func21, Tryz.ntmps21
    go_wp2
    refine wp_loop_rounds 1 ?_
    rw [rounds_succ]
    go_wp2
    go_ret2
    exact ⟨rfl, Below.refl _ _⟩
  have HC := Lib.hid hcs
  clear hv hcs
  go_enter Tryz.func21, Tryz.ntmps21
  go_wp2
  go_loopw [4, 10] (fun sv iv wr => ∃ (k : Nat) (S : List UInt8), k ≤ rs.length ∧ iv = .int .i64 k ∧ sv = .string ⟨S.toArray⟩ ∧ Below w.heap.size w wr ∧ Hid (textOf rs = addT S (textOf (rs.drop k))) ∧ S.length ≤ k * 29360200) (fun _ iv _ => rs.length - (intOf iv).toNat)
  case atStart => exact ⟨0, [], Nat.zero_le _, rfl, rfl, Below.refl _ _, HT, Nat.zero_le _⟩
  case round =>
    obtain ⟨k, S, hk, rfl, rfl, hb, HTk, hsl⟩ := hrel
    have HB := Lib.hid hb
    clear hb HT
    by_cases hlt : k < rs.length
    · obtain ⟨r, hr, _, hmem⟩ := nth rs k hlt
      have HD2 := Lib.hid (drop_cons hr)
      have HRO := Lib.hid (HOK.out r hmem)
      have HCr := Lib.hid (show ∀ (j : Nat) u, (rcCs r)[j]? = some u → wr.cell? ⟨b, off + k * 11 + j, none⟩ = some u from fun j u hj => cell_later HB.out (HC.out k r hr j u hj))
      have q1 : (k : Int) < (rs.length : Int) := by omega
      clear hr hmem
      go_wp2_with (with_reducible refine wpList_load_rcAt rfl (.tmp 16) rfl b (off + k * 11) r rfl HCr.out ?_)
      refine (refLine_any r.1 r.2 _ HRO.out.ev HRO.out.seq).mono ?_
      rintro x w2 ⟨rfl, hb2⟩
      have HB2 := Lib.hid (Below.next HB.out hb2)
      have hll := line_len HRO.out
      clear hb2
      obtain ⟨X, hX⟩ : ∃ X, X = lineOf r.1 r.2 := ⟨_, rfl⟩
      have HX := Lib.hid hX
      rw [← hX] at hll ⊢
      clear hX
      obtain ⟨l, c⟩ := X
      simp only at *
      by_cases hc : c ≠ 0
      · have hfin := Lib.hid (show textOf rs = ([], c) by rw [HTk.out, HD2.out, addT_bad (by rw [← HX.out]; exact hc), ← HX.out])
        have t3 : (c != 0) = true := by rw [bne_iff_ne]; exact hc
        clear hc
        go_wp2
        go_ret2
        exact ⟨by rw [hfin.out]; rfl, HB2.out⟩
      · have hc0 : c = 0 := Classical.byContradiction hc
        have HN := Lib.hid (show textOf rs = addT (S ++ (l ++ [10])) (textOf (rs.drop (k + 1))) by rw [HTk.out, HD2.out, addT_good (by rw [← HX.out]; exact hc0), ← HX.out])
        have t3 : (c != 0) = false := by rw [bne_eq_false_iff_eq]; exact hc0
        obtain ⟨m1, hm1⟩ : ∃ m, m = l ++ [10] := ⟨_, rfl⟩
        obtain ⟨m2, hm2⟩ : ∃ m, m = S ++ m1 := ⟨_, rfl⟩
        have l1 : m1.length = l.length + 1 := by rw [hm1]; simp
        have l2 : m2.length = S.length + m1.length := by rw [hm2]; simp
        have l3 : m2.length ≤ (k + 1) * 29360200 := by omega
        have e1 := str_add _ _ _ hm1 (by omega)
        have e2 := str_add _ _ _ hm2 (by omega)
        rw [← hm1, ← hm2] at HN
        clear hc hc0 hm1 hm2 l1 l2
        go_wp2
        go_roundw
        case rel => exact ⟨k + 1, m2, by omega, by go_num, rfl, HB2.out, HN, l3⟩
        case measure => simp [intOf]; omega
    · obtain rfl : k = rs.length := by omega
      have hfin := Lib.hid (show textOf rs = (S, 0) by rw [HTk.out, List.drop_length]; exact addT_end S)
      go_wp2
      go_ret2
      exact ⟨by rw [hfin.out]; rfl, HB.out⟩

end Go.Proofs.YtecmpmnidlfgnaaGreatDoor
