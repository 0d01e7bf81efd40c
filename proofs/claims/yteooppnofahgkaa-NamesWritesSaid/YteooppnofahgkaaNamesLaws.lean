import Derived.Test.YteooppnofahgkaaNamesPlain
namespace Go.Proofs.Yteooppnofahgkaa
open Go.RowKit
set_option linter.unusedVariables false

set_option maxHeartbeats 1000000 in
theorem namesWrites_walk (n : Int) (w : World) (hn : (Lit.int .i64 n).wf = true) :
    Calls Try.prog 3 #[.int .i64 n] w fun e w' => e = .returned (.bool true) ∧ Below w.heap.size w w' := by
  have h1 : segName 1 = [115, 101, 103, 45, 48, 48, 48, 48, 48, 49] := by decide
  have H1 := Lib.hid h1
  clear h1
  go_enter Try.func3, Try.ntmps3
  go_wp2_with fail
  refine (Segment_any 1 _).mono ?_
  rw [H1.out]
  rintro e w1 ⟨rfl, hb1⟩
  go_wp2_with fail
  refine (Segment_any _ _).mono ?_
  rintro e w2 ⟨rfl, hb2⟩
  go_wp2_with fail
  refine (refSegment_any _ _).mono ?_
  rintro e w3 ⟨rfl, hb3⟩
  go_wp2_with fail
  refine (Book_any _ _).mono ?_
  rintro e w4 ⟨rfl, hb4⟩
  go_wp2_with fail
  refine (refBook_any _ _).mono ?_
  rintro e w5 ⟨rfl, hb5⟩
  go_wp2
  go_ret
  exact ⟨rfl, Below.next hb1 (Below.next hb2 (Below.next hb3 (Below.next hb4 hb5)))⟩

theorem seg7 : segName 7 = [115, 101, 103, 45, 48, 48, 48, 48, 48, 55] := by decide

set_option maxHeartbeats 1000000 in
theorem namesOrder_walk (n m : Int) (w : World) (hn : (Lit.int .i64 n).wf = true) (hm : (Lit.int .i64 m).wf = true) :
    Calls Try.prog 4 #[.int .i64 n, .int .i64 m] w fun e w' => e = .returned (.bool true) ∧ Below w.heap.size w w' := by
  by_cases h1 : n < 1
  · go_enter Try.func4, Try.ntmps4
    go_wp2_with fail
    refine (Segment_any 7 _).mono ?_
    rw [seg7]
    rintro e w1 ⟨rfl, hb1⟩
    go_wp2
    go_ret
    exact ⟨rfl, hb1⟩
  by_cases h2 : 999999 < m
  · go_enter Try.func4, Try.ntmps4
    go_wp2_with fail
    refine (Segment_any 7 _).mono ?_
    rw [seg7]
    rintro e w1 ⟨rfl, hb1⟩
    go_wp2
    go_ret
    exact ⟨rfl, hb1⟩
  by_cases h3 : m ≤ n
  · go_enter Try.func4, Try.ntmps4
    go_wp2_with fail
    refine (Segment_any 7 _).mono ?_
    rw [seg7]
    rintro e w1 ⟨rfl, hb1⟩
    go_wp2
    go_ret
    exact ⟨rfl, hb1⟩
  have l1 : Op.bytesLess (segName n) (segName m) = true := by
    rw [segName_eq n (by omega), segName_eq m (by omega), bytesLess_pre]; exact six_less n m (by omega) (by omega) (by omega)
  have l2 : Op.bytesLess (bookName n) (bookName m) = true := by
    rw [bookName_eq n (by omega), bookName_eq m (by omega), bytesLess_pre]; exact six_less n m (by omega) (by omega) (by omega)
  have l3 : Op.bytesLess (bookName m) (segName n) = true := by
    rw [bookName_eq m (by omega), segName_eq n (by omega)]; simp [bookPre, segPre, Op.bytesLess]
  go_enter Try.func4, Try.ntmps4
  go_wp2_with fail
  refine (Segment_any 7 _).mono ?_
  rw [seg7]
  rintro e w1 ⟨rfl, hb1⟩
  go_wp2_with fail
  refine (Segment_any _ _).mono ?_
  rintro e w2 ⟨rfl, hb2⟩
  go_wp2_with fail
  refine (Segment_any _ _).mono ?_
  rintro e w3 ⟨rfl, hb3⟩
  go_wp2_with fail
  refine (Book_any _ _).mono ?_
  rintro e w4 ⟨rfl, hb4⟩
  go_wp2_with fail
  refine (Book_any _ _).mono ?_
  rintro e w5 ⟨rfl, hb5⟩
  go_wp2_with fail
  refine (Book_any _ _).mono ?_
  rintro e w6 ⟨rfl, hb6⟩
  go_wp2_with fail
  refine (Segment_any _ _).mono ?_
  rintro e w7 ⟨rfl, hb7⟩
  go_wp2
  go_ret
  exact ⟨rfl, Below.next hb1 (Below.next hb2 (Below.next hb3 (Below.next hb4 (Below.next hb5 (Below.next hb6 hb7)))))⟩

set_option maxHeartbeats 1000000 in
theorem namesParses_walk (l : List UInt8) (w : World) (hl : l.length ≤ reachBytes) :
    Calls Try.prog 5 #[.string ⟨l.toArray⟩] w fun e w' => e = .returned (.bool true) ∧ Below w.heap.size w w' := by
  have hl' : l.length ≤ 4611686018427387904 := Nat.le_trans hl (by decide)
  have hc : parseOf [98, 111, 111, 107, 45, 48, 48, 48, 48, 52, 50] = (4, 42) := by decide
  have HC := Lib.hid hc
  clear hc hl
  go_enter Try.func5, Try.ntmps5
  go_wp2_with fail
  refine (Parse_any [98, 111, 111, 107, 45, 48, 48, 48, 48, 52, 50] _).mono ?_
  rw [HC.out]
  rintro e w1 ⟨rfl, hb1⟩
  go_wp2_with fail
  refine (refParse_any l _ hl').mono ?_
  rw [refParse_eq]
  rintro e w2 ⟨rfl, hb2⟩
  go_wp2_with fail
  refine (Parse_any l _).mono ?_
  rintro e w3 ⟨rfl, hb3⟩
  go_wp2
  go_ret
  exact ⟨rfl, Below.next hb1 (Below.next hb2 hb3)⟩

theorem names_not (n : Int) (h : ¬ (1 ≤ n ∧ n ≤ 999999)) : segName n = [] ∧ bookName n = [] := ⟨by rw [segName, if_neg h], by rw [bookName, if_neg h]⟩
theorem parse_seg (n : Int) (h : 1 ≤ n ∧ n ≤ 999999) : parseOf (segName n) = (3, n) := by
  rw [segName_eq n h, parseOf, if_neg (by simp [segPre, manName]), if_neg (by simp [segPre, tmpName]), if_pos (pre_append _ _).1, (pre_append _ _).2, numOf_six n (by omega) h.2, parseK, if_neg (by omega)]
theorem parse_book (n : Int) (h : 1 ≤ n ∧ n ≤ 999999) : parseOf (bookName n) = (4, n) := by
  rw [bookName_eq n h, parseOf, if_neg (by simp [bookPre, manName]), if_neg (by simp [bookPre, tmpName]), if_neg (by simp [bookPre, segPre, Lib.hasPrefix]), if_pos (pre_append _ _).1, (pre_append _ _).2, numOf_six n (by omega) h.2, parseK, if_neg (by omega)]
theorem seg_same (n m : Int) (h : 1 ≤ n ∧ n ≤ 999999) : (segName m == segName n) = (m == n) := by
  rw [Bool.eq_iff_iff, beq_iff_eq, beq_iff_eq]
  constructor
  · intro e
    by_cases hm : 1 ≤ m ∧ m ≤ 999999
    · rw [segName_eq n h, segName_eq m hm] at e
      exact six_inj m n (by omega) hm.2 (by omega) h.2 (List.append_cancel_left e)
    · rw [(names_not m hm).1, segName_eq n h] at e; simp [segPre] at e
  · rintro rfl; rfl
theorem book_same (n m : Int) (h : 1 ≤ n ∧ n ≤ 999999) : (bookName m == bookName n) = (m == n) := by
  rw [Bool.eq_iff_iff, beq_iff_eq, beq_iff_eq]
  constructor
  · intro e
    by_cases hm : 1 ≤ m ∧ m ≤ 999999
    · rw [bookName_eq n h, bookName_eq m hm] at e
      exact six_inj m n (by omega) hm.2 (by omega) h.2 (List.append_cancel_left e)
    · rw [(names_not m hm).2, bookName_eq n h] at e; simp [bookPre] at e
  · rintro rfl; rfl
theorem seg_book (n m : Int) (h : 1 ≤ n ∧ n ≤ 999999) : (segName m == bookName n) = false := by
  rw [bookName_eq n h]
  by_cases hm : 1 ≤ m ∧ m ≤ 999999
  · rw [segName_eq m hm]; simp [segPre, bookPre]
  · rw [(names_not m hm).1]; simp [bookPre]

set_option maxHeartbeats 2000000 in
theorem namesBack_walk (n m : Int) (w : World) (hn : (Lit.int .i64 n).wf = true) (hm : (Lit.int .i64 m).wf = true) :
    Calls Try.prog 6 #[.int .i64 n, .int .i64 m] w fun e w' => e = .returned (.bool true) ∧ Below w.heap.size w w' := by
  by_cases h : 1 ≤ n ∧ n ≤ 999999
  · have e1 : (segName n).isEmpty = false := by rw [segName_eq n h]; rfl
    have e2 : (bookName n).isEmpty = false := by rw [bookName_eq n h]; rfl
    have s1 := seg_same n m h
    have s2 := book_same n m h
    have s3 := seg_book n m h
    have s4 := seg_book n n h
    have p1 := Lib.hid (parse_seg n h)
    have p2 := Lib.hid (parse_book n h)
    obtain ⟨h1, h2⟩ := h
    go_enter Try.func6, Try.ntmps6
    go_wp2_with fail
    refine (Segment_any 7 _).mono ?_
    rw [seg7]
    rintro e w1 ⟨rfl, hb1⟩
    go_wp2_with fail
    refine (Segment_any _ _).mono ?_
    rintro e w2 ⟨rfl, hb2⟩
    go_wp2_with fail
    refine (Book_any _ _).mono ?_
    rintro e w3 ⟨rfl, hb3⟩
    go_wp2_with fail
    refine (Parse_any _ _).mono ?_
    rw [p1.out]
    rintro e w4 ⟨rfl, hb4⟩
    go_wp2_with fail
    refine (Parse_any _ _).mono ?_
    rw [p2.out]
    rintro e w5 ⟨rfl, hb5⟩
    go_wp2_with fail
    refine (Segment_any _ _).mono ?_
    rintro e w6 ⟨rfl, hb6⟩
    go_wp2_with fail
    refine (Book_any _ _).mono ?_
    rintro e w7 ⟨rfl, hb7⟩
    go_wp2_with fail
    refine (Segment_any _ _).mono ?_
    rintro e w8 ⟨rfl, hb8⟩
    go_wp2
    go_ret
    exact ⟨rfl, Below.next hb1 (Below.next hb2 (Below.next hb3 (Below.next hb4 (Below.next hb5 (Below.next hb6 (Below.next hb7 hb8))))))⟩
  · obtain ⟨n1, n2⟩ := names_not n h
    have hc : (n < 1 ∧ decide (1 ≤ n) = false) ∨ (1 ≤ n ∧ 999999 < n ∧ decide (n ≤ 999999) = false) := by simp only [decide_eq_false_iff_not]; omega
    rcases hc with ⟨hc, hd⟩ | ⟨hc0, hc, hd⟩
    all_goals
      go_enter Try.func6, Try.ntmps6
      go_wp2_with fail
      refine (Segment_any 7 _).mono ?_
      rw [seg7]
      rintro e w1 ⟨rfl, hb1⟩
      go_wp2_with fail
      refine (Segment_any _ _).mono ?_
      rw [n1]
      rintro e w2 ⟨rfl, hb2⟩
      go_wp2_with fail
      refine (Book_any _ _).mono ?_
      rw [n2]
      rintro e w3 ⟨rfl, hb3⟩
      go_wp2
      go_ret
      exact ⟨rfl, Below.next hb1 (Below.next hb2 hb3)⟩

set_option maxHeartbeats 2000000 in
theorem namesRight_walk (l : List UInt8) (n : Int) (w : World) (hl : l.length ≤ reachBytes) (hn : (Lit.int .i64 n).wf = true) :
    Calls Try.prog 7 #[.string ⟨l.toArray⟩, .int .i64 n] w fun e w' => e = .returned (.bool true) ∧ Below w.heap.size w w' := by
  have r1 := Lib.hid (show rightName [109, 97, 110, 105, 102, 101, 115, 116] = true by decide)
  have r2 := Lib.hid (show rightName [109, 97, 110, 105, 102, 101, 115, 116, 46, 116, 109, 112] = true by decide)
  have hpr : Hid ((parseOf l).1 ≠ 0 → rightName l = true) := Lib.hid (parse_right l)
  clear hl
  by_cases h : 1 ≤ n ∧ n ≤ 999999
  · have e1 : (segName n).isEmpty = false := by rw [segName_eq n h]; rfl
    have e2 : (bookName n).isEmpty = false := by rw [bookName_eq n h]; rfl
    have l1 : (segName n).length = 10 := by rw [segName_eq n h]; rfl
    have l2 : (bookName n).length = 11 := by rw [bookName_eq n h]; rfl
    have q1 := Lib.hid (show rightName (segName n) = true by rw [segName_eq n h]; exact rightName_seg n)
    have q2 := Lib.hid (show rightName (bookName n) = true by rw [bookName_eq n h]; exact rightName_book n)
    by_cases hk : (parseOf l).1 = 0
    · clear hpr
      go_enter Try.func7, Try.ntmps7
      go_wp2_with fail
      refine (Right_any _ _).mono ?_
      rw [r1.out]
      rintro e w' ⟨rfl, rfl⟩
      go_wp2_with fail
      refine (Right_any _ _).mono ?_
      rw [r2.out]
      rintro e w' ⟨rfl, rfl⟩
      go_wp2_with fail
      refine (Segment_any 7 _).mono ?_
      rw [seg7]
      rintro e w1 ⟨rfl, hb1⟩
      go_wp2_with fail
      refine (Parse_any _ _).mono ?_
      rintro e w2 ⟨rfl, hb2⟩
      go_wp2_with fail
      refine (Segment_any _ _).mono ?_
      rintro e w3 ⟨rfl, hb3⟩
      go_wp2_with fail
      refine (Book_any _ _).mono ?_
      rintro e w4 ⟨rfl, hb4⟩
      go_wp2_with fail
      refine (Right_any _ _).mono ?_
      rw [q1.out]
      rintro e w' ⟨rfl, rfl⟩
      go_wp2_with fail
      refine (Right_any _ _).mono ?_
      rw [q2.out]
      rintro e w' ⟨rfl, rfl⟩
      go_wp2
      go_ret
      exact ⟨rfl, Below.next hb1 (Below.next hb2 (Below.next hb3 hb4))⟩
    · have hr := Lib.hid (hpr.out hk)
      have hk' : ((parseOf l).1 != 0) = true := by simpa using hk
      go_enter Try.func7, Try.ntmps7
      go_wp2_with fail
      refine (Right_any _ _).mono ?_
      rw [r1.out]
      rintro e w' ⟨rfl, rfl⟩
      go_wp2_with fail
      refine (Right_any _ _).mono ?_
      rw [r2.out]
      rintro e w' ⟨rfl, rfl⟩
      go_wp2_with fail
      refine (Segment_any 7 _).mono ?_
      rw [seg7]
      rintro e w1 ⟨rfl, hb1⟩
      go_wp2_with fail
      refine (Parse_any _ _).mono ?_
      rintro e w2 ⟨rfl, hb2⟩
      go_wp2_with fail
      refine (Right_any _ _).mono ?_
      rw [hr.out]
      rintro e w' ⟨rfl, rfl⟩
      go_wp2_with fail
      refine (Segment_any _ _).mono ?_
      rintro e w3 ⟨rfl, hb3⟩
      go_wp2_with fail
      refine (Book_any _ _).mono ?_
      rintro e w4 ⟨rfl, hb4⟩
      go_wp2_with fail
      refine (Right_any _ _).mono ?_
      rw [q1.out]
      rintro e w' ⟨rfl, rfl⟩
      go_wp2_with fail
      refine (Right_any _ _).mono ?_
      rw [q2.out]
      rintro e w' ⟨rfl, rfl⟩
      go_wp2
      go_ret
      exact ⟨rfl, Below.next hb1 (Below.next hb2 (Below.next hb3 hb4))⟩
  · have n1 := Lib.hid (names_not n h).1
    have n2 := Lib.hid (names_not n h).2
    clear h
    by_cases hk : (parseOf l).1 = 0
    · clear hpr
      go_enter Try.func7, Try.ntmps7
      go_wp2_with fail
      refine (Right_any _ _).mono ?_
      rw [r1.out]
      rintro e w' ⟨rfl, rfl⟩
      go_wp2_with fail
      refine (Right_any _ _).mono ?_
      rw [r2.out]
      rintro e w' ⟨rfl, rfl⟩
      go_wp2_with fail
      refine (Segment_any 7 _).mono ?_
      rw [seg7]
      rintro e w1 ⟨rfl, hb1⟩
      go_wp2_with fail
      refine (Parse_any _ _).mono ?_
      rintro e w2 ⟨rfl, hb2⟩
      go_wp2_with fail
      refine (Segment_any _ _).mono ?_
      rw [n1.out]
      rintro e w3 ⟨rfl, hb3⟩
      go_wp2_with fail
      refine (Book_any _ _).mono ?_
      rw [n2.out]
      rintro e w4 ⟨rfl, hb4⟩
      go_wp2
      go_ret
      exact ⟨rfl, Below.next hb1 (Below.next hb2 (Below.next hb3 hb4))⟩
    · have hr := Lib.hid (hpr.out hk)
      have hk' : ((parseOf l).1 != 0) = true := by simpa using hk
      go_enter Try.func7, Try.ntmps7
      go_wp2_with fail
      refine (Right_any _ _).mono ?_
      rw [r1.out]
      rintro e w' ⟨rfl, rfl⟩
      go_wp2_with fail
      refine (Right_any _ _).mono ?_
      rw [r2.out]
      rintro e w' ⟨rfl, rfl⟩
      go_wp2_with fail
      refine (Segment_any 7 _).mono ?_
      rw [seg7]
      rintro e w1 ⟨rfl, hb1⟩
      go_wp2_with fail
      refine (Parse_any _ _).mono ?_
      rintro e w2 ⟨rfl, hb2⟩
      go_wp2_with fail
      refine (Right_any _ _).mono ?_
      rw [hr.out]
      rintro e w' ⟨rfl, rfl⟩
      go_wp2_with fail
      refine (Segment_any _ _).mono ?_
      rw [n1.out]
      rintro e w3 ⟨rfl, hb3⟩
      go_wp2_with fail
      refine (Book_any _ _).mono ?_
      rw [n2.out]
      rintro e w4 ⟨rfl, hb4⟩
      go_wp2
      go_ret
      exact ⟨rfl, Below.next hb1 (Below.next hb2 (Below.next hb3 hb4))⟩

end Go.Proofs.Yteooppnofahgkaa
