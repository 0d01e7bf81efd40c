import Derived.Test.YtecmpmnidlfgnaaGreatDoorHead24
import Derived.Test.YtecmpmnidlfgnaaGreatDoorRecord
import Derived.Test.YtecmpmnidlfgnaaGreatDoorRefRead
import Derived.Test.YtecmpmnidlfgnaaGreatDoorRefText
import Derived.Test.YtecmpmnidlfgnaaGreatDoorReadsU
import Derived.Test.YtecmpmnidlfgnaaGreatDoorRecRow
import Derived.Test.YtecmpmnidlfgnaaGreatDoorDumpOpen
import Derived.Test.YtecmpmnidlfgnaaGreatDoorOpen
namespace Go.Proofs.YtecmpmnidlfgnaaGreatDoor
open Go.RowKit Go.ChangeShapes Go.WideShapes

set_option maxRecDepth 100000 in
set_option maxHeartbeats 4000000 in
theorem dumpLines_walk0 (r : Rec) (s : List UInt8) (w : World) (hL : LibV w) (hr : RecOk 2097152 r) (hs : s.length ≤ 2097152) :
    Calls Tryz.prog 4 #[recV r, .string ⟨s.toArray⟩] w fun x w' => x = .returned (.bool true) ∧ Below w.heap.size w w' := by
  have HL := Lib.hid hL
  have HOK := Lib.hid hr
  have HB0 := Lib.hid (show Below w.heap.size w (w.alloc (.cells (rcCs r) 37)) from (Below.refl _ _).alloc (Nat.le_refl _) _)
  have HE0 := Lib.hid (show RcBlk (w.alloc (.cells (rcCs r) 37)) w.heap.size r from heap_alloc_new w _)
  unfold rcCs at HB0 HE0
  clear hL hr
  go_enter Tryz.func4, Tryz.ntmps4
  go_wp2_with fail
  generalize w.alloc (.cells #[.int .i64 r.1, .int .i64 r.2.kind, .int .i64 r.2.order, .int .i64 r.2.item, .int .i64 r.2.qty, .int .i64 r.2.price, .int .i64 r.2.cur, .int .i64 r.2.tax, .string ⟨r.2.who.toArray⟩, .int .i64 r.2.stamp, .string ⟨r.2.note.toArray⟩] 37) = w0 at *
  have HL0 := Lib.hid (HL.out.below HB0.out)
  refine (head24_any _ HL0.out HL0.out.lt).mono ?_
  rintro x w1 ⟨rfl, hb1⟩
  have HB1 := Lib.hid (Below.next HB0.out hb1)
  have HE1 := Lib.hid (HE0.out.below hb1)
  clear hb1 HB0 HE0
  go_wp2_with (with_reducible refine wpList_load_rc rfl (.tmp 2) rfl w.heap.size r rfl HE1.out ?_)
  refine (refLine_any r.1 r.2 _ HOK.out.ev HOK.out.seq).mono ?_
  rintro x w2 ⟨rfl, hb2⟩
  have HB2 := Lib.hid (Below.next HB1.out hb2)
  have HE2 := Lib.hid (HE1.out.below hb2)
  clear hb2 HB1 HE1
  go_wp2_with (with_reducible refine wpList_load_rc rfl (.tmp 2) rfl w.heap.size r rfl HE2.out ?_)
  refine (dumpLine_any r.1 r.2 _ HOK.out.ev HOK.out.seq (HL.out.below HB2.out)).mono ?_
  rintro x w3 ⟨rfl, hb3⟩
  have HB3 := Lib.hid (Below.next HB2.out hb3)
  clear hb3 HB2 HE2
  obtain ⟨D, hD⟩ : ∃ D, D = lineOf r.1 r.2 := ⟨_, rfl⟩
  rw [← hD]
  clear hD
  have t1 : (D.1 != D.1) = false := by simp
  have t2 : (D.2 != D.2) = false := by simp
  go_wp2_with fail
  refine (refRecord_any s _ hs).mono ?_
  rintro x w4 ⟨rfl, hb4⟩
  obtain ⟨X, hX⟩ : ∃ X, X = recordOf s := ⟨_, rfl⟩
  rw [← hX]
  have HX := Lib.hid hX
  obtain ⟨q, c⟩ := X
  simp only
  have HB4 := Lib.hid (Below.next HB3.out (Below.next hb4 (show Below w4.heap.size w4 (w4.alloc (.cells (rcCs q) 37)) from (Below.refl _ _).alloc (Nat.le_refl _) _)))
  have HE4 := Lib.hid (show RcBlk (w4.alloc (.cells (rcCs q) 37)) w4.heap.size q from heap_alloc_new w4 _)
  unfold rcCs at HB4 HE4
  clear hb4 HB3 hX
  go_wp2_with fail
  generalize w4.alloc (.cells #[.int .i64 q.1, .int .i64 q.2.kind, .int .i64 q.2.order, .int .i64 q.2.item, .int .i64 q.2.qty, .int .i64 q.2.price, .int .i64 q.2.cur, .int .i64 q.2.tax, .string ⟨q.2.who.toArray⟩, .int .i64 q.2.stamp, .string ⟨q.2.note.toArray⟩] 37) = w5 at *
  have HL5 := Lib.hid (HL.out.below HB4.out)
  refine (dumpRecord_any s _ HL5.out HL5.out.lt hs).mono ?_
  rintro x w6 ⟨rfl, hb6⟩
  rw [← HX.out]
  have HB7 := Lib.hid (Below.next HB4.out (Below.next hb6 (show Below w6.heap.size w6 (w6.alloc (.cells (rcCs q) 37)) from (Below.refl _ _).alloc (Nat.le_refl _) _)))
  have HE7 := Lib.hid ((HE4.out.below hb6).below (show Below w6.heap.size w6 (w6.alloc (.cells (rcCs q) 37)) from (Below.refl _ _).alloc (Nat.le_refl _) _))
  have HF7 := Lib.hid (show RcBlk (w6.alloc (.cells (rcCs q) 37)) w6.heap.size q from heap_alloc_new w6 _)
  unfold rcCs at HB7 HE7 HF7
  have heq := fun w => run_rcEql q q w
  rw [(recSame_iff _ _).2 rfl] at heq
  have t3 : (c == c) = true := by simp
  clear hb6 HB4 HE4 HX
  go_wp2_with (first
    | (with_reducible refine wpList_load_rc rfl (.tmp 9) rfl w4.heap.size q rfl HE7.out ?_)
    | (with_reducible refine wpList_load_rc rfl (.tmp 11) rfl w6.heap.size q rfl HF7.out ?_)
    | rw [heq])
  go_ret
  exact ⟨rfl, HB7.out⟩

theorem dumpLines_walk (v0 : Value) (a0 : Rec) (a1 : List UInt8) (w : World) (h0 : RdRec w v0 a0) (h1 : a1.length ≤ 1048576) (hL : laidMetH Tryz.prog Rows.dumpLinesUptoRow.laid w) (hS : w.ShapedOpen Tryz.prog) :
    Calls Tryz.prog 4 #[v0, .string ⟨a1.toArray⟩] w fun x w' => x = .returned (.bool true) ∧ Below w.heap.size w w' := by
  obtain ⟨rfl, he⟩ := h0
  exact dumpLines_walk0 a0 a1 w (libV_of rfl hL hS) (he.mono (by decide)) (by omega)

end Go.Proofs.YtecmpmnidlfgnaaGreatDoor
