import Derived.Test.YtecmpmnidlfgnaaGreatDoorRecord
import Derived.Test.YtecmpmnidlfgnaaGreatDoorDumpBack
import Derived.Test.YtecmpmnidlfgnaaGreatDoorRecRow
namespace Go.Proofs.YtecmpmnidlfgnaaGreatDoor
open Go.RowKit

/-! ## the law's fixed answer -/

def hEv : Ev := ⟨2, 7, 3, 2, 500, 0, 0, [97, 110, 110], 0, [104, 105]⟩
def hLine : List UInt8 := [49, 50, 32, 97, 100, 100, 32, 111, 114, 100, 101, 114, 61, 55, 32, 105, 116, 101, 109, 61, 51, 32, 113, 116, 121, 61, 50, 32, 112, 114, 105, 99, 101, 61, 53, 48, 48, 32, 119, 104, 111, 61, 97, 110, 110, 32, 110, 111, 116, 101, 61, 54, 56, 54, 57]
set_option maxRecDepth 100000 in
theorem hLine_eq : lineOf 12 hEv = (hLine, 0) := by kernel_rfl
set_option maxRecDepth 100000 in
theorem hRec_eq : recordOf hLine = ((12, hEv), 0) := by kernel_rfl

theorem hOk : EvOk 2097152 hEv := ⟨⟨by decide, by decide⟩, ⟨by decide, by decide⟩, ⟨by decide, by decide⟩, ⟨by decide, by decide⟩, ⟨by decide, by decide⟩, ⟨by decide, by decide⟩, ⟨by decide, by decide⟩, ⟨by decide, by decide⟩, by decide, by decide⟩

set_option maxRecDepth 100000 in
set_option maxHeartbeats 4000000 in
theorem head24_any (w : World) (hL : LibV w) (hgl : ∀ g, (g = 0 ∨ g = 2 ∨ g = 3 ∨ g = 1) → g < w.heap.size) :
    Calls Tryz.prog 12 #[] w fun x w' => x = .returned (.bool true) ∧ Below w.heap.size w w' := by
  have HL := Lib.hid hL
  have HGL := Lib.hid hgl
  have HB0 := Lib.hid (show Below w.heap.size w (w.alloc (.cells #[.int .i64 12, .int .i64 2, .int .i64 7, .int .i64 3, .int .i64 2, .int .i64 500, .int .i64 0, .int .i64 0, .string ⟨#[97, 110, 110]⟩, .int .i64 0, .string ⟨#[104, 105]⟩] 37)) from (Below.refl _ _).alloc (Nat.le_refl _) _)
  have HR0 := Lib.hid (show RcBlk (w.alloc (.cells #[.int .i64 12, .int .i64 2, .int .i64 7, .int .i64 3, .int .i64 2, .int .i64 500, .int .i64 0, .int .i64 0, .string ⟨#[97, 110, 110]⟩, .int .i64 0, .string ⟨#[104, 105]⟩] 37)) w.heap.size (12, hEv) from rcBlk_alloc w (12, hEv))
  clear hL hgl
  go_enter Tryz.func12, Tryz.ntmps12
  go_wp2_with (with_reducible refine wpList_load_rc rfl (.tmp 1) rfl w.heap.size (12, hEv) rfl HR0.out ?_)
  generalize w.alloc (.cells #[.int .i64 12, .int .i64 2, .int .i64 7, .int .i64 3, .int .i64 2, .int .i64 500, .int .i64 0, .int .i64 0, .string ⟨#[97, 110, 110]⟩, .int .i64 0, .string ⟨#[104, 105]⟩] 37) = w0 at *
  refine (dumpLine_any 12 hEv _ hOk ⟨by decide, by decide⟩ (HL.out.below HB0.out)).mono ?_
  rintro x w1 ⟨rfl, hb1⟩
  rw [hLine_eq]
  have HB1 := Lib.hid (Below.next HB0.out hb1)
  have HR1 := Lib.hid (HR0.out.below hb1)
  clear hb1
  go_wp2_with fail
  refine (dumpRecord_any hLine _ (HL.out.below HB1.out) (fun g h => by have := HGL.out g h; have := HB1.out.size; omega) (by decide)).mono ?_
  rintro x w2 ⟨rfl, hb2⟩
  rw [hRec_eq]
  have HB2 := Lib.hid (Below.next HB1.out hb2)
  have HR2 := Lib.hid (HR1.out.below hb2)
  have HB3 := Lib.hid (Below.next HB2.out (show Below w2.heap.size w2 (w2.alloc (.cells #[.int .i64 12, .int .i64 hEv.kind, .int .i64 hEv.order, .int .i64 hEv.item, .int .i64 hEv.qty, .int .i64 hEv.price, .int .i64 hEv.cur, .int .i64 hEv.tax, .string ⟨hEv.who.toArray⟩, .int .i64 hEv.stamp, .string ⟨hEv.note.toArray⟩] 37)) from (Below.refl _ _).alloc (Nat.le_refl _) _))
  have HR3 := Lib.hid (HR2.out.below (show Below w2.heap.size w2 (w2.alloc (.cells #[.int .i64 12, .int .i64 hEv.kind, .int .i64 hEv.order, .int .i64 hEv.item, .int .i64 hEv.qty, .int .i64 hEv.price, .int .i64 hEv.cur, .int .i64 hEv.tax, .string ⟨hEv.who.toArray⟩, .int .i64 hEv.stamp, .string ⟨hEv.note.toArray⟩] 37)) from (Below.refl _ _).alloc (Nat.le_refl _) _))
  have HR4 := Lib.hid (show RcBlk (w2.alloc (.cells #[.int .i64 12, .int .i64 hEv.kind, .int .i64 hEv.order, .int .i64 hEv.item, .int .i64 hEv.qty, .int .i64 hEv.price, .int .i64 hEv.cur, .int .i64 hEv.tax, .string ⟨hEv.who.toArray⟩, .int .i64 hEv.stamp, .string ⟨hEv.note.toArray⟩] 37)) w2.heap.size (12, hEv) from rcBlk_alloc w2 (12, hEv))
  clear hb2
  have heq : ∀ w : World, (binOp .eql 37 (.agg #[.int .i64 12, .int .i64 hEv.kind, .int .i64 hEv.order, .int .i64 hEv.item, .int .i64 hEv.qty, .int .i64 hEv.price, .int .i64 hEv.cur, .int .i64 hEv.tax, .string ⟨hEv.who.toArray⟩, .int .i64 hEv.stamp, .string ⟨hEv.note.toArray⟩]) (.agg #[.int .i64 12, .int .i64 hEv.kind, .int .i64 hEv.order, .int .i64 hEv.item, .int .i64 hEv.qty, .int .i64 hEv.price, .int .i64 hEv.cur, .int .i64 hEv.tax, .string ⟨hEv.who.toArray⟩, .int .i64 hEv.stamp, .string ⟨hEv.note.toArray⟩])).run Tryz.prog w = .ok (.bool true) w := fun w => by
    have h := run_rcEql (12, hEv) (12, hEv) w
    rw [(recSame_iff _ _).2 rfl] at h
    exact h
  have c0 : (w2.alloc (.cells #[.int .i64 12, .int .i64 hEv.kind, .int .i64 hEv.order, .int .i64 hEv.item, .int .i64 hEv.qty, .int .i64 hEv.price, .int .i64 hEv.cur, .int .i64 hEv.tax, .string ⟨hEv.who.toArray⟩, .int .i64 hEv.stamp, .string ⟨hEv.note.toArray⟩] 37)).cell? ⟨w.heap.size, 0, none⟩ = some (.int .i64 12) := HR3.out.cell 0
  have c1 : (w2.alloc (.cells #[.int .i64 12, .int .i64 hEv.kind, .int .i64 hEv.order, .int .i64 hEv.item, .int .i64 hEv.qty, .int .i64 hEv.price, .int .i64 hEv.cur, .int .i64 hEv.tax, .string ⟨hEv.who.toArray⟩, .int .i64 hEv.stamp, .string ⟨hEv.note.toArray⟩] 37)).cell? ⟨w.heap.size, 1, none⟩ = some (.int .i64 hEv.kind) := HR3.out.cell 1
  have c2 : (w2.alloc (.cells #[.int .i64 12, .int .i64 hEv.kind, .int .i64 hEv.order, .int .i64 hEv.item, .int .i64 hEv.qty, .int .i64 hEv.price, .int .i64 hEv.cur, .int .i64 hEv.tax, .string ⟨hEv.who.toArray⟩, .int .i64 hEv.stamp, .string ⟨hEv.note.toArray⟩] 37)).cell? ⟨w.heap.size, 2, none⟩ = some (.int .i64 hEv.order) := HR3.out.cell 2
  have c3 : (w2.alloc (.cells #[.int .i64 12, .int .i64 hEv.kind, .int .i64 hEv.order, .int .i64 hEv.item, .int .i64 hEv.qty, .int .i64 hEv.price, .int .i64 hEv.cur, .int .i64 hEv.tax, .string ⟨hEv.who.toArray⟩, .int .i64 hEv.stamp, .string ⟨hEv.note.toArray⟩] 37)).cell? ⟨w.heap.size, 3, none⟩ = some (.int .i64 hEv.item) := HR3.out.cell 3
  have c4 : (w2.alloc (.cells #[.int .i64 12, .int .i64 hEv.kind, .int .i64 hEv.order, .int .i64 hEv.item, .int .i64 hEv.qty, .int .i64 hEv.price, .int .i64 hEv.cur, .int .i64 hEv.tax, .string ⟨hEv.who.toArray⟩, .int .i64 hEv.stamp, .string ⟨hEv.note.toArray⟩] 37)).cell? ⟨w.heap.size, 4, none⟩ = some (.int .i64 hEv.qty) := HR3.out.cell 4
  have c5 : (w2.alloc (.cells #[.int .i64 12, .int .i64 hEv.kind, .int .i64 hEv.order, .int .i64 hEv.item, .int .i64 hEv.qty, .int .i64 hEv.price, .int .i64 hEv.cur, .int .i64 hEv.tax, .string ⟨hEv.who.toArray⟩, .int .i64 hEv.stamp, .string ⟨hEv.note.toArray⟩] 37)).cell? ⟨w.heap.size, 5, none⟩ = some (.int .i64 hEv.price) := HR3.out.cell 5
  have c6 : (w2.alloc (.cells #[.int .i64 12, .int .i64 hEv.kind, .int .i64 hEv.order, .int .i64 hEv.item, .int .i64 hEv.qty, .int .i64 hEv.price, .int .i64 hEv.cur, .int .i64 hEv.tax, .string ⟨hEv.who.toArray⟩, .int .i64 hEv.stamp, .string ⟨hEv.note.toArray⟩] 37)).cell? ⟨w.heap.size, 6, none⟩ = some (.int .i64 hEv.cur) := HR3.out.cell 6
  have c7 : (w2.alloc (.cells #[.int .i64 12, .int .i64 hEv.kind, .int .i64 hEv.order, .int .i64 hEv.item, .int .i64 hEv.qty, .int .i64 hEv.price, .int .i64 hEv.cur, .int .i64 hEv.tax, .string ⟨hEv.who.toArray⟩, .int .i64 hEv.stamp, .string ⟨hEv.note.toArray⟩] 37)).cell? ⟨w.heap.size, 7, none⟩ = some (.int .i64 hEv.tax) := HR3.out.cell 7
  have c8 : (w2.alloc (.cells #[.int .i64 12, .int .i64 hEv.kind, .int .i64 hEv.order, .int .i64 hEv.item, .int .i64 hEv.qty, .int .i64 hEv.price, .int .i64 hEv.cur, .int .i64 hEv.tax, .string ⟨hEv.who.toArray⟩, .int .i64 hEv.stamp, .string ⟨hEv.note.toArray⟩] 37)).cell? ⟨w.heap.size, 8, none⟩ = some (.string ⟨hEv.who.toArray⟩) := HR3.out.cell 8
  have c9 : (w2.alloc (.cells #[.int .i64 12, .int .i64 hEv.kind, .int .i64 hEv.order, .int .i64 hEv.item, .int .i64 hEv.qty, .int .i64 hEv.price, .int .i64 hEv.cur, .int .i64 hEv.tax, .string ⟨hEv.who.toArray⟩, .int .i64 hEv.stamp, .string ⟨hEv.note.toArray⟩] 37)).cell? ⟨w.heap.size, 9, none⟩ = some (.int .i64 hEv.stamp) := HR3.out.cell 9
  have c10 : (w2.alloc (.cells #[.int .i64 12, .int .i64 hEv.kind, .int .i64 hEv.order, .int .i64 hEv.item, .int .i64 hEv.qty, .int .i64 hEv.price, .int .i64 hEv.cur, .int .i64 hEv.tax, .string ⟨hEv.who.toArray⟩, .int .i64 hEv.stamp, .string ⟨hEv.note.toArray⟩] 37)).cell? ⟨w.heap.size, 10, none⟩ = some (.string ⟨hEv.note.toArray⟩) := HR3.out.cell 10
  go_wp2
  go_ret
  exact ⟨rfl, HB3.out⟩

end Go.Proofs.YtecmpmnidlfgnaaGreatDoor
