import Derived.Test.YtecmpmnidlfgnaaGreatDoorScriptLine
import Derived.Test.YtecmpmnidlfgnaaGreatDoorScriptCommand2
namespace Go.Proofs.YtecmpmnidlfgnaaGreatDoor
open Go.RowKit

/-! ## the law's fixed answer -/

def hcText : List UInt8 := [97, 112, 112, 101, 110, 100, 32, 53, 32, 112, 108, 97, 99, 101, 32, 111, 114, 100, 101, 114, 61, 55]
def hcCmd : Cmd := ⟨vAppend, [5], ⟨1, 7, 0, 0, 0, 0, 0, [], 0, []⟩, []⟩
def hkCmd : Cmd := ⟨vCrash, [0, 12, -1], evNone, []⟩
set_option maxRecDepth 100000 in
theorem hcText_eq : cmdOf hcText = (hcCmd, 0) := by kernel_rfl
set_option maxRecDepth 100000 in
theorem hkCmd_eq : cmdLine hkCmd = ([99, 114, 97, 115, 104, 32, 48, 32, 49, 50, 32, 45, 49], 0) := by kernel_rfl
theorem hk_ok : CmOk 1048576 hkCmd :=
  ⟨by decide, by decide, by intro n hn; simp [hkCmd] at hn; unfold I64; omega, ⟨⟨by decide, by decide⟩, ⟨by decide, by decide⟩, ⟨by decide, by decide⟩, ⟨by decide, by decide⟩, ⟨by decide, by decide⟩, ⟨by decide, by decide⟩, ⟨by decide, by decide⟩, ⟨by decide, by decide⟩, by decide, by decide⟩, by decide⟩

set_option maxRecDepth 100000 in
set_option maxHeartbeats 8000000 in
theorem head25_any (w : World) (hL : LibV w) : Calls Tryz.prog 27 #[] w fun x w' => x = .returned (.bool true) ∧ Below w.heap.size w w' := by
  have HL := Lib.hid hL
  clear hL
  go_enter Tryz.func27, Tryz.ntmps27
  go_wp2_with fail
  refine (cmdS_any hcText _ (by decide) HL.out).mono ?_
  rintro x w1 ⟨nv, rv, rfl, hn, hr, hb1⟩
  rw [hcText_eq] at hn hr ⊢
  obtain ⟨on, cn, rfl, _, _⟩ := own_shape hn
  obtain ⟨orr, cr, rfl, _, _⟩ := own_shape hr
  have hA := (show Below w1.heap.size w1 (w1.alloc (.cells #[.string ⟨hcCmd.verb.toArray⟩, .slice on hcCmd.nums.length cn, .int .i64 hcCmd.ev.kind, .int .i64 hcCmd.ev.order, .int .i64 hcCmd.ev.item, .int .i64 hcCmd.ev.qty, .int .i64 hcCmd.ev.price, .int .i64 hcCmd.ev.cur, .int .i64 hcCmd.ev.tax, .string ⟨hcCmd.ev.who.toArray⟩, .int .i64 hcCmd.ev.stamp, .string ⟨hcCmd.ev.note.toArray⟩, .slice orr hcCmd.raw.length cr] 59)) from (Below.refl _ _).alloc (Nat.le_refl _) _)
  have HB2 := Lib.hid (Below.next hb1 hA)
  have HC2 := Lib.hid (show CmBlk (w1.alloc (.cells #[.string ⟨hcCmd.verb.toArray⟩, .slice on hcCmd.nums.length cn, .int .i64 hcCmd.ev.kind, .int .i64 hcCmd.ev.order, .int .i64 hcCmd.ev.item, .int .i64 hcCmd.ev.qty, .int .i64 hcCmd.ev.price, .int .i64 hcCmd.ev.cur, .int .i64 hcCmd.ev.tax, .string ⟨hcCmd.ev.who.toArray⟩, .int .i64 hcCmd.ev.stamp, .string ⟨hcCmd.ev.note.toArray⟩, .slice orr hcCmd.raw.length cr] 59)) w1.heap.size hcCmd (.slice on hcCmd.nums.length cn) (.slice orr hcCmd.raw.length cr) from heap_alloc_new w1 _)
  clear hn hr hb1 hA
  go_wp2_with fail
  have hs2 : (w1.alloc (.cells #[.string ⟨hcCmd.verb.toArray⟩, .slice on hcCmd.nums.length cn, .int .i64 hcCmd.ev.kind, .int .i64 hcCmd.ev.order, .int .i64 hcCmd.ev.item, .int .i64 hcCmd.ev.qty, .int .i64 hcCmd.ev.price, .int .i64 hcCmd.ev.cur, .int .i64 hcCmd.ev.tax, .string ⟨hcCmd.ev.who.toArray⟩, .int .i64 hcCmd.ev.stamp, .string ⟨hcCmd.ev.note.toArray⟩, .slice orr hcCmd.raw.length cr] 59)).heap.size = w1.heap.size + 1 := by simp
  generalize w1.alloc (.cells #[.string ⟨hcCmd.verb.toArray⟩, .slice on hcCmd.nums.length cn, .int .i64 hcCmd.ev.kind, .int .i64 hcCmd.ev.order, .int .i64 hcCmd.ev.item, .int .i64 hcCmd.ev.qty, .int .i64 hcCmd.ev.price, .int .i64 hcCmd.ev.cur, .int .i64 hcCmd.ev.tax, .string ⟨hcCmd.ev.who.toArray⟩, .int .i64 hcCmd.ev.stamp, .string ⟨hcCmd.ev.note.toArray⟩, .slice orr hcCmd.raw.length cr] 59) = w2 at *
  have hA := (show Below w2.heap.size w2 (w2.alloc (.cells #[.int .i64 0, .int .i64 12, .int .i64 (-1)] 3)) from (Below.refl _ _).alloc (Nat.le_refl _) _)
  have hIR : IntRow .i64 (w2.alloc (.cells #[.int .i64 0, .int .i64 12, .int .i64 (-1)] 3)) (.slice (some ⟨w1.heap.size + 1, 0, none⟩) 3 3) hkCmd.nums := by
    refine ⟨_, 3, rfl, Nat.le_refl _, by decide, fun x hx => wf_i64 (hk_ok.i64 x hx), fun _ => ⟨_, _, rfl, fun i x hx => ?_⟩⟩
    have h := World.cell?_alloc_new w2 #[.int .i64 0, .int .i64 12, .int .i64 (-1)] 3 i
    rw [hs2] at h
    rw [Nat.zero_add, h]
    match i, hx with
    | 0, hx => simp [hkCmd] at hx ⊢; exact hx
    | 1, hx => simp [hkCmd] at hx ⊢; exact hx
    | 2, hx => simp [hkCmd] at hx ⊢; exact hx
    | i + 3, hx => simp [hkCmd] at hx
  have HB3 := Lib.hid (Below.next HB2.out hA)
  have HC3 := Lib.hid (HC2.out.below hA)
  refine (lineS_any hkCmd (.slice (some ⟨w1.heap.size + 1, 0, none⟩) 3 3) (.slice none 0 0) _ ⟨hIR, bRow_nil⟩ hk_ok (HL.out.below HB3.out)).mono ?_
  rintro x w4 ⟨rfl, hb4⟩
  rw [hkCmd_eq]
  have HB4 := Lib.hid (Below.next HB3.out hb4)
  have HC4 := Lib.hid (HC3.out.below hb4)
  have c0 : w4.cell? ⟨w1.heap.size, 0, none⟩ = some (.string ⟨#[97, 112, 112, 101, 110, 100]⟩) := HC4.out.cell 0
  have c3 : w4.cell? ⟨w1.heap.size, 3, none⟩ = some (.int .i64 7) := HC4.out.cell 3
  clear hb4 hA hIR hs2
  go_wp2
  go_ret
  exact ⟨rfl, HB4.out⟩

end Go.Proofs.YtecmpmnidlfgnaaGreatDoor
