import Derived.Test.YtkapjnlhkchpiaaDoorAuditWords
import Derived.Deep.RegionHeld3
namespace Go.Proofs.YtkapjnlhkchpiaaDoor
open Go.RowKit

theorem nameOf_le (e : Int) : (nameOf e).length ≤ 20 := by
  have h : ∀ t ∈ rfT, t.length ≤ 20 := by decide
  unfold nameOf
  split
  · rename_i k hk
    rw [List.getD_eq_getElem?_getD]
    cases hx : rfT[k]? with
    | none => simp
    | some t => simpa using h t (List.mem_of_getElem? hx)
  · simp

theorem str_add (a b m : List UInt8) (hm : m = a ++ b) (h : m.length ≤ 4611686018427387904) (wx : World) : (Op.stringOp .add ⟨a.toArray⟩ ⟨b.toArray⟩).run Tryd.prog wx = .ok (.string ⟨m.toArray⟩) wx := by
  subst hm
  rw [run_string_add_sum wx _ _ (by simp [ByteArray.size] at h ⊢; omega), ba_append]

/-- a finding as a line -/
def wordsOf (nm : List UInt8) (p e : Int) : List UInt8 := nm ++ [32, 97, 116, 32] ++ Lib.itoa p ++ [58, 32] ++ nameOf e

theorem cells_below {w w' : World} (hb : Below w.heap.size w w') : ∀ b o, b < w.heap.size → w'.cell? ⟨b, o, none⟩ = w.cell? ⟨b, o, none⟩ := fun b o h => hb.cell (p := ⟨b, o, none⟩) h

set_option maxHeartbeats 2000000 in
set_option maxRecDepth 100000 in
theorem auditWords_any (nm : List UInt8) (p e : Int) (w : World) (ads : List Addr) (hS : Sents w ads) (hP : PowTab w) (hl : nm.length ≤ reachBytes) (hp0 : -9223372036854775808 ≤ p) (hp1 : p ≤ 9223372036854775807) :
    Calls Tryd.prog 16 #[.agg #[.string ⟨nm.toArray⟩, .int .i64 p, .int .i64 e]] w fun x w' => x = .returned (.string ⟨(wordsOf nm p e).toArray⟩) ∧ Below w.heap.size w w' := by
  have hl' : nm.length ≤ 140737488355328 := Nat.le_trans hl (by decide)
  have hi := itoa_le p hp0 hp1
  have hn := nameOf_le e
  obtain ⟨m1, hm1⟩ : ∃ m, m = nm ++ [32, 97, 116, 32] := ⟨_, rfl⟩
  obtain ⟨m2, hm2⟩ : ∃ m, m = m1 ++ Lib.itoa p := ⟨_, rfl⟩
  obtain ⟨m3, hm3⟩ : ∃ m, m = m2 ++ [58, 32] := ⟨_, rfl⟩
  obtain ⟨m4, hm4⟩ : ∃ m, m = m3 ++ nameOf e := ⟨_, rfl⟩
  have k1 : m1.length = nm.length + 4 := by rw [hm1]; simp
  have k2 : m2.length = m1.length + (Lib.itoa p).length := by rw [hm2]; simp
  have k3 : m3.length = m2.length + 2 := by rw [hm3]; simp
  have k4 : m4.length = m3.length + (nameOf e).length := by rw [hm4]; simp
  have e1 := str_add _ _ _ hm1 (by omega)
  have e2 := str_add _ _ _ hm2 (by omega)
  have e3 := str_add _ _ _ hm3 (by omega)
  have e4 := str_add _ _ _ hm4 (by omega)
  have hfin : Hid (wordsOf nm p e = m4) := Lib.hid (by rw [hm4, hm3, hm2, hm1, wordsOf])
  clear hm1 hm2 hm3 hm4 k1 k2 k3 k4 hi hn
  have HS := Lib.hid hS
  have HP := Lib.hid hP
  clear hS hP hl
  go_enter Tryd.func16, Tryd.ntmps16
  go_wp2
  have hb1 : Below w.heap.size w (w.alloc (.cells #[.string ⟨nm.toArray⟩, .int .i64 p, .int .i64 e] 39)) := (Below.refl _ _).alloc (Nat.le_refl _) _
  have c0 : (w.alloc (.cells #[.string ⟨nm.toArray⟩, .int .i64 p, .int .i64 e] 39)).cell? ⟨w.heap.size, 0, none⟩ = some (.string ⟨nm.toArray⟩) := by rw [World.cell?_alloc_new]; rfl
  have c1 : (w.alloc (.cells #[.string ⟨nm.toArray⟩, .int .i64 p, .int .i64 e] 39)).cell? ⟨w.heap.size, 1, none⟩ = some (.int .i64 p) := by rw [World.cell?_alloc_new]; rfl
  have c2 : (w.alloc (.cells #[.string ⟨nm.toArray⟩, .int .i64 p, .int .i64 e] 39)).cell? ⟨w.heap.size, 2, none⟩ = some (.int .i64 e) := by rw [World.cell?_alloc_new]; rfl
  have hz : w.heap.size < (w.alloc (.cells #[.string ⟨nm.toArray⟩, .int .i64 p, .int .i64 e] 39)).heap.size := by simp
  generalize w.alloc (.cells #[.string ⟨nm.toArray⟩, .int .i64 p, .int .i64 e] 39) = w1 at *
  have HB1 := Lib.hid hb1
  have HS1 := Lib.hid (HS.out.below hb1)
  have HP1 : Hid (PowTab w1.drew) := Lib.hid (PowTab.below (HP.out.below hb1) ((Below.refl _ _).drew))
  have HS1d := Lib.hid (Sents.below (HS.out.below hb1) ((Below.refl _ _).drew))
  clear hb1
  have keep0 : Hid (w1.drew.cell? ⟨w.heap.size, 0, none⟩ = some (.string ⟨nm.toArray⟩) ∧ w1.drew.cell? ⟨w.heap.size, 1, none⟩ = some (.int .i64 p) ∧ w1.drew.cell? ⟨w.heap.size, 2, none⟩ = some (.int .i64 e) ∧ Below w1.heap.size w1 w1.drew) :=
    Lib.hid ⟨c0, c1, c2, (Below.refl _ _).drew⟩
  have keepN : Hid (∀ x y : World, Below x.heap.size x y → Below w1.heap.size w1 x → y.cell? ⟨w.heap.size, 0, none⟩ = some (.string ⟨nm.toArray⟩) ∧ y.cell? ⟨w.heap.size, 1, none⟩ = some (.int .i64 p) ∧ y.cell? ⟨w.heap.size, 2, none⟩ = some (.int .i64 e) ∧ Below w1.heap.size w1 y) :=
    Lib.hid fun x y h1 h2 => by
      have h3 := Below.next h2 h1
      exact ⟨cell_later h3 c0, cell_later h3 c1, cell_later h3 c2, h3⟩
  have pows : Hid (∀ x, Below w1.heap.size w1 x → PowTab x) := Lib.hid fun x h => (HP.out.below HB1.out).below h
  have sents : Hid (∀ x, Below w1.heap.size w1 x → Sents x ads) := Lib.hid fun x h => (HS.out.below HB1.out).below h
  clear c0 c1 c2
  go_region_held3 (fun w' => w'.cell? ⟨w.heap.size, 0, none⟩ = some (.string ⟨nm.toArray⟩) ∧ w'.cell? ⟨w.heap.size, 1, none⟩ = some (.int .i64 p) ∧ w'.cell? ⟨w.heap.size, 2, none⟩ = some (.int .i64 e) ∧ Below w1.heap.size w1 w')
    (first | exact keep0.out | assumption | (go_split_ands; exact keepN.out _ _ hb2 (by assumption)))
    (first | (go_at_call 27; go_split_ands; refine (Itoa_any p _ hp0 hp1 ?_).mono ?_; exact pows.out _ (by assumption); rintro x w2 ⟨rfl, hb2⟩) | (go_at_call 14; go_split_ands; refine (Name_any e _ ads ?_).mono ?_; exact sents.out _ (by assumption); rintro x w' ⟨rfl, rfl⟩))
  go_wp2
  go_ret
  go_split_ands
  exact ⟨by rw [hfin.out]; rfl, Below.next HB1.out (by assumption)⟩

end Go.Proofs.YtkapjnlhkchpiaaDoor
