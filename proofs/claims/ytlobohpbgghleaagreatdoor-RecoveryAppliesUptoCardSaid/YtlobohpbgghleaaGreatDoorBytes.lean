import Derived.Test.YtlobohpbgghleaaGreatDoorBRow
import Derived.Test.YtlobohpbgghleaaGreatDoorOwn
import Derived.Laws.OwnMore
import Derived.Laws.MakeOwn
import Derived.Deep.QuietTactic
namespace Go.Proofs.YtlobohpbgghleaaGreatDoor
open Go.RowKit

/-! ## bytes: the reference's Copy and Same -/

theorem brow_own {w : World} {B : Nat} {v : Value} {l : List UInt8} (h : w.ownsRow B 5 1 v l.length (Lib.byteCells l)) : BRow w v l := by
  by_cases hn : l = []
  · subst hn
    obtain ⟨oa, cap, rfl, h1, _⟩ := own_shape h
    exact ⟨oa, cap, rfl, h1, fun h => absurd rfl h⟩
  · obtain ⟨g, cap, rfl, _, _, h1, _, h3⟩ := own_get h (List.length_pos_iff.2 hn)
    exact ⟨_, cap, rfl, h1, fun _ => ⟨g, 0, rfl, fun i x hi => by rw [Nat.zero_add]; exact h3 i _ (by rw [Lib.byteCells, List.getElem?_map, hi]; rfl)⟩⟩

set_option maxRecDepth 100000 in
set_option maxHeartbeats 4000000 in
theorem sameBytes_any (l : List UInt8) (v1 v2 : Value) (w : World) (h1 : BRow w v1 l) (h2 : BRow w v2 l) (hn : l.length ≤ 9223372036854775807) :
    Calls Tryz.prog 46 #[v1, v2] w fun x w' => x = .returned (.bool true) ∧ Below w.heap.size w w' := by
  obtain ⟨oa1, cap1, rfl, hl1, hc1⟩ := h1
  obtain ⟨oa2, cap2, rfl, hl2, hc2⟩ := h2
  by_cases hl : l = []
  · subst hl
    go_enter Tryz.func46, Tryz.ntmps46
    go_wp2
    refine wp_loop_rounds 1 ?_
    rw [rounds_succ]
    go_wp2
    go_ret
    exact ⟨rfl, Below.refl _ _⟩
  obtain ⟨b1, off1, rfl, hcs1⟩ := hc1 hl
  obtain ⟨b2, off2, rfl, hcs2⟩ := hc2 hl
  have HC1 := Lib.hid hcs1
  have HC2 := Lib.hid hcs2
  clear hcs1 hcs2 hc1 hc2 hl
  go_enter Tryz.func46, Tryz.ntmps46
  go_wp2
  go_loopw [13] (fun iv wr => ∃ k : Nat, k ≤ l.length ∧ iv = .int .i64 k ∧ Below w.heap.size w wr) (fun iv _ => l.length - (intOf iv).toNat)
  case atStart => exact ⟨0, Nat.zero_le _, rfl, Below.refl _ _⟩
  case round =>
    obtain ⟨k, hk, rfl, hb⟩ := hrel
    have HB := Lib.hid hb
    clear hb
    by_cases hlt : k < l.length
    · obtain ⟨x, hx, _, _⟩ := nth l k hlt
      have q1 : (k : Int) < (l.length : Int) := by omega
      have c1 := cell_later HB.out (HC1.out k x hx)
      have c2 := cell_later HB.out (HC2.out k x hx)
      have t1 : ((x.toNat : Int) != (x.toNat : Int)) = false := by simp
      clear hx
      go_wp2
      go_quiet (fail)
      go_wp2
      go_roundw
      case rel => exact ⟨k + 1, by omega, by go_num, Below.next HB.out (below_drewN' _ _)⟩
      case measure => simp [intOf]; omega
    · obtain rfl : k = l.length := by omega
      go_wp2
      go_ret
      exact ⟨rfl, HB.out⟩

theorem infoByteB : (Tryz.prog.info? 5).map (fun i => (i.zero, i.size, i.bytes)) = some (some (.int .u8 0), 1, 1) := by kernel_rfl
theorem own_free {w : World} {B g n cap : Nat} {e : TypeId} {xs : List Value} (h : w.ownsRow B e 1 (.slice (some ⟨g, 0, none⟩) n cap) n xs) (j : Nat) : w.frozen? ⟨g, j, none⟩ = false := by
  rcases h.2 with ⟨h', _⟩ | ⟨g', cap', cur, h', _, hg, _⟩
  · cases h'
  · simp only [Value.slice.injEq, Option.some.injEq, Addr.mk.injEq, and_true, true_and] at h'
    obtain ⟨rfl, rfl⟩ := h'
    simp [World.frozen?, hg]

set_option maxRecDepth 100000 in
set_option maxHeartbeats 4000000 in
theorem copyBytes_any (l : List UInt8) (v : Value) (w : World) (hv : BRow w v l) (hn : l.length ≤ 140737488355328) :
    Calls Tryz.prog 37 #[v] w fun x w' => ∃ v', x = .returned v' ∧ w'.ownsRow w.heap.size 5 1 v' l.length (Lib.byteCells l) ∧ Below w.heap.size w w' := by
  obtain ⟨i0, hi, hz0, hz1, hz2⟩ := info_parts infoByteB
  obtain ⟨w2, hmk, hown, hgrow⟩ := run_make_full (P := Tryz.prog) w w.heap.size 47 5 i0 (.int .u8 0) 1 Tryz.underlying47 hi hz0 hz1 .i64 .i64 l.length (by rw [hz2]; omega) (by unfold maxLen; omega) (Nat.le_refl _)
  have HB2 := Lib.hid (show Below w.heap.size w w2 from (Below.refl _ _).grown hgrow (Nat.le_refl _) (fun k e => by cases e))
  have HO2 := Lib.hid hown
  obtain ⟨oa, cap, rfl, hlc, hc⟩ := hv
  have HC := Lib.hid (show ∀ (i : Nat) x, l[i]? = some x → ∃ b off, oa = some ⟨b, off, none⟩ ∧ w.cell? ⟨b, off + i, none⟩ = some (.int .u8 (x.toNat : Int)) from fun i x hx => by
    obtain ⟨b, off, h1, h2⟩ := hc (by rintro rfl; simp at hx)
    exact ⟨b, off, h1, h2 i x hx⟩)
  clear hown hgrow hc
  go_enter Tryz.func37, Tryz.ntmps37
  go_wp2
  go_loopw [10] (fun iv wr => ∃ (k : Nat) (xs : List Value), k ≤ l.length ∧ iv = .int .i64 k ∧ wr.ownsRow w.heap.size 5 1 (.slice (some ⟨w.heap.size, 0, none⟩) l.length l.length) l.length xs ∧ Below w.heap.size w wr ∧ Hid (∀ j x, j < k → l[j]? = some x → xs[j]? = some (.int .u8 (x.toNat : Int)))) (fun iv _ => l.length - (intOf iv).toNat)
  case atStart => exact ⟨0, _, Nat.zero_le _, rfl, HO2.out, HB2.out, Lib.hid fun j x h => by omega⟩
  case round =>
    obtain ⟨k, xs, hk, rfl, hown, hb, HX⟩ := hrel
    have HO := Lib.hid hown
    have HB := Lib.hid hb
    have hxl : xs.length = l.length := by rw [hown.1]; omega
    clear hown hb
    by_cases hlt : k < l.length
    · obtain ⟨x, hx, _, _⟩ := nth l k hlt
      obtain ⟨b, off, rfl, hcell⟩ := HC.out k x hx
      have q1 : (k : Int) < (l.length : Int) := by omega
      have c1 := cell_later HB.out hcell
      have f1 := own_free HO.out k
      obtain ⟨u, hu⟩ : ∃ u, wr.cell? ⟨w.heap.size, k, none⟩ = some u := ⟨xs[k], by rw [HO.out.cellAt k (by omega)]; exact List.getElem?_eq_getElem (by omega)⟩
      have HS := Lib.hid (HO.out.stored k (.int .u8 (x.toNat : Int)))
      have HXK := Lib.hid (show ∀ j y, j < k + 1 → l[j]? = some y → (xs.set k (.int .u8 (x.toNat : Int)))[j]? = some (.int .u8 (y.toNat : Int)) from fun j y hj hy => by
        by_cases hjk : j = k
        · subst hjk
          rw [hx] at hy
          obtain rfl := Option.some.inj hy
          rw [List.getElem?_set_self (by omega)]
        · rw [List.getElem?_set_ne (by omega)]
          exact HX.out j y (by omega) hy)
      clear hx hcell
      go_wp2
      go_roundw
      case rel => exact ⟨k + 1, _, by omega, by go_num, HS.out.1, HB.out.setCell (p := ⟨w.heap.size, k, none⟩) (Nat.le_refl _) _, HXK⟩
      case measure => simp [intOf]; omega
    · obtain rfl : k = l.length := by omega
      have hxs : xs = Lib.byteCells l := by
        refine List.ext_getElem? fun j => ?_
        by_cases hj : j < l.length
        · rw [HX.out j l[j] hj (List.getElem?_eq_getElem hj), Lib.byteCells, List.getElem?_map, List.getElem?_eq_getElem hj]; rfl
        · rw [List.getElem?_eq_none (by omega), List.getElem?_eq_none (by rw [Lib.byteCells_length]; omega)]
      have HF := Lib.hid (hxs ▸ HO.out)
      clear hxs
      go_wp2
      go_ret
      exact ⟨_, rfl, HF.out, HB.out⟩

end Go.Proofs.YtlobohpbgghleaaGreatDoor
