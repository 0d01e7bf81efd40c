import Derived.Test.YtecmpmnidlfgnaaGreatDoorScriptHead
import Derived.Test.YtecmpmnidlfgnaaGreatDoorScriptLine
import Derived.Test.YtecmpmnidlfgnaaGreatDoorScriptVerbs
import Derived.Test.YtecmpmnidlfgnaaGreatDoorDumpOpen
import Derived.Test.YtecmpmnidlfgnaaGreatDoorScriptNums
import Derived.Laws.MakeOwn
import Derived.Laws.OwnMore
import Derived.Deep.QuietTactic
import Derived.BigQuiet
import Derived.Test.YtecmpmnidlfgnaaGreatDoorOpen
namespace Go.Proofs.YtecmpmnidlfgnaaGreatDoor
open Go.RowKit

/-! ## ScriptVerbs -/

theorem own_freeV {w : World} {B g n cap : Nat} {e : TypeId} {xs : List Value} (h : w.ownsRow B e 1 (.slice (some ⟨g, 0, none⟩) n cap) n xs) (j : Nat) : w.frozen? ⟨g, j, none⟩ = false := by
  rcases h.2 with ⟨h', _⟩ | ⟨g', cap', cur, h', _, hg, _⟩
  · cases h'
  · simp only [Value.slice.injEq, Option.some.injEq, Addr.mk.injEq, and_true, true_and] at h'
    obtain ⟨rfl, rfl⟩ := h'
    simp [World.frozen?, hg]

def zeros (v : List UInt8) : List Int := List.replicate (leastOf v).toNat 0
def barrV (v : List UInt8) : Cmd := ⟨v, zeros v, evNone, []⟩
theorem line_known : ∀ v ∈ verbsS, (cmdLine (barrV v)).2 ≠ 100 := by decide +kernel
theorem line_unknown {v : List UInt8} (h : v ∉ verbsS) : shapeV v = 6 := by
  have h1 : v ≠ vOpen := by rintro rfl; exact h (by decide)
  have h2 : v ∉ vNumber := fun hm => h ((show ∀ v ∈ vNumber, v ∈ verbsS by decide) v hm)
  have h3 : v ≠ vAppend := by rintro rfl; exact h (by decide)
  have h4 : v ∉ vNothing := fun hm => h (verbs_all.1 v hm)
  have h5 : v ≠ vCrash := by rintro rfl; exact h verbs_all.2.1
  have h6 : v ≠ vPut := by rintro rfl; exact h verbs_all.2.2
  unfold shapeV
  rw [if_neg h4, if_neg h2, if_neg h1, if_neg h5, if_neg h3, if_neg h6]
theorem least_nat (v : List UInt8) : leastOf v = -1 ∨ leastOf v = 0 ∨ leastOf v = 1 ∨ leastOf v = 2 := by
  unfold leastOf
  split
  · exact .inr (.inr (.inr rfl))
  · split
    · exact .inr (.inr (.inl rfl))
    · split
      · exact .inr (.inl rfl)
      · exact .inl rfl
theorem own_drewV {w : World} {B e size n : Nat} {v : Value} {xs : List Value} (h : w.ownsRow B e size v n xs) (q : Nat) : (w.drewN q).ownsRow B e size v n xs := h
theorem made_few (n : Nat) : (madeCells (Value.int .i64 0).cells (n * 1)).toList = List.replicate n (.int .i64 0) := by
  rw [Nat.mul_one]
  exact toList_madeCells_one _ n
theorem evNone_ok : EvOk 1048576 evNone := ⟨by unfold I64; decide, by unfold I64; decide, by unfold I64; decide, by unfold I64; decide, by unfold I64; decide, by unfold I64; decide, by unfold I64; decide, by unfold I64; decide, by decide, by decide⟩
theorem known_ok {v : List UInt8} (h : v ∈ verbsS) : CmOk 1048576 (barrV v) where
  verb := by have := (show ∀ v ∈ verbsS, v.length ≤ 8 by decide) v h; exact Nat.le_trans this (by decide)
  nums := by
    rcases least_nat v with e | e | e | e <;> simp [barrV, zeros, e]
  i64 := fun n hn => by
    obtain ⟨_, rfl⟩ := List.mem_replicate.1 hn
    unfold I64; decide
  ev := evNone_ok
  raw := by show 0 ≤ 1048576; decide

set_option maxRecDepth 100000 in
set_option maxHeartbeats 8000000 in
theorem scriptVerbs_walk0 (word : List UInt8) (w : World) (hL : LibV w) : Calls Tryz.prog 11 #[.string ⟨word.toArray⟩] w fun x w' => x = .returned (.bool true) ∧ Below w.heap.size w w' := by
  obtain ⟨i1, hi1, hy0, hy1, hy2⟩ := info_parts infoInt
  have HL := Lib.hid hL
  have HLN := Lib.hid (show verbsS.length = 18 from rfl)
  clear hL
  go_enter Tryz.func11, Tryz.ntmps11
  go_wp2_with fail
  refine (refVerbs_any _).mono ?_
  rintro x w1 ⟨v1, rfl, hown1, hb1⟩
  obtain ⟨g1, cap1, rfl, _, _, _, hc1, hcs1⟩ := own_get hown1 (by decide)
  have HCS1 := Lib.hid (show ∀ (j : Nat) t, verbsS[j]? = some t → w1.cell? ⟨g1, j, none⟩ = some (.string ⟨t.toArray⟩) from fun j t h => hcs1 j _ (strs_get h))
  have HB1 := Lib.hid hb1
  unfold maxLen at hc1
  clear hown1 hb1 hcs1
  go_wp2_with fail
  refine (verbsS_any _).mono ?_
  rintro x w2 ⟨v2, rfl, hown2, hb2⟩
  obtain ⟨g2, cap2, rfl, hg2, _, _, hc2, hcs2⟩ := own_get hown2 (by decide)
  have HO2 := Lib.hid hown2
  have HB2 := Lib.hid hb2
  unfold maxLen at hc2
  clear hown2 hb2 hcs2
  have t18 : ((18 : Int) != 18) = false := by decide
  go_wp2_with (go_at_call 27; (with_reducible refine (head25_any _ (HL.out.below (Below.next HB1.out HB2.out))).mono ?_); rintro x w3 ⟨rfl, hb3⟩; have HB3 := Lib.hid (Below.next HB2.out hb3); have HO3 := Lib.hid (own_later HO2.out hb3); clear hb3)
  clear HO2 HB2 t18
  go_loopw [25] (fun iv wr => ∃ (k : Nat) (ys : List Value), k ≤ 18 ∧ iv = .int .i64 k ∧ wr.ownsRow w1.heap.size 9 1 (.slice (some ⟨g2, 0, none⟩) 18 cap2) 18 ys ∧ Below w1.heap.size w1 wr ∧ Hid (∀ j, k ≤ j → ys[j]? = (strs verbsS)[j]?)) (fun iv _ => 18 - (intOf iv).toNat)
  case atStart => exact ⟨0, _, Nat.zero_le _, rfl, HO3.out, HB3.out, Lib.hid fun j h => rfl⟩
  case round =>
    obtain ⟨k, ys, hk, rfl, hown, hb, HX⟩ := hrel
    have HO := Lib.hid hown
    have HB := Lib.hid hb
    have hyl : ys.length = 18 := by rw [hown.1]
    clear hown hb HO3 HB3
    by_cases hlt : k < 18
    · have q1 : (k : Int) < 18 := by omega
      obtain ⟨x, hx, _, hmem⟩ := nth verbsS k (by rw [HLN.out]; exact hlt)
      have c1 := cell_later HB.out (HCS1.out k x hx)
      have c2 : wr.cell? ⟨g2, k, none⟩ = some (.string ⟨x.toArray⟩) := by rw [HO.out.cellAt k hlt, HX.out k (Nat.le_refl _)]; exact strs_get hx
      have f1 := own_freeV HO.out k
      have t1 : (x != x) = false := by simp
      have HXK := Lib.hid (show ∀ j, k + 1 ≤ j → (ys.set k (.string ⟨#[120]⟩))[j]? = (strs verbsS)[j]? from fun j hj => by
        rw [List.getElem?_set_ne (by omega)]
        exact HX.out j (by omega))
      clear hx hmem
      go_wp2
      go_quiet (fail)
      go_wp2
      go_roundw
      case rel => exact ⟨k + 1, _, by omega, by go_num, ((own_drewV HO.out _).stored k (.string ⟨#[120]⟩)).1, (Below.next HB.out (below_drewN' wr _)).setCell (p := ⟨g2, k, none⟩) hg2 _, HXK⟩
      case measure => simp [intOf]; omega
    · obtain rfl : k = 18 := by omega
      have HB4 := Lib.hid (Below.next HB1.out HB.out)
      have hs4 := HB4.out.size
      clear HX HO hlt HB
      go_wp2_with fail
      refine (verbsS_any _).mono ?_
      rintro x w5 ⟨v5, rfl, hown5, hb5⟩
      obtain ⟨g5, cap5, rfl, _, _, _, hc5, hcs5⟩ := own_get hown5 (by decide)
      have HCS5 := Lib.hid (show ∀ (j : Nat) t, verbsS[j]? = some t → w5.cell? ⟨g5, j, none⟩ = some (.string ⟨t.toArray⟩) from fun j t h => hcs5 j _ (strs_get h))
      have HB5 := Lib.hid (Below.next HB4.out hb5)
      unfold maxLen at hc5
      clear hown5 hb5 hcs5 HB4 hs4
      go_wp2_with fail
      go_loopw [6, 44] (fun fv iv wr => ∃ k : Nat, k ≤ 18 ∧ iv = .int .i64 k ∧ fv = .bool (decide (word ∈ verbsS.take k)) ∧ wr = w5) (fun _ iv _ => 18 - (intOf iv).toNat)
      case atStart => exact ⟨0, Nat.zero_le _, rfl, by simp, rfl⟩
      case round =>
        obtain ⟨k, hk, rfl, rfl, rfl⟩ := hrel
        by_cases hlt : k < 18
        · have q1 : (k : Int) < 18 := by omega
          obtain ⟨x, hx, htk, hmem⟩ := nth verbsS k (by rw [HLN.out]; exact hlt)
          have c1 := HCS5.out k x hx
          by_cases hin : word ∈ verbsS.take k
          · have HIN := Lib.hid (show decide (word ∈ verbsS.take (k + 1)) = true by rw [htk]; simp [hin])
            rw [decide_eq_true hin]
            clear hx hmem htk hin
            go_wp2
            go_roundw
            case rel => exact ⟨k + 1, by omega, by go_num, by rw [HIN.out], trivial⟩
            case measure => simp [intOf]; omega
          · have HIN := Lib.hid (show decide (word ∈ verbsS.take (k + 1)) = (x == word) by
              rw [htk, Bool.eq_iff_iff, decide_eq_true_eq, beq_iff_eq, List.mem_append, List.mem_singleton]
              exact ⟨fun h => (h.resolve_left hin).symm, fun h => .inr h.symm⟩)
            rw [decide_eq_false hin]
            clear hx hmem htk hin
            go_wp2
            go_roundw
            case rel => exact ⟨k + 1, by omega, by go_num, by rw [HIN.out], trivial⟩
            case measure => simp [intOf]; omega
        · obtain rfl : k = 18 := by omega
          rw [show verbsS.take 18 = verbsS from by rw [← HLN.out, List.take_length]]
          have c0 : wr.cell? ⟨g5, 0, none⟩ = some (.string ⟨#[97, 112, 112, 101, 110, 100]⟩) := HCS5.out 0 _ rfl
          clear hlt HCS5
          obtain ⟨n, hn⟩ : ∃ n : Nat, n = (leastOf word).toNat := ⟨_, rfl⟩
          have hn2 : n ≤ 2 := by rcases least_nat word with e | e | e | e <;> rw [e] at hn <;> simp at hn <;> omega
          have HMX := Lib.hid (show max 0 (leastOf word) = (n : Int) by rcases least_nat word with e | e | e | e <;> rw [e] at hn ⊢ <;> subst hn <;> rfl)
          have HZ := Lib.hid (show zeros word = List.replicate n 0 by rw [hn]; rfl)
          have HKN := Lib.hid (show word ∈ verbsS → (cmdLine ⟨word, List.replicate n 0, evNone, []⟩).2 ≠ 100 ∧ CmOk 1048576 ⟨word, List.replicate n 0, evNone, []⟩ by
            intro hv
            rw [← HZ.out]
            exact ⟨line_known word hv, known_ok hv⟩)
          have HUN := Lib.hid (show word ∉ verbsS → shapeV word = 6 from line_unknown)
          have HIC := Lib.hid (show (List.replicate n (0 : Int)).length = n from List.length_replicate)
          clear hn HZ
          go_wp2_with fail
          refine (least_any word _).mono ?_
          rintro x w6 ⟨rfl, hb6⟩
          have HB6 := Lib.hid (Below.next HB5.out hb6)
          have d0 := Lib.hid (cell_later hb6 c0)
          clear hb6 c0 HB5
          obtain ⟨w7, hmk, hown7, hgrow7⟩ := run_makeSlice_full (P := Tryz.prog) (w := w6) w6.heap.size 56 3 i1 (.int .i64 0) 1 Tryz.underlying56 hi1 hy0 hy1 .i64 .i64 n (by omega) (by rw [hy2]; omega) (by unfold maxLen; omega) (Nat.le_refl _)
          have hb7 := (show Below w6.heap.size w6 w7 from (Below.refl _ _).grown hgrow7 (Nat.le_refl _) (fun k e => by cases e))
          have HB7 := Lib.hid (Below.next HB6.out hb7)
          have HSL := Lib.hid (show CmSl w7 ⟨word, List.replicate n 0, evNone, []⟩ (.slice (some ⟨w6.heap.size, 0, none⟩) n n) (.slice none 0 0) from ⟨by
            refine intRow_own (B := w6.heap.size) ?_ (fun m hm => by obtain ⟨_, rfl⟩ := List.mem_replicate.1 hm; unfold I64; decide)
            rw [HIC.out, intCells, List.map_replicate]
            rw [made_few n] at hown7
            exact hown7, bRow_nil⟩)
          have e0 := cell_later hb7 d0.out
          clear hb7 hgrow7 hown7 d0 HB6
          go_wp2_with (rw [HMX.out])
          clear hmk
          by_cases hv : word ∈ verbsS
          · rw [decide_eq_true hv]
            have HK := HKN.out hv
            refine (lineS_any ⟨word, List.replicate n 0, evNone, []⟩ _ _ _ HSL.out HK.2 (HL.out.below HB7.out)).mono ?_
            rintro x w8 ⟨rfl, hb8⟩
            have HB8 := Lib.hid (Below.next HB7.out hb8)
            have f0 := cell_later hb8 e0
            have t1 : ((cmdLine ⟨word, List.replicate n 0, evNone, []⟩).2 != 100) = true := by rw [bne_iff_ne]; exact HK.1
            clear HK hb8 e0 HB7 HSL HKN HUN hv
            go_wp2
            go_ret
            exact ⟨rfl, HB8.out⟩
          · rw [decide_eq_false hv]
            have h6 := HUN.out hv
            have HC := Lib.hid (show cmdLine ⟨word, List.replicate n 0, evNone, []⟩ = ([], 100) from cmdLine_100 (.inl h6))
            refine (lineS_100 ⟨word, List.replicate n 0, evNone, []⟩ _ _ _ HSL.out (.inl h6)).mono ?_
            rintro x w8 ⟨rfl, hb8⟩
            have HB8 := Lib.hid (Below.next HB7.out hb8)
            have f0 := cell_later hb8 e0
            clear hb8 e0 HB7 HSL HKN HUN hv h6
            rw [HC.out]
            go_wp2
            go_ret
            exact ⟨rfl, HB8.out⟩

theorem scriptVerbs_walk (a0 : List UInt8) (w : World) (_ : a0.length ≤ reachBytes) (hL : laidMetH Tryz.prog Rows.scriptVerbsRow.laid w) (hS : w.ShapedOpen Tryz.prog) :
    Calls Tryz.prog 11 #[.string ⟨a0.toArray⟩] w fun x w' => x = .returned (.bool true) ∧ Below w.heap.size w w' :=
  scriptVerbs_walk0 a0 w (libV_of rfl hL hS)

end Go.Proofs.YtecmpmnidlfgnaaGreatDoor
