import Derived.Test.YtecmpmnidlfgnaaGreatDoorScriptHead
import Derived.Test.YtecmpmnidlfgnaaGreatDoorDumpOpen
import Derived.Test.YtecmpmnidlfgnaaGreatDoorScriptParse
import Derived.Test.YtecmpmnidlfgnaaGreatDoorScriptSameAll
import Derived.Test.YtecmpmnidlfgnaaGreatDoorScriptLongPlain
import Derived.Laws.MakeOwn
import Derived.Test.YtecmpmnidlfgnaaGreatDoorOpen
namespace Go.Proofs.YtecmpmnidlfgnaaGreatDoor
open Go.RowKit

/-! ## ScriptLong -/

theorem infoByteL : (Tryz.prog.info? 5).map (fun i => (i.zero, i.size, i.bytes)) = some (some (.int .u8 0), 1, 1) := by kernel_rfl
theorem own_freeL {w : World} {B g n cap : Nat} {e : TypeId} {xs : List Value} (h : w.ownsRow B e 1 (.slice (some ⟨g, 0, none⟩) n cap) n xs) (j : Nat) : w.frozen? ⟨g, j, none⟩ = false := by
  rcases h.2 with ⟨h', _⟩ | ⟨g', cap', cur, h', _, hg, _⟩
  · cases h'
  · simp only [Value.slice.injEq, Option.some.injEq, Addr.mk.injEq, and_true, true_and] at h'
    obtain ⟨rfl, rfl⟩ := h'
    simp [World.frozen?, hg]
@[reducible] def syncX : CmX := (syncC, .slice none 0 0, .slice none 0 0)
theorem syncOk : CmOk 1048576 syncC where
  verb := by decide
  nums := by decide
  i64 := fun n h => by cases h
  ev := ⟨by unfold I64; decide, by unfold I64; decide, by unfold I64; decide, by unfold I64; decide, by unfold I64; decide, by unfold I64; decide, by unfold I64; decide, by unfold I64; decide, by decide, by decide⟩
  raw := by decide
theorem syncEl (w : World) (B : Nat) : ElOwn w B syncX := ⟨World.ownsRow_nil _ _ _ _, World.ownsRow_nil _ _ _ _⟩
theorem syncRow {w : World} {B k : Nat} {v : Value} (h : w.ownsRow B 59 13 v k (cmCells (List.replicate k syncX))) : CmdRow w v (List.replicate k syncC) := by
  have h2 := cmdRow_own (xs := List.replicate k syncX) (by rw [List.length_replicate]; exact h) (fun x hx => by
    obtain ⟨_, rfl⟩ := List.mem_replicate.1 hx
    exact (syncEl w B).sl (fun n h => by cases h))
  rwa [List.map_replicate] at h2

set_option maxRecDepth 100000 in
set_option maxHeartbeats 8000000 in
theorem scriptLong_walk0 (n pad : Int) (w : World) (hL : LibV w) : Calls Tryz.prog 10 #[.int .i64 n, .int .i64 pad] w fun x w' => x = .returned (.bool true) ∧ Below w.heap.size w w' := by
  obtain ⟨m, hm, hand⟩ := and511 n
  obtain ⟨i0, hi, hz0, hz1, hz2⟩ := info_parts infoCm
  obtain ⟨i1, hi1, hy0, hy1, hy2⟩ := info_parts infoByteL
  have HL := Lib.hid hL
  clear hL
  go_enter Tryz.func10, Tryz.ntmps10
  go_wp2_with fail
  refine (head25_any _ HL.out).mono ?_
  rintro x w1 ⟨rfl, hb1⟩
  have HB1 := Lib.hid hb1
  have hs1 := hb1.size
  have HA1 := (show Below w1.heap.size w1 (w1.alloc (.cells #[] 59)) from (Below.refl _ _).alloc (Nat.le_refl _) _)
  have HBE := Lib.hid HA1
  have HE0 := Lib.hid (own_emptyS w1 59 13)
  clear hb1 HA1
  go_wp2_with (rw [hand])
  clear hand
  go_loopw [5, 6, 7] (fun ov tv iv wr => ∃ k : Nat, k ≤ m ∧ iv = .int .i64 k ∧ tv = .string ⟨(syncT k).toArray⟩ ∧ wr.ownsRow w1.heap.size 59 13 ov k (cmCells (List.replicate k syncX)) ∧ Below w1.heap.size w1 wr) (fun _ _ iv _ => m - (intOf iv).toNat)
  case atStart => exact ⟨0, Nat.zero_le _, rfl, rfl, HE0.out, HBE.out⟩
  case round =>
    obtain ⟨k, hk, rfl, rfl, hO, hB⟩ := hrel
    have HO := Lib.hid hO
    have HB := Lib.hid hB
    clear hO hB HBE HE0
    by_cases hlt : k < m
    · have q1 : (k : Int) < (m : Int) := by omega
      have hsz := HB.out.size
      have hbz := (HO.out.lt)
      have HLT := Lib.hid hbz
      have HNT := Lib.hid (syncT_succ k)
      have hadd := str_add (syncT k) [115, 121, 110, 99, 10] (syncT (k + 1)) HNT.out (by rw [syncT_length]; omega)
      have HA := (show Below wr.heap.size wr (wr.alloc (.cells #[.string ⟨#[115, 121, 110, 99]⟩, .slice none 0 0, .int .i64 0, .int .i64 0, .int .i64 0, .int .i64 0, .int .i64 0, .int .i64 0, .int .i64 0, .string ⟨#[]⟩, .int .i64 0, .string ⟨#[]⟩, .slice none 0 0] 59)) from (Below.refl _ _).alloc (Nat.le_refl _) _)
      have HC5 := Lib.hid (show CmBlk (wr.alloc (.cells #[.string ⟨#[115, 121, 110, 99]⟩, .slice none 0 0, .int .i64 0, .int .i64 0, .int .i64 0, .int .i64 0, .int .i64 0, .int .i64 0, .int .i64 0, .string ⟨#[]⟩, .int .i64 0, .string ⟨#[]⟩, .slice none 0 0] 59)) wr.heap.size syncC (.slice none 0 0) (.slice none 0 0) from heap_alloc_new wr _)
      have HO5 := Lib.hid (own_later HO.out HA)
      have HB5 := Lib.hid (Below.next HB.out HA)
      clear hbz HA HO
      go_wp2_with (first
        | (at_builtin; refine wpList_append_own _ rfl _ _ 60 rfl w1.heap.size 59 i0 zeroCm 13 160 Tryz.underlying60 hi hz0 hz1 hz2 rfl (by decide) _ _ _ rfl HO5.out ⟨wr.heap.size, 0, none⟩ 1 1 (cmCs syncC (.slice none 0 0) (.slice none 0 0)).toList rfl rfl ?c1 ?c2 ?c3 ?c4 ?c5 ?_)
        | rw [hadd])
      case c1 =>
        intro j u hj
        rw [addr_add, Nat.zero_add, HC5.out.cell]
        simpa using hj
      case c2 => intro u hu; exact Array.all_eq_true_iff_forall_mem.1 (cmCs_one syncC (.slice none 0 0) (.slice none 0 0) rfl rfl) u (by simpa using hu)
      case c3 => unfold maxLen; omega
      case c4 => omega
      case c5 => exact HB5.out.size
      intro v' w6 hown6 hgrow6 _
      have HO6 := Lib.hid hown6
      have HB6 := Lib.hid (show Below w1.heap.size w1 w6 from HB5.out.grown hgrow6 HB5.out.size (fun k e => (HO5.out.lt k e).1))
      clear hown6 hgrow6
      go_wp2_with (rw [hadd])
      clear hadd
      go_roundw
      case rel => exact ⟨k + 1, by omega, by go_num, rfl, by have h := HO6.out; rw [show (cmCs syncC (.slice none 0 0) (.slice none 0 0)).toList = (cmCs syncX.1 syncX.2.1 syncX.2.2).toList from rfl, cmCells_snoc, ← List.replicate_succ'] at h; exact h, HB6.out⟩
      case measure => simp [intOf]; omega
    · obtain rfl : k = m := by omega
      obtain ⟨oa, ocap, rfl, _, _⟩ := own_shape HO.out
      have HV := Lib.hid (syncRow HO.out)
      by_cases h4 : k ≤ 400
      · have HPR := Lib.hid ((print_sync k).trans (if_pos h4))
        have HPA := Lib.hid ((parse_sync k hm).trans (if_pos h4))
        have HLR := Lib.hid (show (List.replicate k syncC).length = k from List.length_replicate)
        clear HO hlt
        go_wp2_with fail
        refine (printS_any (List.replicate k syncC) _ _ HV.out (fun c hc => by obtain ⟨_, rfl⟩ := List.mem_replicate.1 hc; exact syncOk) (HL.out.below (Below.next HB1.out HB.out))).mono ?_
        rintro x w2 ⟨rfl, hb2⟩
        have HB2 := Lib.hid (Below.next HB1.out (Below.next HB.out hb2))
        clear hb2 HB HV
        rw [HPR.out]
        go_wp2_with fail
        refine (parseS_any (syncT k) _ (by rw [syncT_length]; omega) (HL.out.below HB2.out)).mono ?_
        rintro x w3 ⟨vx, xs, rfl, hxs, hown, _, hb3⟩
        have HB3 := Lib.hid (Below.next HB2.out hb3)
        obtain ⟨oa3, cap3, rfl, _, _⟩ := own_shape hown
        rw [HPA.out] at hxs ⊢
        have HXS := Lib.hid (show xs.length = k by
          have h := congrArg List.length hxs
          rw [List.length_map] at h
          rw [h]; simp)
        clear hxs hown hb3 HB2 HPR HPA
        rw [HXS.out]
        have k4 : (k : Int) ≤ 400 := by omega
        obtain ⟨T, hT⟩ : ∃ T, T = syncT k := ⟨_, rfl⟩
        rw [← hT]
        clear hT h4 HXS HLR
        have t1 : (T != T) = false := by simp
        have t2 : ((k : Int) != (k : Int)) = false := by simp
        by_cases hp1 : pad < 65530
        · go_wp2
          go_ret
          exact ⟨rfl, HB3.out⟩
        by_cases hp2 : 65540 < pad
        · go_wp2
          go_ret
          exact ⟨rfl, HB3.out⟩
        obtain ⟨p, rfl⟩ : ∃ p : Nat, pad = (p : Int) := ⟨pad.toNat, by omega⟩
        have hq1 : 65530 ≤ p := by omega
        have hq2 : p ≤ 65540 := by omega
        obtain ⟨w4, hmk, hown4, hgrow4⟩ := run_makeSlice_full (P := Tryz.prog) (w := w3) w3.heap.size 57 5 i1 (.int .u8 0) 1 Tryz.underlying57 hi1 hy0 hy1 .i64 .i64 p (by omega) (by rw [hy2]; omega) (by unfold maxLen; omega) (Nat.le_refl _)
        have HB4 := Lib.hid (show Below w3.heap.size w3 w4 from (Below.refl _ _).grown hgrow4 (Nat.le_refl _) (fun k e => by cases e))
        have HO4 := Lib.hid hown4
        have HPX := Lib.hid (parse_xs p (by omega))
        clear hown4 hgrow4
        go_wp2
        clear hmk
        go_loopw [92] (fun iv wr => ∃ (j : Nat) (ys : List Value), j ≤ p ∧ iv = .int .i64 j ∧ wr.ownsRow w3.heap.size 5 1 (.slice (some ⟨w3.heap.size, 0, none⟩) p p) p ys ∧ Below w3.heap.size w3 wr ∧ Hid (∀ j', j' < j → ys[j']? = some (.int .u8 120))) (fun iv _ => p - (intOf iv).toNat)
        case atStart => exact ⟨0, _, Nat.zero_le _, rfl, HO4.out, HB4.out, Lib.hid fun j h => by omega⟩
        case round =>
          obtain ⟨j, ys, hj, rfl, hown, hb, HX⟩ := hrel
          have HO := Lib.hid hown
          have HB := Lib.hid hb
          have hyl : ys.length = p := by rw [hown.1]; omega
          clear hown hb
          by_cases hlt : j < p
          · have q1 : (j : Int) < (p : Int) := by omega
            have f1 := own_freeL HO.out j
            obtain ⟨u, hu⟩ : ∃ u, wr.cell? ⟨w3.heap.size, j, none⟩ = some u := ⟨ys[j], by rw [HO.out.cellAt j (by omega)]; exact List.getElem?_eq_getElem (by omega)⟩
            have HS := Lib.hid (HO.out.stored j (.int .u8 120))
            have HXK := Lib.hid (show ∀ j', j' < j + 1 → (ys.set j (.int .u8 120))[j']? = some (.int .u8 120) from fun j' hj' => by
              by_cases hjk : j' = j
              · subst hjk
                rw [List.getElem?_set_self (by omega)]
              · rw [List.getElem?_set_ne (by omega)]
                exact HX.out j' (by omega))
            go_wp2
            go_roundw
            case rel => exact ⟨j + 1, _, by omega, by go_num, HS.out.1, HB.out.setCell (p := ⟨w3.heap.size, j, none⟩) (Nat.le_refl _) _, HXK⟩
            case measure => simp [intOf]; omega
          · obtain rfl : j = p := by omega
            have HCV := Lib.hid (conv_cells wr w3.heap.size 0 (List.replicate j 120) j (fun i x hi => by
              obtain ⟨hi1, hi2⟩ := List.getElem?_eq_some_iff.1 hi
              rw [List.length_replicate] at hi1
              rw [List.getElem_replicate] at hi2
              subst hi2
              rw [Nat.zero_add, HO.out.cellAt i (by omega), HX.out i hi1]; rfl))
            have hcv := HCV.out
            rw [List.length_replicate] at hcv
            clear HCV HX
            go_wp2_with (rw [hcv])
            clear hcv
            refine (parseS_any (List.replicate j 120) _ (by rw [List.length_replicate]; omega) (HL.out.below (Below.next HB3.out HB.out))).mono ?_
            rintro x w5 ⟨vy, zs, rfl, _, hown5, _, hb5⟩
            have HB5 := Lib.hid (Below.next HB3.out (Below.next HB.out hb5))
            obtain ⟨oa5, cap5, rfl, _, _⟩ := own_shape hown5
            clear hown5 hb5
            rw [HPX.out]
            by_cases h6 : 65536 < j
            · rw [if_pos h6]
              have k6 : (65536 : Int) < (j : Int) := by omega
              go_wp2
              go_ret
              exact ⟨rfl, HB5.out⟩
            · rw [if_neg h6]
              have k6 : ¬ (65536 : Int) < (j : Int) := by omega
              go_wp2
              go_ret
              exact ⟨rfl, HB5.out⟩
      · have HPR := Lib.hid ((print_sync k).trans (if_neg h4))
        have HPA := Lib.hid ((parse_sync k hm).trans (if_neg h4))
        have HLR := Lib.hid (show (List.replicate k syncC).length = k from List.length_replicate)
        clear HO hlt
        go_wp2_with fail
        refine (printS_any (List.replicate k syncC) _ _ HV.out (fun c hc => by obtain ⟨_, rfl⟩ := List.mem_replicate.1 hc; exact syncOk) (HL.out.below (Below.next HB1.out HB.out))).mono ?_
        rintro x w2 ⟨rfl, hb2⟩
        have HB2 := Lib.hid (Below.next HB1.out (Below.next HB.out hb2))
        clear hb2 HB HV
        rw [HPR.out]
        go_wp2_with fail
        refine (parseS_any (syncT k) _ (by rw [syncT_length]; omega) (HL.out.below HB2.out)).mono ?_
        rintro x w3 ⟨vx, xs, rfl, hxs, hown, _, hb3⟩
        have HB3 := Lib.hid (Below.next HB2.out hb3)
        obtain ⟨oa3, cap3, rfl, _, _⟩ := own_shape hown
        rw [HPA.out] at hxs ⊢
        have HXS := Lib.hid (show xs.length = 0 by
          have h := congrArg List.length hxs
          rw [List.length_map] at h
          rw [h]; simp)
        clear hxs hown hb3 HB2 HPR HPA
        rw [HXS.out]
        have k4 : ¬ (k : Int) ≤ 400 := by omega
        clear h4 HXS HLR
        by_cases hp1 : pad < 65530
        · go_wp2
          go_ret
          exact ⟨rfl, HB3.out⟩
        by_cases hp2 : 65540 < pad
        · go_wp2
          go_ret
          exact ⟨rfl, HB3.out⟩
        obtain ⟨p, rfl⟩ : ∃ p : Nat, pad = (p : Int) := ⟨pad.toNat, by omega⟩
        have hq1 : 65530 ≤ p := by omega
        have hq2 : p ≤ 65540 := by omega
        obtain ⟨w4, hmk, hown4, hgrow4⟩ := run_makeSlice_full (P := Tryz.prog) (w := w3) w3.heap.size 57 5 i1 (.int .u8 0) 1 Tryz.underlying57 hi1 hy0 hy1 .i64 .i64 p (by omega) (by rw [hy2]; omega) (by unfold maxLen; omega) (Nat.le_refl _)
        have HB4 := Lib.hid (show Below w3.heap.size w3 w4 from (Below.refl _ _).grown hgrow4 (Nat.le_refl _) (fun k e => by cases e))
        have HO4 := Lib.hid hown4
        have HPX := Lib.hid (parse_xs p (by omega))
        clear hown4 hgrow4
        go_wp2
        clear hmk
        go_loopw [92] (fun iv wr => ∃ (j : Nat) (ys : List Value), j ≤ p ∧ iv = .int .i64 j ∧ wr.ownsRow w3.heap.size 5 1 (.slice (some ⟨w3.heap.size, 0, none⟩) p p) p ys ∧ Below w3.heap.size w3 wr ∧ Hid (∀ j', j' < j → ys[j']? = some (.int .u8 120))) (fun iv _ => p - (intOf iv).toNat)
        case atStart => exact ⟨0, _, Nat.zero_le _, rfl, HO4.out, HB4.out, Lib.hid fun j h => by omega⟩
        case round =>
          obtain ⟨j, ys, hj, rfl, hown, hb, HX⟩ := hrel
          have HO := Lib.hid hown
          have HB := Lib.hid hb
          have hyl : ys.length = p := by rw [hown.1]; omega
          clear hown hb
          by_cases hlt : j < p
          · have q1 : (j : Int) < (p : Int) := by omega
            have f1 := own_freeL HO.out j
            obtain ⟨u, hu⟩ : ∃ u, wr.cell? ⟨w3.heap.size, j, none⟩ = some u := ⟨ys[j], by rw [HO.out.cellAt j (by omega)]; exact List.getElem?_eq_getElem (by omega)⟩
            have HS := Lib.hid (HO.out.stored j (.int .u8 120))
            have HXK := Lib.hid (show ∀ j', j' < j + 1 → (ys.set j (.int .u8 120))[j']? = some (.int .u8 120) from fun j' hj' => by
              by_cases hjk : j' = j
              · subst hjk
                rw [List.getElem?_set_self (by omega)]
              · rw [List.getElem?_set_ne (by omega)]
                exact HX.out j' (by omega))
            go_wp2
            go_roundw
            case rel => exact ⟨j + 1, _, by omega, by go_num, HS.out.1, HB.out.setCell (p := ⟨w3.heap.size, j, none⟩) (Nat.le_refl _) _, HXK⟩
            case measure => simp [intOf]; omega
          · obtain rfl : j = p := by omega
            have HCV := Lib.hid (conv_cells wr w3.heap.size 0 (List.replicate j 120) j (fun i x hi => by
              obtain ⟨hi1, hi2⟩ := List.getElem?_eq_some_iff.1 hi
              rw [List.length_replicate] at hi1
              rw [List.getElem_replicate] at hi2
              subst hi2
              rw [Nat.zero_add, HO.out.cellAt i (by omega), HX.out i hi1]; rfl))
            have hcv := HCV.out
            rw [List.length_replicate] at hcv
            clear HCV HX
            go_wp2_with (rw [hcv])
            clear hcv
            refine (parseS_any (List.replicate j 120) _ (by rw [List.length_replicate]; omega) (HL.out.below (Below.next HB3.out HB.out))).mono ?_
            rintro x w5 ⟨vy, zs, rfl, _, hown5, _, hb5⟩
            have HB5 := Lib.hid (Below.next HB3.out (Below.next HB.out hb5))
            obtain ⟨oa5, cap5, rfl, _, _⟩ := own_shape hown5
            clear hown5 hb5
            rw [HPX.out]
            by_cases h6 : 65536 < j
            · rw [if_pos h6]
              have k6 : (65536 : Int) < (j : Int) := by omega
              go_wp2
              go_ret
              exact ⟨rfl, HB5.out⟩
            · rw [if_neg h6]
              have k6 : ¬ (65536 : Int) < (j : Int) := by omega
              go_wp2
              go_ret
              exact ⟨rfl, HB5.out⟩

theorem scriptLong_walk (a0 a1 : Int) (w : World) (_ : (Lit.int .i64 a0).wf = true) (_ : (Lit.int .i64 a1).wf = true) (hL : laidMetH Tryz.prog Rows.scriptLongRow.laid w) (hS : w.ShapedOpen Tryz.prog) :
    Calls Tryz.prog 10 #[.int .i64 a0, .int .i64 a1] w fun x w' => x = .returned (.bool true) ∧ Below w.heap.size w w' :=
  scriptLong_walk0 a0 a1 w (libV_of rfl hL hS)

end Go.Proofs.YtecmpmnidlfgnaaGreatDoor
