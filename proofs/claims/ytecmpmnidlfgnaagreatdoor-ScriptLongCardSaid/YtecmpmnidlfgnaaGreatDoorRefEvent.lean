import Derived.Test.YtecmpmnidlfgnaaGreatDoorRefWords
import Derived.Test.YtecmpmnidlfgnaaGreatDoorEvent2
import Derived.Test.YtecmpmnidlfgnaaGreatDoorRefNumber
import Derived.Test.YtecmpmnidlfgnaaGreatDoorRefUnhex
import Derived.Test.YtecmpmnidlfgnaaGreatDoorRefSplit
import Derived.Test.YtecmpmnidlfgnaaGreatDoorRefCheck2
import Derived.Deep.RegionHeld3
namespace Go.Proofs.YtecmpmnidlfgnaaGreatDoor
open Go.RowKit

/-! ## the reference's Event -/

/-- the place of a name among the first j keys -/
def atTo (nm : List UInt8) (j : Nat) : Int := match keyIdx nm with | some k => if k < j then (k : Int) else -1 | none => -1
theorem atTo_zero (nm : List UInt8) : atTo nm 0 = -1 := by unfold atTo; split <;> simp
theorem atTo_hit {nm : List UInt8} {j : Nat} (hj : j < 8) (h : keyS j = nm) : atTo nm (j + 1) = j := by
  have := keyIdx_at j hj
  unfold keyS at h
  rw [h] at this
  unfold atTo; rw [this]; simp
theorem atTo_miss {nm : List UInt8} {j : Nat} (h : keyS j ≠ nm) : atTo nm (j + 1) = atTo nm j := by
  unfold atTo
  cases hk : keyIdx nm with
  | none => rfl
  | some k =>
    obtain ⟨h1, h2⟩ := keyIdx_spec hk
    simp only
    have : k ≠ j := by rintro rfl; exact h h2
    by_cases hkj : k < j
    · rw [if_pos (by omega), if_pos hkj]
    · rw [if_neg (by omega), if_neg hkj]
theorem atTo_all (nm : List UInt8) : atTo nm 8 = match keyIdx nm with | some k => (k : Int) | none => -1 := by
  unfold atTo
  cases hk : keyIdx nm with
  | none => rfl
  | some k => simp only; rw [if_pos (keyIdx_spec hk).1]

theorem atTo_none {nm : List UInt8} {nx : Nat} (h : ∀ k, nx ≤ k → k < 8 → keyW.getD k [] ≠ nm) : atTo nm 8 ≤ (nx : Int) - 1 := by
  rw [atTo_all]
  cases hk : keyIdx nm with
  | none => simp only; omega
  | some k =>
    obtain ⟨h1, h2⟩ := keyIdx_spec hk
    simp only
    have : ¬ nx ≤ k := fun hle => h k hle h1 h2
    omega
theorem evBad {v : Int} {s k0 : List UInt8} {ws : List (List UInt8)} {R : Ev × Int} {c : Int} {nx : Nat} {e1 : Ev} {l : List (List UInt8)} (hs : splitOn 32 s = k0 :: ws) (hk : kindIdx k0 ≠ 0) (hR : R = fieldsOf 0 { evNone with kind := kindIdx k0 } ws)
    (hF : fieldsOf nx e1 l = R) (hc : c ≠ 0) (h : fieldsOf nx e1 l = (evNone, c)) : eventOf v s = (evNone, c) := by
  have h1 : fieldsOf 0 { evNone with kind := kindIdx k0 } ws = (evNone, c) := by rw [← hR, ← hF, h]
  have := eventOf_fields (v := v) hs hk (by rw [h1]; exact hc)
  rw [this, h1]
theorem But.row {b : Nat} {a w : World} (h : But b a w) (cs : Array Value) : But b a (w.setRow b cs) :=
  ⟨h.os, h.tape, h.output, by simpa using h.size, fun i hi hn => by rw [setRow_other _ _ _ _ hn]; exact h.block i hi hn⟩

set_option maxRecDepth 100000 in
set_option maxHeartbeats 16000000 in
theorem refEvent_any (v : Int) (s : List UInt8) (w : World) (hs : s.length ≤ 2097152) :
    Calls Tryz.prog 15 #[.int .i64 v, .string ⟨s.toArray⟩] w (EvPost (eventOf v s) w) := by
  obtain ⟨k0, ws, hsp⟩ : ∃ k0 ws, splitOn 32 s = k0 :: ws := by
    cases h : splitOn 32 s with
    | nil => exact absurd h (splitOn_ne 32 s)
    | cons a b => exact ⟨a, b, rfl⟩
  have HSP := Lib.hid hsp
  have hwl : Hid (∀ x ∈ k0 :: ws, x.length ≤ 2097152) := Lib.hid fun x hx => by
    have := splitOn_part 32 s x (by rw [hsp]; exact hx)
    omega
  have hcount : (k0 :: ws).length ≤ 2097153 := by rw [← hsp]; have := splitOn_length 32 s; omega
  simp only [List.length_cons] at hcount
  have HSplit := Lib.hid (fun W => refSplit_any s 32 W (by omega))
  rw [hsp] at HSplit
  clear hsp
  go_enter Tryz.func15, Tryz.ntmps15
  go_wp2_with fail
  have HZ := Lib.hid (evBlk_zero w)
  have hs0 : (w.alloc (.cells #[.int .i64 0, .int .i64 0, .int .i64 0, .int .i64 0, .int .i64 0, .int .i64 0, .int .i64 0, .string ⟨#[]⟩, .int .i64 0, .string ⟨#[]⟩] 24)).heap.size = w.heap.size + 1 := by simp
  have HB0 := Lib.hid (show Below w.heap.size w (w.alloc (.cells #[.int .i64 0, .int .i64 0, .int .i64 0, .int .i64 0, .int .i64 0, .int .i64 0, .int .i64 0, .string ⟨#[]⟩, .int .i64 0, .string ⟨#[]⟩] 24)) from (Below.refl _ _).alloc (Nat.le_refl _) _)
  generalize w.alloc (.cells #[.int .i64 0, .int .i64 0, .int .i64 0, .int .i64 0, .int .i64 0, .int .i64 0, .int .i64 0, .string ⟨#[]⟩, .int .i64 0, .string ⟨#[]⟩] 24) = wA at *
  have HN := Lib.hid (evBlk_zero wA)
  have hs1 : (wA.alloc (.cells #[.int .i64 0, .int .i64 0, .int .i64 0, .int .i64 0, .int .i64 0, .int .i64 0, .int .i64 0, .string ⟨#[]⟩, .int .i64 0, .string ⟨#[]⟩] 24)).heap.size = wA.heap.size + 1 := by simp
  have HB1 := Lib.hid (Below.next HB0.out (show Below wA.heap.size wA (wA.alloc (.cells #[.int .i64 0, .int .i64 0, .int .i64 0, .int .i64 0, .int .i64 0, .int .i64 0, .int .i64 0, .string ⟨#[]⟩, .int .i64 0, .string ⟨#[]⟩] 24)) from (Below.refl _ _).alloc (Nat.le_refl _) _))
  have HZ1 := Lib.hid (HZ.out.below ((Below.refl _ _).alloc (Nat.le_refl _) (.cells #[.int .i64 0, .int .i64 0, .int .i64 0, .int .i64 0, .int .i64 0, .int .i64 0, .int .i64 0, .string ⟨#[]⟩, .int .i64 0, .string ⟨#[]⟩] 24)))
  rw [hs0] at HN
  clear HZ HB0
  generalize wA.alloc (.cells #[.int .i64 0, .int .i64 0, .int .i64 0, .int .i64 0, .int .i64 0, .int .i64 0, .int .i64 0, .string ⟨#[]⟩, .int .i64 0, .string ⟨#[]⟩] 24) = wB at *
  refine (HSplit.out _).mono ?_
  rintro x w1 ⟨sv, rfl, hown, hb1⟩
  obtain ⟨g, cap, rfl, hg0, hg1, hcap, hcm, hcs⟩ := own_get hown (by simp)
  unfold maxLen at hcm
  have hsz1 := hb1.size
  have HZ2 := Lib.hid (HZ1.out.below hb1)
  have HN2 := Lib.hid (HN.out.below hb1)
  have HB2 := Lib.hid (Below.next HB1.out hb1)
  have HCS := Lib.hid (show ∀ (j : Nat) t, (k0 :: ws)[j]? = some t → w1.cell? ⟨g, j, none⟩ = some (.string ⟨t.toArray⟩) from fun j t h => hcs j _ (strs_at h))
  clear hown hcs hb1 HZ1 HB1 HN
  go_wp2_with (with_reducible refine wpList_load_ev rfl (.tmp 6) rfl (w.heap.size + 1) evNone rfl HN2.out ?_)
  have HE1 := Lib.hid (evBlk_zero w1)
  have hbA : Below w1.heap.size w1 (w1.alloc (.cells #[.int .i64 0, .int .i64 0, .int .i64 0, .int .i64 0, .int .i64 0, .int .i64 0, .int .i64 0, .string ⟨#[]⟩, .int .i64 0, .string ⟨#[]⟩] 24)) := (Below.refl _ _).alloc (Nat.le_refl _) _
  show Code.wp _ _ _ _ (w1.alloc (.cells #[.int .i64 0, .int .i64 0, .int .i64 0, .int .i64 0, .int .i64 0, .int .i64 0, .int .i64 0, .string ⟨#[]⟩, .int .i64 0, .string ⟨#[]⟩] 24))
  have HZ3 := Lib.hid (HZ2.out.below hbA)
  have HN3 := Lib.hid (HN2.out.below hbA)
  have HB3 := Lib.hid (Below.next HB2.out hbA)
  have HCS3 := Lib.hid (show ∀ (j : Nat) t, (k0 :: ws)[j]? = some t → (w1.alloc (.cells #[.int .i64 0, .int .i64 0, .int .i64 0, .int .i64 0, .int .i64 0, .int .i64 0, .int .i64 0, .string ⟨#[]⟩, .int .i64 0, .string ⟨#[]⟩] 24)).cell? ⟨g, j, none⟩ = some (.string ⟨t.toArray⟩) from fun j t h => cell_later hbA (HCS.out j t h))
  obtain ⟨be, hbe⟩ : ∃ be, be = w1.heap.size := ⟨_, rfl⟩
  generalize w1.alloc (.cells #[.int .i64 0, .int .i64 0, .int .i64 0, .int .i64 0, .int .i64 0, .int .i64 0, .int .i64 0, .string ⟨#[]⟩, .int .i64 0, .string ⟨#[]⟩] 24) = w2 at *
  rw [← hbe] at HE1 ⊢
  have hbe1 : w.heap.size + 1 < be := by omega
  have hgbe : g ≠ be := by omega
  have hkz : Hid (kindTo k0 1 = 0) := Lib.hid (by have := kindTo_miss (w := k0) (k := 0) (by omega) (by omega); rw [this]; unfold kindTo; split <;> omega)
  clear hbA HZ2 HN2 HB2 HCS hbe hg0 hg1 hsz1 hs0 hs1
  go_loopw [9] (fun kv wr => ∃ k : Nat, 1 ≤ k ∧ k ≤ 11 ∧ kv = .int .i64 k ∧ EvBlk wr be { evNone with kind := (kindTo k0 k : Int) } ∧ But be w2 wr) (fun kv _ => 11 - (intOf kv).toNat)
  case atStart => exact ⟨1, by omega, by omega, rfl, by rw [hkz.out]; exact HE1.out, But.refl _ _⟩
  case round =>
    obtain ⟨k, hk0, hk, rfl, hE, hB⟩ := hrel
    have HE := Lib.hid hE
    have HB := Lib.hid hB
    clear hE hB
    by_cases hk1 : k < 11
    · have c0 : wr.cell? ⟨g, 0, none⟩ = some (.string ⟨k0.toArray⟩) := HB.out.cell (HCS3.out 0 k0 rfl) hgbe
      have q1 : (k : Int) ≤ 10 := by omega
      have HKW := Lib.hid (refKind_any k hk1)
      obtain ⟨kw, hkw⟩ : ∃ kw, kw = kindW.getD k [] := ⟨_, rfl⟩
      rw [← hkw] at HKW
      have HC0 := Lib.hid c0
      have keepN : Hid (∀ a b : World, Below a.heap.size a b → Below wr.heap.size wr a → b.cell? ⟨g, 0, none⟩ = some (.string ⟨k0.toArray⟩) ∧ Below wr.heap.size wr b) := Lib.hid fun a b h1 h2 => by
        have h3 := Below.next h2 h1
        exact ⟨cell_later h3 HC0.out, h3⟩
      have keep0 : Hid (wr.drew.cell? ⟨g, 0, none⟩ = some (.string ⟨k0.toArray⟩) ∧ Below wr.heap.size wr wr.drew) := Lib.hid ⟨c0, (Below.refl _ _).drew⟩
      by_cases hhit : kw = k0
      · have HK := Lib.hid (kindTo_hit hk1 (hkw.symm.trans hhit))
        have t2 : (k0 == kw) = true := by rw [beq_iff_eq]; exact hhit.symm
        clear c0 hhit hkw
        go_wp2
        (go_region_held3 (fun w' => w'.cell? ⟨g, 0, none⟩ = some (.string ⟨k0.toArray⟩) ∧ Below wr.heap.size wr w')
          (first | exact keep0.out | assumption | (go_split_ands; exact keepN.out _ _ hb7 (by assumption)))
          (first
            | (go_at_call 43; (with_reducible refine (HKW.out _).mono ?_); rintro x w7 ⟨rfl, hb7⟩)
            | fail))
        all_goals
          rename_i hHeld
          obtain ⟨_, hbw⟩ := hHeld
          have HE7 := Lib.hid (HE.out.below hbw)
          have HB7 := Lib.hid (HB.out.trans (But.of hbw))
          have ce := HE7.out.at'.c0
          have fe := HE7.out.free 0
          clear hbw
          go_wp2
          go_roundw
          case rel => exact ⟨k + 1, by omega, by omega, by go_num, by rw [HK.out]; exact HE7.out.put 0 _ rfl, HB7.out.set 0 _⟩
          case measure => simp [intOf]; omega
      · have HK := Lib.hid (kindTo_miss hk1 (show ¬ (0 < k ∧ kindW.getD k [] = k0) by rw [← hkw]; exact fun h => hhit h.2))
        have t2 : (k0 == kw) = false := by rw [beq_eq_false_iff_ne]; exact fun h => hhit h.symm
        clear c0 hhit hkw
        go_wp2
        (go_region_held3 (fun w' => w'.cell? ⟨g, 0, none⟩ = some (.string ⟨k0.toArray⟩) ∧ Below wr.heap.size wr w')
          (first | exact keep0.out | assumption | (go_split_ands; exact keepN.out _ _ hb7 (by assumption)))
          (first
            | (go_at_call 43; (with_reducible refine (HKW.out _).mono ?_); rintro x w7 ⟨rfl, hb7⟩)
            | fail))
        all_goals
          rename_i hHeld
          obtain ⟨_, hbw⟩ := hHeld
          have HE7 := Lib.hid (HE.out.below hbw)
          have HB7 := Lib.hid (HB.out.trans (But.of hbw))
          clear hbw
          go_wp2
          go_roundw
          case rel => exact ⟨k + 1, by omega, by omega, by go_num, by rw [HK.out]; exact HE7.out, HB7.out⟩
          case measure => simp [intOf]; omega
    · obtain rfl : k = 11 := by omega
      have hkk := Lib.hid (kindTo_all k0)
      rw [hkk.out] at HE
      have HZr := Lib.hid (HZ3.out.but HB.out (by omega))
      have HNr := Lib.hid (HN3.out.but HB.out (by omega))
      have HBr := Lib.hid (But.below HB3.out HB.out (by omega))
      have HCr := Lib.hid (show ∀ (j : Nat) t, (k0 :: ws)[j]? = some t → wr.cell? ⟨g, j, none⟩ = some (.string ⟨t.toArray⟩) from fun j t h => HB.out.cell (HCS3.out j t h) hgbe)
      have ce := HE.out.at'.c0
      clear HE1 HZ3 HN3 HB3 HCS3 HB hkz hkk
      by_cases hkind : kindIdx k0 = 0
      · have hfin := Lib.hid (eventOf_nokind (v := v) HSP.out hkind)
        have t1 : ((kindIdx k0 : Int) == 0) = true := by rw [beq_iff_eq]; omega
        clear hkind
        go_wp2_with (first
          | (with_reducible refine wpList_load_ev rfl (.tmp 6) rfl (w.heap.size + 1) evNone rfl HNr.out ?_)
          | (with_reducible refine wpList_store_ev rfl (.tmp 4) (.tmp 42) rfl w.heap.size evNone evNone rfl rfl HZr.out ?_))
        exact bodyPost_ret (v := .tuple #[evV evNone, .int .i64 100]) (results_ev rfl _ _ w.heap.size evNone _ rfl rfl (HZr.out.row evNone)) rfl ⟨by rw [hfin.out], Below.row HBr.out (Nat.le_refl _) _⟩
      · have HKN := Lib.hid hkind
        have t1 : ((kindIdx k0 : Int) == 0) = false := by rw [beq_eq_false_iff_ne]; omega
        have hki : kindIdx k0 ≤ 10 := (kindIdx_spec hkind).1
        simp only [List.length_cons] at hcap hcount
        clear hkind
        obtain ⟨R, hR⟩ : ∃ R, R = fieldsOf 0 { evNone with kind := (kindIdx k0 : Int) } ws := ⟨_, rfl⟩
        have HR := Lib.hid hR
        clear hR
        go_wp2_with fail
        go_loopw [10, 11] (fun nv iv w5 => ∃ (j nx : Nat) (e1 : Ev), j ≤ ws.length ∧ nx ≤ 8 ∧ iv = .int .i64 (j + 1 : Nat) ∧ nv = .int .i64 ((nx : Int) - 1) ∧ EvBlk w5 be e1 ∧ But be wr w5 ∧ Hid (fieldsOf nx e1 (ws.drop j) = R)) (fun _ iv _ => ws.length + 1 - (intOf iv).toNat)
        case atStart => exact ⟨0, 0, _, by omega, by omega, rfl, rfl, HE.out, But.refl _ _, Lib.hid HR.out.symm⟩
        case round =>
          obtain ⟨j0, nx, e1, hj0, hnx, rfl, rfl, hE1, hB1, HF⟩ := hrel
          have HE5 := Lib.hid hE1
          have HB5 := Lib.hid hB1
          have HZ5 := Lib.hid (HZr.out.but hB1 (by omega))
          have HN5 := Lib.hid (HNr.out.but hB1 (by omega))
          have HBB5 := Lib.hid (But.below HBr.out hB1 (by omega))
          clear hE1 hB1
          by_cases hjw : j0 < ws.length
          · obtain ⟨t, ht, _, hmem⟩ := nth ws j0 hjw
            have htl := hwl.out t (List.mem_cons_of_mem _ hmem)
            have cs : wr.cell? ⟨g, j0 + 1, none⟩ = some (.string ⟨t.toArray⟩) := HB5.out.cell (HCr.out (j0 + 1) t (by simpa using ht)) hgbe
            have HD := Lib.hid (drop_cons ht)
            have q1 : ((j0 + 1 : Nat) : Int) < ((ws.length + 1 : Nat) : Int) := by omega
            have HCut := Lib.hid (fun W => refCut_any t 61 W (by omega))
            clear ht hmem
            go_wp2_with fail
            refine (HCut.out _).mono ?_
            rintro x w2 ⟨rfl, hb2⟩
            have HE2 := Lib.hid (HE5.out.below hb2)
            have HZ2 := Lib.hid (HZ5.out.below hb2)
            have HN2 := Lib.hid (HN5.out.below hb2)
            have HB2 := Lib.hid (HB5.out.trans (But.of hb2))
            have HBB2 := Lib.hid (Below.next HBB5.out hb2)
            clear hb2 HE5 HZ5 HN5 HB5 HBB5 cs
            cases hcut : cutAt 61 t with
            | none =>
              have hfin := Lib.hid (show eventOf v s = (evNone, 100) from evBad HSP.out HKN.out HR.out HF.out (by decide) (by rw [HD.out]; exact fields_nocut hcut))
              have hcv := Lib.hid (show cutV 61 t = (t, [], false) by unfold cutV; rw [hcut])
              clear hcut
              rw [hcv.out]
              go_wp2_with (first | (with_reducible refine wpList_load_ev rfl (.tmp 6) rfl (w.heap.size + 1) evNone rfl HN2.out ?_) | (with_reducible refine wpList_store_ev rfl (.tmp 4) (.tmp 60) rfl w.heap.size evNone evNone rfl rfl HZ2.out ?_))
              try rw [Exit.noGoto_ret]
              exact bodyPost_ret (v := .tuple #[evV evNone, .int .i64 100]) (results_ev rfl _ _ w.heap.size evNone _ rfl rfl (HZ2.out.row evNone)) rfl ⟨by rw [hfin.out], Below.row HBB2.out (Nat.le_refl _) _⟩
            | some p =>
              obtain ⟨nm, val⟩ := p
              have hcv := Lib.hid (show cutV 61 t = (nm, val, true) by unfold cutV; rw [hcut])
              have HCUT := Lib.hid hcut
              obtain ⟨hsp, _⟩ := cutAt_some hcut
              have hvl : val.length ≤ 2097152 := by
                have := congrArg List.length hsp
                simp at this; omega
              clear hcut hsp
              rw [hcv.out]
              by_cases hnote : nm = noteW ∧ j0 + 1 = ws.length
              · obtain ⟨hn1, hn2⟩ := hnote
                have k1 : (nm == [110, 111, 116, 101]) = true := by rw [beq_iff_eq]; exact hn1
                have k2 : (((j0 + 1 : Nat) : Int) == ((ws.length + 1 : Nat) : Int) - 1) = true := by rw [beq_iff_eq]; omega
                subst hn1
                have hw1 := Lib.hid (show ws.drop j0 = [t] by rw [HD.out, drop_last hn2])
                go_wp2_with fail
                refine (refUnhex_any val _ hvl).mono ?_
                rintro x w3 ⟨uv, rfl, hown, hb3⟩
                have HE3 := Lib.hid (HE2.out.below hb3)
                have HZ3 := Lib.hid (HZ2.out.below hb3)
                have HN3 := Lib.hid (HN2.out.below hb3)
                have HB3 := Lib.hid (HB2.out.trans (But.of hb3))
                have HBB3 := Lib.hid (Below.next HBB2.out hb3)
                have HO := Lib.hid hown
                clear hb3 hown HE2 HZ2 HN2 HB2 HBB2
                cases hu : unhexOf val with
                | none =>
                  have hfin := Lib.hid (show eventOf v s = (evNone, 101) from evBad HSP.out HKN.out HR.out HF.out (by decide) (by rw [hw1.out]; exact fields_noteBad HCUT.out (.inl hu)))
                  have he := Lib.hid (show uErr val = 101 by simp [uErr, hu])
                  clear hu
                  rw [he.out]
                  go_wp2_with (first | (with_reducible refine wpList_load_ev rfl (.tmp 6) rfl (w.heap.size + 1) evNone rfl HN3.out ?_) | (with_reducible refine wpList_store_ev rfl (.tmp 4) (.tmp 82) rfl w.heap.size evNone evNone rfl rfl HZ3.out ?_))
                  try rw [Exit.noGoto_ret]
                  exact bodyPost_ret (v := .tuple #[evV evNone, .int .i64 101]) (results_ev rfl _ _ w.heap.size evNone _ rfl rfl (HZ3.out.row evNone)) rfl ⟨by rw [hfin.out], Below.row HBB3.out (Nat.le_refl _) _⟩
                | some bs =>
                  have he := Lib.hid (show uErr val = 0 by simp [uErr, hu])
                  have hv := Lib.hid (show uVal val = bs by simp [uVal, hu])
                  rw [he.out]
                  cases bs with
                  | nil =>
                    have hfin := Lib.hid (show eventOf v s = (evNone, 101) from evBad HSP.out HKN.out HR.out HF.out (by decide) (by rw [hw1.out]; exact fields_noteBad HCUT.out (.inr hu)))
                    have ho := HO.out
                    rw [hv.out] at ho
                    obtain ⟨oa, cp, rfl, _, _⟩ := own_shape ho
                    clear hu ho
                    go_wp2_with (first | (with_reducible refine wpList_load_ev rfl (.tmp 6) rfl (w.heap.size + 1) evNone rfl HN3.out ?_) | (with_reducible refine wpList_store_ev rfl (.tmp 4) (.tmp 82) rfl w.heap.size evNone evNone rfl rfl HZ3.out ?_))
                    try rw [Exit.noGoto_ret]
                    exact bodyPost_ret (v := .tuple #[evV evNone, .int .i64 101]) (results_ev rfl _ _ w.heap.size evNone _ rfl rfl (HZ3.out.row evNone)) rfl ⟨by rw [hfin.out], Below.row HBB3.out (Nat.le_refl _) _⟩
                  | cons b0 bs =>
                    have hnext := Lib.hid (show R = ({ e1 with note := b0 :: bs }, 0) by rw [← HF.out, hw1.out, fields_noteOk HCUT.out hu (by simp)])
                    have ho := HO.out
                    rw [hv.out] at ho
                    obtain ⟨gb, cp, rfl, _, _, _, _, hcs⟩ := own_get ho (by simp)
                    have hcv2 := conv_cells w3 gb 0 (b0 :: bs) cp (fun j x hx => by rw [Nat.zero_add]; exact hcs j _ (by rw [Lib.byteCells, List.getElem?_map, hx]; rfl))
                    have c9 := HE3.out.at'.c9
                    have f9 := HE3.out.free 9
                    have hbl : bs.length ≤ 2097152 := by have := unhexOf_length hu; simp at this; omega
                    obtain ⟨L, hL⟩ : ∃ L, L = b0 :: bs := ⟨_, rfl⟩
                    rw [← hL] at hcv2 hnext
                    have k4 : ((L.length : Int) == 0) = false := by rw [beq_eq_false_iff_ne, hL]; simp; omega
                    have hLl : 1 ≤ L.length := by rw [hL]; simp
                    have hdr : ws.drop (j0 + 1) = [] := drop_last hn2
                    rw [← hL]
                    clear hu ho hcs hL hbl
                    go_wp2
                    go_roundw
                    case rel => exact ⟨j0 + 1, nx, { e1 with note := L }, by omega, hnx, by go_num, rfl, HE3.out.put 9 _ rfl, HB3.out.set 9 _, Lib.hid (by rw [hdr]; exact hnext.out.symm)⟩
                    case measure => simp [intOf]; omega
              · have HNN := Lib.hid (show ¬ (nm = noteW ∧ ws.drop (j0 + 1) = []) from fun h => hnote ⟨h.1, by
                  have h2 := congrArg List.length h.2
                  rw [List.length_drop] at h2
                  simp at h2; omega⟩)
                by_cases hn1 : nm = noteW
                · have k1 : (nm == [110, 111, 116, 101]) = true := by rw [beq_iff_eq]; exact hn1
                  have k2 : (((j0 + 1 : Nat) : Int) == ((ws.length + 1 : Nat) : Int) - 1) = false := by
                    rw [beq_eq_false_iff_ne]; intro h; exact hnote ⟨hn1, by omega⟩
                  clear hnote hn1
                  go_wp2_with fail
                  refine (refKeys_any _).mono ?_
                  rintro x w3 ⟨rfl, hK, hb3⟩
                  have HE3 := Lib.hid (HE2.out.below hb3)
                  have HZ3 := Lib.hid (HZ2.out.below hb3)
                  have HN3 := Lib.hid (HN2.out.below hb3)
                  have HB3 := Lib.hid (HB2.out.trans (But.of hb3))
                  have HBB3 := Lib.hid (Below.next HBB2.out hb3)
                  have HK := Lib.hid hK
                  obtain ⟨kb, hkb⟩ : ∃ kb, kb = w2.heap.size := ⟨_, rfl⟩
                  rw [← hkb] at HK ⊢
                  clear hK hb3 hkb HE2 HZ2 HN2 HB2 HBB2
                  go_wp2_with fail
                  go_loopw [18, 89] (fun av jv w5 => ∃ (j : Nat), j ≤ 8 ∧ jv = .int .i64 j ∧ av = .int .i64 (atTo nm j) ∧ w3 = w5) (fun _ jv _ => 8 - (intOf jv).toNat)
                  case atStart => exact ⟨0, by omega, rfl, by rw [atTo_zero], rfl⟩
                  case round =>
                    obtain ⟨j, hj, rfl, rfl, rfl⟩ := hrel
                    by_cases hj8 : j < 8
                    · have kc := HK.out j hj8
                      have q1 : (j : Int) < 8 := by omega
                      by_cases hkw : keyS j = nm
                      · have HA := Lib.hid (atTo_hit hj8 hkw)
                        have k4 : (nm == nm) = true := by simp
                        rw [hkw] at kc
                        clear hkw
                        go_wp2
                        go_roundw
                        case rel => exact ⟨j + 1, by omega, by go_num, by rw [HA.out], by trivial⟩
                        case measure => simp [intOf]; omega
                      · have HA := Lib.hid (atTo_miss hkw)
                        have k4 : (keyS j == nm) = false := by rw [beq_eq_false_iff_ne]; exact hkw
                        clear hkw
                        go_wp2
                        go_roundw
                        case rel => exact ⟨j + 1, by omega, by go_num, by rw [HA.out], by trivial⟩
                        case measure => simp [intOf]; omega
                    · obtain rfl : j = 8 := by omega
                      have HA := Lib.hid (atTo_all nm)
                      by_cases hnk : ∀ k, nx ≤ k → k < 8 → keyW.getD k [] ≠ nm
                      · have hfin := Lib.hid (show eventOf v s = (evNone, 100) from evBad HSP.out HKN.out HR.out HF.out (by decide) (by rw [HD.out]; exact fields_nokey HCUT.out HNN.out hnk))
                        have t4 : decide (atTo nm 8 ≤ (nx : Int) - 1) = true := by rw [decide_eq_true_eq]; exact atTo_none hnk
                        obtain ⟨A, hA⟩ : ∃ A, A = atTo nm 8 := ⟨_, rfl⟩
                        rw [← hA] at t4 ⊢
                        clear hnk hA
                        go_wp2_with (first | (with_reducible refine wpList_load_ev rfl (.tmp 6) rfl (w.heap.size + 1) evNone rfl HN3.out ?_) | (with_reducible refine wpList_store_ev rfl (.tmp 4) (.tmp 103) rfl w.heap.size evNone evNone rfl rfl HZ3.out ?_))
                        try rw [Exit.noGoto_ret]
                        exact bodyPost_ret (v := .tuple #[evV evNone, .int .i64 100]) (results_ev rfl _ _ w.heap.size evNone _ rfl rfl (HZ3.out.row evNone)) rfl ⟨by rw [hfin.out], Below.row HBB3.out (Nat.le_refl _) _⟩
                      · obtain ⟨k, hkn, hk8, hkw⟩ : ∃ k, nx ≤ k ∧ k < 8 ∧ keyW.getD k [] = nm := by
                          refine Classical.byContradiction fun hno => hnk fun k h1 h2 h3 => hno ⟨k, h1, h2, h3⟩
                        have HKW := Lib.hid hkw
                        rw [show atTo nm 8 = (k : Int) by rw [HA.out, ← hkw, keyIdx_at k hk8]]
                        have t4 : decide ((k : Int) ≤ (nx : Int) - 1) = false := by rw [decide_eq_false_iff_not]; omega
                        clear hnk hkw HA
                        by_cases hk6 : k = 6
                        · subst hk6
                          by_cases hv : val = []
                          · have hfin := Lib.hid (show eventOf v s = (evNone, 101) from evBad HSP.out HKN.out HR.out HF.out (by decide) (by rw [HD.out]; exact fields_keyBad HCUT.out HNN.out hk8 hkn HKW.out (by rw [if_pos rfl]; exact hv)))
                            have t5 : (val == []) = true := by rw [beq_iff_eq]; exact hv
                            have t6 : (val == ([] : List UInt8)) = true := t5
                            subst hv
                            go_wp2_with (first | (with_reducible refine wpList_load_ev rfl (.tmp 6) rfl (w.heap.size + 1) evNone rfl HN3.out ?_) | (with_reducible refine wpList_store_ev rfl (.tmp 4) (.tmp 109) rfl w.heap.size evNone evNone rfl rfl HZ3.out ?_))
                            try rw [Exit.noGoto_ret]
                            exact bodyPost_ret (v := .tuple #[evV evNone, .int .i64 101]) (results_ev rfl _ _ w.heap.size evNone _ rfl rfl (HZ3.out.row evNone)) rfl ⟨by rw [hfin.out], Below.row HBB3.out (Nat.le_refl _) _⟩
                          · have hnext := Lib.hid (show R = fieldsOf 7 { e1 with who := val } (ws.drop (j0 + 1)) by rw [← HF.out, HD.out, fields_keyOk HCUT.out HNN.out hk8 hkn HKW.out (by rw [if_pos rfl]; exact hv), if_pos rfl])
                            have t5 : (val == []) = false := by rw [beq_eq_false_iff_ne]; exact hv
                            have t5' : val.isEmpty = false := by simpa using hv
                            have c7 := HE3.out.at'.c7
                            have f7 := HE3.out.free 7
                            clear hv
                            go_wp2
                            go_roundw
                            case rel => exact ⟨j0 + 1, 7, { e1 with who := val }, by omega, by omega, by go_num, rfl, HE3.out.put 7 _ rfl, HB3.out.set 7 _, Lib.hid hnext.out.symm⟩
                            case measure => simp [intOf]; omega
                        · have t5 : ((k : Int) == 6) = false := by rw [beq_eq_false_iff_ne]; omega
                          go_wp2_with fail
                          refine (refNumber_any val _ (by omega)).mono ?_
                          rintro x w5 ⟨rfl, rfl⟩
                          by_cases hbad : numberOf val = none ∨ numberOf val = some 0
                          · have hfin := Lib.hid (show eventOf v s = (evNone, 101) from evBad HSP.out HKN.out HR.out HF.out (by decide) (by rw [HD.out]; exact fields_keyBad HCUT.out HNN.out hk8 hkn HKW.out (by rw [if_neg hk6]; exact hbad)))
                            rcases hbad with hbad | hbad
                            · rw [show numVal val = 0 by unfold numVal; rw [hbad]; rfl, show numOk val = false by unfold numOk; rw [hbad]; rfl]
                              clear hbad
                              go_wp2_with (first | (with_reducible refine wpList_load_ev rfl (.tmp 6) rfl (w.heap.size + 1) evNone rfl HN3.out ?_) | (with_reducible refine wpList_store_ev rfl (.tmp 4) (.tmp 123) rfl w.heap.size evNone evNone rfl rfl HZ3.out ?_))
                              try rw [Exit.noGoto_ret]
                              exact bodyPost_ret (v := .tuple #[evV evNone, .int .i64 101]) (results_ev rfl _ _ w.heap.size evNone _ rfl rfl (HZ3.out.row evNone)) rfl ⟨by rw [hfin.out], Below.row HBB3.out (Nat.le_refl _) _⟩
                            · rw [show numVal val = 0 by unfold numVal; rw [hbad]; rfl, show numOk val = true by unfold numOk; rw [hbad]; rfl]
                              clear hbad
                              go_wp2_with (first | (with_reducible refine wpList_load_ev rfl (.tmp 6) rfl (w.heap.size + 1) evNone rfl HN3.out ?_) | (with_reducible refine wpList_store_ev rfl (.tmp 4) (.tmp 123) rfl w.heap.size evNone evNone rfl rfl HZ3.out ?_))
                              try rw [Exit.noGoto_ret]
                              exact bodyPost_ret (v := .tuple #[evV evNone, .int .i64 101]) (results_ev rfl _ _ w.heap.size evNone _ rfl rfl (HZ3.out.row evNone)) rfl ⟨by rw [hfin.out], Below.row HBB3.out (Nat.le_refl _) _⟩
                          · obtain ⟨n, hn, hn0⟩ : ∃ n, numberOf val = some n ∧ n ≠ 0 := by
                              cases hn : numberOf val with
                              | none => exact absurd (.inl hn) hbad
                              | some n => exact ⟨n, rfl, fun h0 => hbad (.inr (by rw [hn, h0]))⟩
                            have hnext := Lib.hid (show R = fieldsOf (k + 1) (setKey e1 k n) (ws.drop (j0 + 1)) by rw [← HF.out, HD.out, fields_keyOk HCUT.out HNN.out hk8 hkn HKW.out (by rw [if_neg hk6]; exact ⟨n, hn, hn0⟩), if_neg hk6, hn]; rfl)
                            rw [show numVal val = n by unfold numVal; rw [hn]; rfl, show numOk val = true by unfold numOk; rw [hn]; rfl]
                            have t7 : (n == 0) = false := by rw [beq_eq_false_iff_ne]; exact hn0
                            clear hbad hn hn0
                            go_wp2_with (with_reducible refine wpList_load_ev rfl (.tmp 8) rfl be e1 rfl HE3.out ?_)
                            refine (refSet_any e1 k hk8 n _).mono ?_
                            rintro x w6 ⟨rfl, hb6⟩
                            have HE6 := Lib.hid (HE3.out.below hb6)
                            have HB6 := Lib.hid (HB3.out.trans (But.of hb6))
                            clear hb6
                            go_wp2_with (with_reducible refine wpList_store_ev rfl (.tmp 8) (.tmp 127) rfl be e1 (setKey e1 k n) rfl rfl HE6.out ?_)
                            go_roundw
                            case rel => exact ⟨j0 + 1, k + 1, setKey e1 k n, by omega, by omega, by go_num, by go_num, HE6.out.row _, HB6.out.row _, Lib.hid hnext.out.symm⟩
                            case measure => simp [intOf]; omega
                · have k1 : (nm == [110, 111, 116, 101]) = false := by rw [beq_eq_false_iff_ne]; exact hn1
                  clear hnote hn1
                  go_wp2_with fail
                  refine (refKeys_any _).mono ?_
                  rintro x w3 ⟨rfl, hK, hb3⟩
                  have HE3 := Lib.hid (HE2.out.below hb3)
                  have HZ3 := Lib.hid (HZ2.out.below hb3)
                  have HN3 := Lib.hid (HN2.out.below hb3)
                  have HB3 := Lib.hid (HB2.out.trans (But.of hb3))
                  have HBB3 := Lib.hid (Below.next HBB2.out hb3)
                  have HK := Lib.hid hK
                  obtain ⟨kb, hkb⟩ : ∃ kb, kb = w2.heap.size := ⟨_, rfl⟩
                  rw [← hkb] at HK ⊢
                  clear hK hb3 hkb HE2 HZ2 HN2 HB2 HBB2
                  go_wp2_with fail
                  go_loopw [18, 89] (fun av jv w5 => ∃ (j : Nat), j ≤ 8 ∧ jv = .int .i64 j ∧ av = .int .i64 (atTo nm j) ∧ w3 = w5) (fun _ jv _ => 8 - (intOf jv).toNat)
                  case atStart => exact ⟨0, by omega, rfl, by rw [atTo_zero], rfl⟩
                  case round =>
                    obtain ⟨j, hj, rfl, rfl, rfl⟩ := hrel
                    by_cases hj8 : j < 8
                    · have kc := HK.out j hj8
                      have q1 : (j : Int) < 8 := by omega
                      by_cases hkw : keyS j = nm
                      · have HA := Lib.hid (atTo_hit hj8 hkw)
                        have k4 : (nm == nm) = true := by simp
                        rw [hkw] at kc
                        clear hkw
                        go_wp2
                        go_roundw
                        case rel => exact ⟨j + 1, by omega, by go_num, by rw [HA.out], by trivial⟩
                        case measure => simp [intOf]; omega
                      · have HA := Lib.hid (atTo_miss hkw)
                        have k4 : (keyS j == nm) = false := by rw [beq_eq_false_iff_ne]; exact hkw
                        clear hkw
                        go_wp2
                        go_roundw
                        case rel => exact ⟨j + 1, by omega, by go_num, by rw [HA.out], by trivial⟩
                        case measure => simp [intOf]; omega
                    · obtain rfl : j = 8 := by omega
                      have HA := Lib.hid (atTo_all nm)
                      by_cases hnk : ∀ k, nx ≤ k → k < 8 → keyW.getD k [] ≠ nm
                      · have hfin := Lib.hid (show eventOf v s = (evNone, 100) from evBad HSP.out HKN.out HR.out HF.out (by decide) (by rw [HD.out]; exact fields_nokey HCUT.out HNN.out hnk))
                        have t4 : decide (atTo nm 8 ≤ (nx : Int) - 1) = true := by rw [decide_eq_true_eq]; exact atTo_none hnk
                        obtain ⟨A, hA⟩ : ∃ A, A = atTo nm 8 := ⟨_, rfl⟩
                        rw [← hA] at t4 ⊢
                        clear hnk hA
                        go_wp2_with (first | (with_reducible refine wpList_load_ev rfl (.tmp 6) rfl (w.heap.size + 1) evNone rfl HN3.out ?_) | (with_reducible refine wpList_store_ev rfl (.tmp 4) (.tmp 103) rfl w.heap.size evNone evNone rfl rfl HZ3.out ?_))
                        try rw [Exit.noGoto_ret]
                        exact bodyPost_ret (v := .tuple #[evV evNone, .int .i64 100]) (results_ev rfl _ _ w.heap.size evNone _ rfl rfl (HZ3.out.row evNone)) rfl ⟨by rw [hfin.out], Below.row HBB3.out (Nat.le_refl _) _⟩
                      · obtain ⟨k, hkn, hk8, hkw⟩ : ∃ k, nx ≤ k ∧ k < 8 ∧ keyW.getD k [] = nm := by
                          refine Classical.byContradiction fun hno => hnk fun k h1 h2 h3 => hno ⟨k, h1, h2, h3⟩
                        have HKW := Lib.hid hkw
                        rw [show atTo nm 8 = (k : Int) by rw [HA.out, ← hkw, keyIdx_at k hk8]]
                        have t4 : decide ((k : Int) ≤ (nx : Int) - 1) = false := by rw [decide_eq_false_iff_not]; omega
                        clear hnk hkw HA
                        by_cases hk6 : k = 6
                        · subst hk6
                          by_cases hv : val = []
                          · have hfin := Lib.hid (show eventOf v s = (evNone, 101) from evBad HSP.out HKN.out HR.out HF.out (by decide) (by rw [HD.out]; exact fields_keyBad HCUT.out HNN.out hk8 hkn HKW.out (by rw [if_pos rfl]; exact hv)))
                            have t5 : (val == []) = true := by rw [beq_iff_eq]; exact hv
                            have t6 : (val == ([] : List UInt8)) = true := t5
                            subst hv
                            go_wp2_with (first | (with_reducible refine wpList_load_ev rfl (.tmp 6) rfl (w.heap.size + 1) evNone rfl HN3.out ?_) | (with_reducible refine wpList_store_ev rfl (.tmp 4) (.tmp 109) rfl w.heap.size evNone evNone rfl rfl HZ3.out ?_))
                            try rw [Exit.noGoto_ret]
                            exact bodyPost_ret (v := .tuple #[evV evNone, .int .i64 101]) (results_ev rfl _ _ w.heap.size evNone _ rfl rfl (HZ3.out.row evNone)) rfl ⟨by rw [hfin.out], Below.row HBB3.out (Nat.le_refl _) _⟩
                          · have hnext := Lib.hid (show R = fieldsOf 7 { e1 with who := val } (ws.drop (j0 + 1)) by rw [← HF.out, HD.out, fields_keyOk HCUT.out HNN.out hk8 hkn HKW.out (by rw [if_pos rfl]; exact hv), if_pos rfl])
                            have t5 : (val == []) = false := by rw [beq_eq_false_iff_ne]; exact hv
                            have t5' : val.isEmpty = false := by simpa using hv
                            have c7 := HE3.out.at'.c7
                            have f7 := HE3.out.free 7
                            clear hv
                            go_wp2
                            go_roundw
                            case rel => exact ⟨j0 + 1, 7, { e1 with who := val }, by omega, by omega, by go_num, rfl, HE3.out.put 7 _ rfl, HB3.out.set 7 _, Lib.hid hnext.out.symm⟩
                            case measure => simp [intOf]; omega
                        · have t5 : ((k : Int) == 6) = false := by rw [beq_eq_false_iff_ne]; omega
                          go_wp2_with fail
                          refine (refNumber_any val _ (by omega)).mono ?_
                          rintro x w5 ⟨rfl, rfl⟩
                          by_cases hbad : numberOf val = none ∨ numberOf val = some 0
                          · have hfin := Lib.hid (show eventOf v s = (evNone, 101) from evBad HSP.out HKN.out HR.out HF.out (by decide) (by rw [HD.out]; exact fields_keyBad HCUT.out HNN.out hk8 hkn HKW.out (by rw [if_neg hk6]; exact hbad)))
                            rcases hbad with hbad | hbad
                            · rw [show numVal val = 0 by unfold numVal; rw [hbad]; rfl, show numOk val = false by unfold numOk; rw [hbad]; rfl]
                              clear hbad
                              go_wp2_with (first | (with_reducible refine wpList_load_ev rfl (.tmp 6) rfl (w.heap.size + 1) evNone rfl HN3.out ?_) | (with_reducible refine wpList_store_ev rfl (.tmp 4) (.tmp 123) rfl w.heap.size evNone evNone rfl rfl HZ3.out ?_))
                              try rw [Exit.noGoto_ret]
                              exact bodyPost_ret (v := .tuple #[evV evNone, .int .i64 101]) (results_ev rfl _ _ w.heap.size evNone _ rfl rfl (HZ3.out.row evNone)) rfl ⟨by rw [hfin.out], Below.row HBB3.out (Nat.le_refl _) _⟩
                            · rw [show numVal val = 0 by unfold numVal; rw [hbad]; rfl, show numOk val = true by unfold numOk; rw [hbad]; rfl]
                              clear hbad
                              go_wp2_with (first | (with_reducible refine wpList_load_ev rfl (.tmp 6) rfl (w.heap.size + 1) evNone rfl HN3.out ?_) | (with_reducible refine wpList_store_ev rfl (.tmp 4) (.tmp 123) rfl w.heap.size evNone evNone rfl rfl HZ3.out ?_))
                              try rw [Exit.noGoto_ret]
                              exact bodyPost_ret (v := .tuple #[evV evNone, .int .i64 101]) (results_ev rfl _ _ w.heap.size evNone _ rfl rfl (HZ3.out.row evNone)) rfl ⟨by rw [hfin.out], Below.row HBB3.out (Nat.le_refl _) _⟩
                          · obtain ⟨n, hn, hn0⟩ : ∃ n, numberOf val = some n ∧ n ≠ 0 := by
                              cases hn : numberOf val with
                              | none => exact absurd (.inl hn) hbad
                              | some n => exact ⟨n, rfl, fun h0 => hbad (.inr (by rw [hn, h0]))⟩
                            have hnext := Lib.hid (show R = fieldsOf (k + 1) (setKey e1 k n) (ws.drop (j0 + 1)) by rw [← HF.out, HD.out, fields_keyOk HCUT.out HNN.out hk8 hkn HKW.out (by rw [if_neg hk6]; exact ⟨n, hn, hn0⟩), if_neg hk6, hn]; rfl)
                            rw [show numVal val = n by unfold numVal; rw [hn]; rfl, show numOk val = true by unfold numOk; rw [hn]; rfl]
                            have t7 : (n == 0) = false := by rw [beq_eq_false_iff_ne]; exact hn0
                            clear hbad hn hn0
                            go_wp2_with (with_reducible refine wpList_load_ev rfl (.tmp 8) rfl be e1 rfl HE3.out ?_)
                            refine (refSet_any e1 k hk8 n _).mono ?_
                            rintro x w6 ⟨rfl, hb6⟩
                            have HE6 := Lib.hid (HE3.out.below hb6)
                            have HB6 := Lib.hid (HB3.out.trans (But.of hb6))
                            clear hb6
                            go_wp2_with (with_reducible refine wpList_store_ev rfl (.tmp 8) (.tmp 127) rfl be e1 (setKey e1 k n) rfl rfl HE6.out ?_)
                            go_roundw
                            case rel => exact ⟨j0 + 1, k + 1, setKey e1 k n, by omega, by omega, by go_num, by go_num, HE6.out.row _, HB6.out.row _, Lib.hid hnext.out.symm⟩
                            case measure => simp [intOf]; omega
          · obtain rfl : j0 = ws.length := by omega
            have HRE := Lib.hid (show R = (e1, 0) by rw [← HF.out, List.drop_length]; rfl)
            have q1 : ¬ ((ws.length + 1 : Nat) : Int) < ((ws.length + 1 : Nat) : Int) := by omega
            have hok : Hid (EvOk 2097152 e1) := Lib.hid (by
              have h := fields_ok 2097152 ws 0 _ (evOk_kind _ (show I64 (kindIdx k0 : Int) from ⟨by omega, by omega⟩)) (fun t h => hwl.out t (by simp [h]))
              rw [← HR.out, HRE.out] at h
              exact h)
            go_wp2_with (with_reducible refine wpList_load_ev rfl (.tmp 8) rfl be e1 rfl HE5.out ?_)
            refine (refCheck_any v e1 _ hok.out).mono ?_
            rintro x w6 ⟨rfl, hb6⟩
            have HE6 := Lib.hid (HE5.out.below hb6)
            have HZ6 := Lib.hid (HZ5.out.below hb6)
            have HN6 := Lib.hid (HN5.out.below hb6)
            have HBB6 := Lib.hid (Below.next HBB5.out hb6)
            clear hb6 HE5 HZ5 HN5 HBB5
            by_cases hc : evCheck v e1 ≠ 0
            · have hfin := Lib.hid (show eventOf v s = (evNone, evCheck v e1) by
                have h1 : fieldsOf 0 { evNone with kind := (kindIdx k0 : Int) } ws = (e1, 0) := HR.out.symm.trans HRE.out
                have := eventOf_check (v := v) HSP.out HKN.out (by rw [h1]) (by rw [h1]; exact hc)
                rw [h1] at this; exact this)
              have t3 : (evCheck v e1 != 0) = true := by rw [bne_iff_ne]; exact hc
              clear hc
              go_wp2_with (first
                | (with_reducible refine wpList_load_ev rfl (.tmp 6) rfl (w.heap.size + 1) evNone rfl HN6.out ?_)
                | (with_reducible refine wpList_store_ev rfl (.tmp 4) (.tmp 133) rfl w.heap.size evNone evNone rfl rfl HZ6.out ?_))
              exact bodyPost_ret (v := .tuple #[evV evNone, .int .i64 (evCheck v e1)]) (results_ev rfl _ _ w.heap.size evNone _ rfl rfl (HZ6.out.row evNone)) rfl ⟨by rw [hfin.out], Below.row HBB6.out (Nat.le_refl _) _⟩
            · have hc0 : evCheck v e1 = 0 := Classical.byContradiction hc
              have hfin := Lib.hid (show eventOf v s = (e1, 0) by
                have h1 : fieldsOf 0 { evNone with kind := (kindIdx k0 : Int) } ws = (e1, 0) := HR.out.symm.trans HRE.out
                have := eventOf_good (v := v) HSP.out HKN.out (by rw [h1]) (by rw [h1]; exact hc0)
                rw [h1] at this; exact this)
              have t3 : (evCheck v e1 != 0) = false := by rw [bne_eq_false_iff_eq]; exact hc0
              clear hc hc0
              go_wp2_with (first
                | (with_reducible refine wpList_load_ev rfl (.tmp 8) rfl be e1 rfl HE6.out ?_)
                | (with_reducible refine wpList_store_ev rfl (.tmp 4) (.tmp 135) rfl w.heap.size evNone e1 rfl rfl HZ6.out ?_))
              exact bodyPost_ret (v := .tuple #[evV e1, .int .i64 0]) (results_ev rfl _ _ w.heap.size e1 _ rfl rfl (HZ6.out.row e1)) rfl ⟨by rw [hfin.out], Below.row HBB6.out (Nat.le_refl _) _⟩

end Go.Proofs.YtecmpmnidlfgnaaGreatDoor
