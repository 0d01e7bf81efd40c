import Derived.Test.YtecmpmnidlfgnaaGreatDoorEvent
namespace Go.Proofs.YtecmpmnidlfgnaaGreatDoor
open Go.RowKit

/-! ## dump.Event -/

def EvPost (r : Ev × Int) (w : World) (x : Ending) (w' : World) : Prop := x = .returned (.tuple #[evV r.1, .int .i64 r.2]) ∧ Below w.heap.size w w'

theorem eventOf_nokind {v : Int} {s w : List UInt8} {ws : List (List UInt8)} (hs : splitOn 32 s = w :: ws) (hk : kindIdx w = 0) : eventOf v s = (evNone, 100) := by
  unfold eventOf; rw [hs]; simp only; rw [if_pos hk]
theorem eventOf_fields {v : Int} {s w : List UInt8} {ws : List (List UInt8)} (hs : splitOn 32 s = w :: ws) (hk : kindIdx w ≠ 0) (hf : (fieldsOf 0 { evNone with kind := kindIdx w } ws).2 ≠ 0) :
    eventOf v s = (evNone, (fieldsOf 0 { evNone with kind := kindIdx w } ws).2) := by
  unfold eventOf; rw [hs]; simp only; rw [if_neg hk, if_pos hf]
theorem eventOf_check {v : Int} {s w : List UInt8} {ws : List (List UInt8)} (hs : splitOn 32 s = w :: ws) (hk : kindIdx w ≠ 0) (hf : (fieldsOf 0 { evNone with kind := kindIdx w } ws).2 = 0) (hc : evCheck v (fieldsOf 0 { evNone with kind := kindIdx w } ws).1 ≠ 0) :
    eventOf v s = (evNone, evCheck v (fieldsOf 0 { evNone with kind := kindIdx w } ws).1) := by
  unfold eventOf; rw [hs]; simp only; rw [if_neg hk, if_neg (by simp [hf]), if_pos hc]
theorem eventOf_good {v : Int} {s w : List UInt8} {ws : List (List UInt8)} (hs : splitOn 32 s = w :: ws) (hk : kindIdx w ≠ 0) (hf : (fieldsOf 0 { evNone with kind := kindIdx w } ws).2 = 0) (hc : evCheck v (fieldsOf 0 { evNone with kind := kindIdx w } ws).1 = 0) :
    eventOf v s = ((fieldsOf 0 { evNone with kind := kindIdx w } ws).1, 0) := by
  unfold eventOf; rw [hs]; simp only; rw [if_neg hk, if_neg (by simp [hf]), if_neg (by simp [hc])]

theorem strs_at {ws : List (List UInt8)} {i : Nat} {s : List UInt8} (h : ws[i]? = some s) : (strs ws)[i]? = some (.string ⟨s.toArray⟩) := strs_get h

set_option maxRecDepth 100000 in
set_option maxHeartbeats 8000000 in
theorem dumpEvent_any (v : Int) (s : List UInt8) (w : World) (hL : LibV w) (hs : s.length ≤ 2097152) (hgl : ∀ g, (g = 0 ∨ g = 2 ∨ g = 3 ∨ g = 1) → g < w.heap.size) :
    Calls Tryz.prog 16 #[.int .i64 v, .string ⟨s.toArray⟩] w (EvPost (eventOf v s) w) := by
  have HL := Lib.hid hL
  have HGL := Lib.hid hgl
  clear hL hgl
  obtain ⟨k0, ws, hsp⟩ : ∃ k0 ws, splitOn 32 s = k0 :: ws := by
    cases h : splitOn 32 s with
    | nil => exact absurd h (splitOn_ne 32 s)
    | cons a b => exact ⟨a, b, rfl⟩
  have HSP := Lib.hid hsp
  have hwl : Hid (∀ x ∈ k0 :: ws, x.length ≤ 2097152) := Lib.hid fun x hx => by
    have hj := join_split 32 s
    have := splitOn_part 32 s x (by rw [hsp]; exact hx)
    omega
  have hcount : (k0 :: ws).length ≤ 2097153 := by rw [← hsp]; have := splitOn_length 32 s; omega
  go_enter Tryz.func16, Tryz.ntmps16
  go_wp2_with fail
  have HZ := Lib.hid (evBlk_zero w)
  have HB0 := Lib.hid (show Below w.heap.size w (w.alloc (.cells #[.int .i64 0, .int .i64 0, .int .i64 0, .int .i64 0, .int .i64 0, .int .i64 0, .int .i64 0, .string ⟨#[]⟩, .int .i64 0, .string ⟨#[]⟩] 24)) from (Below.refl _ _).alloc (Nat.le_refl _) _)
  have hz0 : w.heap.size < (w.alloc (.cells #[.int .i64 0, .int .i64 0, .int .i64 0, .int .i64 0, .int .i64 0, .int .i64 0, .int .i64 0, .string ⟨#[]⟩, .int .i64 0, .string ⟨#[]⟩] 24)).heap.size := by simp
  generalize w.alloc (.cells #[.int .i64 0, .int .i64 0, .int .i64 0, .int .i64 0, .int .i64 0, .int .i64 0, .int .i64 0, .string ⟨#[]⟩, .int .i64 0, .string ⟨#[]⟩] 24) = w0 at *
  refine (Split_any s 32 _ (HL.out.below HB0.out) (by omega)).mono ?_
  rintro x w1 ⟨sv, rfl, hown, hb1⟩
  rw [hsp] at hown
  obtain ⟨g, cap, rfl, hg0, hg1, hcap, hcm, hcs⟩ := own_get hown (by simp)
  have HCAP := Lib.hid (show cap ≤ 9223372036854775807 from hcm)
  unfold maxLen at hcm
  have hsz1 := hb1.size
  have HZ1 := Lib.hid (HZ.out.below hb1)
  have HB1 := Lib.hid (Below.next HB0.out hb1)
  have HCS := Lib.hid (show ∀ (j : Nat) t, (k0 :: ws)[j]? = some t → w1.cell? ⟨g, j, none⟩ = some (.string ⟨t.toArray⟩) from fun j t h => hcs j _ (strs_at h))
  clear hown hcs hb1 HZ HB0 hsp
  go_wp2_with fail
  have HE1 := Lib.hid (evBlk_zero w1)
  have hbA : Below w1.heap.size w1 (w1.alloc (.cells #[.int .i64 0, .int .i64 0, .int .i64 0, .int .i64 0, .int .i64 0, .int .i64 0, .int .i64 0, .string ⟨#[]⟩, .int .i64 0, .string ⟨#[]⟩] 24)) := (Below.refl _ _).alloc (Nat.le_refl _) _
  refine (kinds_any _).mono ?_
  rintro x w2 ⟨rfl, hb2⟩
  have hbB := Below.next hbA hb2
  have HE2 := Lib.hid (HE1.out.below hb2)
  have HZ2 := Lib.hid (HZ1.out.below hbB)
  have HB2 := Lib.hid (Below.next HB1.out hbB)
  have HCS2 := Lib.hid (show ∀ (j : Nat) t, (k0 :: ws)[j]? = some t → w2.cell? ⟨g, j, none⟩ = some (.string ⟨t.toArray⟩) from fun j t h => cell_later hbB (HCS.out j t h))
  obtain ⟨be, hbe⟩ : ∃ be, be = w1.heap.size := ⟨_, rfl⟩
  rw [← hbe] at HE2 ⊢
  have hbe1 : w.heap.size < be := by omega
  have hgbe : g ≠ be := by omega
  have hsz2 : be < w2.heap.size := HE2.out.lt
  clear hbA hb2 hbB HE1 HZ1 HB1 HCS hbe hg1 hsz1
  have hkz : Hid (kindTo k0 0 = 0) := Lib.hid (by unfold kindTo; split <;> omega)
  go_wp2
  go_loopw [15] (fun kv wr => ∃ k : Nat, k ≤ 11 ∧ kv = .int .i64 k ∧ EvBlk wr be { evNone with kind := (kindTo k0 k : Int) } ∧ But be w2 wr) (fun kv _ => 11 - (intOf kv).toNat)
  case atStart => exact ⟨0, by omega, rfl, by rw [hkz.out]; exact HE2.out, But.refl _ _⟩
  case round =>
    obtain ⟨k, hk, rfl, hE, hB⟩ := hrel
    have HE := Lib.hid hE
    have HB := Lib.hid hB
    clear hE hB
    by_cases hk1 : k < 11
    · have kin := kindsAt k hk1
      have c0 : wr.cell? ⟨g, 0, none⟩ = some (.string ⟨k0.toArray⟩) := HB.out.cell (HCS2.out 0 k0 rfl) hgbe
      have ce := HE.out.at'.c0
      have fe := HE.out.free 0
      by_cases hhit : 0 < k ∧ kindW.getD k [] = k0
      · have HK := Lib.hid (kindTo_hit hk1 hhit.2)
        have t1 : decide (0 < (k : Int)) = true := by simp; exact hhit.1
        have t2 : (k0 == k0) = true := by simp
        rw [hhit.2] at kin
        have hk0 := hhit.1
        clear hhit
        go_wp2
        go_roundw
        case rel => exact ⟨k + 1, by omega, by go_num, by rw [HK.out]; exact HE.out.put 0 _ rfl, HB.out.set 0 _⟩
        case measure => simp [intOf]; omega
      · have HK := Lib.hid (kindTo_miss hk1 hhit)
        rcases Nat.eq_zero_or_pos k with hk0 | hk0
        · subst hk0
          clear hhit kin
          have kin0 := kindsAt 0 (by omega)
          rw [show ((0 : Nat) : Int) = 0 from rfl] at kin0
          go_wp2
          go_roundw
          case rel => exact ⟨1, by omega, rfl, by rw [HK.out]; exact HE.out, HB.out⟩
          case measure => simp [intOf]
        · have t1 : decide (0 < (k : Int)) = true := by simp; exact hk0
          have t2 : (kindW.getD k [] == k0) = false := by rw [beq_eq_false_iff_ne]; intro h; exact hhit ⟨hk0, h⟩
          clear hhit
          obtain ⟨kw, hkw⟩ : ∃ kw, kw = kindW.getD k [] := ⟨_, rfl⟩
          rw [← hkw] at t2 kin
          clear hkw
          go_wp2
          go_roundw
          case rel => exact ⟨k + 1, by omega, by go_num, by rw [HK.out]; exact HE.out, HB.out⟩
          case measure => simp [intOf]; omega
    · obtain rfl : k = 11 := by omega
      have hkk := Lib.hid (kindTo_all k0)
      rw [hkk.out] at HE
      have HZr := Lib.hid (HZ2.out.but HB.out (by omega))
      have HBr := Lib.hid (But.below HB2.out HB.out (by omega))
      have HCr := Lib.hid (show ∀ (j : Nat) t, (k0 :: ws)[j]? = some t → wr.cell? ⟨g, j, none⟩ = some (.string ⟨t.toArray⟩) from fun j t h => HB.out.cell (HCS2.out j t h) hgbe)
      have ce := HE.out.at'.c0
      clear HE2 HZ2 HB2 HCS2 HB hkz hkk
      by_cases hkind : kindIdx k0 = 0
      · have hfin := Lib.hid (eventOf_nokind (v := v) HSP.out hkind)
        have t1 : ((kindIdx k0 : Int) == 0) = true := by rw [beq_iff_eq]; omega
        clear hkind
        go_wp2_with (with_reducible refine wpList_store_ev rfl (.tmp 4) (.tmp 34) rfl w.heap.size evNone evNone rfl rfl HZr.out ?_)
        exact bodyPost_ret (v := .tuple #[evV evNone, .int .i64 100]) (results_ev rfl _ _ w.heap.size evNone _ rfl rfl (HZr.out.row evNone)) rfl ⟨by rw [hfin.out], Below.row HBr.out (Nat.le_refl _) _⟩
      · have HKN := Lib.hid hkind
        have t1 : ((kindIdx k0 : Int) == 0) = false := by rw [beq_eq_false_iff_ne]; omega
        have hki : kindIdx k0 ≤ 10 := (kindIdx_spec hkind).1
        have HLr := Lib.hid (HL.out.below HBr.out)
        have hszr := HE.out.lt
        simp only [List.length_cons] at hcap hcount
        clear hkind
        by_cases hc1 : cap = 1
        · have hws : ws = [] := List.eq_nil_of_length_eq_zero (by omega)
          subst hws
          subst hc1
          go_wp2_with fail
          refine (fields_any [] g 0 0 be { evNone with kind := (kindIdx k0 : Int) } _ HE.out HLr.out (fun gg h => by have := HGL.out gg h; omega) (fun _ => hgbe) (Nat.le_refl _) (by decide) (fun i t h => by simp at h) (fun t h => by cases h)).mono ?_
          rintro x w5 ⟨rfl, ⟨e5, hE5, hres⟩, hB5⟩
          have HE5 := Lib.hid hE5
          have HZ5 := Lib.hid (HZr.out.but hB5 (by omega))
          have HB5 := Lib.hid (But.below HBr.out hB5 (by omega))
          have HRES := Lib.hid hres
          clear hE5 hB5 hres HE HZr HCr
          obtain ⟨R, hR⟩ : ∃ R, R = fieldsOf 0 { evNone with kind := (kindIdx k0 : Int) } [] := ⟨_, rfl⟩
          rw [← hR] at HRES ⊢
          have HR := Lib.hid hR
          by_cases hbad : R.2 ≠ 0
          · have hfin := Lib.hid (show eventOf v s = (evNone, R.2) by rw [hR]; exact eventOf_fields HSP.out HKN.out (by rw [← hR]; exact hbad))
            have t2 : (R.2 != 0) = true := by rw [bne_iff_ne]; exact hbad
            clear hbad hR
            go_wp2_with (with_reducible refine wpList_store_ev rfl (.tmp 4) (.tmp 40) rfl w.heap.size evNone evNone rfl rfl HZ5.out ?_)
            exact bodyPost_ret (v := .tuple #[evV evNone, .int .i64 R.2]) (results_ev rfl _ _ w.heap.size evNone _ rfl rfl (HZ5.out.row evNone)) rfl ⟨by rw [hfin.out], Below.row HB5.out (Nat.le_refl _) _⟩
          · have h0 : R.2 = 0 := Classical.byContradiction hbad
            obtain rfl : e5 = R.1 := HRES.out h0
            have H0 := Lib.hid h0
            have t2 : (R.2 != 0) = false := by rw [bne_eq_false_iff_eq]; exact h0
            have hok : Hid (EvOk 2097152 R.1) := Lib.hid (by
              rw [hR]
              exact fields_ok 2097152 [] 0 _ (evOk_kind _ ⟨by omega, by omega⟩) (fun t h => by cases h))
            clear hbad h0 hR
            go_wp2_with (with_reducible refine wpList_load_ev rfl (.tmp 7) rfl be R.1 rfl HE5.out ?_)
            refine (schemaCheck_any v R.1 _ hok.out).mono ?_
            rintro x w6 ⟨rfl, hb6⟩
            have HE6 := Lib.hid (HE5.out.below hb6)
            have HZ6 := Lib.hid (HZ5.out.below hb6)
            have HB6 := Lib.hid (Below.next HB5.out hb6)
            clear hb6 HE5 HZ5 HB5
            by_cases hc : evCheck v R.1 ≠ 0
            · have hfin := Lib.hid (show eventOf v s = (evNone, evCheck v R.1) by rw [HR.out]; exact eventOf_check HSP.out HKN.out (by rw [← HR.out]; exact H0.out) (by rw [← HR.out]; exact hc))
              have t3 : (evCheck v R.1 != 0) = true := by rw [bne_iff_ne]; exact hc
              clear hc
              go_wp2_with (with_reducible refine wpList_store_ev rfl (.tmp 4) (.tmp 47) rfl w.heap.size evNone evNone rfl rfl HZ6.out ?_)
              exact bodyPost_ret (v := .tuple #[evV evNone, .int .i64 (evCheck v R.1)]) (results_ev rfl _ _ w.heap.size evNone _ rfl rfl (HZ6.out.row evNone)) rfl ⟨by rw [hfin.out], Below.row HB6.out (Nat.le_refl _) _⟩
            · have hc0 : evCheck v R.1 = 0 := Classical.byContradiction hc
              have hfin := Lib.hid (show eventOf v s = (R.1, 0) by rw [HR.out]; exact eventOf_good HSP.out HKN.out (by rw [← HR.out]; exact H0.out) (by rw [← HR.out]; exact hc0))
              have t3 : (evCheck v R.1 != 0) = false := by rw [bne_eq_false_iff_eq]; exact hc0
              clear hc hc0
              go_wp2_with (first
                | (with_reducible refine wpList_load_ev rfl (.tmp 7) rfl be R.1 rfl HE6.out ?_)
                | (with_reducible refine wpList_store_ev rfl (.tmp 4) (.tmp 49) rfl w.heap.size evNone R.1 rfl rfl HZ6.out ?_))
              exact bodyPost_ret (v := .tuple #[evV R.1, .int .i64 0]) (results_ev rfl _ _ w.heap.size R.1 _ rfl rfl (HZ6.out.row R.1)) rfl ⟨by rw [hfin.out], Below.row HB6.out (Nat.le_refl _) _⟩
        · have hc2 : 1 < cap := by omega
          have hc3 : (1 : Int) < (cap : Int) := by omega
          go_wp2_with fail
          refine (fields_any ws g 1 (cap - 1) be { evNone with kind := (kindIdx k0 : Int) } _ HE.out HLr.out (fun gg h => by have := HGL.out gg h; omega) (fun _ => hgbe) (by omega) (by have := HCAP.out; omega) (fun i t h => by rw [Nat.add_comm 1 i]; exact HCr.out (i + 1) t (by simpa using h)) (fun t h => hwl.out t (by simp [h]))).mono ?_
          rintro x w5 ⟨rfl, ⟨e5, hE5, hres⟩, hB5⟩
          have HE5 := Lib.hid hE5
          have HZ5 := Lib.hid (HZr.out.but hB5 (by omega))
          have HB5 := Lib.hid (But.below HBr.out hB5 (by omega))
          have HRES := Lib.hid hres
          clear hE5 hB5 hres HE HZr HCr
          obtain ⟨R, hR⟩ : ∃ R, R = fieldsOf 0 { evNone with kind := (kindIdx k0 : Int) } ws := ⟨_, rfl⟩
          rw [← hR] at HRES ⊢
          have HR := Lib.hid hR
          by_cases hbad : R.2 ≠ 0
          · have hfin := Lib.hid (show eventOf v s = (evNone, R.2) by rw [hR]; exact eventOf_fields HSP.out HKN.out (by rw [← hR]; exact hbad))
            have t2 : (R.2 != 0) = true := by rw [bne_iff_ne]; exact hbad
            clear hbad hR
            go_wp2_with (with_reducible refine wpList_store_ev rfl (.tmp 4) (.tmp 40) rfl w.heap.size evNone evNone rfl rfl HZ5.out ?_)
            exact bodyPost_ret (v := .tuple #[evV evNone, .int .i64 R.2]) (results_ev rfl _ _ w.heap.size evNone _ rfl rfl (HZ5.out.row evNone)) rfl ⟨by rw [hfin.out], Below.row HB5.out (Nat.le_refl _) _⟩
          · have h0 : R.2 = 0 := Classical.byContradiction hbad
            obtain rfl : e5 = R.1 := HRES.out h0
            have H0 := Lib.hid h0
            have t2 : (R.2 != 0) = false := by rw [bne_eq_false_iff_eq]; exact h0
            have hok : Hid (EvOk 2097152 R.1) := Lib.hid (by
              rw [hR]
              exact fields_ok 2097152 ws 0 _ (evOk_kind _ ⟨by omega, by omega⟩) (fun t h => hwl.out t (by simp [h])))
            clear hbad h0 hR
            go_wp2_with (with_reducible refine wpList_load_ev rfl (.tmp 7) rfl be R.1 rfl HE5.out ?_)
            refine (schemaCheck_any v R.1 _ hok.out).mono ?_
            rintro x w6 ⟨rfl, hb6⟩
            have HE6 := Lib.hid (HE5.out.below hb6)
            have HZ6 := Lib.hid (HZ5.out.below hb6)
            have HB6 := Lib.hid (Below.next HB5.out hb6)
            clear hb6 HE5 HZ5 HB5
            by_cases hc : evCheck v R.1 ≠ 0
            · have hfin := Lib.hid (show eventOf v s = (evNone, evCheck v R.1) by rw [HR.out]; exact eventOf_check HSP.out HKN.out (by rw [← HR.out]; exact H0.out) (by rw [← HR.out]; exact hc))
              have t3 : (evCheck v R.1 != 0) = true := by rw [bne_iff_ne]; exact hc
              clear hc
              go_wp2_with (with_reducible refine wpList_store_ev rfl (.tmp 4) (.tmp 47) rfl w.heap.size evNone evNone rfl rfl HZ6.out ?_)
              exact bodyPost_ret (v := .tuple #[evV evNone, .int .i64 (evCheck v R.1)]) (results_ev rfl _ _ w.heap.size evNone _ rfl rfl (HZ6.out.row evNone)) rfl ⟨by rw [hfin.out], Below.row HB6.out (Nat.le_refl _) _⟩
            · have hc0 : evCheck v R.1 = 0 := Classical.byContradiction hc
              have hfin := Lib.hid (show eventOf v s = (R.1, 0) by rw [HR.out]; exact eventOf_good HSP.out HKN.out (by rw [← HR.out]; exact H0.out) (by rw [← HR.out]; exact hc0))
              have t3 : (evCheck v R.1 != 0) = false := by rw [bne_eq_false_iff_eq]; exact hc0
              clear hc hc0
              go_wp2_with (first
                | (with_reducible refine wpList_load_ev rfl (.tmp 7) rfl be R.1 rfl HE6.out ?_)
                | (with_reducible refine wpList_store_ev rfl (.tmp 4) (.tmp 49) rfl w.heap.size evNone R.1 rfl rfl HZ6.out ?_))
              exact bodyPost_ret (v := .tuple #[evV R.1, .int .i64 0]) (results_ev rfl _ _ w.heap.size R.1 _ rfl rfl (HZ6.out.row R.1)) rfl ⟨by rw [hfin.out], Below.row HB6.out (Nat.le_refl _) _⟩

end Go.Proofs.YtecmpmnidlfgnaaGreatDoor
