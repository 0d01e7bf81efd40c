import Derived.Test.YtlobohpbgghleaaGreatDoorRcLaw
namespace Go.Proofs.YtlobohpbgghleaaGreatDoor
open Go.RowKit

/-! ## RecoveryApplies, whole -/

set_option maxRecDepth 100000 in
set_option maxHeartbeats 8000000 in
theorem recoveryApplies_walk0 (room : Int) (fs : List Fil) (fv : Value) (p : Pl) (sv rv : Value) (fu : Int) (w : World) (hf : FilesIn (fun _ => True) w fv fs) (hl : ∀ f ∈ fs, f.data.length ≤ 1048576) (hlen : fs.length ≤ 1048576)
    (hp : PlIn w p sv rv) (hfu : fu ≤ 9223372036854775807) (hn : NibTab w) :
    Calls Tryz.prog 5 #[.int .i64 room, fv, plV p sv rv, .int .i64 fu] w fun e w' => e = .returned (.bool true) ∧ Below w.heap.size w w' := by
  have HF := Lib.hid hf
  have HL := Lib.hid hl
  have HLEN := Lib.hid hlen
  have HP := Lib.hid hp
  have HFU := Lib.hid hfu
  have HNB := Lib.hid hn
  have HNL := Lib.hid hn.lt
  obtain ⟨rd, hrd⟩ : ∃ r, r = mountD room fs := ⟨_, rfl⟩
  have HMO := Lib.hid (show rd.2 = 0 → DiskOk rd.1 ∧ rd.1.steps = 0 from fun h => by rw [hrd] at h ⊢; exact mountD_ok3 h)
  have HRF := Lib.hid (fun (W : World) (hW : Below w.heap.size w W) => refMount_any room fs fv W (hf.below hW) hl)
  have HPF := Lib.hid (fun (W : World) (A : Nat → Prop) (v : Value) (h : FilesIn A W v fs) => fsMount_any room fs v W h hl)
  rw [← hrd] at HRF HPF
  clear hrd
  obtain ⟨d, er⟩ := rd
  have HB0 := Lib.hid (below_alloc w (.cells (plCs p sv rv) 34))
  have HP0 := Lib.hid (plBlk_alloc w p sv rv)
  obtain ⟨os, sc, rfl, _⟩ := hp.seg
  obtain ⟨og, rc, rfl, _⟩ := hp.rem
  obtain ⟨ov, fc, rfl, _⟩ := hf
  simp only [plCs] at HB0 HP0
  clear hl hlen hp hfu hn
  go_enter Tryz.func5, Tryz.ntmps5
  go_wp2_with fail
  refine (head18_any _ (HNB.out.below HB0.out)).mono ?_
  rintro e w1 ⟨rfl, hb1⟩
  have HB1 := Lib.hid (Below.next HB0.out hb1)
  have HP1 := Lib.hid (HP0.out.below hb1)
  clear hb1 HB0 HP0
  go_wp2_with fail
  refine (HRF.out w1 HB1.out).mono ?_
  rintro e w2 ⟨v2, rfl, hf2, hb2⟩
  have HB2 := Lib.hid (Below.next HB1.out hb2)
  have HP2 := Lib.hid (HP1.out.below hb2)
  have HF2 := Lib.hid hf2.low
  have HV2 := Lib.hid hf2.one
  have HDz := Lib.hid (dkBlk_alloc w2 zeroD (.slice none 0 0))
  have hlo : w.heap.size < w2.heap.size := Nat.lt_of_lt_of_le HP1.out.lt hb2.size
  simp only [dkCs, zeroD] at HDz
  clear hf2 hb2 HRF HB1 HP1
  go_wp2_with (with_reducible refine wpList_store_dk rfl (.tmp 9) (.tmp 22) rfl w2.heap.size ⟨[], 0, 0, false, 0, 0⟩ d (.slice none 0 0) v2 rfl rfl HDz.out HV2.out ?_)
  intro w3 hw3
  have hb3 : Below w2.heap.size w2 w3 := by rw [hw3.out]; exact below_row (below_alloc w2 _) (Nat.le_refl _) _
  have HD3 := Lib.hid (show DkBlk w3 w2.heap.size d v2 by rw [hw3.out]; exact HDz.out.row)
  have HB3 := Lib.hid (Below.next HB2.out hb3)
  have HP3 := Lib.hid (HP2.out.below hb3)
  have HF3 := Lib.hid ((HF2.out.mono (A' := fun k => k < w2.heap.size) (fun k hk => hk.2)).below hb3)
  clear hw3 hb3 HDz HB2 HP2 HF2 HV2
  generalize w2.heap.size = bd at *
  go_wp2_with fail
  refine (refCopyF_any (A := fun _ => True) fs _ w3 (HF.out.below HB3.out) (Nat.le_trans HLEN.out (by decide)) (fun f hf => Nat.le_trans (HL.out f hf) (by decide))).mono ?_
  rintro e w4 ⟨v4, rfl, hf4, hb4⟩
  have HB4 := Lib.hid (Below.next HB3.out hb4)
  have HP4 := Lib.hid (HP3.out.below hb4)
  have HD4 := Lib.hid (HD3.out.below hb4)
  have HF4 := Lib.hid (HF3.out.below hb4)
  have HC4 := Lib.hid (HPF.out w4 _ v4 hf4)
  have hbd : bd < w4.heap.size := HD4.out.lt
  clear hf4 hb4 HB3 HP3 HD3 HF3 HPF
  go_wp2_with fail
  refine HC4.out.mono ?_
  rintro e w5 ⟨hc5, hb5⟩
  have HB5 := Lib.hid (Below.next HB4.out hb5)
  have HP5 := Lib.hid (HP4.out.below hb5)
  have HD5 := Lib.hid (HD4.out.below hb5)
  have HF5 := Lib.hid (HF4.out.below hb5)
  clear HB4 HP4 HD4 HF4 HC4
  rcases hc5 with ⟨hne, rfl⟩ | ⟨hz, f, m, L, rfl, hat5, hlow⟩
  · have hq : (er != 0) = true := by simpa using hne
    have hq' : (er == 0) = false := by simpa using hne
    have HBE := HB5
    clear hne hb5 HMO HP5 HD5 HF5
    go_wp2
    go_ret
    exact ⟨rfl, HBE.out⟩
  · simp only at hz
    subst hz
    obtain ⟨hdok, hdst⟩ := HMO.out rfl
    have HLOW := Lib.hid hlow
    have HAT5 := Lib.hid hat5
    have hsz5 := hb5.size
    have HFS := Lib.hid (fuse_any w5 f m d L hat5 fu HFU.out)
    obtain ⟨d6, hd6⟩ : ∃ x, x = (doD d (opFuse fu)).1 := ⟨_, rfl⟩
    have HST6 := Lib.hid (show d6.steps = 0 by rw [hd6, doD_fuse]; exact hdst)
    have HDD := Lib.hid (show doD d (opFuse fu) = (d6, [], 0, 0) by rw [hd6, doD_fuse])
    rw [← hd6] at HFS
    clear hat5 hlow hb5 hdok hdst HMO hd6
    go_wp2_with fail
    refine HFS.out.mono ?_
    rintro e w6 ⟨rfl, L6, hat6, ht6, hL6⟩
    have HLW6 := Lib.hid (show ∀ k, foot f m L6 k → w4.heap.size ≤ k from fun k hk => by
      rcases hL6 k hk with h | h
      · exact HLOW.out k h
      · omega)
    have HAT6 := Lib.hid hat6
    have HLT6 := Lib.hid hat6.lt
    have hwz : w.heap.size ≤ w4.heap.size := by omega
    have HB6 := Lib.hid (turned_below HB5.out ht6 (fun k hk => Nat.le_trans hwz (HLOW.out k hk)) HB5.out.size)
    have HP6 := Lib.hid (HP5.out.kept (ht6.block _ HP5.out.lt (fun hc => by have := HLOW.out _ hc; omega)))
    have HD6 := Lib.hid (show DkBlk w6 bd d v2 by unfold DkBlk; rw [ht6.block bd HD5.out.lt (fun hc => by have := HLOW.out _ hc; omega)]; exact HD5.out)
    have HF6 := Lib.hid ((HF5.out.turned ht6 (fun k hk hc => by have := HLOW.out _ hc; omega)).mono (A' := fun k => ¬ foot f m L6 k ∧ k ≠ bd) (fun k hk => ⟨fun hc => by have := HLW6.out k hc; omega, by omega⟩))
    have HD1 := Lib.hid (do_fuse (A := fun k => ¬ foot f m L6 k ∧ k ≠ bd) d v2 (opFuse fu) (.slice none 0 0) (.slice none 0 0) w6 HF6.out rfl)
    unfold DoPost at HD1
    rw [HDD.out] at HD1
    clear hat6 ht6 hL6 HFS HB5 HP5 HD5 HF5 HAT5 HLOW
    go_wp2_with (with_reducible refine wpList_load_dk rfl (.tmp 9) rfl bd d v2 rfl HD6.out ?_)
    refine HD1.out.mono ?_
    rintro e w7 ⟨v7, rfl, hf7, hb7⟩
    have HF7 := Lib.hid hf7
    have HV7 := Lib.hid hf7.one
    have HB7 := Lib.hid (Below.next HB6.out hb7)
    have HP7 := Lib.hid (HP6.out.below hb7)
    have HD7 := Lib.hid (HD6.out.below hb7)
    have HAT7 := Lib.hid (HAT6.out.below hb7)
    have hsz7 := hb7.size
    clear hf7 hb7 HD1 HB6 HP6 HD6 HF6 HAT6
    go_wp2_with (with_reducible refine wpList_store_dk rfl (.tmp 9) (.tmp 53) rfl bd d d6 v2 v7 rfl rfl HD7.out HV7.out ?_)
    intro w8 hw8
    have ht8 : Turned (fun k => k = bd) w7 w8 := by rw [hw8.out]; exact run_setRow_turned _ _ _
    have hb8 : Below w.heap.size w w8 := turned_below HB7.out ht8 (fun k hk => by omega) HB7.out.size
    have HB8 := Lib.hid hb8
    have HD8 := Lib.hid (show DkBlk w8 bd d6 v7 by rw [hw8.out]; exact HD7.out.row)
    have HP8 := Lib.hid (HP7.out.kept (ht8.block _ HP7.out.lt (by omega)))
    have HF8 := Lib.hid (HF7.out.turned ht8 (fun k hk => hk.2)).low
    have HAT8 := Lib.hid (HAT7.out.turned ht8 (fun k hk he => by have := HLW6.out k hk; omega))
    have hsz8 := ht8.size
    have HPz := Lib.hid (plBlk_alloc w8 planZ (.slice none 0 0) (.slice none 0 0))
    simp only [plCs, planZ, zeroM] at HPz
    clear hw8 ht8 hb8 HB7 HP7 HD7 HF7 HAT7 HV7
    go_wp2_with (first | (with_reducible refine wpList_load_pl rfl (.tmp 6) rfl w.heap.size p (.slice os p.man.segs.length sc) (.slice og p.remove.length rc) rfl HP8.out ?_) | (with_reducible refine wpList_store_pl rfl (.tmp 13) (.tmp 57) rfl w8.heap.size ⟨false, ⟨0, 0, 0, 0, 0, []⟩, [], 0, 0⟩ p (.slice none 0 0) (.slice none 0 0) (.slice os p.man.segs.length sc) (.slice og p.remove.length rc) rfl rfl HPz.out rfl rfl ?_))
    intro w9 hw9
    have hb9 : Below w8.heap.size w8 w9 := by rw [hw9.out]; exact below_row (below_alloc w8 _) (Nat.le_refl _) _
    have HB9 := Lib.hid (Below.next HB8.out hb9)
    have HD9 := Lib.hid (HD8.out.below hb9)
    have HP9 := Lib.hid (HP8.out.below hb9)
    have HF9 := Lib.hid (HF8.out.below hb9)
    have HAT9 := Lib.hid (HAT8.out.below hb9)
    have HQ9 := Lib.hid (show PlBlk w9 w8.heap.size p (.slice os p.man.segs.length sc) (.slice og p.remove.length rc) by rw [hw9.out]; exact HPz.out.row)
    have hbq : w8.heap.size < w9.heap.size := HQ9.out.lt
    have hbd8 : bd < w8.heap.size := HD8.out.lt
    have HLT8 := Lib.hid (show ∀ k, foot f m L6 k → k < w8.heap.size from HAT8.out.lt)
    clear hw9 hb9 HB8 HD8 HP8 HF8 HAT8 HPz
    generalize w8.heap.size = bq at *
    have c7 : (w9.alloc (.cells #[] 9)).cell? ⟨w.heap.size, 7, none⟩ = some (.slice og p.remove.length rc) := (HP9.out.below (below_alloc _ _)).c7
    have HOW := Lib.hid (own_fresh w9 9 1 w9.heap.size (Nat.le_refl _))
    have HBA := Lib.hid (below_alloc w9 (.cells #[] 9))
    have hsa : w9.heap.size ≤ (w9.alloc (.cells #[] 9)).heap.size := HBA.out.size
    have HST := Lib.hid (HP.out.rem.below (Below.next HB9.out HBA.out))
    have hrl := HP.out.rems
    go_wp2_with (with_reducible refine wpList_appS rfl (.tmp 58) (.tmp 60) rfl (v := .slice (some ⟨w9.heap.size, 0, none⟩) 0 0) (x := .slice og p.remove.length rc) rfl rfl HOW.out hsa HST.out hrl ?_)
    intro rv' w10 ho10 hb10
    have HB10' : Below w9.heap.size w9 w10 := (HBA.out.mono (Nat.le_refl _)).trans hb10
    have HB10 := Lib.hid (Below.next HB9.out HB10')
    have HD10 := Lib.hid (HD9.out.below HB10')
    have HP10 := Lib.hid (HP9.out.below HB10')
    have HF10 := Lib.hid (HF9.out.below HB10')
    have HAT10 := Lib.hid (HAT9.out.below HB10')
    have HQ10 := Lib.hid (HQ9.out.below HB10')
    have HR10 := Lib.hid (stIn_own (A := fun k => w9.heap.size ≤ k) ho10 (fun _ h => h))
    have HRO := Lib.hid (show rv'.oneCell' = true by obtain ⟨_, _, e, _⟩ := HR10.out; rw [e]; rfl)
    have hsz10 := HB10'.size
    clear ho10 hb10 HB10' HOW HBA hsa HST c7 HB9 HD9 HP9 HF9 HAT9 HQ9
    go_wp2_with (with_reducible refine wpList_store_plRem rfl (.tmp 62) (.tmp 61) rfl bq p (.slice os p.man.segs.length sc) (.slice og p.remove.length rc) rv' rfl rfl HQ10.out HRO.out ?_)
    intro w11 hq11 ht11
    have HB11 := Lib.hid (turned_below HB10.out ht11 (fun k hk => by omega) HB10.out.size)
    have HQ11 := Lib.hid hq11
    have HD11 := Lib.hid (show DkBlk w11 bd d6 v7 by unfold DkBlk; rw [ht11.block bd HD10.out.lt (by omega)]; exact HD10.out)
    have HP11 := Lib.hid (HP10.out.kept (ht11.block _ HP10.out.lt (by omega)))
    have HF11 := Lib.hid ((HF10.out.turned ht11 (fun k hk => by have := hk.2; omega)).mono (A' := fun k => (¬ foot f m L6 k ∧ k ≠ bd) ∧ k < bq) (fun k hk => hk))
    have HAT11 := Lib.hid (HAT10.out.turned ht11 (fun k hk he => by have := HLT8.out k hk; omega))
    have HR11 := Lib.hid (HR10.out.turned ht11 (fun k hk => by omega))
    have HMR := Lib.hid HP11.out.man
    have hsz11 := ht11.size
    clear hq11 ht11 HB10 HQ10 HD10 HP10 HF10 HAT10 HR10 HRO
    go_wp2_with (with_reducible refine wpList_load_mnAt rfl (.tmp 63) rfl w.heap.size 1 p.man (.slice os p.man.segs.length sc) rfl HMR.out ?_)
    refine (manCopy_any p.man (.slice os p.man.segs.length sc) w11 (HP.out.seg.below HB11.out) HP.out.segs).mono ?_
    rintro e w12 ⟨sv', rfl, hs12, ho12, hb12⟩
    have HB12 := Lib.hid (Below.next HB11.out hb12)
    have HQ12 := Lib.hid (HQ11.out.below hb12)
    have HD12 := Lib.hid (HD11.out.below hb12)
    have HP12 := Lib.hid (HP11.out.below hb12)
    have HF12 := Lib.hid (HF11.out.below hb12)
    have HAT12 := Lib.hid (HAT11.out.below hb12)
    have HR12 := Lib.hid (HR11.out.below hb12)
    have HS12 := Lib.hid hs12
    have HSO := Lib.hid ho12
    have hsz12 := hb12.size
    clear hs12 ho12 hb12 HMR HB11 HQ11 HD11 HP11 HF11 HAT11 HR11
    go_wp2_with (with_reducible refine wpList_store_plMan rfl (.tmp 66) (.tmp 65) rfl bq p (.slice os p.man.segs.length sc) rv' sv' rfl rfl HQ12.out HSO.out ?_)
    intro w13 hq13 ht13
    have HB13 := Lib.hid (turned_below HB12.out ht13 (fun k hk => by omega) HB12.out.size)
    have HQ13 := Lib.hid hq13
    have HD13 := Lib.hid (show DkBlk w13 bd d6 v7 by unfold DkBlk; rw [ht13.block bd HD12.out.lt (by omega)]; exact HD12.out)
    have HP13 := Lib.hid (HP12.out.kept (ht13.block _ HP12.out.lt (by omega)))
    have HF13 := Lib.hid ((HF12.out.turned ht13 (fun k hk => by have := hk.2; omega)).mono (A' := fun k => ¬ foot f m L6 k ∧ k ≠ bd) (fun k hk => hk.1))
    have HAT13 := Lib.hid (HAT12.out.turned ht13 (fun k hk he => by have := HLT8.out k hk; omega))
    have HR13 := Lib.hid (HR12.out.turned ht13 (fun k hk => by omega))
    have HS13 := Lib.hid (HS12.out.turned ht13 (fun k hk => by omega))
    have hsz13 := ht13.size
    have hAA : ∀ k, w13.heap.size ≤ k → ¬ foot f m L6 k ∧ k ≠ bd := fun k hk => ⟨fun hc => by have := HLT8.out k hc; omega, by omega⟩
    have HRA := Lib.hid (refApply_any d6 v7 p (.slice os p.man.segs.length sc) (.slice og p.remove.length rc) w13 HF13.out hAA HAT13.out.ok HST6.out (HP.out.seg.below HB13.out) (HP.out.rem.below HB13.out) HP.out.rems HP.out.cut.2)
    obtain ⟨r, hr⟩ : ∃ r, r = applyD d6 p := ⟨_, rfl⟩
    have HR := Lib.hid hr
    rw [← hr] at HRA
    clear hr hq13 ht13 hAA HB12 HQ12 HD12 HP12 HF12 HAT12 HR12 HS12 HSO
    obtain ⟨d9, e9⟩ := r
    unfold RaPost at HRA
    go_wp2_with (first | (with_reducible refine wpList_load_dk rfl (.tmp 9) rfl bd d6 v7 rfl HD13.out ?_) | (with_reducible refine wpList_load_pl rfl (.tmp 6) rfl w.heap.size p (.slice os p.man.segs.length sc) (.slice og p.remove.length rc) rfl HP13.out ?_))
    refine HRA.out.mono ?_
    rintro e w14 ⟨v9, rfl, hf14, hb14⟩
    have HB14 := Lib.hid (Below.next HB13.out hb14)
    have HQ14 := Lib.hid (HQ13.out.below hb14)
    have HD14 := Lib.hid (HD13.out.below hb14)
    have HF14 := Lib.hid hf14
    have HV14 := Lib.hid hf14.one
    have HAT14 := Lib.hid (HAT13.out.below hb14)
    have HR14 := Lib.hid (HR13.out.below hb14)
    have HS14 := Lib.hid (HS13.out.below hb14)
    have hsz14 := hb14.size
    clear hf14 hb14 HRA HB13 HQ13 HD13 HP13 HF13 HAT13 HR13 HS13
    go_wp2_with (with_reducible refine wpList_store_dk rfl (.tmp 9) (.tmp 71) rfl bd d6 d9 v7 v9 rfl rfl HD14.out HV14.out ?_)
    intro w15 hw15
    have ht15 : Turned (fun k => k = bd) w14 w15 := by rw [hw15.out]; exact run_setRow_turned _ _ _
    have HB15 := Lib.hid (turned_below HB14.out ht15 (fun k hk => by omega) HB14.out.size)
    have HD15 := Lib.hid (show DkBlk w15 bd d9 v9 by rw [hw15.out]; exact HD14.out.row)
    have HQ15 := Lib.hid (HQ14.out.kept (ht15.block _ HQ14.out.lt (by omega)))
    have HF15 := Lib.hid (HF14.out.turned ht15 (fun k hk => hk.2))
    have HAT15 := Lib.hid (HAT14.out.turned ht15 (fun k hk he => by have := HLW6.out k hk; omega))
    have HR15 := Lib.hid ((HR14.out.turned ht15 (fun k hk => by omega)).mono (A' := fun k => ¬ foot f m L6 k) (fun k hk hc => by have := HLT8.out k hc; omega))
    have HS15 := Lib.hid ((HS14.out.turned ht15 (fun k hk => by omega)).mono' (A' := fun k => ¬ foot f m L6 k) (fun k hk hc => by have := HLT8.out k hc; omega))
    have HAP := Lib.hid (recApply_any w15 f m d6 L6 HAT15.out p sv' rv' HS15.out HR15.out (HNB.out.below HB15.out) (fun hc => by have := HLW6.out _ hc; have := HNL.out; omega) HST6.out HP.out.rems)
    rw [← HR.out] at HAP
    unfold RunPost at HAP
    clear hw15 HB14 HQ14 HD14 HF14 HV14 HAT14 HR14 HS14
    go_wp2_with (with_reducible refine wpList_load_pl rfl (.tmp 13) rfl bq p sv' rv' rfl HQ15.out ?_)
    refine HAP.out.mono ?_
    rintro e w16 ⟨rfl, L7, hat16, ht16, _⟩
    have HB16 := Lib.hid (turned_below HB15.out ht16 (fun k hk => by have := HLW6.out k hk; omega) HB15.out.size)
    have HD16 := Lib.hid (show DkBlk w16 bd d9 v9 by unfold DkBlk; rw [ht16.block bd HD15.out.lt (fun hc => by have := HLW6.out _ hc; omega)]; exact HD15.out)
    have HQ16 := Lib.hid (HQ15.out.kept (ht16.block _ HQ15.out.lt (fun hc => by have := HLT8.out _ hc; omega)))
    have HF16 := Lib.hid (HF15.out.turned ht16 (fun k hk => hk.1))
    have HAT16 := Lib.hid hat16
    have HLN := Lib.hid (show ∀ x ∈ d9.files, x.data.length ≤ 140737488355328 from fun x hx => by
      have h1 := hat16.ok.used
      have h2 := hat16.ok.room
      have h3 := usedF_mem hx
      omega)
    clear hat16 ht16 ht15 HAP HB15 HQ15 HD15 HF15 HAT15 HR15 HS15 HR
    clear hrl hsz8 hsz10 hsz11 hsz12 hsz13 hsz14 hbq hbd8 hsz7 hsz5 hwz hbd hlo
    go_wp2_with fail
    refine wp_region_held_drew (S := fun w' => Below w16.heap.size w16 w') (by kernel_rfl) (show Below w16.heap.size w16 w16.drew from below_drewN' w16 1) (fun hHeld => ?_)
    refine tk 0 rfl ?v_1 ?hy_1 ?r_1
    case hy_1 => intro w hSw; go_simp; try with_reducible rfl
    simp only [pA, pB, pC, pD]
    refine tk 1 rfl ?v_2 ?hy_2 ?r_2
    case hy_2 => intro w hSw; go_simp; try with_reducible rfl
    simp only [pA, pB, pC, pD]
    refine tk 2 rfl ?v_3 ?hy_3 ?r_3
    case hy_3 => intro w hSw; go_simp; try with_reducible rfl
    simp only [pA, pB, pC, pD]
    refine tk 3 rfl ?v_4 ?hy_4 ?r_4
    case hy_4 => intro w hSw; go_simp; try with_reducible rfl
    simp only [pA, pB, pC, pD]
    refine tk 4 rfl ?v_5 ?hy_5 ?r_5
    case hy_5 => intro w hSw; go_simp; try with_reducible rfl
    simp only [pA, pB, pC, pD]
    refine tk 6 rfl ?v_6 ?hy_6 ?r_6
    case hy_6 => intro w hSw; go_simp; try with_reducible rfl
    simp only [pA, pB, pC, pD]
    refine tk 7 rfl ?v_7 ?hy_7 ?r_7
    case hy_7 => intro w hSw; have k0 := (HD16.out.below hSw).c0; go_simp; try with_reducible rfl
    simp only [pA, pB, pC, pD]
    generalize World.drew _ = Wd at *
    refine wpAnyH_ready (rs := [5]) (by kernel_rfl) (by simp) ?_
    refine AllReadyH.cons rfl (fun K hK => ?_) AllReadyH.nil
    go_simp
    go_at_call 16
    refine (fsImage_any Wd f m d9 L7 (HAT16.out.below hHeld)).mono ?_
    rintro e w17 ⟨v17, rfl, hf17, hb17⟩
    have HF17 := Lib.hid hf17
    have HB17 := Lib.hid (Below.next hHeld hb17)
    clear hf17 hb17 hHeld
    go_wp2_with fail
    refine hK.out _ _ HB17.out (fun hHeld => ?_)
    clear hK K
    refine wpAnyH_ready (rs := [8]) (by kernel_rfl) (by simp) ?_
    refine AllReadyH.cons rfl (fun K hK => ?_) AllReadyH.nil
    go_simp
    go_at_call 18
    refine (refSameF_any d9.files v17 v9 w17 HF17.out (HF16.out.below HB17.out) HLN.out).mono ?_
    rintro e w18 ⟨rfl, hb18⟩
    have HB18 := Lib.hid (Below.next HB17.out hb18)
    clear hb18 hHeld HB17
    go_wp2_with fail
    refine hK.out _ _ HB18.out (fun hHeld => ?_)
    clear hK K
    refine tk 9 rfl ?v_8 ?hy_8 ?r_8
    case hy_8 => intro w hSw; go_simp; try with_reducible rfl
    simp only [pA, pB, pC, pD]
    refine tk 10 rfl ?v_9 ?hy_9 ?r_9
    case hy_9 => intro w hSw; go_simp; try with_reducible rfl
    simp only [pA, pB, pC, pD]
    refine tkl 11 bq 0 (plCs p sv' rv').toList rfl rfl (fun w' h j v hv => by rw [Nat.zero_add, (HQ16.out.below h).cell]; simpa using hv) Tryz.underlying34 rfl (by rw [plInfo]; rfl) ?_
    simp only [pA, pB, pC, pD, plCs]
    refine wpAnyH_ready (rs := [12]) (by kernel_rfl) (by simp) ?_
    refine AllReadyH.cons rfl (fun K hK => ?_) AllReadyH.nil
    go_simp
    go_at_call 26
    refine (recApply_nil w18 p sv' rv').mono ?_
    rintro e w19 ⟨rfl, hb19⟩
    have HB19 := Lib.hid (Below.next HB18.out hb19)
    clear hb19 hHeld HB18
    go_wp2_with fail
    refine hK.out _ _ HB19.out (fun hHeld => ?_)
    clear hK K
    refine tk 13 rfl ?v_10 ?hy_10 ?r_10
    case hy_10 => intro w hSw; go_simp; try with_reducible rfl
    simp only [pA, pB, pC, pD]
    refine tk 14 rfl ?v_11 ?hy_11 ?r_11
    case hy_11 => intro w hSw; go_simp; try with_reducible rfl
    simp only [pA, pB, pC, pD]
    refine tk 15 rfl ?v_12 ?hy_12 ?r_12
    case hy_12 => intro w hSw; go_simp; try with_reducible rfl
    simp only [pA, pB, pC, pD]
    refine wpAnyH_done (by kernel_rfl) ?_ _
    have HBE := Lib.hid (Below.next HB16.out HB19.out)
    clear hHeld
    go_wp2
    go_ret
    exact ⟨rfl, HBE.out⟩

theorem recoveryApplies_walk (a0 : Int) (v1 : Value) (a1 : List Fil) (v2 : Value) (a2 : Pl) (a3 : Int) (w : World) (_ : (Lit.int .i64 a0).wf = true) (h1 : RdFiles w v1 a1) (h2 : RdPlan w v2 a2) (h3 : (Lit.int .i64 a3).wf = true)
    (hL : laidMetH Tryz.prog Rows.recoveryAppliesUptoRow.laid w) (_ : w.ShapedOpen Tryz.prog) :
    Calls Tryz.prog 5 #[.int .i64 a0, v1, v2, .int .i64 a3] w fun e w' => e = .returned (.bool true) ∧ Below w.heap.size w w' := by
  obtain ⟨sv, rv, rfl, hp⟩ := h2
  have hL0 : laidMet Tryz.prog Rows.recoveryAppliesUptoRow.laid w := hL
  exact recoveryApplies_walk0 a0 a1 v1 a2 sv rv a3 w h1.row h1.dat h1.len hp (i64x_of_wf h3).2 (nib_of rfl hL0)

end Go.Proofs.YtlobohpbgghleaaGreatDoor
