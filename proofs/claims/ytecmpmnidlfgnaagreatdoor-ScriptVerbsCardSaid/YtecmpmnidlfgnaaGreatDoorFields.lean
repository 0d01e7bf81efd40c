import Derived.Test.YtecmpmnidlfgnaaGreatDoorKeys
import Derived.Test.YtecmpmnidlfgnaaGreatDoorDumpBack
import Derived.Test.YtecmpmnidlfgnaaGreatDoorCutLib
import Derived.Test.YtecmpmnidlfgnaaGreatDoorUnhex
import Derived.Deep.LoopGhost
import Derived.WalkMore
namespace Go.Proofs.YtecmpmnidlfgnaaGreatDoor
open Go.RowKit

/-! ## dump.fields -/

/-- 'string(b)' of bytes in a block -/
theorem conv_cells (w : World) (g off : Nat) (l : List UInt8) (cap : Nat) (h : ∀ (j : Nat) x, l[j]? = some x → w.cell? ⟨g, off + j, none⟩ = some (.int .u8 (x.toNat : Int))) :
    (convert 57 9 (.slice (some ⟨g, off, none⟩) l.length cap)).run Tryz.prog w = .ok (.string ⟨l.toArray⟩) w := by
  have hr := run_convert_bytes_arg (P := Tryz.prog) w 57 5 Tryz.underlying57 Tryz.underlying5 g off l.length cap (l.map fun x => (x.toNat : Int)) (by simp)
    (fun i hi => by rw [h i l[i] (List.getElem?_eq_getElem hi)]; simp [hi]) 9 Tryz.underlying9
  rw [hr]
  have e : (l.map fun x => (x.toNat : Int)).map (fun z => UInt8.ofNat z.toNat) = l := by
    rw [List.map_map]
    conv => rhs; rw [← List.map_id l]
    refine List.map_congr_left fun x _ => ?_
    simp
  unfold strOfNums
  rw [e]

theorem err_i {a b : Int} (h : a = b) : Ending.returned (.int .i64 a) = .returned (.int .i64 b) := by rw [h]

theorem valueErr_bad {k : Nat} {val : List UInt8} (h : if k = 6 then val = [] else numberOf val = none ∨ numberOf val = some 0) : valueErr k val = 101 := by
  unfold valueErr numErr numVal
  split at h
  · rename_i h6; rw [if_pos h6, if_pos h]
  · rename_i h6
    rw [if_neg h6]
    rcases h with h | h <;> rw [h] <;> simp
theorem value_ok {k : Nat} {val : List UInt8} (h : ¬ if k = 6 then val = [] else numberOf val = none ∨ numberOf val = some 0) : if k = 6 then val ≠ [] else ∃ n, numberOf val = some n ∧ n ≠ 0 := by
  split at h
  · rename_i h6; rw [if_pos h6]; exact h
  · rename_i h6
    rw [if_neg h6]
    cases hn : numberOf val with
    | none => exact absurd (.inl hn) h
    | some n => exact ⟨n, rfl, fun h0 => h (.inr (by rw [hn, h0]))⟩
theorem valueErr_ok {k : Nat} {val : List UInt8} (h : ¬ if k = 6 then val = [] else numberOf val = none ∨ numberOf val = some 0) : valueErr k val = 0 := by
  have := value_ok h
  unfold valueErr numErr numVal
  split at this
  · rename_i h6; rw [if_pos h6, if_neg this]
  · rename_i h6
    obtain ⟨n, hn, h0⟩ := this
    rw [if_neg h6, hn]; simp [h0]
theorem valueEv_ok {k : Nat} {val : List UInt8} {e : Ev} (h : ¬ if k = 6 then val = [] else numberOf val = none ∨ numberOf val = some 0) :
    valueEv k val e = if k = 6 then { e with who := val } else setKey e k ((numberOf val).getD 0) := by
  have := value_ok h
  unfold valueEv numErr numVal
  split at this
  · rename_i h6; rw [if_pos h6, if_pos h6]
  · rename_i h6
    obtain ⟨n, hn, h0⟩ := this
    rw [if_neg h6, if_neg h6, hn]; simp [h0]

/-- the library's variables lie elsewhere -/
theorem LibV.but {b : Nat} {w w' : World} (h : LibV w) (k : But b w w') (hb : ∀ v, (v = 0 ∨ v = 2 ∨ v = 3 ∨ v = 1) → v ≠ b) : LibV w' := by
  obtain ⟨h1, ⟨m, h2⟩, ⟨t, p, h3⟩, ⟨t', p', h4⟩⟩ := h
  refine ⟨?_, ⟨m, k.cell h2 (hb _ (.inl rfl))⟩, ⟨t, p, k.cell h3 (hb _ (.inr (.inl rfl)))⟩, ⟨t', p', k.cell h4 (hb _ (.inr (.inr (.inl rfl))))⟩⟩
  unfold PowTab Lib.TabIs at h1 ⊢
  unfold World.var? at h1 ⊢
  rw [show Tryz.prog.globalNamed "internal/strconv.uint64pow10" = some 1 by kernel_rfl] at h1 ⊢
  simp only [Option.bind_some] at h1 ⊢
  have hlt : 1 < w.heap.size := by
    rcases Nat.lt_or_ge 1 w.heap.size with h' | h'
    · exact h'
    · simp [Array.getElem?_eq_none h'] at h1
  rw [k.block _ hlt (hb _ (.inr (.inr (.inr rfl))))]
  exact h1

def FieldsPost (b : Nat) (e : Ev) (ws : List (List UInt8)) (w : World) (x : Ending) (w' : World) : Prop :=
  x = .returned (.int .i64 (fieldsOf 0 e ws).2) ∧ (∃ e', EvBlk w' b e' ∧ ((fieldsOf 0 e ws).2 = 0 → e' = (fieldsOf 0 e ws).1)) ∧ But b w w'

theorem fieldsPost_bad {b : Nat} {e e1 : Ev} {ws : List (List UInt8)} {w w' : World} {c : Int} (hc : c ≠ 0) (h : fieldsOf 0 e ws = (evNone, c)) (hE : EvBlk w' b e1) (hB : But b w w') : FieldsPost b e ws w (.returned (.int .i64 c)) w' :=
  ⟨by rw [h], ⟨e1, hE, fun h0 => by rw [h] at h0; exact absurd h0 hc⟩, hB⟩
theorem fieldsPost_good {b : Nat} {e e1 : Ev} {ws : List (List UInt8)} {w w' : World} (h : fieldsOf 0 e ws = (e1, 0)) (hE : EvBlk w' b e1) (hB : But b w w') : FieldsPost b e ws w (.returned (.int .i64 0)) w' :=
  ⟨by rw [h], ⟨e1, hE, fun _ => by rw [h]⟩, hB⟩

theorem drop_cons {α : Type} {l : List α} {i : Nat} {x : α} (h : l[i]? = some x) : l.drop i = x :: l.drop (i + 1) := by
  have hi := getElem?_lt h
  rw [List.drop_eq_getElem_cons hi]
  rw [List.getElem?_eq_getElem hi] at h
  congr 1; simpa using h
theorem drop_last {α : Type} {l : List α} {i : Nat} (h : i + 1 = l.length) : l.drop (i + 1) = [] := by rw [h, List.drop_length]

set_option maxRecDepth 100000 in
set_option maxHeartbeats 8000000 in
theorem fields_any (ws : List (List UInt8)) (g off cap b : Nat) (e : Ev) (w : World) (hE : EvBlk w b e) (hL : LibV w) (hbl : ∀ v, (v = 0 ∨ v = 2 ∨ v = 3 ∨ v = 1) → v ≠ b) (hg : ws ≠ [] → g ≠ b) (hcap : ws.length ≤ cap) (hc2 : cap ≤ 9223372036854775807)
    (hws : ∀ (i : Nat) s, ws[i]? = some s → w.cell? ⟨g, off + i, none⟩ = some (.string ⟨s.toArray⟩)) (hlen : ∀ s ∈ ws, s.length ≤ 2097152) :
    Calls Tryz.prog 58 #[.slice (some ⟨g, off, none⟩) ws.length cap, .pointer (some ⟨b, 0, none⟩)] w (FieldsPost b e ws w) := by
  have hblt := hE.lt
  have HE := Lib.hid hE
  have HL := Lib.hid hL
  have HW := Lib.hid hws
  have HG := Lib.hid hg
  have HN := Lib.hid hlen
  have HBL := Lib.hid hbl
  clear hE hL hws hg hlen hbl
  go_enter Tryz.func58, Tryz.ntmps58
  go_wp2
  go_step3
  go_wp2_with fail
  refine (keys_any _).mono ?_
  rintro x w1 ⟨rfl, hK, hb1⟩
  have HB1 := Lib.hid (But.of (b := b) hb1)
  have HE1 := Lib.hid (HE.out.below hb1)
  have HL1 := Lib.hid (HL.out.below hb1)
  have HW1 := Lib.hid (show ∀ (i : Nat) s, ws[i]? = some s → w1.cell? ⟨g, off + i, none⟩ = some (.string ⟨s.toArray⟩) from fun i s h => cell_later hb1 (HW.out i s h))
  have HK := Lib.hid hK
  obtain ⟨kb, hkb⟩ : ∃ kb, kb = w.heap.size := ⟨_, rfl⟩
  rw [← hkb] at HK ⊢
  have hkbb : kb ≠ b := by omega
  clear hK hb1 hkb HE HL HW
  go_wp2_with fail
  go_step3
  go_wp2_with fail
  go_loopg [5, 18] ws.length (fun gk nv iv wr => ∃ (nx i : Nat) (e1 : Ev), nx ≤ 8 ∧ i ≤ ws.length ∧ gk = ws.length - i ∧ nv = .int .i64 nx ∧ iv = .int .i64 i ∧ EvBlk wr b e1 ∧ But b w1 wr ∧ LibV wr ∧ Hid (fieldsOf 0 e ws = fieldsOf nx e1 (ws.drop i)))
  case atStart => exact ⟨0, 0, e, by omega, by omega, rfl, rfl, rfl, HE1.out, But.refl _ _, HL1.out, Lib.hid rfl⟩
  case round =>
    obtain ⟨nx, i, e1, hnx, hi, rfl, rfl, rfl, hE1, hB1, hL1, HF⟩ := hrel
    have HEr := Lib.hid hE1
    have HBr := Lib.hid hB1
    have HLr := Lib.hid hL1
    clear hE1 hB1 hL1
    by_cases hlt : i < ws.length
    · obtain ⟨s, hs, _, hmem⟩ := nth ws i hlt
      have hsl := HN.out s hmem
      have hne : ws ≠ [] := by rintro rfl; simp at hlt
      have cs : wr.cell? ⟨g, off + i, none⟩ = some (.string ⟨s.toArray⟩) := HBr.out.cell (HW1.out i s hs) (HG.out hne)
      have HD := Lib.hid (drop_cons hs)
      clear hs hmem hne
      go_wp2_with fail
      refine (Cut_any s 61 _ HLr.out (by omega)).mono ?_
      rintro x w2 ⟨rfl, hb2⟩
      have HE2 := Lib.hid (HEr.out.below hb2)
      have HB2 := Lib.hid (HBr.out.trans (But.of hb2))
      have HL2 := Lib.hid (HLr.out.below hb2)
      have HB0 := Lib.hid (HB1.out.trans HB2.out)
      clear hb2 HEr HLr
      cases hcut : cutAt 61 s with
      | none =>
        have hfin := Lib.hid (show fieldsOf 0 e ws = (evNone, 100) by rw [HF.out, HD.out, fields_nocut hcut])
        have hcv := Lib.hid (show cutV 61 s = (s, [], false) by unfold cutV; rw [hcut])
        clear hcut
        rw [hcv.out]
        go_wp2
        try rw [Exit.noGoto_ret]
        go_ret
        exact fieldsPost_bad (by decide) hfin.out HE2.out HB0.out
      | some p =>
        obtain ⟨nm, val⟩ := p
        have hcv := Lib.hid (show cutV 61 s = (nm, val, true) by unfold cutV; rw [hcut])
        have HCUT := Lib.hid hcut
        obtain ⟨hsp, _⟩ := cutAt_some hcut
        have hvl : val.length ≤ 2097152 := by
          have := congrArg List.length hsp
          simp at this; omega
        clear hcut hsp
        rw [hcv.out]
        by_cases hnote : nm = noteW ∧ i + 1 = ws.length
        · obtain ⟨hn1, hn2⟩ := hnote
          have k1 : (nm == [110, 111, 116, 101]) = true := by rw [beq_iff_eq]; exact hn1
          have k2 : ((i : Int) == (ws.length : Int) - 1) = true := by rw [beq_iff_eq]; omega
          subst hn1
          have hw1 := Lib.hid (show ws.drop i = [s] by rw [HD.out, drop_last hn2])
          clear hn2
          go_wp2_with fail
          refine (dumpUnhex_any val _ hvl).mono ?_
          rintro x w3 ⟨v, rfl, hown, hb3⟩
          have HE3 := Lib.hid (HE2.out.below hb3)
          have HB3 := Lib.hid (HB0.out.trans (But.of hb3))
          have HO := Lib.hid hown
          clear hb3 hown
          cases hu : unhexOf val with
          | none =>
            have hfin := Lib.hid (show fieldsOf 0 e ws = (evNone, 101) by rw [HF.out, hw1.out, fields_noteBad HCUT.out (.inl hu)])
            have he := Lib.hid (show uErr val = 101 by simp [uErr, hu])
            clear hu
            rw [he.out]
            go_wp2
            try rw [Exit.noGoto_ret]
            go_ret
            exact fieldsPost_bad (by decide) hfin.out HE3.out HB3.out
          | some bs =>
            have he := Lib.hid (show uErr val = 0 by simp [uErr, hu])
            have hv := Lib.hid (show uVal val = bs by simp [uVal, hu])
            rw [he.out]
            cases bs with
            | nil =>
              have hfin := Lib.hid (show fieldsOf 0 e ws = (evNone, 101) by rw [HF.out, hw1.out, fields_noteBad HCUT.out (.inr hu)])
              have ho := HO.out
              rw [hv.out] at ho
              obtain ⟨oa, cp, rfl, _, _⟩ := own_shape ho
              clear hu ho
              go_wp2
              try rw [Exit.noGoto_ret]
              go_ret
              exact fieldsPost_bad (by decide) hfin.out HE3.out HB3.out
            | cons b0 bs =>
              have hfin := Lib.hid (show fieldsOf 0 e ws = ({ e1 with note := b0 :: bs }, 0) by rw [HF.out, hw1.out, fields_noteOk HCUT.out hu (by simp)])
              have ho := HO.out
              rw [hv.out] at ho
              obtain ⟨gb, cp, rfl, _, _, _, _, hcs⟩ := own_get ho (by simp)
              have hcv2 := conv_cells w3 gb 0 (b0 :: bs) cp (fun j x hx => by rw [Nat.zero_add]; exact hcs j _ (by rw [Lib.byteCells, List.getElem?_map, hx]; rfl))
              have hlen2 : Hid ((b0 :: bs).length = bs.length + 1) := Lib.hid rfl
              have c9 := HE3.out.at'.c9
              have f9 := HE3.out.free 9
              have hbl : bs.length ≤ 2097152 := by have := unhexOf_length hu; simp at this; omega
              obtain ⟨L, hL⟩ : ∃ L, L = b0 :: bs := ⟨_, rfl⟩
              rw [← hL] at hcv2 hfin hlen2
              have k4 : ((L.length : Int) == 0) = false := by rw [beq_eq_false_iff_ne, hL]; simp; omega
              have hLl : 1 ≤ L.length := by rw [hL]; simp
              rw [← hL]
              clear hu ho hcs hL hbl
              go_wp2
              try rw [Exit.noGoto_ret]
              go_ret
              exact fieldsPost_good hfin.out (HE3.out.put 9 _ rfl) (HB3.out.set 9 _)
        · have HNN := Lib.hid (show ¬ (nm = noteW ∧ ws.drop (i + 1) = []) from fun h => hnote ⟨h.1, by
            have h2 := congrArg List.length h.2
            rw [List.length_drop] at h2
            simp at h2; omega⟩)
          have HKr := Lib.hid (show KeysAt w2 kb from fun k hk => ⟨HB2.out.cell (HK.out k hk).1 hkbb, HB2.out.cell (HK.out k hk).2 hkbb⟩)
          by_cases hn1 : nm = noteW
          · have k1 : (nm == [110, 111, 116, 101]) = true := by rw [beq_iff_eq]; exact hn1
            have k2 : ((i : Int) == (ws.length : Int) - 1) = false := by
              rw [beq_eq_false_iff_ne]; intro h; exact hnote ⟨hn1, by omega⟩
            clear hnote hn1
            go_wp2_with fail
            go_loopg [5] (8 - nx) (fun gk nv w5 => ∃ (j : Nat), nx ≤ j ∧ j ≤ 8 ∧ gk = 8 - j ∧ nv = .int .i64 j ∧ w2 = w5 ∧ Hid (∀ k, nx ≤ k → k < j → keyW.getD k [] ≠ nm))
            case atStart => exact ⟨nx, Nat.le_refl _, hnx, rfl, rfl, rfl, Lib.hid fun k h1 h2 => by omega⟩
            case round =>
              obtain ⟨j, hj1, hj2, rfl, rfl, rfl, HNO⟩ := hrel
              by_cases hj : j < 8
              · obtain ⟨kc0, kc1⟩ := HKr.out j hj
                have q1 : (j : Int) < 8 := by omega
                by_cases hkw : keyS j = nm
                · have k4 : (nm == nm) = true := by simp
                  have HKW := Lib.hid (show keyW.getD j [] = nm from hkw)
                  have HV := Lib.hid (value_any j hj val b e1 w2 HE2.out HL2.out (by omega))
                  rw [hkw] at kc0 HV
                  clear hkw
                  go_wp2_with fail
                  refine HV.out.mono ?_
                  rintro x w6 ⟨rfl, hE6, hB6⟩
                  have HE6 := Lib.hid hE6
                  have HB6 := Lib.hid (HB0.out.trans hB6)
                  have HB61 := Lib.hid (HB2.out.trans hB6)
                  have HL6 := Lib.hid (LibV.but HL2.out hB6 HBL.out)
                  clear hE6 hB6 kc0 kc1
                  by_cases hbad : if j = 6 then val = [] else numberOf val = none ∨ numberOf val = some 0
                  · have hfin := Lib.hid (show fieldsOf 0 e ws = (evNone, 101) by rw [HF.out, HD.out, fields_keyBad HCUT.out HNN.out hj hj1 HKW.out hbad])
                    have he := Lib.hid (valueErr_bad hbad)
                    clear hbad
                    rw [he.out]
                    go_wp2
                    try rw [Exit.noGoto_ret]
                    go_ret
                    exact fieldsPost_bad (by decide) hfin.out HE6.out HB6.out
                  · have hnext := Lib.hid (show fieldsOf 0 e ws = fieldsOf (j + 1) (valueEv j val e1) (ws.drop (i + 1)) by
                      rw [HF.out, HD.out, fields_keyOk HCUT.out HNN.out hj hj1 HKW.out (value_ok hbad), valueEv_ok hbad])
                    have he := Lib.hid (valueErr_ok hbad)
                    clear hbad
                    rw [he.out]
                    go_wp2
                    go_roundg (ws.length - (i + 1))
                    case measure => omega
                    case rel => exact ⟨j + 1, i + 1, valueEv j val e1, by omega, by omega, rfl, by go_num, by go_num, HE6.out, HB61.out, HL6.out, hnext⟩
                · have k4 : (keyS j == nm) = false := by rw [beq_eq_false_iff_ne]; exact hkw
                  have HNO2 := Lib.hid (show ∀ k, nx ≤ k → k < j + 1 → keyW.getD k [] ≠ nm from fun k h1 h2 => by
                    by_cases hkj : k = j
                    · subst hkj; exact hkw
                    · exact HNO.out k h1 (by omega))
                  clear hkw
                  go_wp2
                  go_roundg (8 - (j + 1))
                  case measure => omega
                  case rel => exact ⟨j + 1, by omega, by omega, rfl, by go_num, rfl, HNO2⟩
              · obtain rfl : j = 8 := by omega
                have hfin := Lib.hid (show fieldsOf 0 e ws = (evNone, 100) by rw [HF.out, HD.out, fields_nokey HCUT.out HNN.out (fun k h1 h2 => HNO.out k h1 h2)])
                go_wp2
                try rw [Exit.noGoto_ret]
                go_ret
                exact fieldsPost_bad (by decide) hfin.out HE2.out HB0.out
          · have k1 : (nm == [110, 111, 116, 101]) = false := by rw [beq_eq_false_iff_ne]; exact hn1
            clear hnote hn1
            go_wp2_with fail
            go_loopg [5] (8 - nx) (fun gk nv w5 => ∃ (j : Nat), nx ≤ j ∧ j ≤ 8 ∧ gk = 8 - j ∧ nv = .int .i64 j ∧ w2 = w5 ∧ Hid (∀ k, nx ≤ k → k < j → keyW.getD k [] ≠ nm))
            case atStart => exact ⟨nx, Nat.le_refl _, hnx, rfl, rfl, rfl, Lib.hid fun k h1 h2 => by omega⟩
            case round =>
              obtain ⟨j, hj1, hj2, rfl, rfl, rfl, HNO⟩ := hrel
              by_cases hj : j < 8
              · obtain ⟨kc0, kc1⟩ := HKr.out j hj
                have q1 : (j : Int) < 8 := by omega
                by_cases hkw : keyS j = nm
                · have k4 : (nm == nm) = true := by simp
                  have HKW := Lib.hid (show keyW.getD j [] = nm from hkw)
                  have HV := Lib.hid (value_any j hj val b e1 w2 HE2.out HL2.out (by omega))
                  rw [hkw] at kc0 HV
                  clear hkw
                  go_wp2_with fail
                  refine HV.out.mono ?_
                  rintro x w6 ⟨rfl, hE6, hB6⟩
                  have HE6 := Lib.hid hE6
                  have HB6 := Lib.hid (HB0.out.trans hB6)
                  have HB61 := Lib.hid (HB2.out.trans hB6)
                  have HL6 := Lib.hid (LibV.but HL2.out hB6 HBL.out)
                  clear hE6 hB6 kc0 kc1
                  by_cases hbad : if j = 6 then val = [] else numberOf val = none ∨ numberOf val = some 0
                  · have hfin := Lib.hid (show fieldsOf 0 e ws = (evNone, 101) by rw [HF.out, HD.out, fields_keyBad HCUT.out HNN.out hj hj1 HKW.out hbad])
                    have he := Lib.hid (valueErr_bad hbad)
                    clear hbad
                    rw [he.out]
                    go_wp2
                    try rw [Exit.noGoto_ret]
                    go_ret
                    exact fieldsPost_bad (by decide) hfin.out HE6.out HB6.out
                  · have hnext := Lib.hid (show fieldsOf 0 e ws = fieldsOf (j + 1) (valueEv j val e1) (ws.drop (i + 1)) by
                      rw [HF.out, HD.out, fields_keyOk HCUT.out HNN.out hj hj1 HKW.out (value_ok hbad), valueEv_ok hbad])
                    have he := Lib.hid (valueErr_ok hbad)
                    clear hbad
                    rw [he.out]
                    go_wp2
                    go_roundg (ws.length - (i + 1))
                    case measure => omega
                    case rel => exact ⟨j + 1, i + 1, valueEv j val e1, by omega, by omega, rfl, by go_num, by go_num, HE6.out, HB61.out, HL6.out, hnext⟩
                · have k4 : (keyS j == nm) = false := by rw [beq_eq_false_iff_ne]; exact hkw
                  have HNO2 := Lib.hid (show ∀ k, nx ≤ k → k < j + 1 → keyW.getD k [] ≠ nm from fun k h1 h2 => by
                    by_cases hkj : k = j
                    · subst hkj; exact hkw
                    · exact HNO.out k h1 (by omega))
                  clear hkw
                  go_wp2
                  go_roundg (8 - (j + 1))
                  case measure => omega
                  case rel => exact ⟨j + 1, by omega, by omega, rfl, by go_num, rfl, HNO2⟩
              · obtain rfl : j = 8 := by omega
                have hfin := Lib.hid (show fieldsOf 0 e ws = (evNone, 100) by rw [HF.out, HD.out, fields_nokey HCUT.out HNN.out (fun k h1 h2 => HNO.out k h1 h2)])
                go_wp2
                try rw [Exit.noGoto_ret]
                go_ret
                exact fieldsPost_bad (by decide) hfin.out HE2.out HB0.out
    · obtain rfl : i = ws.length := by omega
      have hfin := Lib.hid (show fieldsOf 0 e ws = (e1, 0) by rw [HF.out, List.drop_length]; rfl)
      go_wp2
      go_ret
      exact fieldsPost_good hfin.out HEr.out (HB1.out.trans HBr.out)

end Go.Proofs.YtecmpmnidlfgnaaGreatDoor
