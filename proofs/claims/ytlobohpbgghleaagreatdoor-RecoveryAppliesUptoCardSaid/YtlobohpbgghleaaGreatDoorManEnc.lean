import Derived.Test.YtlobohpbgghleaaGreatDoorRefMan
namespace Go.Proofs.YtlobohpbgghleaaGreatDoor
open Go.RowKit

/-! ## the bytes of a manifest, walked -/

theorem refValid_any (m : Man) (sv : Value) (w : World) (hr : SgRow w sv m.segs) : Calls Tryz.prog 55 #[mnV m sv] w fun e w' => e = .returned (.bool (manOk m)) ∧ Below w.heap.size w w' := by
  have hsh := hr
  obtain ⟨oa, cap, rfl, _, _, _⟩ := hsh
  rcases hh : headOk m with _ | _
  · rw [head_no hh]; exact refValid_head m oa cap w (.inl hh)
  · by_cases hl : m.segs.length < 1
    · have e : manOk m = false := by
        have hn : m.segs = [] := List.length_eq_zero_iff.1 (by omega)
        rw [manOk_head, hn]; simp [chainOk]
      rw [e]; exact refValid_head m oa cap w (.inr hl)
    · have e : manOk m = chainOk m.next (m.floor + 1) 0 m.segs := by rw [manOk_head, hh]; rfl
      have hG : (m.snap = 0 ∧ m.snapSeq = 0) ∨ (m.snap ≠ 0 ∧ m.snapSeq ≠ 0) := by
        simp only [headOk, Bool.and_eq_true] at hh
        have := hh.1.2
        by_cases g1 : m.snap = 0
        · by_cases g2 : m.snapSeq = 0
          · exact .inl ⟨g1, g2⟩
          · rw [eq0T g1, eq0F g2] at this; cases this
        · by_cases g2 : m.snapSeq = 0
          · rw [eq0F g1, eq0T g2] at this; cases this
          · exact .inr ⟨g1, g2⟩
      rw [e]
      rcases hG with ⟨g1, g2⟩ | ⟨g1, g2⟩
      · exact refValid_chain0 m _ w hr hh (by omega) g1 g2
      · exact refValid_chain1 m _ w hr hh (by omega) g1 g2

def uCells (us : List Nat) : List Value := us.map fun (u : Nat) => Value.int .u64 (u : Int)
def OwnU (w : World) (B : Nat) (v : Value) (us : List Nat) : Prop := w.ownsRow B 154 1 v us.length (uCells us)
theorem OwnU.later {w w' : World} {B : Nat} {v : Value} {us : List Nat} (h : OwnU w B v us) (hb : Below w.heap.size w w') : OwnU w' B v us := own_later h hb
theorem OwnU.row {w : World} {B : Nat} {v : Value} {us : List Nat} (h : OwnU w B v us) : URow w v us := by
  by_cases hn : us = []
  · subst hn
    obtain ⟨oa, cap, rfl, h1, _⟩ := own_shape h
    exact ⟨oa, cap, rfl, h1, fun i u hu => by simp at hu⟩
  · obtain ⟨g, cap, rfl, _, _, h1, _, h3⟩ := own_get h (List.length_pos_iff.2 hn)
    exact ⟨_, cap, rfl, h1, fun i u hu => ⟨g, 0, rfl, by rw [Nat.zero_add]; exact h3 i _ (by rw [uCells, List.getElem?_map, hu]; rfl)⟩⟩
theorem infoU64 : (Tryz.prog.info? 154).map (fun i => (i.zero, i.size, i.bytes)) = some (some (.int .u64 0), 1, 8) := by kernel_rfl
theorem own_lit4 (w : World) (a b c d : Nat) : OwnU (w.alloc (.cells #[.int .u64 (a : Int), .int .u64 (b : Int), .int .u64 (c : Int), .int .u64 (d : Int)] 154)) w.heap.size (.slice (some ⟨w.heap.size, 0, none⟩) 4 4) [a, b, c, d] :=
  World.ownsRow_lit (base := w.heap.size) (e := 154) (size := 1) w #[.int .u64 (a : Int), .int .u64 (b : Int), .int .u64 (c : Int), .int .u64 (d : Int)] 4 (Nat.le_refl _) (by decide) rfl
theorem wpList_app4 {ops : Array Oper} {rest : List Oper} {o : Oper} {a : Act} {Q : Exit → Act → World → Prop} {w : World} (hgd : o.guard = none) (s y : Operand) (ho : o.op = .call { callee := .builtin .append, args := #[s, y], argTypes := #[151, 151] }) {B : Nat} {v : Value} {us : List Nat} {p q r t N : Nat} {pv qv rv tv : Int}
    (hs : a.eval s = v) (hN : N = w.heap.size) (hy : a.eval y = .slice (some ⟨N, 0, none⟩) 4 4) (hown : OwnU w B v us) (hB : B ≤ w.heap.size) (h1 : pv = (p : Int)) (h2 : qv = (q : Int)) (h3 : rv = (r : Int)) (h4 : tv = (t : Int)) (hl : us.length ≤ 100000)
    (h : ∀ v' w', OwnU w' B v' (us ++ [p, q, r, t]) → Below B w w' → w.heap.size ≤ w'.heap.size → wpList Tryz.prog ops Q rest (a.put o.dst v') w') : wpList Tryz.prog ops Q (o :: rest) a (w.alloc (.cells #[.int .u64 pv, .int .u64 qv, .int .u64 rv, .int .u64 tv] 154)) := by
  subst h1 h2 h3 h4 hN
  obtain ⟨i0, hi, hz0, hz1, hz2⟩ := info_parts infoU64
  have hb := below_alloc w (.cells #[.int .u64 (p : Int), .int .u64 (q : Int), .int .u64 (r : Int), .int .u64 (t : Int)] 154)
  refine wpList_append_own _ hgd s y 151 ho B 154 i0 (.int .u64 0) 1 8 Tryz.underlying151 hi hz0 hz1 hz2 rfl (by decide) v us.length (uCells us) hs (own_later hown hb) ⟨w.heap.size, 0, none⟩ 4 4 [.int .u64 (p : Int), .int .u64 (q : Int), .int .u64 (r : Int), .int .u64 (t : Int)] hy rfl (fun j u hj => ?_) (fun u hu => ?_) (by unfold maxLen; omega) (by omega) (Nat.le_trans hB hb.size) ?_
  · rw [addr_add, Nat.zero_add, World.cell?_alloc_new]
    simpa using hj
  · simp at hu; rcases hu with rfl | rfl | rfl | rfl <;> rfl
  · intro v' w' hown' hg _
    refine h v' w' ?_ ((hb.mono hB).trans (below_of_grown (own_later hown hb) (Nat.le_trans hB hb.size) hg)) (Nat.le_trans hb.size hg.size)
    unfold OwnU
    rw [List.length_append, show uCells (us ++ [p, q, r, t]) = uCells us ++ [.int .u64 (p : Int), .int .u64 (q : Int), .int .u64 (r : Int), .int .u64 (t : Int)] by simp [uCells]]
    exact hown'
def manPart (m : Man) (k : Nat) : List Nat := [m.next.toNat, m.floor.toNat, m.snap.toNat, m.snapSeq.toNat] ++ (m.segs.take k).flatMap sgNums
theorem manPart_succ {m : Man} {k : Nat} {g : Sg} (h : m.segs[k]? = some g) : manPart m (k + 1) = manPart m k ++ [g.num.toNat, g.first.toNat, g.count.toNat, g.foot.toNat] := by
  obtain ⟨h1, h2⟩ := List.getElem?_eq_some_iff.1 h
  unfold manPart
  rw [List.take_succ_eq_append_getElem h1, h2, List.append_assoc]
  simp [sgNums]
theorem manPart_length (m : Man) (k : Nat) (hk : k ≤ m.segs.length) : (manPart m k).length = 4 + 4 * k := by
  unfold manPart
  rw [List.length_append, sgNums_length, List.length_take, Nat.min_eq_left hk]
  rfl
theorem toNatI {x : Int} (h : 0 ≤ x) : x = ((x.toNat : Nat) : Int) := by omega
theorem encMan_bad {m : Man} (h : manOk m = false) : encMan m = ([], 80) := by unfold encMan; rw [h]; rfl
theorem encMan_good {m : Man} (h : manOk m = true) : encMan m = frameEnc 4 m.gen (encAll (manNums m)) := by unfold encMan; rw [h]; rfl

set_option maxRecDepth 100000 in
set_option maxHeartbeats 4000000 in
theorem manEncode_any (m : Man) (sv : Value) (w : World) (hr : SgRow w sv m.segs) (hn : NibTab w) : Calls Tryz.prog 112 #[mnV m sv] w (FramePost w (encMan m)) := by
  have HR := Lib.hid hr
  have HV := Lib.hid (manValid_any m sv _ (hr.below (below_alloc w (.cells (mnCs m sv) 31))))
  have HM0 := Lib.hid (mnBlk_alloc w m sv)
  have HB0 := Lib.hid (below_alloc w (.cells (mnCs m sv) 31))
  obtain ⟨oa, cap, rfl, _, _, hc⟩ := hr
  have HC := Lib.hid hc
  clear hc
  rcases hok : manOk m with _ | _
  · have HE := Lib.hid (encMan_bad hok)
    rw [hok] at HV
    clear hok
    go_enter Tryz.func112, Tryz.ntmps112
    go_wp2_with (first | (with_reducible refine wpList_load_mn rfl (.tmp 1) rfl w.heap.size m (.slice oa m.segs.length cap) rfl HM0.out ?_) | (go_at_call 57; refine HV.out.mono ?_; rintro e w1 ⟨rfl, hb1⟩))
    go_ret2
    unfold FramePost; rw [HE.out]
    exact ⟨_, rfl, OwnB.nil _ _, Below.next HB0.out hb1⟩
  have HE := Lib.hid (encMan_good hok)
  have HFine := Lib.hid (manFine hok)
  rw [hok] at HV
  have hf := manFine hok
  have hnx := hf.next
  have hfl := hf.floor
  have hsn := hf.snap
  have hss := hf.snapSeq
  have y1 : m.next % 18446744073709551616 = m.next := by omega
  have y2 : m.floor % 18446744073709551616 = m.floor := by omega
  have y3 : m.snap % 18446744073709551616 = m.snap := by omega
  have y4 : m.snapSeq % 18446744073709551616 = m.snapSeq := by omega
  have HO4 := Lib.hid (fun W => own_lit4 W m.next.toNat m.floor.toNat m.snap.toNat m.snapSeq.toNat)
  rw [← toNatI (show 0 ≤ m.next by omega), ← toNatI (show 0 ≤ m.floor by omega), ← toNatI (show 0 ≤ m.snap by omega), ← toNatI (show 0 ≤ m.snapSeq by omega)] at HO4
  have HNB := Lib.hid hn
  clear hok hf hnx hfl hsn hss hn
  go_enter Tryz.func112, Tryz.ntmps112
  go_wp2_with (first | (with_reducible refine wpList_load_mn rfl (.tmp 1) rfl w.heap.size m (.slice oa m.segs.length cap) rfl HM0.out ?_))
  refine HV.out.mono ?_
  rintro e w1 ⟨rfl, hb1⟩
  have HM1 := Lib.hid (HM0.out.below hb1)
  have HB1 := Lib.hid (Below.next HB0.out hb1)
  have hsz1 : w.heap.size + 1 ≤ w1.heap.size := HM1.out.lt
  have c1 := HM1.out.c1
  have c2 := HM1.out.c2
  have c3 := HM1.out.c3
  have c4 := HM1.out.c4
  have c5 := HM1.out.c5
  clear hb1 HV HM0 HB0
  have c5' := (HM1.out.below (below_alloc w1 (.cells #[.int .u64 m.next, .int .u64 m.floor, .int .u64 m.snap, .int .u64 m.snapSeq] 154))).c5
  have HML := Lib.hid (HM1.out.below (below_alloc w1 (.cells #[.int .u64 m.next, .int .u64 m.floor, .int .u64 m.snap, .int .u64 m.snapSeq] 154)))
  have HBL := Lib.hid (Below.next HB1.out (below_alloc w1 (.cells #[.int .u64 m.next, .int .u64 m.floor, .int .u64 m.snap, .int .u64 m.snapSeq] 154)))
  have HO5 := Lib.hid (show OwnU (w1.alloc (.cells #[.int .u64 m.next, .int .u64 m.floor, .int .u64 m.snap, .int .u64 m.snapSeq] 154)) (w.heap.size + 1) (.slice (some ⟨w1.heap.size, 0, none⟩) 4 4) (manPart m 0) by
    have h := HO4.out w1
    refine ⟨h.1, ?_⟩
    rcases h.2 with hz | ⟨g, cap, cur, e1, e2, rest⟩
    · exact .inl hz
    · exact .inr ⟨g, cap, cur, e1, by omega, rest⟩)
  go_wp2
  go_loopw [4, 26] (fun uv iv wr => ∃ k : Nat, k ≤ m.segs.length ∧ iv = .int .i64 k ∧ OwnU wr (w.heap.size + 1) uv (manPart m k) ∧ MnBlk wr w.heap.size m (.slice oa m.segs.length cap) ∧ Below w.heap.size w wr) (fun _ iv _ => m.segs.length - (intOf iv).toNat)
  case atStart => exact ⟨0, Nat.zero_le _, rfl, HO5.out, HML.out, HBL.out⟩
  case round =>
    clear HO5 HML HBL HO4 c1 c2 c3 c4 c5 c5' y1 y2 y3 y4
    obtain ⟨k, hk, rfl, hown, hmn, hb⟩ := hrel
    have HO := Lib.hid hown
    have HM := Lib.hid hmn
    have HB := Lib.hid hb
    have hsz : w.heap.size + 1 ≤ wr.heap.size := hmn.lt
    clear hown hmn hb
    by_cases hlt : k < m.segs.length
    · obtain ⟨g, hg, _, hgm⟩ := nth m.segs k hlt
      obtain ⟨b, off, rfl, hcell⟩ := HC.out k g hg
      have q1 : (k : Int) < (m.segs.length : Int) := by omega
      have HCE := Lib.hid (range_later hcell HB.out)
      have HX := Lib.hid (manPart_succ hg)
      have hgf := HFine.out.seg g hgm
      have hnx := HFine.out.next
      have y1 : g.num % 18446744073709551616 = g.num := by omega
      have y2 : g.first % 18446744073709551616 = g.first := by omega
      have y3 : g.count % 18446744073709551616 = g.count := by omega
      have y4 : g.foot % 18446744073709551616 = g.foot := by omega
      have HI := Lib.hid (show g.num = ((g.num.toNat : Nat) : Int) ∧ g.first = ((g.first.toNat : Nat) : Int) ∧ g.count = ((g.count.toNat : Nat) : Int) ∧ g.foot = ((g.foot.toNat : Nat) : Int) from ⟨toNatI (by omega), toNatI (by omega), toNatI (by omega), toNatI (by omega)⟩)
      have HA := Lib.hid (below_alloc wr (.cells (sgCs g) 46))
      have HOA := Lib.hid (HO.out.later HA.out)
      have HMA := Lib.hid (HM.out.below HA.out)
      have hln : (manPart m k).length ≤ 100000 := by rw [manPart_length m k hk]; have := HFine.out.len; omega
      have c5 := HM.out.c5
      obtain ⟨us, hus⟩ : ∃ us, us = manPart m k := ⟨_, rfl⟩
      rw [← hus] at HX HOA hln
      clear hg hcell hgm hgf hus HO hnx
      have HSZ := Lib.hid (show wr.heap.size + 1 = (wr.alloc (.cells (sgCs g) 46)).heap.size by simp)
      have hszA : w.heap.size + 1 ≤ (wr.alloc (.cells (sgCs g) 46)).heap.size := Nat.le_trans hsz HA.out.size
      go_wp2_with (first | (with_reducible refine wpList_load_sg rfl (.tmp 28) rfl b (off + k * 4) g rfl HCE.out ?_) | (at_builtin; refine wpList_app4 rfl (.tmp 30) (.tmp 43) rfl rfl HSZ.out rfl HOA.out hszA HI.out.1 HI.out.2.1 HI.out.2.2.1 HI.out.2.2.2 hln ?_))
      intro v' w' h1 h2 h3
      have HF := Lib.hid h1
      have HG := Lib.hid (HB.out.trans ((HA.out.mono (Nat.le_trans (Nat.le_succ _) hsz)).trans (h2.mono (Nat.le_succ _))))
      have HMF := Lib.hid (HMA.out.keep h2 (Nat.lt_succ_self _))
      clear h1 h2
      go_wp2
      go_roundw
      case rel => exact ⟨k + 1, by omega, by go_num, by rw [HX.out]; exact HF.out, HMF.out, HG.out⟩
      case measure => simp [intOf]; omega
    · obtain rfl : k = m.segs.length := by omega
      have HA := Lib.hid (show manPart m m.segs.length = manNums m by unfold manPart manNums; rw [List.take_length])
      rw [HA.out] at HO
      have HU := Lib.hid HO.out.row
      obtain ⟨ub, ucap, rfl, _, _⟩ := own_shape HO.out
      have hnl : (manNums m).length ≤ 1000000000000 := by rw [manNums_length]; have := HFine.out.len; omega
      have HN := Lib.hid (show ∀ W : World, Below wr.heap.size wr W → Calls Tryz.prog 152 #[.slice ub (manNums m).length ucap] W fun e w' => ∃ v', e = .returned v' ∧ OwnB w' W.heap.size v' (encAll (manNums m)) ∧ Below W.heap.size W w' from fun W hb =>
        encodeAll_any (manNums m) _ W (HU.out.below hb) (fun u hu => Nat.lt_trans (manNums_lt HFine.out u hu) (by decide)) hnl)
      have HD := Lib.hid (show MnBlk wr.drew w.heap.size m (.slice oa m.segs.length cap) ∧ Below wr.heap.size wr wr.drew from ⟨HM.out.below (below_drewN' wr 1), below_drewN' wr 1⟩)
      go_wp2_with fail
      refine wp_region_held_drew (S := fun w' => MnBlk w' w.heap.size m (.slice oa m.segs.length cap) ∧ Below wr.heap.size wr w') (by kernel_rfl) HD.out (fun hHeld => ?_)
      refine tk 0 rfl ?v_82 ?hy_82 ?r_82
      case hy_82 => intro w hSw; have k0 := hSw.1.c0; go_simp; try with_reducible rfl
      simp only [pA, pB, pC, pD]
      refine tk 1 rfl ?v_83 ?hy_83 ?r_83
      case hy_83 => intro w hSw; have k0 := hSw.1.c0; go_simp; try with_reducible rfl
      simp only [pA, pB, pC, pD]
      refine tk 2 rfl ?v_84 ?hy_84 ?r_84
      case hy_84 => intro w hSw; have k0 := hSw.1.c0; go_simp; try with_reducible rfl
      simp only [pA, pB, pC, pD]
      refine wpAnyH_ready (rs := [3]) (by kernel_rfl) (by simp) ?_
      refine AllReadyH.cons rfl (fun K hK => ?_) AllReadyH.nil
      go_simp
      go_at_call 152
      refine (HN.out _ hHeld.2).mono ?_
      rintro e w2 ⟨v2, rfl, ho2, hb2⟩
      have HO2 := Lib.hid ho2.brow
      have hsh := ho2.brow
      obtain ⟨eb, hebd⟩ : ∃ eb, eb = encAll (manNums m) := ⟨_, rfl⟩
      rw [← hebd] at HO2 hsh
      have HEB := Lib.hid hebd
      obtain ⟨o2, cap2, rfl, _, hsh2⟩ := hsh
      have HB2 := Lib.hid (Below.next hHeld.2 hb2)
      have HM2 := Lib.hid (hHeld.1.below hb2)
      clear ho2 hb2 hsh2 hebd
      go_wp2_with fail
      refine hK.out _ _ ⟨HM2.out, HB2.out⟩ (fun hHeld => ?_)
      clear hK K
      refine tk 4 rfl ?v_85 ?hy_85 ?r_85
      case hy_85 => intro w hSw; have k0 := hSw.1.c0; go_simp; try with_reducible rfl
      simp only [pA, pB, pC, pD]
      have HFr := Lib.hid (frame_any 4 m.gen eb _ w2 HO2.out (HNB.out.below (Below.next HB.out HB2.out)))
      refine wpAnyH_ready (rs := [5]) (by kernel_rfl) (by simp) ?_
      refine AllReadyH.cons rfl (fun K hK => ?_) AllReadyH.nil
      go_simp
      go_at_call 110
      refine HFr.out.mono ?_
      rintro e w3 ⟨v3, rfl, h3, hb3⟩
      obtain ⟨r, hr⟩ : ∃ r, r = frameEnc 4 m.gen eb := ⟨_, rfl⟩
      rw [← hr] at h3
      rw [← hr]
      have HRR := Lib.hid hr
      have HO3 := Lib.hid (h3.mono (show w.heap.size ≤ w2.heap.size from Nat.le_trans HB.out.size HB2.out.size))
      have HB3 := Lib.hid (Below.next (Below.next HB.out HB2.out) hb3)
      go_wp2_with fail
      refine hK.out _ _ ⟨HM2.out.below hb3, Below.next HB2.out hb3⟩ (fun hHeld => ?_)
      clear hK K h3 hb3 hr
      refine tk 6 rfl ?v_86 ?hy_86 ?r_86
      case hy_86 => intro w hSw; have k0 := hSw.1.c0; go_simp; try with_reducible rfl
      simp only [pA, pB, pC, pD]
      refine tk 7 rfl ?v_87 ?hy_87 ?r_87
      case hy_87 => intro w hSw; have k0 := hSw.1.c0; go_simp; try with_reducible rfl
      simp only [pA, pB, pC, pD]
      refine tk 8 rfl ?v_88 ?hy_88 ?r_88
      case hy_88 => intro w hSw; have k0 := hSw.1.c0; go_simp; try with_reducible rfl
      simp only [pA, pB, pC, pD]
      refine tk 9 rfl ?v_89 ?hy_89 ?r_89
      case hy_89 => intro w hSw; have k0 := hSw.1.c0; go_simp; try with_reducible rfl
      simp only [pA, pB, pC, pD]
      refine wpAnyH_done (by kernel_rfl) ?_ _
      go_wp2
      go_ret2
      unfold FramePost; rw [HE.out]
      have e : frameEnc 4 m.gen (encAll (manNums m)) = r := by rw [HRR.out, HEB.out]
      rw [e]
      exact ⟨_, by rw [show r = frameEnc 4 m.gen eb from HRR.out]; rfl, HO3.out, HB3.out⟩

set_option maxRecDepth 100000 in
set_option maxHeartbeats 4000000 in
theorem refManEncode_any (m : Man) (sv : Value) (w : World) (hr : SgRow w sv m.segs) : Calls Tryz.prog 88 #[mnV m sv] w (FramePost w (encMan m)) := by
  have HR := Lib.hid hr
  have HV := Lib.hid (refValid_any m sv _ (hr.below (below_alloc w (.cells (mnCs m sv) 31))))
  have HM0 := Lib.hid (mnBlk_alloc w m sv)
  have HB0 := Lib.hid (below_alloc w (.cells (mnCs m sv) 31))
  obtain ⟨oa, cap, rfl, _, _, hc⟩ := hr
  have HC := Lib.hid hc
  clear hc
  rcases hok : manOk m with _ | _
  · have HE := Lib.hid (encMan_bad hok)
    rw [hok] at HV
    clear hok
    go_enter Tryz.func88, Tryz.ntmps88
    go_wp2_with (first | (with_reducible refine wpList_load_mn rfl (.tmp 1) rfl w.heap.size m (.slice oa m.segs.length cap) rfl HM0.out ?_) | (go_at_call 55; refine HV.out.mono ?_; rintro e w1 ⟨rfl, hb1⟩))
    go_ret2
    unfold FramePost; rw [HE.out]
    exact ⟨_, rfl, OwnB.nil _ _, Below.next HB0.out hb1⟩
  have HE := Lib.hid (encMan_good hok)
  have HFine := Lib.hid (manFine hok)
  rw [hok] at HV
  have hf := manFine hok
  have hnx := hf.next
  have hfl := hf.floor
  have hsn := hf.snap
  have hss := hf.snapSeq
  have y1 : m.next % 18446744073709551616 = m.next := by omega
  have y2 : m.floor % 18446744073709551616 = m.floor := by omega
  have y3 : m.snap % 18446744073709551616 = m.snap := by omega
  have y4 : m.snapSeq % 18446744073709551616 = m.snapSeq := by omega
  have HO4 := Lib.hid (fun W => own_lit4 W m.next.toNat m.floor.toNat m.snap.toNat m.snapSeq.toNat)
  rw [← toNatI (show 0 ≤ m.next by omega), ← toNatI (show 0 ≤ m.floor by omega), ← toNatI (show 0 ≤ m.snap by omega), ← toNatI (show 0 ≤ m.snapSeq by omega)] at HO4
  clear hok hf hnx hfl hsn hss
  go_enter Tryz.func88, Tryz.ntmps88
  go_wp2_with (first | (with_reducible refine wpList_load_mn rfl (.tmp 1) rfl w.heap.size m (.slice oa m.segs.length cap) rfl HM0.out ?_))
  refine HV.out.mono ?_
  rintro e w1 ⟨rfl, hb1⟩
  have HM1 := Lib.hid (HM0.out.below hb1)
  have HB1 := Lib.hid (Below.next HB0.out hb1)
  have hsz1 : w.heap.size + 1 ≤ w1.heap.size := HM1.out.lt
  have c1 := HM1.out.c1
  have c2 := HM1.out.c2
  have c3 := HM1.out.c3
  have c4 := HM1.out.c4
  have c5 := HM1.out.c5
  clear hb1 HV HM0 HB0
  have c5' := (HM1.out.below (below_alloc w1 (.cells #[.int .u64 m.next, .int .u64 m.floor, .int .u64 m.snap, .int .u64 m.snapSeq] 154))).c5
  have HML := Lib.hid (HM1.out.below (below_alloc w1 (.cells #[.int .u64 m.next, .int .u64 m.floor, .int .u64 m.snap, .int .u64 m.snapSeq] 154)))
  have HBL := Lib.hid (Below.next HB1.out (below_alloc w1 (.cells #[.int .u64 m.next, .int .u64 m.floor, .int .u64 m.snap, .int .u64 m.snapSeq] 154)))
  have HO5 := Lib.hid (show OwnU (w1.alloc (.cells #[.int .u64 m.next, .int .u64 m.floor, .int .u64 m.snap, .int .u64 m.snapSeq] 154)) (w.heap.size + 1) (.slice (some ⟨w1.heap.size, 0, none⟩) 4 4) (manPart m 0) by
    have h := HO4.out w1
    refine ⟨h.1, ?_⟩
    rcases h.2 with hz | ⟨g, cap, cur, e1, e2, rest⟩
    · exact .inl hz
    · exact .inr ⟨g, cap, cur, e1, by omega, rest⟩)
  go_wp2
  go_loopw [4, 5, 26] (fun uv _ iv wr => ∃ k : Nat, k ≤ m.segs.length ∧ iv = .int .i64 k ∧ OwnU wr (w.heap.size + 1) uv (manPart m k) ∧ MnBlk wr w.heap.size m (.slice oa m.segs.length cap) ∧ Below w.heap.size w wr) (fun _ _ iv _ => m.segs.length - (intOf iv).toNat)
  case atStart => exact ⟨0, Nat.zero_le _, rfl, HO5.out, HML.out, HBL.out⟩
  case round =>
    clear HO5 HML HBL HO4 c1 c2 c3 c4 c5 c5' y1 y2 y3 y4
    obtain ⟨k, hk, rfl, hown, hmn, hb⟩ := hrel
    have HO := Lib.hid hown
    have HM := Lib.hid hmn
    have HB := Lib.hid hb
    have hsz : w.heap.size + 1 ≤ wr.heap.size := hmn.lt
    clear hown hmn hb
    by_cases hlt : k < m.segs.length
    · obtain ⟨g, hg, _, hgm⟩ := nth m.segs k hlt
      obtain ⟨b, off, rfl, hcell⟩ := HC.out k g hg
      have q1 : (k : Int) < (m.segs.length : Int) := by omega
      have HCE := Lib.hid (range_later hcell HB.out)
      have HX := Lib.hid (manPart_succ hg)
      have hgf := HFine.out.seg g hgm
      have hnx := HFine.out.next
      have y1 : g.num % 18446744073709551616 = g.num := by omega
      have y2 : g.first % 18446744073709551616 = g.first := by omega
      have y3 : g.count % 18446744073709551616 = g.count := by omega
      have y4 : g.foot % 18446744073709551616 = g.foot := by omega
      have HI := Lib.hid (show g.num = ((g.num.toNat : Nat) : Int) ∧ g.first = ((g.first.toNat : Nat) : Int) ∧ g.count = ((g.count.toNat : Nat) : Int) ∧ g.foot = ((g.foot.toNat : Nat) : Int) from ⟨toNatI (by omega), toNatI (by omega), toNatI (by omega), toNatI (by omega)⟩)
      have HA := Lib.hid (below_alloc wr (.cells (sgCs g) 46))
      have HOA := Lib.hid (HO.out.later HA.out)
      have HMA := Lib.hid (HM.out.below HA.out)
      have hln : (manPart m k).length ≤ 100000 := by rw [manPart_length m k hk]; have := HFine.out.len; omega
      have c5 := HM.out.c5
      obtain ⟨us, hus⟩ : ∃ us, us = manPart m k := ⟨_, rfl⟩
      rw [← hus] at HX HOA hln
      clear hg hcell hgm hgf hus HO hnx
      have HSZ := Lib.hid (show wr.heap.size + 1 = (wr.alloc (.cells (sgCs g) 46)).heap.size by simp)
      have hszA : w.heap.size + 1 ≤ (wr.alloc (.cells (sgCs g) 46)).heap.size := Nat.le_trans hsz HA.out.size
      go_wp2_with (first | (with_reducible refine wpList_load_sg rfl (.tmp 32) rfl b (off + k * 4) g rfl HCE.out ?_) | (at_builtin; refine wpList_app4 rfl (.tmp 34) (.tmp 47) rfl rfl HSZ.out rfl HOA.out hszA HI.out.1 HI.out.2.1 HI.out.2.2.1 HI.out.2.2.2 hln ?_))
      intro v' w' h1 h2 h3
      have HF := Lib.hid h1
      have HG := Lib.hid (HB.out.trans ((HA.out.mono (Nat.le_trans (Nat.le_succ _) hsz)).trans (h2.mono (Nat.le_succ _))))
      have HMF := Lib.hid (HMA.out.keep h2 (Nat.lt_succ_self _))
      clear h1 h2
      go_wp2
      go_roundw
      case rel => exact ⟨k + 1, by omega, by go_num, by rw [HX.out]; exact HF.out, HMF.out, HG.out⟩
      case measure => simp [intOf]; omega
    · obtain rfl : k = m.segs.length := by omega
      have HA := Lib.hid (show manPart m m.segs.length = manNums m by unfold manPart manNums; rw [List.take_length])
      rw [HA.out] at HO
      have HU := Lib.hid HO.out.row
      obtain ⟨ub, ucap, rfl, _, _⟩ := own_shape HO.out
      have hnl : (manNums m).length ≤ 1000000000000 := by rw [manNums_length]; have := HFine.out.len; omega
      have HN := Lib.hid (show ∀ W : World, Below wr.heap.size wr W → Calls Tryz.prog 127 #[.slice ub (manNums m).length ucap] W fun e w' => ∃ v', e = .returned v' ∧ OwnB w' W.heap.size v' (encAll (manNums m)) ∧ Below W.heap.size W w' from fun W hb =>
        refEncodeAll_any (manNums m) _ W (HU.out.below hb) (fun u hu => Nat.lt_trans (manNums_lt HFine.out u hu) (by decide)) hnl)
      have HD := Lib.hid (show MnBlk wr.drew w.heap.size m (.slice oa m.segs.length cap) ∧ Below wr.heap.size wr wr.drew from ⟨HM.out.below (below_drewN' wr 1), below_drewN' wr 1⟩)
      go_wp2_with fail
      refine wp_region_held_drew (S := fun w' => MnBlk w' w.heap.size m (.slice oa m.segs.length cap) ∧ Below wr.heap.size wr w') (by kernel_rfl) HD.out (fun hHeld => ?_)
      refine tk 0 rfl ?v_90 ?hy_90 ?r_90
      case hy_90 => intro w hSw; have k0 := hSw.1.c0; go_simp; try with_reducible rfl
      simp only [pA, pB, pC, pD]
      refine tk 1 rfl ?v_91 ?hy_91 ?r_91
      case hy_91 => intro w hSw; have k0 := hSw.1.c0; go_simp; try with_reducible rfl
      simp only [pA, pB, pC, pD]
      refine tk 2 rfl ?v_92 ?hy_92 ?r_92
      case hy_92 => intro w hSw; have k0 := hSw.1.c0; go_simp; try with_reducible rfl
      simp only [pA, pB, pC, pD]
      refine wpAnyH_ready (rs := [3]) (by kernel_rfl) (by simp) ?_
      refine AllReadyH.cons rfl (fun K hK => ?_) AllReadyH.nil
      go_simp
      go_at_call 127
      refine (HN.out _ hHeld.2).mono ?_
      rintro e w2 ⟨v2, rfl, ho2, hb2⟩
      have HO2 := Lib.hid ho2.brow
      have hsh := ho2.brow
      obtain ⟨eb, hebd⟩ : ∃ eb, eb = encAll (manNums m) := ⟨_, rfl⟩
      rw [← hebd] at HO2 hsh
      have HEB := Lib.hid hebd
      obtain ⟨o2, cap2, rfl, _, hsh2⟩ := hsh
      have HB2 := Lib.hid (Below.next hHeld.2 hb2)
      have HM2 := Lib.hid (hHeld.1.below hb2)
      clear ho2 hb2 hsh2 hebd
      go_wp2_with fail
      refine hK.out _ _ ⟨HM2.out, HB2.out⟩ (fun hHeld => ?_)
      clear hK K
      refine tk 4 rfl ?v_93 ?hy_93 ?r_93
      case hy_93 => intro w hSw; have k0 := hSw.1.c0; go_simp; try with_reducible rfl
      simp only [pA, pB, pC, pD]
      have HFr := Lib.hid (refFrame_any 4 m.gen eb _ w2 HO2.out)
      refine wpAnyH_ready (rs := [5]) (by kernel_rfl) (by simp) ?_
      refine AllReadyH.cons rfl (fun K hK => ?_) AllReadyH.nil
      go_simp
      go_at_call 125
      refine HFr.out.mono ?_
      rintro e w3 ⟨v3, rfl, h3, hb3⟩
      obtain ⟨r, hr⟩ : ∃ r, r = frameEnc 4 m.gen eb := ⟨_, rfl⟩
      rw [← hr] at h3
      rw [← hr]
      have HRR := Lib.hid hr
      have HO3 := Lib.hid (h3.mono (show w.heap.size ≤ w2.heap.size from Nat.le_trans HB.out.size HB2.out.size))
      have HB3 := Lib.hid (Below.next (Below.next HB.out HB2.out) hb3)
      go_wp2_with fail
      refine hK.out _ _ ⟨HM2.out.below hb3, Below.next HB2.out hb3⟩ (fun hHeld => ?_)
      clear hK K h3 hb3 hr
      refine tk 6 rfl ?v_94 ?hy_94 ?r_94
      case hy_94 => intro w hSw; have k0 := hSw.1.c0; go_simp; try with_reducible rfl
      simp only [pA, pB, pC, pD]
      refine tk 7 rfl ?v_95 ?hy_95 ?r_95
      case hy_95 => intro w hSw; have k0 := hSw.1.c0; go_simp; try with_reducible rfl
      simp only [pA, pB, pC, pD]
      refine tk 8 rfl ?v_96 ?hy_96 ?r_96
      case hy_96 => intro w hSw; have k0 := hSw.1.c0; go_simp; try with_reducible rfl
      simp only [pA, pB, pC, pD]
      refine tk 9 rfl ?v_97 ?hy_97 ?r_97
      case hy_97 => intro w hSw; have k0 := hSw.1.c0; go_simp; try with_reducible rfl
      simp only [pA, pB, pC, pD]
      refine wpAnyH_done (by kernel_rfl) ?_ _
      go_wp2
      go_ret2
      unfold FramePost; rw [HE.out]
      have e : frameEnc 4 m.gen (encAll (manNums m)) = r := by rw [HRR.out, HEB.out]
      rw [e]
      exact ⟨_, by rw [show r = frameEnc 4 m.gen eb from HRR.out]; rfl, HO3.out, HB3.out⟩

end Go.Proofs.YtlobohpbgghleaaGreatDoor
