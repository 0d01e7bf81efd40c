import Derived.Test.YtlobohpbgghleaaGreatDoorDkBlk
namespace Go.Proofs.YtlobohpbgghleaaGreatDoor
open Go.RowKit

/-! ## the document's disk, walked: a step that is carried out (one theorem for each kind of call) -/

set_option maxRecDepth 100000 in
set_option maxHeartbeats 4000000 in
theorem change_rename {A : Nat → Prop} (d : Disk) (fv : Value) (o : DOp) (bv kv : Value) (w : World) (hf : FilesIn A w fv d.files) (hA : ∀ k, w.heap.size ≤ k → A k) (hn : d.files.length ≤ 1000000) (hk : o.k = 3)  (f : Fil) (ha : atF d.files o.name = some f) :
    Calls Tryz.prog 54 #[dkV d fv, opV o bv kv] w fun e w' => ∃ v, e = .returned (dkV (chgD d o) v) ∧ FilesIn A w' v (chgD d o).files ∧ Below w.heap.size w w' := by
  have e0 : (o.k == 0) = false := by rw [hk]; rfl
  have e1 : (o.k == 1) = false := by rw [hk]; rfl
  have e2 : (o.k == 2) = false := by rw [hk]; rfl
  have e3 : (o.k == 3) = true := by rw [hk]; rfl
  have e4 : (o.k == 4) = false := by rw [hk]; rfl
  have e5 : (o.k == 5) = false := by rw [hk]; rfl
  have HEQ : chgD d o = { d with files := putF (⟨o.to, f.data, f.safe⟩ : Fil) (takeF o.to (takeF o.name d.files)) } := by unfold chgD; rw [if_neg (by omega), ha]; simp only [if_neg (show ¬ o.k = 4 by omega)]; rw [if_pos hk]; unfold chgF; rw [if_neg (show ¬ o.k = 1 by omega), if_neg (show ¬ o.k = 2 by omega), if_pos hk]
  have HE := Lib.hid HEQ
  have HA0 := Lib.hid ha
  have HFL := Lib.hid hf.low
  obtain ⟨oa, cap, rfl, hl1, hl2, hcc⟩ := hf.low.shape
  have HCC := Lib.hid hcc
  have HW0 := Lib.hid (ChW.start w d (.slice oa d.files.length cap) o bv kv ⟨[], 0, 0, false, 0, 0⟩ (.slice none 0 0))
  have HAT := Lib.hid (fun W (h : ChW w d (.slice oa d.files.length cap) o bv kv W) => at_any (A := fun k => A k ∧ k < w.heap.size) d (.slice oa d.files.length cap) o.name W (HFL.out.below h.below))
  have HAA := Lib.hid hA
  have HNN := Lib.hid hn
  clear hf hA hcc hk HEQ ha hn
  go_enter Tryz.func54, Tryz.ntmps54
  go_wp2_with fail
  refine wp_region_held_drew (S := fun w' => ChW w d (.slice oa d.files.length cap) o bv kv w') (by kernel_rfl) (HW0.out.next (below_drewN' _ 1)) (fun hHeld => ?_)
  refine tk 0 rfl ?v_139 ?hy_139 ?r_139
  case hy_139 => intro w hSw; have k0 := hSw.dk.c0; have k1 := hSw.op.c1; go_simp; try with_reducible rfl
  simp only [pA, pB, pC, pD]
  refine tk 1 rfl ?v_140 ?hy_140 ?r_140
  case hy_140 => intro w hSw; have k0 := hSw.dk.c0; have k1 := hSw.op.c1; go_simp; try with_reducible rfl
  simp only [pA, pB, pC, pD]
  refine tk 3 rfl ?v_141 ?hy_141 ?r_141
  case hy_141 => intro w hSw; have k0 := hSw.dk.c0; have k1 := hSw.op.c1; go_simp; try with_reducible rfl
  simp only [pA, pB, pC, pD]
  refine tk 4 rfl ?v_142 ?hy_142 ?r_142
  case hy_142 => intro w hSw; have k0 := hSw.dk.c0; have k1 := hSw.op.c1; go_simp; try with_reducible rfl
  simp only [pA, pB, pC, pD]
  refine tkl 2 w.heap.size 0 (dkCs d (.slice oa d.files.length cap)).toList rfl rfl (fun w' h j v hv => by rw [Nat.zero_add, h.dk.cell]; simpa using hv) Tryz.underlying51 rfl (by rw [dkInfo]; rfl) ?_
  simp only [pA, pB, pC, pD]
  generalize World.drew _ = Wd at *
  refine wpAnyH_ready (rs := [5, 8]) (by kernel_rfl) (by simp) ?_
  refine AllReadyH.cons rfl (fun K hK => ?_) (AllReadyH.cons rfl (fun K hK => ?_) AllReadyH.nil)
  · go_simp
    go_at_call 50
    refine (HAT.out _ hHeld).mono ?_
    rintro e w1 ⟨z, rfl, hz, hb1⟩
    have HC1 := Lib.hid (hHeld.next hb1)
    clear hb1 HW0
    rcases hz with ⟨rfl, hbad⟩ | ⟨i, f1, rfl, hi, ha'⟩
    · exfalso; rw [HA0.out] at hbad; cases hbad
    have hff : f1 = f := by have h := HA0.out; rw [ha'] at h; exact Option.some.inj h
    subst hff
    obtain ⟨b, off, rfl, hbA, dv, hr, hdv⟩ := HCC.out i f1 hi
    have q1 : (i : Int) < (d.files.length : Int) := by have := (List.getElem?_eq_some_iff.1 hi).1; omega
    have HR := Lib.hid (fun W (hW : Below w.heap.size w W) => range_later hr hW)
    have HDV := Lib.hid hdv
    clear hi ha' hr hdv hbA
    go_wp2_with fail
    refine hK.out _ _ HC1.out (fun hHeld => ?_)
    clear hK K
    refine tk 6 rfl ?v_143 ?hy_143 ?r_143
    case hy_143 => intro w hSw; go_simp; try with_reducible rfl
    simp only [pA, pB, pC, pD]
    refine tkl 7 b (off + i * 3) (flCs f1 dv).toList rfl rfl (fun w' h => HR.out w' h.below) Tryz.underlying49 rfl flInfo ?_
    simp only [pA, pB, pC, pD]
    have HCA := Lib.hid (HC1.out.next (below_alloc w1 (.cells #[.string ⟨#[]⟩, .slice none 0 0, .int .i64 0] 49)))
    have HFZ := Lib.hid (show FlBlk (w1.alloc (.cells #[.string ⟨#[]⟩, .slice none 0 0, .int .i64 0] 49)) w1.heap.size ⟨[], [], 0⟩ (.slice none 0 0) from flBlk_alloc w1 ⟨[], [], 0⟩ (.slice none 0 0))
    have hg1 := HC1.out.size
    have hg2 : w1.heap.size < (w1.alloc (.cells #[.string ⟨#[]⟩, .slice none 0 0, .int .i64 0] 49)).heap.size := by simp
    refine wpAnyH_ready (rs := [8]) (by kernel_rfl) (by simp) ?_
    refine AllReadyH.cons rfl (fun K hK => ?_) AllReadyH.nil
    go_simp
    refine hK.out _ _ HCA.out (fun hHeld => ?_)
    clear hK K HC1
    generalize w1.heap.size = g at *
    generalize (w1.alloc (.cells #[.string ⟨#[]⟩, .slice none 0 0, .int .i64 0] 49)) = W0 at *
    refine wpAnyH_ready (rs := [9]) (by kernel_rfl) (by simp) ?_
    refine AllReadyH.cons rfl (fun K hK => ?_) AllReadyH.nil
    rw [if_pos (by kernel_rfl)]
    refine wp_store_row 49 (.tmp 5) (.tmp 25) rfl g (flCs f1 dv) rfl rfl 49 (flCs ⟨[], [], 0⟩ (.slice none 0 0)) HFZ.out flInfo rfl (flCs_all f1 dv HDV.out.one) ?_
    have HCS := Lib.hid (HCA.out.keep (show Below (w.heap.size + 1 + 1 + 1) W0 (W0.setRow g (flCs f1 dv)) from below_row (Below.refl _ _) hg1 _) (Nat.le_refl _))
    have HFS := Lib.hid (show FlBlk (W0.setRow g (flCs f1 dv)) g f1 dv from setRow_heap W0 g _ _ _ _ HFZ.out)
    have hg2 : g < (W0.setRow g (flCs f1 dv)).heap.size := by simpa using hg2
    refine hK.out _ _ HCS.out (fun _ => ?_)
    clear hK K HCA HFZ
    generalize W0.setRow g (flCs f1 dv) = W at *
    refine wpAnyH_done (by kernel_rfl) ?_ _
    have HC := HCS
    have HB := HFS
    have q4 := HC.out.op.c0
    have qn := HC.out.op.c1
    have q3 := HC.out.dk.c0
    -- the files without it
    have HTK := Lib.hid (fun W' (h : ChW w d (.slice (some ⟨b, off, none⟩) d.files.length cap) o bv kv W') (hs : g + 1 ≤ W'.heap.size) => take_any (A := Out A w.heap.size (g + 1)) d.files (.slice (some ⟨b, off, none⟩) d.files.length cap) o.name W' ((HFL.out.mono (A' := Out A w.heap.size (g + 1)) (fun k hk' => ⟨hk'.1, .inl hk'.2⟩)).below h.below) (fun k hk' => ⟨HAA.out k (Nat.le_trans h.below.size hk'), .inr (Nat.le_trans hs hk')⟩) HNN.out)
    go_wp2_with fail
    refine (HTK.out _ HC.out hg2).mono ?_
    rintro e w5 ⟨v5, rfl, h5, hb5⟩
    have HP5 := Lib.hid h5
    have HC5 := Lib.hid (HC.out.next hb5)
    have HB5 := Lib.hid (HB.out.below hb5)
    have hg5 : g < w5.heap.size := Nat.lt_of_lt_of_le hg2 hb5.size
    have q5 := HC5.out.op.c0
    clear h5 hb5 HC HB HTK q4 q3 qn HCC HAT HA0
    have HT5 := Lib.hid (show ChT A w d (.slice (some ⟨b, off, none⟩) d.files.length cap) o bv kv g f1 dv (takeF o.name d.files) v5 w5 from ⟨HC5.out, HB5.out, HP5.out, (HDV.out.mono (fun k hk' => ⟨hk'.1, .inl hk'.2⟩)).below HC5.out.below, hg1, hg5⟩)
    clear HB5 HP5 HC5
    have hshape := HDV.out
    obtain ⟨ao, dcap, rfl, hdl, hdc⟩ := hshape
    clear hdc
    have j0 := HT5.out.fl.c0
    have f0 := HT5.out.fl.free 0
    have qt := HT5.out.ch.op.c2
    go_wp2_with (with_reducible refine wpList_store_cellV rfl 9 (.tmp 52) (.tmp 51) rfl g 0 (.string ⟨o.to.toArray⟩) (.string ⟨f1.name.toArray⟩) (by kernel_rfl) rfl rfl rfl j0 f0 ?_)
    intro w6 hw6
    have HT6 := Lib.hid (HT5.out.set (f' := (⟨o.to, f1.data, f1.safe⟩ : Fil)) 0 (.string ⟨o.to.toArray⟩) rfl HT5.out.dat hw6.out)
    have qt2 := HT6.out.ch.op.c2
    have HTK2 := Lib.hid (take_any (A := Out A w.heap.size (g + 1)) (takeF o.name d.files) v5 o.to _ HT6.out.row (HT6.out.new HAA.out) (Nat.le_trans (takeF_le _ _) HNN.out))
    clear hw6 j0 f0 HT5 qt
    go_wp2_with fail
    refine HTK2.out.mono ?_
    rintro e w6b ⟨v6, rfl, h6, hb6⟩
    have HT := Lib.hid ((HT6.out.next hb6).withRow h6)
    clear h6 hb6 HTK2 HT6 qt2
    have HPUT := Lib.hid (put_any (A := Out A w.heap.size (g + 1)) (takeF o.to (takeF o.name d.files)) _ (⟨o.to, f1.data, f1.safe⟩ : Fil) _ _ HT.out.row HT.out.dat (HT.out.new HAA.out) (Nat.le_trans (Nat.le_trans (takeF_le _ _) (takeF_le _ _)) HNN.out))
    have HBR := Lib.hid HT.out.fl.range
    go_wp2_with (with_reducible refine wpList_load_fl rfl (.tmp 5) rfl g 0 (⟨o.to, f1.data, f1.safe⟩ : Fil) _ rfl HBR.out ?_)
    refine HPUT.out.mono ?_
    rintro e w7 ⟨v7, rfl, h7, hb7⟩
    have HP := Lib.hid h7
    have HC := Lib.hid (HT.out.ch.next hb7)
    have hg1 := HT.out.lo
    clear h7 hb7 HPUT HT HBR
    have HV1 := Lib.hid (show v7.oneCell' = true from HP.out.one)
    have k0 := HC.out.dk.c0
    have f0 := HC.out.dk.free 0
    go_wp2_with (with_reducible refine wpList_store_cellV rfl 22 (.tmp 82) (.tmp 81) rfl w.heap.size 0 v7 (.slice (some ⟨b, off, none⟩) d.files.length cap) (by kernel_rfl) HV1.out rfl rfl k0 f0 ?_)
    intro w8 hw8
    have HC8 := Lib.hid (show ChW w { d with files := putF (⟨o.to, f1.data, f1.safe⟩ : Fil) (takeF o.to (takeF o.name d.files)) } v7 o bv kv w8 by rw [hw8.out]; exact HC.out.set 0 v7 rfl)
    have HP8 := Lib.hid (show FilesIn (Out A w.heap.size (g + 1)) w8 v7 ({ d with files := putF (⟨o.to, f1.data, f1.safe⟩ : Fil) (takeF o.to (takeF o.name d.files)) }).files by rw [hw8.out]; exact HP.out.turned (turned_set (b := w.heap.size) (e := (g + 1)) _ ⟨w.heap.size, 0, none⟩ _ (Nat.le_refl _) (by simp only; omega)) out_not)
    obtain ⟨rd, rv, hr8⟩ := HC8.out.res
    have HR8 := Lib.hid hr8
    clear hw8 hr8 k0 f0
    go_wp2_with (first | (with_reducible refine wpList_load_dk rfl (.tmp 2) rfl w.heap.size ({ d with files := putF (⟨o.to, f1.data, f1.safe⟩ : Fil) (takeF o.to (takeF o.name d.files)) }) v7 rfl HC8.out.dk ?_) | (with_reducible refine wpList_store_dk rfl (.tmp 4) (.tmp 83) rfl (w.heap.size + 1 + 1) rd ({ d with files := putF (⟨o.to, f1.data, f1.safe⟩ : Fil) (takeF o.to (takeF o.name d.files)) }) rv v7 rfl rfl HR8.out HV1.out ?_))
    intro w9 hw9
    obtain ⟨hd9, hb9, ht9⟩ := HC8.out.done hw9.out
    have HP9 := Lib.hid ((HP8.out.turned ht9 (fun k hk' => by have := out_not k hk'; omega)).mono (A' := A) (fun k hk' => hk'.1))
    have HD9 := Lib.hid hd9
    have HB9 := Lib.hid hb9
    clear hw9 hd9 hb9 ht9
    go_wp2
    exact bodyPost_ret (v := dkV ({ d with files := putF (⟨o.to, f1.data, f1.safe⟩ : Fil) (takeF o.to (takeF o.name d.files)) }) v7) (results_dk1 rfl _ _ (w.heap.size + 1 + 1) ({ d with files := putF (⟨o.to, f1.data, f1.safe⟩ : Fil) (takeF o.to (takeF o.name d.files)) }) v7 rfl HD9.out) rfl ⟨v7, by rw [HE.out], by rw [HE.out]; exact HP9.out, HB9.out⟩
  · have HCA := Lib.hid (hHeld.next (below_alloc Wd (.cells #[.string ⟨#[]⟩, .slice none 0 0, .int .i64 0] 49)))
    have HFZ := Lib.hid (show FlBlk (Wd.alloc (.cells #[.string ⟨#[]⟩, .slice none 0 0, .int .i64 0] 49)) Wd.heap.size ⟨[], [], 0⟩ (.slice none 0 0) from flBlk_alloc Wd ⟨[], [], 0⟩ (.slice none 0 0))
    have hg1 := hHeld.size
    have hg2 : Wd.heap.size < (Wd.alloc (.cells #[.string ⟨#[]⟩, .slice none 0 0, .int .i64 0] 49)).heap.size := by simp
    clear HW0
    go_simp
    refine hK.out _ _ HCA.out (fun hHeld => ?_)
    clear hK K
    generalize Wd.heap.size = g at *
    generalize (Wd.alloc (.cells #[.string ⟨#[]⟩, .slice none 0 0, .int .i64 0] 49)) = Wz at *
    refine wpAnyH_ready (rs := [5]) (by kernel_rfl) (by simp) ?_
    refine AllReadyH.cons rfl (fun K hK => ?_) AllReadyH.nil
    go_simp
    go_at_call 50
    refine (HAT.out _ hHeld).mono ?_
    rintro e W0 ⟨z, rfl, hz, hb1⟩
    have HCA := Lib.hid (hHeld.next hb1)
    have HFZ := Lib.hid (HFZ.out.below hb1)
    have hg2 : g < W0.heap.size := Nat.lt_of_lt_of_le hg2 hb1.size
    clear hb1
    rcases hz with ⟨rfl, hbad⟩ | ⟨i, f1, rfl, hi, ha'⟩
    · exfalso; rw [HA0.out] at hbad; cases hbad
    have hff : f1 = f := by have h := HA0.out; rw [ha'] at h; exact Option.some.inj h
    subst hff
    obtain ⟨b, off, rfl, hbA, dv, hr, hdv⟩ := HCC.out i f1 hi
    have q1 : (i : Int) < (d.files.length : Int) := by have := (List.getElem?_eq_some_iff.1 hi).1; omega
    have HR := Lib.hid (fun W (hW : Below w.heap.size w W) => range_later hr hW)
    have HDV := Lib.hid hdv
    clear hi ha' hr hdv hbA
    go_wp2_with fail
    refine hK.out _ _ HCA.out (fun hHeld => ?_)
    clear hK K
    refine tk 6 rfl ?v_144 ?hy_144 ?r_144
    case hy_144 => intro w hSw; go_simp; try with_reducible rfl
    simp only [pA, pB, pC, pD]
    refine tkl 7 b (off + i * 3) (flCs f1 dv).toList rfl rfl (fun w' h => HR.out w' h.below) Tryz.underlying49 rfl flInfo ?_
    simp only [pA, pB, pC, pD]
    refine wpAnyH_ready (rs := [9]) (by kernel_rfl) (by simp) ?_
    refine AllReadyH.cons rfl (fun K hK => ?_) AllReadyH.nil
    rw [if_pos (by kernel_rfl)]
    refine wp_store_row 49 (.tmp 5) (.tmp 25) rfl g (flCs f1 dv) rfl rfl 49 (flCs ⟨[], [], 0⟩ (.slice none 0 0)) HFZ.out flInfo rfl (flCs_all f1 dv HDV.out.one) ?_
    have HCS := Lib.hid (HCA.out.keep (show Below (w.heap.size + 1 + 1 + 1) W0 (W0.setRow g (flCs f1 dv)) from below_row (Below.refl _ _) hg1 _) (Nat.le_refl _))
    have HFS := Lib.hid (show FlBlk (W0.setRow g (flCs f1 dv)) g f1 dv from setRow_heap W0 g _ _ _ _ HFZ.out)
    have hg2 : g < (W0.setRow g (flCs f1 dv)).heap.size := by simpa using hg2
    refine hK.out _ _ HCS.out (fun _ => ?_)
    clear hK K HCA HFZ
    generalize W0.setRow g (flCs f1 dv) = W at *
    refine wpAnyH_done (by kernel_rfl) ?_ _
    have HC := HCS
    have HB := HFS
    have q4 := HC.out.op.c0
    have qn := HC.out.op.c1
    have q3 := HC.out.dk.c0
    -- the files without it
    have HTK := Lib.hid (fun W' (h : ChW w d (.slice (some ⟨b, off, none⟩) d.files.length cap) o bv kv W') (hs : g + 1 ≤ W'.heap.size) => take_any (A := Out A w.heap.size (g + 1)) d.files (.slice (some ⟨b, off, none⟩) d.files.length cap) o.name W' ((HFL.out.mono (A' := Out A w.heap.size (g + 1)) (fun k hk' => ⟨hk'.1, .inl hk'.2⟩)).below h.below) (fun k hk' => ⟨HAA.out k (Nat.le_trans h.below.size hk'), .inr (Nat.le_trans hs hk')⟩) HNN.out)
    go_wp2_with fail
    refine (HTK.out _ HC.out hg2).mono ?_
    rintro e w5 ⟨v5, rfl, h5, hb5⟩
    have HP5 := Lib.hid h5
    have HC5 := Lib.hid (HC.out.next hb5)
    have HB5 := Lib.hid (HB.out.below hb5)
    have hg5 : g < w5.heap.size := Nat.lt_of_lt_of_le hg2 hb5.size
    have q5 := HC5.out.op.c0
    clear h5 hb5 HC HB HTK q4 q3 qn HCC HAT HA0
    have HT5 := Lib.hid (show ChT A w d (.slice (some ⟨b, off, none⟩) d.files.length cap) o bv kv g f1 dv (takeF o.name d.files) v5 w5 from ⟨HC5.out, HB5.out, HP5.out, (HDV.out.mono (fun k hk' => ⟨hk'.1, .inl hk'.2⟩)).below HC5.out.below, hg1, hg5⟩)
    clear HB5 HP5 HC5
    have hshape := HDV.out
    obtain ⟨ao, dcap, rfl, hdl, hdc⟩ := hshape
    clear hdc
    have j0 := HT5.out.fl.c0
    have f0 := HT5.out.fl.free 0
    have qt := HT5.out.ch.op.c2
    go_wp2_with (with_reducible refine wpList_store_cellV rfl 9 (.tmp 52) (.tmp 51) rfl g 0 (.string ⟨o.to.toArray⟩) (.string ⟨f1.name.toArray⟩) (by kernel_rfl) rfl rfl rfl j0 f0 ?_)
    intro w6 hw6
    have HT6 := Lib.hid (HT5.out.set (f' := (⟨o.to, f1.data, f1.safe⟩ : Fil)) 0 (.string ⟨o.to.toArray⟩) rfl HT5.out.dat hw6.out)
    have qt2 := HT6.out.ch.op.c2
    have HTK2 := Lib.hid (take_any (A := Out A w.heap.size (g + 1)) (takeF o.name d.files) v5 o.to _ HT6.out.row (HT6.out.new HAA.out) (Nat.le_trans (takeF_le _ _) HNN.out))
    clear hw6 j0 f0 HT5 qt
    go_wp2_with fail
    refine HTK2.out.mono ?_
    rintro e w6b ⟨v6, rfl, h6, hb6⟩
    have HT := Lib.hid ((HT6.out.next hb6).withRow h6)
    clear h6 hb6 HTK2 HT6 qt2
    have HPUT := Lib.hid (put_any (A := Out A w.heap.size (g + 1)) (takeF o.to (takeF o.name d.files)) _ (⟨o.to, f1.data, f1.safe⟩ : Fil) _ _ HT.out.row HT.out.dat (HT.out.new HAA.out) (Nat.le_trans (Nat.le_trans (takeF_le _ _) (takeF_le _ _)) HNN.out))
    have HBR := Lib.hid HT.out.fl.range
    go_wp2_with (with_reducible refine wpList_load_fl rfl (.tmp 5) rfl g 0 (⟨o.to, f1.data, f1.safe⟩ : Fil) _ rfl HBR.out ?_)
    refine HPUT.out.mono ?_
    rintro e w7 ⟨v7, rfl, h7, hb7⟩
    have HP := Lib.hid h7
    have HC := Lib.hid (HT.out.ch.next hb7)
    have hg1 := HT.out.lo
    clear h7 hb7 HPUT HT HBR
    have HV1 := Lib.hid (show v7.oneCell' = true from HP.out.one)
    have k0 := HC.out.dk.c0
    have f0 := HC.out.dk.free 0
    go_wp2_with (with_reducible refine wpList_store_cellV rfl 22 (.tmp 82) (.tmp 81) rfl w.heap.size 0 v7 (.slice (some ⟨b, off, none⟩) d.files.length cap) (by kernel_rfl) HV1.out rfl rfl k0 f0 ?_)
    intro w8 hw8
    have HC8 := Lib.hid (show ChW w { d with files := putF (⟨o.to, f1.data, f1.safe⟩ : Fil) (takeF o.to (takeF o.name d.files)) } v7 o bv kv w8 by rw [hw8.out]; exact HC.out.set 0 v7 rfl)
    have HP8 := Lib.hid (show FilesIn (Out A w.heap.size (g + 1)) w8 v7 ({ d with files := putF (⟨o.to, f1.data, f1.safe⟩ : Fil) (takeF o.to (takeF o.name d.files)) }).files by rw [hw8.out]; exact HP.out.turned (turned_set (b := w.heap.size) (e := (g + 1)) _ ⟨w.heap.size, 0, none⟩ _ (Nat.le_refl _) (by simp only; omega)) out_not)
    obtain ⟨rd, rv, hr8⟩ := HC8.out.res
    have HR8 := Lib.hid hr8
    clear hw8 hr8 k0 f0
    go_wp2_with (first | (with_reducible refine wpList_load_dk rfl (.tmp 2) rfl w.heap.size ({ d with files := putF (⟨o.to, f1.data, f1.safe⟩ : Fil) (takeF o.to (takeF o.name d.files)) }) v7 rfl HC8.out.dk ?_) | (with_reducible refine wpList_store_dk rfl (.tmp 4) (.tmp 83) rfl (w.heap.size + 1 + 1) rd ({ d with files := putF (⟨o.to, f1.data, f1.safe⟩ : Fil) (takeF o.to (takeF o.name d.files)) }) rv v7 rfl rfl HR8.out HV1.out ?_))
    intro w9 hw9
    obtain ⟨hd9, hb9, ht9⟩ := HC8.out.done hw9.out
    have HP9 := Lib.hid ((HP8.out.turned ht9 (fun k hk' => by have := out_not k hk'; omega)).mono (A' := A) (fun k hk' => hk'.1))
    have HD9 := Lib.hid hd9
    have HB9 := Lib.hid hb9
    clear hw9 hd9 hb9 ht9
    go_wp2
    exact bodyPost_ret (v := dkV ({ d with files := putF (⟨o.to, f1.data, f1.safe⟩ : Fil) (takeF o.to (takeF o.name d.files)) }) v7) (results_dk1 rfl _ _ (w.heap.size + 1 + 1) ({ d with files := putF (⟨o.to, f1.data, f1.safe⟩ : Fil) (takeF o.to (takeF o.name d.files)) }) v7 rfl HD9.out) rfl ⟨v7, by rw [HE.out], by rw [HE.out]; exact HP9.out, HB9.out⟩

end Go.Proofs.YtlobohpbgghleaaGreatDoor

namespace Go.Proofs.YtlobohpbgghleaaGreatDoor
open Go.RowKit

/-! ## the document's disk, walked: a step that is carried out (one theorem for each kind of call) -/

set_option maxRecDepth 100000 in
set_option maxHeartbeats 4000000 in
theorem change_remove {A : Nat → Prop} (d : Disk) (fv : Value) (o : DOp) (bv kv : Value) (w : World) (hf : FilesIn A w fv d.files) (hA : ∀ k, w.heap.size ≤ k → A k) (hn : d.files.length ≤ 1000000) (hk : o.k = 4)  (f : Fil) (ha : atF d.files o.name = some f) :
    Calls Tryz.prog 54 #[dkV d fv, opV o bv kv] w fun e w' => ∃ v, e = .returned (dkV (chgD d o) v) ∧ FilesIn A w' v (chgD d o).files ∧ Below w.heap.size w w' := by
  have e0 : (o.k == 0) = false := by rw [hk]; rfl
  have e1 : (o.k == 1) = false := by rw [hk]; rfl
  have e2 : (o.k == 2) = false := by rw [hk]; rfl
  have e3 : (o.k == 3) = false := by rw [hk]; rfl
  have e4 : (o.k == 4) = true := by rw [hk]; rfl
  have e5 : (o.k == 5) = false := by rw [hk]; rfl
  have HEQ : chgD d o = { d with files := takeF o.name d.files } := by unfold chgD; rw [if_neg (by omega), ha]; simp only [if_pos hk]
  have HE := Lib.hid HEQ
  have HA0 := Lib.hid ha
  have HFL := Lib.hid hf.low
  obtain ⟨oa, cap, rfl, hl1, hl2, hcc⟩ := hf.low.shape
  have HCC := Lib.hid hcc
  have HW0 := Lib.hid (ChW.start w d (.slice oa d.files.length cap) o bv kv ⟨[], 0, 0, false, 0, 0⟩ (.slice none 0 0))
  have HAT := Lib.hid (fun W (h : ChW w d (.slice oa d.files.length cap) o bv kv W) => at_any (A := fun k => A k ∧ k < w.heap.size) d (.slice oa d.files.length cap) o.name W (HFL.out.below h.below))
  have HAA := Lib.hid hA
  have HNN := Lib.hid hn
  clear hf hA hcc hk HEQ ha hn
  go_enter Tryz.func54, Tryz.ntmps54
  go_wp2_with fail
  refine wp_region_held_drew (S := fun w' => ChW w d (.slice oa d.files.length cap) o bv kv w') (by kernel_rfl) (HW0.out.next (below_drewN' _ 1)) (fun hHeld => ?_)
  refine tk 0 rfl ?v_145 ?hy_145 ?r_145
  case hy_145 => intro w hSw; have k0 := hSw.dk.c0; have k1 := hSw.op.c1; go_simp; try with_reducible rfl
  simp only [pA, pB, pC, pD]
  refine tk 1 rfl ?v_146 ?hy_146 ?r_146
  case hy_146 => intro w hSw; have k0 := hSw.dk.c0; have k1 := hSw.op.c1; go_simp; try with_reducible rfl
  simp only [pA, pB, pC, pD]
  refine tk 3 rfl ?v_147 ?hy_147 ?r_147
  case hy_147 => intro w hSw; have k0 := hSw.dk.c0; have k1 := hSw.op.c1; go_simp; try with_reducible rfl
  simp only [pA, pB, pC, pD]
  refine tk 4 rfl ?v_148 ?hy_148 ?r_148
  case hy_148 => intro w hSw; have k0 := hSw.dk.c0; have k1 := hSw.op.c1; go_simp; try with_reducible rfl
  simp only [pA, pB, pC, pD]
  refine tkl 2 w.heap.size 0 (dkCs d (.slice oa d.files.length cap)).toList rfl rfl (fun w' h j v hv => by rw [Nat.zero_add, h.dk.cell]; simpa using hv) Tryz.underlying51 rfl (by rw [dkInfo]; rfl) ?_
  simp only [pA, pB, pC, pD]
  generalize World.drew _ = Wd at *
  refine wpAnyH_ready (rs := [5, 8]) (by kernel_rfl) (by simp) ?_
  refine AllReadyH.cons rfl (fun K hK => ?_) (AllReadyH.cons rfl (fun K hK => ?_) AllReadyH.nil)
  · go_simp
    go_at_call 50
    refine (HAT.out _ hHeld).mono ?_
    rintro e w1 ⟨z, rfl, hz, hb1⟩
    have HC1 := Lib.hid (hHeld.next hb1)
    clear hb1 HW0
    rcases hz with ⟨rfl, hbad⟩ | ⟨i, f1, rfl, hi, ha'⟩
    · exfalso; rw [HA0.out] at hbad; cases hbad
    have hff : f1 = f := by have h := HA0.out; rw [ha'] at h; exact Option.some.inj h
    subst hff
    obtain ⟨b, off, rfl, hbA, dv, hr, hdv⟩ := HCC.out i f1 hi
    have q1 : (i : Int) < (d.files.length : Int) := by have := (List.getElem?_eq_some_iff.1 hi).1; omega
    have HR := Lib.hid (fun W (hW : Below w.heap.size w W) => range_later hr hW)
    have HDV := Lib.hid hdv
    clear hi ha' hr hdv hbA
    go_wp2_with fail
    refine hK.out _ _ HC1.out (fun hHeld => ?_)
    clear hK K
    refine tk 6 rfl ?v_149 ?hy_149 ?r_149
    case hy_149 => intro w hSw; go_simp; try with_reducible rfl
    simp only [pA, pB, pC, pD]
    refine tkl 7 b (off + i * 3) (flCs f1 dv).toList rfl rfl (fun w' h => HR.out w' h.below) Tryz.underlying49 rfl flInfo ?_
    simp only [pA, pB, pC, pD]
    have HCA := Lib.hid (HC1.out.next (below_alloc w1 (.cells #[.string ⟨#[]⟩, .slice none 0 0, .int .i64 0] 49)))
    have HFZ := Lib.hid (show FlBlk (w1.alloc (.cells #[.string ⟨#[]⟩, .slice none 0 0, .int .i64 0] 49)) w1.heap.size ⟨[], [], 0⟩ (.slice none 0 0) from flBlk_alloc w1 ⟨[], [], 0⟩ (.slice none 0 0))
    have hg1 := HC1.out.size
    have hg2 : w1.heap.size < (w1.alloc (.cells #[.string ⟨#[]⟩, .slice none 0 0, .int .i64 0] 49)).heap.size := by simp
    refine wpAnyH_ready (rs := [8]) (by kernel_rfl) (by simp) ?_
    refine AllReadyH.cons rfl (fun K hK => ?_) AllReadyH.nil
    go_simp
    refine hK.out _ _ HCA.out (fun hHeld => ?_)
    clear hK K HC1
    generalize w1.heap.size = g at *
    generalize (w1.alloc (.cells #[.string ⟨#[]⟩, .slice none 0 0, .int .i64 0] 49)) = W0 at *
    refine wpAnyH_ready (rs := [9]) (by kernel_rfl) (by simp) ?_
    refine AllReadyH.cons rfl (fun K hK => ?_) AllReadyH.nil
    rw [if_pos (by kernel_rfl)]
    refine wp_store_row 49 (.tmp 5) (.tmp 25) rfl g (flCs f1 dv) rfl rfl 49 (flCs ⟨[], [], 0⟩ (.slice none 0 0)) HFZ.out flInfo rfl (flCs_all f1 dv HDV.out.one) ?_
    have HCS := Lib.hid (HCA.out.keep (show Below (w.heap.size + 1 + 1 + 1) W0 (W0.setRow g (flCs f1 dv)) from below_row (Below.refl _ _) hg1 _) (Nat.le_refl _))
    have HFS := Lib.hid (show FlBlk (W0.setRow g (flCs f1 dv)) g f1 dv from setRow_heap W0 g _ _ _ _ HFZ.out)
    have hg2 : g < (W0.setRow g (flCs f1 dv)).heap.size := by simpa using hg2
    refine hK.out _ _ HCS.out (fun _ => ?_)
    clear hK K HCA HFZ
    generalize W0.setRow g (flCs f1 dv) = W at *
    refine wpAnyH_done (by kernel_rfl) ?_ _
    have HC := HCS
    have HB := HFS
    have q4 := HC.out.op.c0
    have qn := HC.out.op.c1
    have q3 := HC.out.dk.c0
    -- the files without it
    have HTK := Lib.hid (fun W' (h : ChW w d (.slice (some ⟨b, off, none⟩) d.files.length cap) o bv kv W') (hs : g + 1 ≤ W'.heap.size) => take_any (A := Out A w.heap.size (g + 1)) d.files (.slice (some ⟨b, off, none⟩) d.files.length cap) o.name W' ((HFL.out.mono (A' := Out A w.heap.size (g + 1)) (fun k hk' => ⟨hk'.1, .inl hk'.2⟩)).below h.below) (fun k hk' => ⟨HAA.out k (Nat.le_trans h.below.size hk'), .inr (Nat.le_trans hs hk')⟩) HNN.out)
    go_wp2_with fail
    refine (HTK.out _ HC.out hg2).mono ?_
    rintro e w5 ⟨v5, rfl, h5, hb5⟩
    have HP5 := Lib.hid h5
    have HC5 := Lib.hid (HC.out.next hb5)
    have HB5 := Lib.hid (HB.out.below hb5)
    have hg5 : g < w5.heap.size := Nat.lt_of_lt_of_le hg2 hb5.size
    have q5 := HC5.out.op.c0
    clear h5 hb5 HC HB HTK q4 q3 qn HCC HAT HA0
    have HP := HP5
    have HC := HC5
    have HV1 := Lib.hid (show v5.oneCell' = true from HP.out.one)
    have k0 := HC.out.dk.c0
    have f0 := HC.out.dk.free 0
    go_wp2_with (with_reducible refine wpList_store_cellV rfl 22 (.tmp 60) (.tmp 59) rfl w.heap.size 0 v5 (.slice (some ⟨b, off, none⟩) d.files.length cap) (by kernel_rfl) HV1.out rfl rfl k0 f0 ?_)
    intro w8 hw8
    have HC8 := Lib.hid (show ChW w { d with files := takeF o.name d.files } v5 o bv kv w8 by rw [hw8.out]; exact HC.out.set 0 v5 rfl)
    have HP8 := Lib.hid (show FilesIn (Out A w.heap.size (g + 1)) w8 v5 ({ d with files := takeF o.name d.files }).files by rw [hw8.out]; exact HP.out.turned (turned_set (b := w.heap.size) (e := (g + 1)) _ ⟨w.heap.size, 0, none⟩ _ (Nat.le_refl _) (by simp only; omega)) out_not)
    obtain ⟨rd, rv, hr8⟩ := HC8.out.res
    have HR8 := Lib.hid hr8
    clear hw8 hr8 k0 f0
    go_wp2_with (first | (with_reducible refine wpList_load_dk rfl (.tmp 2) rfl w.heap.size ({ d with files := takeF o.name d.files }) v5 rfl HC8.out.dk ?_) | (with_reducible refine wpList_store_dk rfl (.tmp 4) (.tmp 61) rfl (w.heap.size + 1 + 1) rd ({ d with files := takeF o.name d.files }) rv v5 rfl rfl HR8.out HV1.out ?_))
    intro w9 hw9
    obtain ⟨hd9, hb9, ht9⟩ := HC8.out.done hw9.out
    have HP9 := Lib.hid ((HP8.out.turned ht9 (fun k hk' => by have := out_not k hk'; omega)).mono (A' := A) (fun k hk' => hk'.1))
    have HD9 := Lib.hid hd9
    have HB9 := Lib.hid hb9
    clear hw9 hd9 hb9 ht9
    go_wp2
    exact bodyPost_ret (v := dkV ({ d with files := takeF o.name d.files }) v5) (results_dk1 rfl _ _ (w.heap.size + 1 + 1) ({ d with files := takeF o.name d.files }) v5 rfl HD9.out) rfl ⟨v5, by rw [HE.out], by rw [HE.out]; exact HP9.out, HB9.out⟩
  · have HCA := Lib.hid (hHeld.next (below_alloc Wd (.cells #[.string ⟨#[]⟩, .slice none 0 0, .int .i64 0] 49)))
    have HFZ := Lib.hid (show FlBlk (Wd.alloc (.cells #[.string ⟨#[]⟩, .slice none 0 0, .int .i64 0] 49)) Wd.heap.size ⟨[], [], 0⟩ (.slice none 0 0) from flBlk_alloc Wd ⟨[], [], 0⟩ (.slice none 0 0))
    have hg1 := hHeld.size
    have hg2 : Wd.heap.size < (Wd.alloc (.cells #[.string ⟨#[]⟩, .slice none 0 0, .int .i64 0] 49)).heap.size := by simp
    clear HW0
    go_simp
    refine hK.out _ _ HCA.out (fun hHeld => ?_)
    clear hK K
    generalize Wd.heap.size = g at *
    generalize (Wd.alloc (.cells #[.string ⟨#[]⟩, .slice none 0 0, .int .i64 0] 49)) = Wz at *
    refine wpAnyH_ready (rs := [5]) (by kernel_rfl) (by simp) ?_
    refine AllReadyH.cons rfl (fun K hK => ?_) AllReadyH.nil
    go_simp
    go_at_call 50
    refine (HAT.out _ hHeld).mono ?_
    rintro e W0 ⟨z, rfl, hz, hb1⟩
    have HCA := Lib.hid (hHeld.next hb1)
    have HFZ := Lib.hid (HFZ.out.below hb1)
    have hg2 : g < W0.heap.size := Nat.lt_of_lt_of_le hg2 hb1.size
    clear hb1
    rcases hz with ⟨rfl, hbad⟩ | ⟨i, f1, rfl, hi, ha'⟩
    · exfalso; rw [HA0.out] at hbad; cases hbad
    have hff : f1 = f := by have h := HA0.out; rw [ha'] at h; exact Option.some.inj h
    subst hff
    obtain ⟨b, off, rfl, hbA, dv, hr, hdv⟩ := HCC.out i f1 hi
    have q1 : (i : Int) < (d.files.length : Int) := by have := (List.getElem?_eq_some_iff.1 hi).1; omega
    have HR := Lib.hid (fun W (hW : Below w.heap.size w W) => range_later hr hW)
    have HDV := Lib.hid hdv
    clear hi ha' hr hdv hbA
    go_wp2_with fail
    refine hK.out _ _ HCA.out (fun hHeld => ?_)
    clear hK K
    refine tk 6 rfl ?v_150 ?hy_150 ?r_150
    case hy_150 => intro w hSw; go_simp; try with_reducible rfl
    simp only [pA, pB, pC, pD]
    refine tkl 7 b (off + i * 3) (flCs f1 dv).toList rfl rfl (fun w' h => HR.out w' h.below) Tryz.underlying49 rfl flInfo ?_
    simp only [pA, pB, pC, pD]
    refine wpAnyH_ready (rs := [9]) (by kernel_rfl) (by simp) ?_
    refine AllReadyH.cons rfl (fun K hK => ?_) AllReadyH.nil
    rw [if_pos (by kernel_rfl)]
    refine wp_store_row 49 (.tmp 5) (.tmp 25) rfl g (flCs f1 dv) rfl rfl 49 (flCs ⟨[], [], 0⟩ (.slice none 0 0)) HFZ.out flInfo rfl (flCs_all f1 dv HDV.out.one) ?_
    have HCS := Lib.hid (HCA.out.keep (show Below (w.heap.size + 1 + 1 + 1) W0 (W0.setRow g (flCs f1 dv)) from below_row (Below.refl _ _) hg1 _) (Nat.le_refl _))
    have HFS := Lib.hid (show FlBlk (W0.setRow g (flCs f1 dv)) g f1 dv from setRow_heap W0 g _ _ _ _ HFZ.out)
    have hg2 : g < (W0.setRow g (flCs f1 dv)).heap.size := by simpa using hg2
    refine hK.out _ _ HCS.out (fun _ => ?_)
    clear hK K HCA HFZ
    generalize W0.setRow g (flCs f1 dv) = W at *
    refine wpAnyH_done (by kernel_rfl) ?_ _
    have HC := HCS
    have HB := HFS
    have q4 := HC.out.op.c0
    have qn := HC.out.op.c1
    have q3 := HC.out.dk.c0
    -- the files without it
    have HTK := Lib.hid (fun W' (h : ChW w d (.slice (some ⟨b, off, none⟩) d.files.length cap) o bv kv W') (hs : g + 1 ≤ W'.heap.size) => take_any (A := Out A w.heap.size (g + 1)) d.files (.slice (some ⟨b, off, none⟩) d.files.length cap) o.name W' ((HFL.out.mono (A' := Out A w.heap.size (g + 1)) (fun k hk' => ⟨hk'.1, .inl hk'.2⟩)).below h.below) (fun k hk' => ⟨HAA.out k (Nat.le_trans h.below.size hk'), .inr (Nat.le_trans hs hk')⟩) HNN.out)
    go_wp2_with fail
    refine (HTK.out _ HC.out hg2).mono ?_
    rintro e w5 ⟨v5, rfl, h5, hb5⟩
    have HP5 := Lib.hid h5
    have HC5 := Lib.hid (HC.out.next hb5)
    have HB5 := Lib.hid (HB.out.below hb5)
    have hg5 : g < w5.heap.size := Nat.lt_of_lt_of_le hg2 hb5.size
    have q5 := HC5.out.op.c0
    clear h5 hb5 HC HB HTK q4 q3 qn HCC HAT HA0
    have HP := HP5
    have HC := HC5
    have HV1 := Lib.hid (show v5.oneCell' = true from HP.out.one)
    have k0 := HC.out.dk.c0
    have f0 := HC.out.dk.free 0
    go_wp2_with (with_reducible refine wpList_store_cellV rfl 22 (.tmp 60) (.tmp 59) rfl w.heap.size 0 v5 (.slice (some ⟨b, off, none⟩) d.files.length cap) (by kernel_rfl) HV1.out rfl rfl k0 f0 ?_)
    intro w8 hw8
    have HC8 := Lib.hid (show ChW w { d with files := takeF o.name d.files } v5 o bv kv w8 by rw [hw8.out]; exact HC.out.set 0 v5 rfl)
    have HP8 := Lib.hid (show FilesIn (Out A w.heap.size (g + 1)) w8 v5 ({ d with files := takeF o.name d.files }).files by rw [hw8.out]; exact HP.out.turned (turned_set (b := w.heap.size) (e := (g + 1)) _ ⟨w.heap.size, 0, none⟩ _ (Nat.le_refl _) (by simp only; omega)) out_not)
    obtain ⟨rd, rv, hr8⟩ := HC8.out.res
    have HR8 := Lib.hid hr8
    clear hw8 hr8 k0 f0
    go_wp2_with (first | (with_reducible refine wpList_load_dk rfl (.tmp 2) rfl w.heap.size ({ d with files := takeF o.name d.files }) v5 rfl HC8.out.dk ?_) | (with_reducible refine wpList_store_dk rfl (.tmp 4) (.tmp 61) rfl (w.heap.size + 1 + 1) rd ({ d with files := takeF o.name d.files }) rv v5 rfl rfl HR8.out HV1.out ?_))
    intro w9 hw9
    obtain ⟨hd9, hb9, ht9⟩ := HC8.out.done hw9.out
    have HP9 := Lib.hid ((HP8.out.turned ht9 (fun k hk' => by have := out_not k hk'; omega)).mono (A' := A) (fun k hk' => hk'.1))
    have HD9 := Lib.hid hd9
    have HB9 := Lib.hid hb9
    clear hw9 hd9 hb9 ht9
    go_wp2
    exact bodyPost_ret (v := dkV ({ d with files := takeF o.name d.files }) v5) (results_dk1 rfl _ _ (w.heap.size + 1 + 1) ({ d with files := takeF o.name d.files }) v5 rfl HD9.out) rfl ⟨v5, by rw [HE.out], by rw [HE.out]; exact HP9.out, HB9.out⟩

end Go.Proofs.YtlobohpbgghleaaGreatDoor

namespace Go.Proofs.YtlobohpbgghleaaGreatDoor
open Go.RowKit

/-! ## the document's disk, walked: a step that is carried out (one theorem for each kind of call) -/

set_option maxRecDepth 100000 in
set_option maxHeartbeats 4000000 in
theorem change_cut {A : Nat → Prop} (d : Disk) (fv : Value) (o : DOp) (bv kv : Value) (w : World) (hf : FilesIn A w fv d.files) (hA : ∀ k, w.heap.size ≤ k → A k) (hn : d.files.length ≤ 1000000) (hk : o.k = 5)  (f : Fil) (ha : atF d.files o.name = some f) (nn : Nat) (hnn : o.n = (nn : Int)) (hq : nn ≤ f.data.length) (hlen : f.data.length ≤ 140737488355328) :
    Calls Tryz.prog 54 #[dkV d fv, opV o bv kv] w fun e w' => ∃ v, e = .returned (dkV (chgD d o) v) ∧ FilesIn A w' v (chgD d o).files ∧ Below w.heap.size w w' := by
  have e0 : (o.k == 0) = false := by rw [hk]; rfl
  have e1 : (o.k == 1) = false := by rw [hk]; rfl
  have e2 : (o.k == 2) = false := by rw [hk]; rfl
  have e3 : (o.k == 3) = false := by rw [hk]; rfl
  have e4 : (o.k == 4) = false := by rw [hk]; rfl
  have e5 : (o.k == 5) = true := by rw [hk]; rfl
  have HEQ : chgD d o = { d with files := putF (⟨f.name, f.data.take nn, if (nn : Int) < f.safe then (nn : Int) else f.safe⟩ : Fil) (takeF o.name d.files) } := by unfold chgD; rw [if_neg (by omega), ha]; simp only [if_neg (show ¬ o.k = 4 by omega)]; rw [if_neg (show ¬ o.k = 3 by omega)]; unfold chgF; rw [if_neg (show ¬ o.k = 1 by omega), if_neg (show ¬ o.k = 2 by omega), if_neg (show ¬ o.k = 3 by omega), if_pos hk, hnn]; rfl
  have HE := Lib.hid HEQ
  have HQ0 := Lib.hid hq
  have HL0 := Lib.hid hlen
  have HNQ := Lib.hid hnn
  clear hq hlen hnn
  have HA0 := Lib.hid ha
  have HFL := Lib.hid hf.low
  obtain ⟨oa, cap, rfl, hl1, hl2, hcc⟩ := hf.low.shape
  have HCC := Lib.hid hcc
  have HW0 := Lib.hid (ChW.start w d (.slice oa d.files.length cap) o bv kv ⟨[], 0, 0, false, 0, 0⟩ (.slice none 0 0))
  have HAT := Lib.hid (fun W (h : ChW w d (.slice oa d.files.length cap) o bv kv W) => at_any (A := fun k => A k ∧ k < w.heap.size) d (.slice oa d.files.length cap) o.name W (HFL.out.below h.below))
  have HAA := Lib.hid hA
  have HNN := Lib.hid hn
  clear hf hA hcc hk HEQ ha hn
  go_enter Tryz.func54, Tryz.ntmps54
  go_wp2_with fail
  refine wp_region_held_drew (S := fun w' => ChW w d (.slice oa d.files.length cap) o bv kv w') (by kernel_rfl) (HW0.out.next (below_drewN' _ 1)) (fun hHeld => ?_)
  refine tk 0 rfl ?v_151 ?hy_151 ?r_151
  case hy_151 => intro w hSw; have k0 := hSw.dk.c0; have k1 := hSw.op.c1; go_simp; try with_reducible rfl
  simp only [pA, pB, pC, pD]
  refine tk 1 rfl ?v_152 ?hy_152 ?r_152
  case hy_152 => intro w hSw; have k0 := hSw.dk.c0; have k1 := hSw.op.c1; go_simp; try with_reducible rfl
  simp only [pA, pB, pC, pD]
  refine tk 3 rfl ?v_153 ?hy_153 ?r_153
  case hy_153 => intro w hSw; have k0 := hSw.dk.c0; have k1 := hSw.op.c1; go_simp; try with_reducible rfl
  simp only [pA, pB, pC, pD]
  refine tk 4 rfl ?v_154 ?hy_154 ?r_154
  case hy_154 => intro w hSw; have k0 := hSw.dk.c0; have k1 := hSw.op.c1; go_simp; try with_reducible rfl
  simp only [pA, pB, pC, pD]
  refine tkl 2 w.heap.size 0 (dkCs d (.slice oa d.files.length cap)).toList rfl rfl (fun w' h j v hv => by rw [Nat.zero_add, h.dk.cell]; simpa using hv) Tryz.underlying51 rfl (by rw [dkInfo]; rfl) ?_
  simp only [pA, pB, pC, pD]
  generalize World.drew _ = Wd at *
  refine wpAnyH_ready (rs := [5, 8]) (by kernel_rfl) (by simp) ?_
  refine AllReadyH.cons rfl (fun K hK => ?_) (AllReadyH.cons rfl (fun K hK => ?_) AllReadyH.nil)
  · go_simp
    go_at_call 50
    refine (HAT.out _ hHeld).mono ?_
    rintro e w1 ⟨z, rfl, hz, hb1⟩
    have HC1 := Lib.hid (hHeld.next hb1)
    clear hb1 HW0
    rcases hz with ⟨rfl, hbad⟩ | ⟨i, f1, rfl, hi, ha'⟩
    · exfalso; rw [HA0.out] at hbad; cases hbad
    have hff : f1 = f := by have h := HA0.out; rw [ha'] at h; exact Option.some.inj h
    subst hff
    obtain ⟨b, off, rfl, hbA, dv, hr, hdv⟩ := HCC.out i f1 hi
    have q1 : (i : Int) < (d.files.length : Int) := by have := (List.getElem?_eq_some_iff.1 hi).1; omega
    have HR := Lib.hid (fun W (hW : Below w.heap.size w W) => range_later hr hW)
    have HDV := Lib.hid hdv
    clear hi ha' hr hdv hbA
    go_wp2_with fail
    refine hK.out _ _ HC1.out (fun hHeld => ?_)
    clear hK K
    refine tk 6 rfl ?v_155 ?hy_155 ?r_155
    case hy_155 => intro w hSw; go_simp; try with_reducible rfl
    simp only [pA, pB, pC, pD]
    refine tkl 7 b (off + i * 3) (flCs f1 dv).toList rfl rfl (fun w' h => HR.out w' h.below) Tryz.underlying49 rfl flInfo ?_
    simp only [pA, pB, pC, pD]
    have HCA := Lib.hid (HC1.out.next (below_alloc w1 (.cells #[.string ⟨#[]⟩, .slice none 0 0, .int .i64 0] 49)))
    have HFZ := Lib.hid (show FlBlk (w1.alloc (.cells #[.string ⟨#[]⟩, .slice none 0 0, .int .i64 0] 49)) w1.heap.size ⟨[], [], 0⟩ (.slice none 0 0) from flBlk_alloc w1 ⟨[], [], 0⟩ (.slice none 0 0))
    have hg1 := HC1.out.size
    have hg2 : w1.heap.size < (w1.alloc (.cells #[.string ⟨#[]⟩, .slice none 0 0, .int .i64 0] 49)).heap.size := by simp
    refine wpAnyH_ready (rs := [8]) (by kernel_rfl) (by simp) ?_
    refine AllReadyH.cons rfl (fun K hK => ?_) AllReadyH.nil
    go_simp
    refine hK.out _ _ HCA.out (fun hHeld => ?_)
    clear hK K HC1
    generalize w1.heap.size = g at *
    generalize (w1.alloc (.cells #[.string ⟨#[]⟩, .slice none 0 0, .int .i64 0] 49)) = W0 at *
    refine wpAnyH_ready (rs := [9]) (by kernel_rfl) (by simp) ?_
    refine AllReadyH.cons rfl (fun K hK => ?_) AllReadyH.nil
    rw [if_pos (by kernel_rfl)]
    refine wp_store_row 49 (.tmp 5) (.tmp 25) rfl g (flCs f1 dv) rfl rfl 49 (flCs ⟨[], [], 0⟩ (.slice none 0 0)) HFZ.out flInfo rfl (flCs_all f1 dv HDV.out.one) ?_
    have HCS := Lib.hid (HCA.out.keep (show Below (w.heap.size + 1 + 1 + 1) W0 (W0.setRow g (flCs f1 dv)) from below_row (Below.refl _ _) hg1 _) (Nat.le_refl _))
    have HFS := Lib.hid (show FlBlk (W0.setRow g (flCs f1 dv)) g f1 dv from setRow_heap W0 g _ _ _ _ HFZ.out)
    have hg2 : g < (W0.setRow g (flCs f1 dv)).heap.size := by simpa using hg2
    refine hK.out _ _ HCS.out (fun _ => ?_)
    clear hK K HCA HFZ
    generalize W0.setRow g (flCs f1 dv) = W at *
    refine wpAnyH_done (by kernel_rfl) ?_ _
    have HC := HCS
    have HB := HFS
    have q4 := HC.out.op.c0
    have qn := HC.out.op.c1
    have q3 := HC.out.dk.c0
    -- the files without it
    have HTK := Lib.hid (fun W' (h : ChW w d (.slice (some ⟨b, off, none⟩) d.files.length cap) o bv kv W') (hs : g + 1 ≤ W'.heap.size) => take_any (A := Out A w.heap.size (g + 1)) d.files (.slice (some ⟨b, off, none⟩) d.files.length cap) o.name W' ((HFL.out.mono (A' := Out A w.heap.size (g + 1)) (fun k hk' => ⟨hk'.1, .inl hk'.2⟩)).below h.below) (fun k hk' => ⟨HAA.out k (Nat.le_trans h.below.size hk'), .inr (Nat.le_trans hs hk')⟩) HNN.out)
    go_wp2_with fail
    refine (HTK.out _ HC.out hg2).mono ?_
    rintro e w5 ⟨v5, rfl, h5, hb5⟩
    have HP5 := Lib.hid h5
    have HC5 := Lib.hid (HC.out.next hb5)
    have HB5 := Lib.hid (HB.out.below hb5)
    have hg5 : g < w5.heap.size := Nat.lt_of_lt_of_le hg2 hb5.size
    have q5 := HC5.out.op.c0
    clear h5 hb5 HC HB HTK q4 q3 qn HCC HAT HA0
    have HT5 := Lib.hid (show ChT A w d (.slice (some ⟨b, off, none⟩) d.files.length cap) o bv kv g f1 dv (takeF o.name d.files) v5 w5 from ⟨HC5.out, HB5.out, HP5.out, (HDV.out.mono (fun k hk' => ⟨hk'.1, .inl hk'.2⟩)).below HC5.out.below, hg1, hg5⟩)
    clear HB5 HP5 HC5
    have hshape := HDV.out
    obtain ⟨ao, dcap, rfl, hdl, hdc⟩ := hshape
    clear hdc
    have j1 := HT5.out.fl.c1
    have j2 := HT5.out.fl.c2
    have f1c := HT5.out.fl.free 1
    have qn4 := HT5.out.ch.op.c4
    rw [HNQ.out] at qn4
    have hq1 : nn ≤ f1.data.length := HQ0.out
    have hq2 : nn ≤ dcap := Nat.le_trans hq1 hdl
    have HCP := Lib.hid (copyBytes_any (f1.data.take nn) (.slice ao nn dcap) w5 (HT5.out.dat.take hq1).brow (by rw [List.length_take]; have := HL0.out; omega))
    go_wp2_with fail
    refine HCP.out.mono ?_
    rintro e w6 ⟨v6, rfl, h6, hb6⟩
    have HT6 := Lib.hid (HT5.out.next hb6)
    have HO6 := Lib.hid h6
    have HV6 := Lib.hid (show v6.oneCell' = true from (browIn_own (A := fun _ => True) h6 (fun _ _ => trivial)).one)
    have j1 := HT6.out.fl.c1
    have f1c := HT6.out.fl.free 1
    clear HCP h6
    go_wp2_with (with_reducible refine wpList_store_cellV rfl 47 (.tmp 70) (.tmp 69) rfl g 1 v6 (.slice ao f1.data.length dcap) (by kernel_rfl) HV6.out rfl rfl j1 f1c ?_)
    intro w7 hw7
    have HT7 := Lib.hid (HT6.out.set (f' := (⟨f1.name, f1.data.take nn, f1.safe⟩ : Fil)) 1 v6 rfl (browIn_own HO6.out (HT5.out.new HAA.out)) hw7.out)
    clear hw7 j1 f1c HT6 HO6 HT5 hb6 j2 qn4
    have j2 := HT7.out.fl.c2
    have f2 := HT7.out.fl.free 2
    have qn4 := HT7.out.ch.op.c4
    rw [HNQ.out] at qn4
    rcases hlt : decide ((nn : Int) < f1.safe) with _ | _
    · have HE := Lib.hid (show chgD d o = { d with files := putF (⟨f1.name, f1.data.take nn, f1.safe⟩ : Fil) (takeF o.name d.files) } by rw [HE.out, if_neg (by simpa using hlt)])
      have HT := HT7
      have t7 : decide ((nn : Int) < f1.safe) = false := hlt
      clear HT7 f2 hlt
      have HPUT := Lib.hid (put_any (A := Out A w.heap.size (g + 1)) (takeF o.name d.files) _ (⟨f1.name, f1.data.take nn, f1.safe⟩ : Fil) _ _ HT.out.row HT.out.dat (HT.out.new HAA.out) (Nat.le_trans (takeF_le _ _) HNN.out))
      have HBR := Lib.hid HT.out.fl.range
      go_wp2_with (with_reducible refine wpList_load_fl rfl (.tmp 5) rfl g 0 (⟨f1.name, f1.data.take nn, f1.safe⟩ : Fil) _ rfl HBR.out ?_)
      refine HPUT.out.mono ?_
      rintro e w7 ⟨v7, rfl, h7, hb7⟩
      have HP := Lib.hid h7
      have HC := Lib.hid (HT.out.ch.next hb7)
      have hg1 := HT.out.lo
      clear h7 hb7 HPUT HT HBR
      have HV1 := Lib.hid (show v7.oneCell' = true from HP.out.one)
      have k0 := HC.out.dk.c0
      have f0 := HC.out.dk.free 0
      go_wp2_with (with_reducible refine wpList_store_cellV rfl 22 (.tmp 82) (.tmp 81) rfl w.heap.size 0 v7 (.slice (some ⟨b, off, none⟩) d.files.length cap) (by kernel_rfl) HV1.out rfl rfl k0 f0 ?_)
      intro w8 hw8
      have HC8 := Lib.hid (show ChW w { d with files := putF (⟨f1.name, f1.data.take nn, f1.safe⟩ : Fil) (takeF o.name d.files) } v7 o bv kv w8 by rw [hw8.out]; exact HC.out.set 0 v7 rfl)
      have HP8 := Lib.hid (show FilesIn (Out A w.heap.size (g + 1)) w8 v7 ({ d with files := putF (⟨f1.name, f1.data.take nn, f1.safe⟩ : Fil) (takeF o.name d.files) }).files by rw [hw8.out]; exact HP.out.turned (turned_set (b := w.heap.size) (e := (g + 1)) _ ⟨w.heap.size, 0, none⟩ _ (Nat.le_refl _) (by simp only; omega)) out_not)
      obtain ⟨rd, rv, hr8⟩ := HC8.out.res
      have HR8 := Lib.hid hr8
      clear hw8 hr8 k0 f0
      go_wp2_with (first | (with_reducible refine wpList_load_dk rfl (.tmp 2) rfl w.heap.size ({ d with files := putF (⟨f1.name, f1.data.take nn, f1.safe⟩ : Fil) (takeF o.name d.files) }) v7 rfl HC8.out.dk ?_) | (with_reducible refine wpList_store_dk rfl (.tmp 4) (.tmp 83) rfl (w.heap.size + 1 + 1) rd ({ d with files := putF (⟨f1.name, f1.data.take nn, f1.safe⟩ : Fil) (takeF o.name d.files) }) rv v7 rfl rfl HR8.out HV1.out ?_))
      intro w9 hw9
      obtain ⟨hd9, hb9, ht9⟩ := HC8.out.done hw9.out
      have HP9 := Lib.hid ((HP8.out.turned ht9 (fun k hk' => by have := out_not k hk'; omega)).mono (A' := A) (fun k hk' => hk'.1))
      have HD9 := Lib.hid hd9
      have HB9 := Lib.hid hb9
      clear hw9 hd9 hb9 ht9
      go_wp2
      exact bodyPost_ret (v := dkV ({ d with files := putF (⟨f1.name, f1.data.take nn, f1.safe⟩ : Fil) (takeF o.name d.files) }) v7) (results_dk1 rfl _ _ (w.heap.size + 1 + 1) ({ d with files := putF (⟨f1.name, f1.data.take nn, f1.safe⟩ : Fil) (takeF o.name d.files) }) v7 rfl HD9.out) rfl ⟨v7, by rw [HE.out], by rw [HE.out]; exact HP9.out, HB9.out⟩
    · have HE := Lib.hid (show chgD d o = { d with files := putF (⟨f1.name, f1.data.take nn, (nn : Int)⟩ : Fil) (takeF o.name d.files) } by rw [HE.out, if_pos (by simpa using hlt)])
      go_wp2_with (with_reducible refine wpList_store_cellV rfl 3 (.tmp 78) (.tmp 77) rfl g 2 (.int .i64 (nn : Int)) (.int .i64 f1.safe) (by kernel_rfl) rfl rfl rfl j2 f2 ?_)
      intro w8 hw8
      have HT := Lib.hid (HT7.out.set (f' := (⟨f1.name, f1.data.take nn, (nn : Int)⟩ : Fil)) 2 (.int .i64 (nn : Int)) rfl HT7.out.dat hw8.out)
      clear HT7 j2 f2 hw8 qn4
      have HPUT := Lib.hid (put_any (A := Out A w.heap.size (g + 1)) (takeF o.name d.files) _ (⟨f1.name, f1.data.take nn, (nn : Int)⟩ : Fil) _ _ HT.out.row HT.out.dat (HT.out.new HAA.out) (Nat.le_trans (takeF_le _ _) HNN.out))
      have HBR := Lib.hid HT.out.fl.range
      go_wp2_with (with_reducible refine wpList_load_fl rfl (.tmp 5) rfl g 0 (⟨f1.name, f1.data.take nn, (nn : Int)⟩ : Fil) _ rfl HBR.out ?_)
      refine HPUT.out.mono ?_
      rintro e w7 ⟨v7, rfl, h7, hb7⟩
      have HP := Lib.hid h7
      have HC := Lib.hid (HT.out.ch.next hb7)
      have hg1 := HT.out.lo
      clear h7 hb7 HPUT HT HBR
      have HV1 := Lib.hid (show v7.oneCell' = true from HP.out.one)
      have k0 := HC.out.dk.c0
      have f0 := HC.out.dk.free 0
      go_wp2_with (with_reducible refine wpList_store_cellV rfl 22 (.tmp 82) (.tmp 81) rfl w.heap.size 0 v7 (.slice (some ⟨b, off, none⟩) d.files.length cap) (by kernel_rfl) HV1.out rfl rfl k0 f0 ?_)
      intro w8 hw8
      have HC8 := Lib.hid (show ChW w { d with files := putF (⟨f1.name, f1.data.take nn, (nn : Int)⟩ : Fil) (takeF o.name d.files) } v7 o bv kv w8 by rw [hw8.out]; exact HC.out.set 0 v7 rfl)
      have HP8 := Lib.hid (show FilesIn (Out A w.heap.size (g + 1)) w8 v7 ({ d with files := putF (⟨f1.name, f1.data.take nn, (nn : Int)⟩ : Fil) (takeF o.name d.files) }).files by rw [hw8.out]; exact HP.out.turned (turned_set (b := w.heap.size) (e := (g + 1)) _ ⟨w.heap.size, 0, none⟩ _ (Nat.le_refl _) (by simp only; omega)) out_not)
      obtain ⟨rd, rv, hr8⟩ := HC8.out.res
      have HR8 := Lib.hid hr8
      clear hw8 hr8 k0 f0
      go_wp2_with (first | (with_reducible refine wpList_load_dk rfl (.tmp 2) rfl w.heap.size ({ d with files := putF (⟨f1.name, f1.data.take nn, (nn : Int)⟩ : Fil) (takeF o.name d.files) }) v7 rfl HC8.out.dk ?_) | (with_reducible refine wpList_store_dk rfl (.tmp 4) (.tmp 83) rfl (w.heap.size + 1 + 1) rd ({ d with files := putF (⟨f1.name, f1.data.take nn, (nn : Int)⟩ : Fil) (takeF o.name d.files) }) rv v7 rfl rfl HR8.out HV1.out ?_))
      intro w9 hw9
      obtain ⟨hd9, hb9, ht9⟩ := HC8.out.done hw9.out
      have HP9 := Lib.hid ((HP8.out.turned ht9 (fun k hk' => by have := out_not k hk'; omega)).mono (A' := A) (fun k hk' => hk'.1))
      have HD9 := Lib.hid hd9
      have HB9 := Lib.hid hb9
      clear hw9 hd9 hb9 ht9
      go_wp2
      exact bodyPost_ret (v := dkV ({ d with files := putF (⟨f1.name, f1.data.take nn, (nn : Int)⟩ : Fil) (takeF o.name d.files) }) v7) (results_dk1 rfl _ _ (w.heap.size + 1 + 1) ({ d with files := putF (⟨f1.name, f1.data.take nn, (nn : Int)⟩ : Fil) (takeF o.name d.files) }) v7 rfl HD9.out) rfl ⟨v7, by rw [HE.out], by rw [HE.out]; exact HP9.out, HB9.out⟩

  · have HCA := Lib.hid (hHeld.next (below_alloc Wd (.cells #[.string ⟨#[]⟩, .slice none 0 0, .int .i64 0] 49)))
    have HFZ := Lib.hid (show FlBlk (Wd.alloc (.cells #[.string ⟨#[]⟩, .slice none 0 0, .int .i64 0] 49)) Wd.heap.size ⟨[], [], 0⟩ (.slice none 0 0) from flBlk_alloc Wd ⟨[], [], 0⟩ (.slice none 0 0))
    have hg1 := hHeld.size
    have hg2 : Wd.heap.size < (Wd.alloc (.cells #[.string ⟨#[]⟩, .slice none 0 0, .int .i64 0] 49)).heap.size := by simp
    clear HW0
    go_simp
    refine hK.out _ _ HCA.out (fun hHeld => ?_)
    clear hK K
    generalize Wd.heap.size = g at *
    generalize (Wd.alloc (.cells #[.string ⟨#[]⟩, .slice none 0 0, .int .i64 0] 49)) = Wz at *
    refine wpAnyH_ready (rs := [5]) (by kernel_rfl) (by simp) ?_
    refine AllReadyH.cons rfl (fun K hK => ?_) AllReadyH.nil
    go_simp
    go_at_call 50
    refine (HAT.out _ hHeld).mono ?_
    rintro e W0 ⟨z, rfl, hz, hb1⟩
    have HCA := Lib.hid (hHeld.next hb1)
    have HFZ := Lib.hid (HFZ.out.below hb1)
    have hg2 : g < W0.heap.size := Nat.lt_of_lt_of_le hg2 hb1.size
    clear hb1
    rcases hz with ⟨rfl, hbad⟩ | ⟨i, f1, rfl, hi, ha'⟩
    · exfalso; rw [HA0.out] at hbad; cases hbad
    have hff : f1 = f := by have h := HA0.out; rw [ha'] at h; exact Option.some.inj h
    subst hff
    obtain ⟨b, off, rfl, hbA, dv, hr, hdv⟩ := HCC.out i f1 hi
    have q1 : (i : Int) < (d.files.length : Int) := by have := (List.getElem?_eq_some_iff.1 hi).1; omega
    have HR := Lib.hid (fun W (hW : Below w.heap.size w W) => range_later hr hW)
    have HDV := Lib.hid hdv
    clear hi ha' hr hdv hbA
    go_wp2_with fail
    refine hK.out _ _ HCA.out (fun hHeld => ?_)
    clear hK K
    refine tk 6 rfl ?v_156 ?hy_156 ?r_156
    case hy_156 => intro w hSw; go_simp; try with_reducible rfl
    simp only [pA, pB, pC, pD]
    refine tkl 7 b (off + i * 3) (flCs f1 dv).toList rfl rfl (fun w' h => HR.out w' h.below) Tryz.underlying49 rfl flInfo ?_
    simp only [pA, pB, pC, pD]
    refine wpAnyH_ready (rs := [9]) (by kernel_rfl) (by simp) ?_
    refine AllReadyH.cons rfl (fun K hK => ?_) AllReadyH.nil
    rw [if_pos (by kernel_rfl)]
    refine wp_store_row 49 (.tmp 5) (.tmp 25) rfl g (flCs f1 dv) rfl rfl 49 (flCs ⟨[], [], 0⟩ (.slice none 0 0)) HFZ.out flInfo rfl (flCs_all f1 dv HDV.out.one) ?_
    have HCS := Lib.hid (HCA.out.keep (show Below (w.heap.size + 1 + 1 + 1) W0 (W0.setRow g (flCs f1 dv)) from below_row (Below.refl _ _) hg1 _) (Nat.le_refl _))
    have HFS := Lib.hid (show FlBlk (W0.setRow g (flCs f1 dv)) g f1 dv from setRow_heap W0 g _ _ _ _ HFZ.out)
    have hg2 : g < (W0.setRow g (flCs f1 dv)).heap.size := by simpa using hg2
    refine hK.out _ _ HCS.out (fun _ => ?_)
    clear hK K HCA HFZ
    generalize W0.setRow g (flCs f1 dv) = W at *
    refine wpAnyH_done (by kernel_rfl) ?_ _
    have HC := HCS
    have HB := HFS
    have q4 := HC.out.op.c0
    have qn := HC.out.op.c1
    have q3 := HC.out.dk.c0
    -- the files without it
    have HTK := Lib.hid (fun W' (h : ChW w d (.slice (some ⟨b, off, none⟩) d.files.length cap) o bv kv W') (hs : g + 1 ≤ W'.heap.size) => take_any (A := Out A w.heap.size (g + 1)) d.files (.slice (some ⟨b, off, none⟩) d.files.length cap) o.name W' ((HFL.out.mono (A' := Out A w.heap.size (g + 1)) (fun k hk' => ⟨hk'.1, .inl hk'.2⟩)).below h.below) (fun k hk' => ⟨HAA.out k (Nat.le_trans h.below.size hk'), .inr (Nat.le_trans hs hk')⟩) HNN.out)
    go_wp2_with fail
    refine (HTK.out _ HC.out hg2).mono ?_
    rintro e w5 ⟨v5, rfl, h5, hb5⟩
    have HP5 := Lib.hid h5
    have HC5 := Lib.hid (HC.out.next hb5)
    have HB5 := Lib.hid (HB.out.below hb5)
    have hg5 : g < w5.heap.size := Nat.lt_of_lt_of_le hg2 hb5.size
    have q5 := HC5.out.op.c0
    clear h5 hb5 HC HB HTK q4 q3 qn HCC HAT HA0
    have HT5 := Lib.hid (show ChT A w d (.slice (some ⟨b, off, none⟩) d.files.length cap) o bv kv g f1 dv (takeF o.name d.files) v5 w5 from ⟨HC5.out, HB5.out, HP5.out, (HDV.out.mono (fun k hk' => ⟨hk'.1, .inl hk'.2⟩)).below HC5.out.below, hg1, hg5⟩)
    clear HB5 HP5 HC5
    have hshape := HDV.out
    obtain ⟨ao, dcap, rfl, hdl, hdc⟩ := hshape
    clear hdc
    have j1 := HT5.out.fl.c1
    have j2 := HT5.out.fl.c2
    have f1c := HT5.out.fl.free 1
    have qn4 := HT5.out.ch.op.c4
    rw [HNQ.out] at qn4
    have hq1 : nn ≤ f1.data.length := HQ0.out
    have hq2 : nn ≤ dcap := Nat.le_trans hq1 hdl
    have HCP := Lib.hid (copyBytes_any (f1.data.take nn) (.slice ao nn dcap) w5 (HT5.out.dat.take hq1).brow (by rw [List.length_take]; have := HL0.out; omega))
    go_wp2_with fail
    refine HCP.out.mono ?_
    rintro e w6 ⟨v6, rfl, h6, hb6⟩
    have HT6 := Lib.hid (HT5.out.next hb6)
    have HO6 := Lib.hid h6
    have HV6 := Lib.hid (show v6.oneCell' = true from (browIn_own (A := fun _ => True) h6 (fun _ _ => trivial)).one)
    have j1 := HT6.out.fl.c1
    have f1c := HT6.out.fl.free 1
    clear HCP h6
    go_wp2_with (with_reducible refine wpList_store_cellV rfl 47 (.tmp 70) (.tmp 69) rfl g 1 v6 (.slice ao f1.data.length dcap) (by kernel_rfl) HV6.out rfl rfl j1 f1c ?_)
    intro w7 hw7
    have HT7 := Lib.hid (HT6.out.set (f' := (⟨f1.name, f1.data.take nn, f1.safe⟩ : Fil)) 1 v6 rfl (browIn_own HO6.out (HT5.out.new HAA.out)) hw7.out)
    clear hw7 j1 f1c HT6 HO6 HT5 hb6 j2 qn4
    have j2 := HT7.out.fl.c2
    have f2 := HT7.out.fl.free 2
    have qn4 := HT7.out.ch.op.c4
    rw [HNQ.out] at qn4
    rcases hlt : decide ((nn : Int) < f1.safe) with _ | _
    · have HE := Lib.hid (show chgD d o = { d with files := putF (⟨f1.name, f1.data.take nn, f1.safe⟩ : Fil) (takeF o.name d.files) } by rw [HE.out, if_neg (by simpa using hlt)])
      have HT := HT7
      have t7 : decide ((nn : Int) < f1.safe) = false := hlt
      clear HT7 f2 hlt
      have HPUT := Lib.hid (put_any (A := Out A w.heap.size (g + 1)) (takeF o.name d.files) _ (⟨f1.name, f1.data.take nn, f1.safe⟩ : Fil) _ _ HT.out.row HT.out.dat (HT.out.new HAA.out) (Nat.le_trans (takeF_le _ _) HNN.out))
      have HBR := Lib.hid HT.out.fl.range
      go_wp2_with (with_reducible refine wpList_load_fl rfl (.tmp 5) rfl g 0 (⟨f1.name, f1.data.take nn, f1.safe⟩ : Fil) _ rfl HBR.out ?_)
      refine HPUT.out.mono ?_
      rintro e w7 ⟨v7, rfl, h7, hb7⟩
      have HP := Lib.hid h7
      have HC := Lib.hid (HT.out.ch.next hb7)
      have hg1 := HT.out.lo
      clear h7 hb7 HPUT HT HBR
      have HV1 := Lib.hid (show v7.oneCell' = true from HP.out.one)
      have k0 := HC.out.dk.c0
      have f0 := HC.out.dk.free 0
      go_wp2_with (with_reducible refine wpList_store_cellV rfl 22 (.tmp 82) (.tmp 81) rfl w.heap.size 0 v7 (.slice (some ⟨b, off, none⟩) d.files.length cap) (by kernel_rfl) HV1.out rfl rfl k0 f0 ?_)
      intro w8 hw8
      have HC8 := Lib.hid (show ChW w { d with files := putF (⟨f1.name, f1.data.take nn, f1.safe⟩ : Fil) (takeF o.name d.files) } v7 o bv kv w8 by rw [hw8.out]; exact HC.out.set 0 v7 rfl)
      have HP8 := Lib.hid (show FilesIn (Out A w.heap.size (g + 1)) w8 v7 ({ d with files := putF (⟨f1.name, f1.data.take nn, f1.safe⟩ : Fil) (takeF o.name d.files) }).files by rw [hw8.out]; exact HP.out.turned (turned_set (b := w.heap.size) (e := (g + 1)) _ ⟨w.heap.size, 0, none⟩ _ (Nat.le_refl _) (by simp only; omega)) out_not)
      obtain ⟨rd, rv, hr8⟩ := HC8.out.res
      have HR8 := Lib.hid hr8
      clear hw8 hr8 k0 f0
      go_wp2_with (first | (with_reducible refine wpList_load_dk rfl (.tmp 2) rfl w.heap.size ({ d with files := putF (⟨f1.name, f1.data.take nn, f1.safe⟩ : Fil) (takeF o.name d.files) }) v7 rfl HC8.out.dk ?_) | (with_reducible refine wpList_store_dk rfl (.tmp 4) (.tmp 83) rfl (w.heap.size + 1 + 1) rd ({ d with files := putF (⟨f1.name, f1.data.take nn, f1.safe⟩ : Fil) (takeF o.name d.files) }) rv v7 rfl rfl HR8.out HV1.out ?_))
      intro w9 hw9
      obtain ⟨hd9, hb9, ht9⟩ := HC8.out.done hw9.out
      have HP9 := Lib.hid ((HP8.out.turned ht9 (fun k hk' => by have := out_not k hk'; omega)).mono (A' := A) (fun k hk' => hk'.1))
      have HD9 := Lib.hid hd9
      have HB9 := Lib.hid hb9
      clear hw9 hd9 hb9 ht9
      go_wp2
      exact bodyPost_ret (v := dkV ({ d with files := putF (⟨f1.name, f1.data.take nn, f1.safe⟩ : Fil) (takeF o.name d.files) }) v7) (results_dk1 rfl _ _ (w.heap.size + 1 + 1) ({ d with files := putF (⟨f1.name, f1.data.take nn, f1.safe⟩ : Fil) (takeF o.name d.files) }) v7 rfl HD9.out) rfl ⟨v7, by rw [HE.out], by rw [HE.out]; exact HP9.out, HB9.out⟩
    · have HE := Lib.hid (show chgD d o = { d with files := putF (⟨f1.name, f1.data.take nn, (nn : Int)⟩ : Fil) (takeF o.name d.files) } by rw [HE.out, if_pos (by simpa using hlt)])
      go_wp2_with (with_reducible refine wpList_store_cellV rfl 3 (.tmp 78) (.tmp 77) rfl g 2 (.int .i64 (nn : Int)) (.int .i64 f1.safe) (by kernel_rfl) rfl rfl rfl j2 f2 ?_)
      intro w8 hw8
      have HT := Lib.hid (HT7.out.set (f' := (⟨f1.name, f1.data.take nn, (nn : Int)⟩ : Fil)) 2 (.int .i64 (nn : Int)) rfl HT7.out.dat hw8.out)
      clear HT7 j2 f2 hw8 qn4
      have HPUT := Lib.hid (put_any (A := Out A w.heap.size (g + 1)) (takeF o.name d.files) _ (⟨f1.name, f1.data.take nn, (nn : Int)⟩ : Fil) _ _ HT.out.row HT.out.dat (HT.out.new HAA.out) (Nat.le_trans (takeF_le _ _) HNN.out))
      have HBR := Lib.hid HT.out.fl.range
      go_wp2_with (with_reducible refine wpList_load_fl rfl (.tmp 5) rfl g 0 (⟨f1.name, f1.data.take nn, (nn : Int)⟩ : Fil) _ rfl HBR.out ?_)
      refine HPUT.out.mono ?_
      rintro e w7 ⟨v7, rfl, h7, hb7⟩
      have HP := Lib.hid h7
      have HC := Lib.hid (HT.out.ch.next hb7)
      have hg1 := HT.out.lo
      clear h7 hb7 HPUT HT HBR
      have HV1 := Lib.hid (show v7.oneCell' = true from HP.out.one)
      have k0 := HC.out.dk.c0
      have f0 := HC.out.dk.free 0
      go_wp2_with (with_reducible refine wpList_store_cellV rfl 22 (.tmp 82) (.tmp 81) rfl w.heap.size 0 v7 (.slice (some ⟨b, off, none⟩) d.files.length cap) (by kernel_rfl) HV1.out rfl rfl k0 f0 ?_)
      intro w8 hw8
      have HC8 := Lib.hid (show ChW w { d with files := putF (⟨f1.name, f1.data.take nn, (nn : Int)⟩ : Fil) (takeF o.name d.files) } v7 o bv kv w8 by rw [hw8.out]; exact HC.out.set 0 v7 rfl)
      have HP8 := Lib.hid (show FilesIn (Out A w.heap.size (g + 1)) w8 v7 ({ d with files := putF (⟨f1.name, f1.data.take nn, (nn : Int)⟩ : Fil) (takeF o.name d.files) }).files by rw [hw8.out]; exact HP.out.turned (turned_set (b := w.heap.size) (e := (g + 1)) _ ⟨w.heap.size, 0, none⟩ _ (Nat.le_refl _) (by simp only; omega)) out_not)
      obtain ⟨rd, rv, hr8⟩ := HC8.out.res
      have HR8 := Lib.hid hr8
      clear hw8 hr8 k0 f0
      go_wp2_with (first | (with_reducible refine wpList_load_dk rfl (.tmp 2) rfl w.heap.size ({ d with files := putF (⟨f1.name, f1.data.take nn, (nn : Int)⟩ : Fil) (takeF o.name d.files) }) v7 rfl HC8.out.dk ?_) | (with_reducible refine wpList_store_dk rfl (.tmp 4) (.tmp 83) rfl (w.heap.size + 1 + 1) rd ({ d with files := putF (⟨f1.name, f1.data.take nn, (nn : Int)⟩ : Fil) (takeF o.name d.files) }) rv v7 rfl rfl HR8.out HV1.out ?_))
      intro w9 hw9
      obtain ⟨hd9, hb9, ht9⟩ := HC8.out.done hw9.out
      have HP9 := Lib.hid ((HP8.out.turned ht9 (fun k hk' => by have := out_not k hk'; omega)).mono (A' := A) (fun k hk' => hk'.1))
      have HD9 := Lib.hid hd9
      have HB9 := Lib.hid hb9
      clear hw9 hd9 hb9 ht9
      go_wp2
      exact bodyPost_ret (v := dkV ({ d with files := putF (⟨f1.name, f1.data.take nn, (nn : Int)⟩ : Fil) (takeF o.name d.files) }) v7) (results_dk1 rfl _ _ (w.heap.size + 1 + 1) ({ d with files := putF (⟨f1.name, f1.data.take nn, (nn : Int)⟩ : Fil) (takeF o.name d.files) }) v7 rfl HD9.out) rfl ⟨v7, by rw [HE.out], by rw [HE.out]; exact HP9.out, HB9.out⟩


end Go.Proofs.YtlobohpbgghleaaGreatDoor
