import Derived.Test.YtlobohpbgghleaaGreatDoorDkBlk
namespace Go.Proofs.YtlobohpbgghleaaGreatDoor
open Go.RowKit

/-! ## the document's disk, walked: a step that is carried out (one theorem for each kind of call) -/

set_option maxRecDepth 100000 in
set_option maxHeartbeats 2000000 in
theorem change_create {A : Nat → Prop} (d : Disk) (fv : Value) (o : DOp) (bv kv : Value) (w : World) (hf : FilesIn A w fv d.files) (hA : ∀ k, w.heap.size ≤ k → A k) (hn : d.files.length ≤ 1000000) (hk : o.k = 0)  :
    Calls Tryz.prog 54 #[dkV d fv, opV o bv kv] w fun e w' => ∃ v, e = .returned (dkV (chgD d o) v) ∧ FilesIn A w' v (chgD d o).files ∧ Below w.heap.size w w' := by
  have e0 : (o.k == 0) = true := by rw [hk]; rfl
  have e1 : (o.k == 1) = false := by rw [hk]; rfl
  have e2 : (o.k == 2) = false := by rw [hk]; rfl
  have e3 : (o.k == 3) = false := by rw [hk]; rfl
  have e4 : (o.k == 4) = false := by rw [hk]; rfl
  have e5 : (o.k == 5) = false := by rw [hk]; rfl
  have HE := Lib.hid (show chgD d o = { d with files := putF ⟨o.name, [], 0⟩ d.files } by unfold chgD; rw [if_pos hk])
  have HW0 := Lib.hid (ChW.start w d fv o bv kv ⟨[], 0, 0, false, 0, 0⟩ (.slice none 0 0))
  have HF0 := Lib.hid ((hf.low.mono (A' := Out A w.heap.size (w.heap.size + 3)) (fun k hk' => ⟨hk'.1, .inl hk'.2⟩)).below HW0.out.below)
  have HPUT := Lib.hid (put_any (A := Out A w.heap.size (w.heap.size + 3)) d.files fv ⟨o.name, [], 0⟩ (.slice none 0 0) _ HF0.out ⟨none, 0, rfl, Nat.le_refl _, fun h => absurd rfl h⟩ (fun k hk' => ⟨hA k (Nat.le_trans HW0.out.below.size hk'), .inr (Nat.le_trans HW0.out.size hk')⟩) hn)
  clear hf hA hn hk HF0
  go_enter Tryz.func54, Tryz.ntmps54
  go_wp2_with fail
  refine HPUT.out.mono ?_
  rintro e w1 ⟨v1, rfl, h1, hb1⟩
  have HP := Lib.hid h1
  have HC := Lib.hid (HW0.out.next hb1)
  clear h1 hb1 HPUT HW0
  have HV1 := Lib.hid (show v1.oneCell' = true from HP.out.one)
  have k0 := HC.out.dk.c0
  have f0 := HC.out.dk.free 0
  go_wp2_with (with_reducible refine wpList_store_cellV rfl 22 (.tmp 16) (.tmp 15) rfl w.heap.size 0 v1 fv (by kernel_rfl) HV1.out rfl rfl k0 f0 ?_)
  intro w8 hw8
  have HC8 := Lib.hid (show ChW w { d with files := putF ⟨o.name, [], 0⟩ d.files } v1 o bv kv w8 by rw [hw8.out]; exact HC.out.set 0 v1 rfl)
  have HP8 := Lib.hid (show FilesIn (Out A w.heap.size (w.heap.size + 3)) w8 v1 ({ d with files := putF ⟨o.name, [], 0⟩ d.files }).files by rw [hw8.out]; exact HP.out.turned (turned_set (b := w.heap.size) (e := (w.heap.size + 3)) _ ⟨w.heap.size, 0, none⟩ _ (Nat.le_refl _) (by simp only; omega)) out_not)
  obtain ⟨rd, rv, hr8⟩ := HC8.out.res
  have HR8 := Lib.hid hr8
  clear hw8 hr8 k0 f0
  go_wp2_with (first | (with_reducible refine wpList_load_dk rfl (.tmp 2) rfl w.heap.size ({ d with files := putF ⟨o.name, [], 0⟩ d.files }) v1 rfl HC8.out.dk ?_) | (with_reducible refine wpList_store_dk rfl (.tmp 4) (.tmp 17) rfl (w.heap.size + 1 + 1) rd ({ d with files := putF ⟨o.name, [], 0⟩ d.files }) rv v1 rfl rfl HR8.out HV1.out ?_))
  intro w9 hw9
  obtain ⟨hd9, hb9, ht9⟩ := HC8.out.done hw9.out
  have HP9 := Lib.hid ((HP8.out.turned ht9 (fun k hk' => by have := out_not k hk'; omega)).mono (A' := A) (fun k hk' => hk'.1))
  have HD9 := Lib.hid hd9
  have HB9 := Lib.hid hb9
  clear hw9 hd9 hb9 ht9
  go_wp2
  exact bodyPost_ret (v := dkV ({ d with files := putF ⟨o.name, [], 0⟩ d.files }) v1) (results_dk1 rfl _ _ (w.heap.size + 1 + 1) ({ d with files := putF ⟨o.name, [], 0⟩ d.files }) v1 rfl HD9.out) rfl ⟨v1, by rw [HE.out], by rw [HE.out]; exact HP9.out, HB9.out⟩

end Go.Proofs.YtlobohpbgghleaaGreatDoor

namespace Go.Proofs.YtlobohpbgghleaaGreatDoor
open Go.RowKit

/-! ## the document's disk, walked: a step that is carried out (one theorem for each kind of call) -/

set_option maxRecDepth 100000 in
set_option maxHeartbeats 4000000 in
theorem change_append {A : Nat → Prop} (d : Disk) (fv : Value) (o : DOp) (bv kv : Value) (w : World) (hf : FilesIn A w fv d.files) (hA : ∀ k, w.heap.size ≤ k → A k) (hn : d.files.length ≤ 1000000) (hb : BRowIn A w bv o.b) (hk : o.k = 1)  (f : Fil) (ha : atF d.files o.name = some f) (hlen : f.data.length + o.b.length ≤ 140737488355328) :
    Calls Tryz.prog 54 #[dkV d fv, opV o bv kv] w fun e w' => ∃ v, e = .returned (dkV (chgD d o) v) ∧ FilesIn A w' v (chgD d o).files ∧ Below w.heap.size w w' := by
  have e0 : (o.k == 0) = false := by rw [hk]; rfl
  have e1 : (o.k == 1) = true := by rw [hk]; rfl
  have e2 : (o.k == 2) = false := by rw [hk]; rfl
  have e3 : (o.k == 3) = false := by rw [hk]; rfl
  have e4 : (o.k == 4) = false := by rw [hk]; rfl
  have e5 : (o.k == 5) = false := by rw [hk]; rfl
  have HEQ : chgD d o = { d with files := putF (⟨f.name, f.data ++ o.b, f.safe⟩ : Fil) (takeF o.name d.files) } := by unfold chgD; rw [if_neg (by omega), ha]; simp only [if_neg (show ¬ o.k = 4 by omega)]; rw [if_neg (show ¬ o.k = 3 by omega)]; unfold chgF; rw [if_pos hk]
  have HE := Lib.hid HEQ
  have HQ0 := Lib.hid hlen
  have HBB := Lib.hid hb
  obtain ⟨ob, bcap, rfl, hbl1, hbc⟩ := hb
  clear hlen hbc
  have HA0 := Lib.hid ha
  have HFL := Lib.hid hf.low
  obtain ⟨oa, cap, rfl, hl1, hl2, hcc⟩ := hf.low.shape
  have HCC := Lib.hid hcc
  have HW0 := Lib.hid (ChW.start w d (.slice oa d.files.length cap) o (.slice ob o.b.length bcap) kv ⟨[], 0, 0, false, 0, 0⟩ (.slice none 0 0))
  have HAT := Lib.hid (fun W (h : ChW w d (.slice oa d.files.length cap) o (.slice ob o.b.length bcap) kv W) => at_any (A := fun k => A k ∧ k < w.heap.size) d (.slice oa d.files.length cap) o.name W (HFL.out.below h.below))
  have HAA := Lib.hid hA
  have HNN := Lib.hid hn
  clear hf hA hcc hk HEQ ha hn
  go_enter Tryz.func54, Tryz.ntmps54
  go_wp2_with fail
  refine wp_region_held_drew (S := fun w' => ChW w d (.slice oa d.files.length cap) o (.slice ob o.b.length bcap) kv w') (by kernel_rfl) (HW0.out.next (below_drewN' _ 1)) (fun hHeld => ?_)
  refine tk 0 rfl ?v_119 ?hy_119 ?r_119
  case hy_119 => intro w hSw; have k0 := hSw.dk.c0; have k1 := hSw.op.c1; go_simp; try with_reducible rfl
  simp only [pA, pB, pC, pD]
  refine tk 1 rfl ?v_120 ?hy_120 ?r_120
  case hy_120 => intro w hSw; have k0 := hSw.dk.c0; have k1 := hSw.op.c1; go_simp; try with_reducible rfl
  simp only [pA, pB, pC, pD]
  refine tk 3 rfl ?v_121 ?hy_121 ?r_121
  case hy_121 => intro w hSw; have k0 := hSw.dk.c0; have k1 := hSw.op.c1; go_simp; try with_reducible rfl
  simp only [pA, pB, pC, pD]
  refine tk 4 rfl ?v_122 ?hy_122 ?r_122
  case hy_122 => intro w hSw; have k0 := hSw.dk.c0; have k1 := hSw.op.c1; go_simp; try with_reducible rfl
  simp only [pA, pB, pC, pD]
  refine tkl 2 w.heap.size 0 (dkCs d (.slice oa d.files.length cap)).toList rfl rfl (fun w' h j v hv => by rw [Nat.zero_add, h.dk.cell]; simpa using hv) Tryz.underlying51 rfl (by rw [dkInfo]; rfl) ?_
  simp only [pA, pB, pC, pD]
  generalize World.drew _ = Wd at *
  refine wpAnyH_ready (rs := [5, 8]) (by kernel_rfl) (by simp) ?_
  refine AllReadyH.cons rfl (fun K hK => ?_) (AllReadyH.cons rfl (fun K hK => ?_) AllReadyH.nil)
  · go_simp
    go_at_call 50
    refine (HAT.out _ hHeld).mono ?_
    rintro e w1 ⟨z, rfl, hz, hb1⟩
    have HC1 := Lib.hid (hHeld.next hb1)
    clear hb1 HW0
    rcases hz with ⟨rfl, hbad⟩ | ⟨i, f1, rfl, hi, ha'⟩
    · exfalso; rw [HA0.out] at hbad; cases hbad
    have hff : f1 = f := by have h := HA0.out; rw [ha'] at h; exact Option.some.inj h
    subst hff
    obtain ⟨b, off, rfl, hbA, dv, hr, hdv⟩ := HCC.out i f1 hi
    have q1 : (i : Int) < (d.files.length : Int) := by have := (List.getElem?_eq_some_iff.1 hi).1; omega
    have HR := Lib.hid (fun W (hW : Below w.heap.size w W) => range_later hr hW)
    have HDV := Lib.hid hdv
    clear hi ha' hr hdv hbA
    go_wp2_with fail
    refine hK.out _ _ HC1.out (fun hHeld => ?_)
    clear hK K
    refine tk 6 rfl ?v_123 ?hy_123 ?r_123
    case hy_123 => intro w hSw; go_simp; try with_reducible rfl
    simp only [pA, pB, pC, pD]
    refine tkl 7 b (off + i * 3) (flCs f1 dv).toList rfl rfl (fun w' h => HR.out w' h.below) Tryz.underlying49 rfl flInfo ?_
    simp only [pA, pB, pC, pD]
    have HCA := Lib.hid (HC1.out.next (below_alloc w1 (.cells #[.string ⟨#[]⟩, .slice none 0 0, .int .i64 0] 49)))
    have HFZ := Lib.hid (show FlBlk (w1.alloc (.cells #[.string ⟨#[]⟩, .slice none 0 0, .int .i64 0] 49)) w1.heap.size ⟨[], [], 0⟩ (.slice none 0 0) from flBlk_alloc w1 ⟨[], [], 0⟩ (.slice none 0 0))
    have hg1 := HC1.out.size
    have hg2 : w1.heap.size < (w1.alloc (.cells #[.string ⟨#[]⟩, .slice none 0 0, .int .i64 0] 49)).heap.size := by simp
    refine wpAnyH_ready (rs := [8]) (by kernel_rfl) (by simp) ?_
    refine AllReadyH.cons rfl (fun K hK => ?_) AllReadyH.nil
    go_simp
    refine hK.out _ _ HCA.out (fun hHeld => ?_)
    clear hK K HC1
    generalize w1.heap.size = g at *
    generalize (w1.alloc (.cells #[.string ⟨#[]⟩, .slice none 0 0, .int .i64 0] 49)) = W0 at *
    refine wpAnyH_ready (rs := [9]) (by kernel_rfl) (by simp) ?_
    refine AllReadyH.cons rfl (fun K hK => ?_) AllReadyH.nil
    rw [if_pos (by kernel_rfl)]
    refine wp_store_row 49 (.tmp 5) (.tmp 25) rfl g (flCs f1 dv) rfl rfl 49 (flCs ⟨[], [], 0⟩ (.slice none 0 0)) HFZ.out flInfo rfl (flCs_all f1 dv HDV.out.one) ?_
    have HCS := Lib.hid (HCA.out.keep (show Below (w.heap.size + 1 + 1 + 1) W0 (W0.setRow g (flCs f1 dv)) from below_row (Below.refl _ _) hg1 _) (Nat.le_refl _))
    have HFS := Lib.hid (show FlBlk (W0.setRow g (flCs f1 dv)) g f1 dv from setRow_heap W0 g _ _ _ _ HFZ.out)
    have hg2 : g < (W0.setRow g (flCs f1 dv)).heap.size := by simpa using hg2
    refine hK.out _ _ HCS.out (fun _ => ?_)
    clear hK K HCA HFZ
    generalize W0.setRow g (flCs f1 dv) = W at *
    refine wpAnyH_done (by kernel_rfl) ?_ _
    have HC := HCS
    have HB := HFS
    have q4 := HC.out.op.c0
    have qn := HC.out.op.c1
    have q3 := HC.out.dk.c0
    -- the files without it
    have HTK := Lib.hid (fun W' (h : ChW w d (.slice (some ⟨b, off, none⟩) d.files.length cap) o (.slice ob o.b.length bcap) kv W') (hs : g + 1 ≤ W'.heap.size) => take_any (A := Out A w.heap.size (g + 1)) d.files (.slice (some ⟨b, off, none⟩) d.files.length cap) o.name W' ((HFL.out.mono (A' := Out A w.heap.size (g + 1)) (fun k hk' => ⟨hk'.1, .inl hk'.2⟩)).below h.below) (fun k hk' => ⟨HAA.out k (Nat.le_trans h.below.size hk'), .inr (Nat.le_trans hs hk')⟩) HNN.out)
    go_wp2_with fail
    refine (HTK.out _ HC.out hg2).mono ?_
    rintro e w5 ⟨v5, rfl, h5, hb5⟩
    have HP5 := Lib.hid h5
    have HC5 := Lib.hid (HC.out.next hb5)
    have HB5 := Lib.hid (HB.out.below hb5)
    have hg5 : g < w5.heap.size := Nat.lt_of_lt_of_le hg2 hb5.size
    have q5 := HC5.out.op.c0
    clear h5 hb5 HC HB HTK q4 q3 qn HCC HAT HA0
    have HT5 := Lib.hid (show ChT A w d (.slice (some ⟨b, off, none⟩) d.files.length cap) o (.slice ob o.b.length bcap) kv g f1 dv (takeF o.name d.files) v5 w5 from ⟨HC5.out, HB5.out, HP5.out, (HDV.out.mono (fun k hk' => ⟨hk'.1, .inl hk'.2⟩)).below HC5.out.below, hg1, hg5⟩)
    clear HB5 HP5 HC5
    have hshape := HDV.out
    obtain ⟨ao, dcap, rfl, hdl, hdc⟩ := hshape
    clear hdc
    have HTd := Lib.hid (HT5.out.next (show Below w5.heap.size w5 w5.drew from below_drewN' w5 1))
    have HCd := Lib.hid HTd.out.ch
    have q4 := HT5.out.ch.op.c0
    go_wp2_with fail
    refine wp_region_held_drew (S := fun w' => ChW w d (.slice (some ⟨b, off, none⟩) d.files.length cap) o (.slice ob o.b.length bcap) kv w') (by kernel_rfl) HCd.out (fun hHeld => ?_)
    clear HCd HT5 q4 q5
    refine tk 0 rfl ?v_124 ?hy_124 ?r_124
    case hy_124 => intro w hSw; have k3 := hSw.op.c3; go_simp; try with_reducible rfl
    simp only [pA, pB, pC, pD]
    refine tk 3 rfl ?v_125 ?hy_125 ?r_125
    case hy_125 => intro w hSw; have k3 := hSw.op.c3; go_simp; try with_reducible rfl
    simp only [pA, pB, pC, pD]
    refine tk 4 rfl ?v_126 ?hy_126 ?r_126
    case hy_126 => intro w hSw; have k3 := hSw.op.c3; go_simp; try with_reducible rfl
    simp only [pA, pB, pC, pD]
    generalize World.drew w5 = wd at *
    have j1 := HTd.out.fl.c1
    refine wpAnyH_ready (rs := [1]) (by kernel_rfl) (by simp) ?_
    refine AllReadyH.cons rfl (fun K hK => ?_) AllReadyH.nil
    go_simp
    refine hK.out _ _ HTd.out.ch (fun hHeld => ?_)
    clear hK K
    have HCP := Lib.hid (copyBytes_any f1.data _ wd HTd.out.dat.brow (Nat.le_trans (Nat.le_add_right _ _) HQ0.out))
    refine wpAnyH_ready (rs := [2]) (by kernel_rfl) (by simp) ?_
    refine AllReadyH.cons rfl (fun K hK => ?_) AllReadyH.nil
    go_simp
    go_at_call 37
    refine HCP.out.mono ?_
    rintro e w6 ⟨v6, rfl, h6, hb6⟩
    have HO6 := Lib.hid (show OwnB w6 wd.heap.size v6 f1.data from h6)
    have HT6 := Lib.hid (HTd.out.next hb6)
    have HS6 := Lib.hid hb6.size
    have HB6 := Lib.hid hb6
    have HBV := Lib.hid (HBB.out.brow)
    have HBW := Lib.hid (HBB.out.below HT6.out.ch.below)
    clear h6 hb6 HCP j1
    go_wp2_with fail
    refine hK.out _ _ HT6.out.ch (fun hHeld => ?_)
    clear hK K
    refine wpAnyH_ready (rs := [5]) (by kernel_rfl) (by simp) ?_
    refine AllReadyH.cons rfl (fun K hK => ?_) AllReadyH.nil
    rw [if_pos (by kernel_rfl)]
    refine wp_appB (.tmp 37) (.tmp 39) rfl rfl rfl HO6.out HS6.out HBW.out.brow HQ0.out ?_
    intro v7 w7 ho7 hb7
    have HT7 := Lib.hid (HTd.out.next (HB6.out.trans hb7))
    have HO7 := Lib.hid ho7
    have HD7 := Lib.hid (browIn_own (A := Out A w.heap.size (g + 1)) ho7 (HTd.out.new HAA.out))
    clear ho7 hb7
    refine hK.out _ _ HT7.out.ch (fun hHeld => ?_)
    clear hK K
    refine tk 6 rfl ?v_127 ?hy_127 ?r_127
    case hy_127 => intro w hSw; go_simp; try with_reducible rfl
    simp only [pA]
    refine wpAnyH_ready (rs := [7]) (by kernel_rfl) (by simp) ?_
    refine AllReadyH.cons rfl (fun K hK => ?_) AllReadyH.nil
    rw [if_pos (by kernel_rfl)]
    have j1 := HT7.out.fl.c1
    have f1c := HT7.out.fl.free 1
    refine wp_store_cell 47 (.tmp 41) (.tmp 40) rfl g 1 v7 (.slice ao f1.data.length dcap) (by kernel_rfl) HD7.out.one rfl rfl j1 f1c ?_
    have HT := Lib.hid (HT7.out.set (f' := (⟨f1.name, f1.data ++ o.b, f1.safe⟩ : Fil)) 1 v7 rfl HD7.out rfl)
    clear j1 f1c HT7 HT6 HTd
    refine hK.out _ _ HT.out.ch (fun hHeld => ?_)
    clear hK K hHeld
    generalize World.setCell _ _ _ = W6 at *
    refine wpAnyH_done (by kernel_rfl) ?_ _
    have HPUT := Lib.hid (put_any (A := Out A w.heap.size (g + 1)) (takeF o.name d.files) _ (⟨f1.name, f1.data ++ o.b, f1.safe⟩ : Fil) _ _ HT.out.row HT.out.dat (HT.out.new HAA.out) (Nat.le_trans (takeF_le _ _) HNN.out))
    have HBR := Lib.hid HT.out.fl.range
    go_wp2_with (with_reducible refine wpList_load_fl rfl (.tmp 5) rfl g 0 (⟨f1.name, f1.data ++ o.b, f1.safe⟩ : Fil) _ rfl HBR.out ?_)
    refine HPUT.out.mono ?_
    rintro e w7 ⟨v7, rfl, h7, hb7⟩
    have HP := Lib.hid h7
    have HC := Lib.hid (HT.out.ch.next hb7)
    have hg1 := HT.out.lo
    clear h7 hb7 HPUT HT HBR
    have HV1 := Lib.hid (show v7.oneCell' = true from HP.out.one)
    have k0 := HC.out.dk.c0
    have f0 := HC.out.dk.free 0
    go_wp2_with (with_reducible refine wpList_store_cellV rfl 22 (.tmp 82) (.tmp 81) rfl w.heap.size 0 v7 (.slice (some ⟨b, off, none⟩) d.files.length cap) (by kernel_rfl) HV1.out rfl rfl k0 f0 ?_)
    intro w8 hw8
    have HC8 := Lib.hid (show ChW w { d with files := putF (⟨f1.name, f1.data ++ o.b, f1.safe⟩ : Fil) (takeF o.name d.files) } v7 o (.slice ob o.b.length bcap) kv w8 by rw [hw8.out]; exact HC.out.set 0 v7 rfl)
    have HP8 := Lib.hid (show FilesIn (Out A w.heap.size (g + 1)) w8 v7 ({ d with files := putF (⟨f1.name, f1.data ++ o.b, f1.safe⟩ : Fil) (takeF o.name d.files) }).files by rw [hw8.out]; exact HP.out.turned (turned_set (b := w.heap.size) (e := (g + 1)) _ ⟨w.heap.size, 0, none⟩ _ (Nat.le_refl _) (by simp only; omega)) out_not)
    obtain ⟨rd, rv, hr8⟩ := HC8.out.res
    have HR8 := Lib.hid hr8
    clear hw8 hr8 k0 f0
    go_wp2_with (first | (with_reducible refine wpList_load_dk rfl (.tmp 2) rfl w.heap.size ({ d with files := putF (⟨f1.name, f1.data ++ o.b, f1.safe⟩ : Fil) (takeF o.name d.files) }) v7 rfl HC8.out.dk ?_) | (with_reducible refine wpList_store_dk rfl (.tmp 4) (.tmp 83) rfl (w.heap.size + 1 + 1) rd ({ d with files := putF (⟨f1.name, f1.data ++ o.b, f1.safe⟩ : Fil) (takeF o.name d.files) }) rv v7 rfl rfl HR8.out HV1.out ?_))
    intro w9 hw9
    obtain ⟨hd9, hb9, ht9⟩ := HC8.out.done hw9.out
    have HP9 := Lib.hid ((HP8.out.turned ht9 (fun k hk' => by have := out_not k hk'; omega)).mono (A' := A) (fun k hk' => hk'.1))
    have HD9 := Lib.hid hd9
    have HB9 := Lib.hid hb9
    clear hw9 hd9 hb9 ht9
    go_wp2
    exact bodyPost_ret (v := dkV ({ d with files := putF (⟨f1.name, f1.data ++ o.b, f1.safe⟩ : Fil) (takeF o.name d.files) }) v7) (results_dk1 rfl _ _ (w.heap.size + 1 + 1) ({ d with files := putF (⟨f1.name, f1.data ++ o.b, f1.safe⟩ : Fil) (takeF o.name d.files) }) v7 rfl HD9.out) rfl ⟨v7, by rw [HE.out], by rw [HE.out]; exact HP9.out, HB9.out⟩
  · have HCA := Lib.hid (hHeld.next (below_alloc Wd (.cells #[.string ⟨#[]⟩, .slice none 0 0, .int .i64 0] 49)))
    have HFZ := Lib.hid (show FlBlk (Wd.alloc (.cells #[.string ⟨#[]⟩, .slice none 0 0, .int .i64 0] 49)) Wd.heap.size ⟨[], [], 0⟩ (.slice none 0 0) from flBlk_alloc Wd ⟨[], [], 0⟩ (.slice none 0 0))
    have hg1 := hHeld.size
    have hg2 : Wd.heap.size < (Wd.alloc (.cells #[.string ⟨#[]⟩, .slice none 0 0, .int .i64 0] 49)).heap.size := by simp
    clear HW0
    go_simp
    refine hK.out _ _ HCA.out (fun hHeld => ?_)
    clear hK K
    generalize Wd.heap.size = g at *
    generalize (Wd.alloc (.cells #[.string ⟨#[]⟩, .slice none 0 0, .int .i64 0] 49)) = Wz at *
    refine wpAnyH_ready (rs := [5]) (by kernel_rfl) (by simp) ?_
    refine AllReadyH.cons rfl (fun K hK => ?_) AllReadyH.nil
    go_simp
    go_at_call 50
    refine (HAT.out _ hHeld).mono ?_
    rintro e W0 ⟨z, rfl, hz, hb1⟩
    have HCA := Lib.hid (hHeld.next hb1)
    have HFZ := Lib.hid (HFZ.out.below hb1)
    have hg2 : g < W0.heap.size := Nat.lt_of_lt_of_le hg2 hb1.size
    clear hb1
    rcases hz with ⟨rfl, hbad⟩ | ⟨i, f1, rfl, hi, ha'⟩
    · exfalso; rw [HA0.out] at hbad; cases hbad
    have hff : f1 = f := by have h := HA0.out; rw [ha'] at h; exact Option.some.inj h
    subst hff
    obtain ⟨b, off, rfl, hbA, dv, hr, hdv⟩ := HCC.out i f1 hi
    have q1 : (i : Int) < (d.files.length : Int) := by have := (List.getElem?_eq_some_iff.1 hi).1; omega
    have HR := Lib.hid (fun W (hW : Below w.heap.size w W) => range_later hr hW)
    have HDV := Lib.hid hdv
    clear hi ha' hr hdv hbA
    go_wp2_with fail
    refine hK.out _ _ HCA.out (fun hHeld => ?_)
    clear hK K
    refine tk 6 rfl ?v_128 ?hy_128 ?r_128
    case hy_128 => intro w hSw; go_simp; try with_reducible rfl
    simp only [pA, pB, pC, pD]
    refine tkl 7 b (off + i * 3) (flCs f1 dv).toList rfl rfl (fun w' h => HR.out w' h.below) Tryz.underlying49 rfl flInfo ?_
    simp only [pA, pB, pC, pD]
    refine wpAnyH_ready (rs := [9]) (by kernel_rfl) (by simp) ?_
    refine AllReadyH.cons rfl (fun K hK => ?_) AllReadyH.nil
    rw [if_pos (by kernel_rfl)]
    refine wp_store_row 49 (.tmp 5) (.tmp 25) rfl g (flCs f1 dv) rfl rfl 49 (flCs ⟨[], [], 0⟩ (.slice none 0 0)) HFZ.out flInfo rfl (flCs_all f1 dv HDV.out.one) ?_
    have HCS := Lib.hid (HCA.out.keep (show Below (w.heap.size + 1 + 1 + 1) W0 (W0.setRow g (flCs f1 dv)) from below_row (Below.refl _ _) hg1 _) (Nat.le_refl _))
    have HFS := Lib.hid (show FlBlk (W0.setRow g (flCs f1 dv)) g f1 dv from setRow_heap W0 g _ _ _ _ HFZ.out)
    have hg2 : g < (W0.setRow g (flCs f1 dv)).heap.size := by simpa using hg2
    refine hK.out _ _ HCS.out (fun _ => ?_)
    clear hK K HCA HFZ
    generalize W0.setRow g (flCs f1 dv) = W at *
    refine wpAnyH_done (by kernel_rfl) ?_ _
    have HC := HCS
    have HB := HFS
    have q4 := HC.out.op.c0
    have qn := HC.out.op.c1
    have q3 := HC.out.dk.c0
    -- the files without it
    have HTK := Lib.hid (fun W' (h : ChW w d (.slice (some ⟨b, off, none⟩) d.files.length cap) o (.slice ob o.b.length bcap) kv W') (hs : g + 1 ≤ W'.heap.size) => take_any (A := Out A w.heap.size (g + 1)) d.files (.slice (some ⟨b, off, none⟩) d.files.length cap) o.name W' ((HFL.out.mono (A' := Out A w.heap.size (g + 1)) (fun k hk' => ⟨hk'.1, .inl hk'.2⟩)).below h.below) (fun k hk' => ⟨HAA.out k (Nat.le_trans h.below.size hk'), .inr (Nat.le_trans hs hk')⟩) HNN.out)
    go_wp2_with fail
    refine (HTK.out _ HC.out hg2).mono ?_
    rintro e w5 ⟨v5, rfl, h5, hb5⟩
    have HP5 := Lib.hid h5
    have HC5 := Lib.hid (HC.out.next hb5)
    have HB5 := Lib.hid (HB.out.below hb5)
    have hg5 : g < w5.heap.size := Nat.lt_of_lt_of_le hg2 hb5.size
    have q5 := HC5.out.op.c0
    clear h5 hb5 HC HB HTK q4 q3 qn HCC HAT HA0
    have HT5 := Lib.hid (show ChT A w d (.slice (some ⟨b, off, none⟩) d.files.length cap) o (.slice ob o.b.length bcap) kv g f1 dv (takeF o.name d.files) v5 w5 from ⟨HC5.out, HB5.out, HP5.out, (HDV.out.mono (fun k hk' => ⟨hk'.1, .inl hk'.2⟩)).below HC5.out.below, hg1, hg5⟩)
    clear HB5 HP5 HC5
    have hshape := HDV.out
    obtain ⟨ao, dcap, rfl, hdl, hdc⟩ := hshape
    clear hdc
    have HTd := Lib.hid (HT5.out.next (show Below w5.heap.size w5 w5.drew from below_drewN' w5 1))
    have HCd := Lib.hid HTd.out.ch
    have q4 := HT5.out.ch.op.c0
    go_wp2_with fail
    refine wp_region_held_drew (S := fun w' => ChW w d (.slice (some ⟨b, off, none⟩) d.files.length cap) o (.slice ob o.b.length bcap) kv w') (by kernel_rfl) HCd.out (fun hHeld => ?_)
    clear HCd HT5 q4 q5
    refine tk 0 rfl ?v_129 ?hy_129 ?r_129
    case hy_129 => intro w hSw; have k3 := hSw.op.c3; go_simp; try with_reducible rfl
    simp only [pA, pB, pC, pD]
    refine tk 3 rfl ?v_130 ?hy_130 ?r_130
    case hy_130 => intro w hSw; have k3 := hSw.op.c3; go_simp; try with_reducible rfl
    simp only [pA, pB, pC, pD]
    refine tk 4 rfl ?v_131 ?hy_131 ?r_131
    case hy_131 => intro w hSw; have k3 := hSw.op.c3; go_simp; try with_reducible rfl
    simp only [pA, pB, pC, pD]
    generalize World.drew w5 = wd at *
    have j1 := HTd.out.fl.c1
    refine wpAnyH_ready (rs := [1]) (by kernel_rfl) (by simp) ?_
    refine AllReadyH.cons rfl (fun K hK => ?_) AllReadyH.nil
    go_simp
    refine hK.out _ _ HTd.out.ch (fun hHeld => ?_)
    clear hK K
    have HCP := Lib.hid (copyBytes_any f1.data _ wd HTd.out.dat.brow (Nat.le_trans (Nat.le_add_right _ _) HQ0.out))
    refine wpAnyH_ready (rs := [2]) (by kernel_rfl) (by simp) ?_
    refine AllReadyH.cons rfl (fun K hK => ?_) AllReadyH.nil
    go_simp
    go_at_call 37
    refine HCP.out.mono ?_
    rintro e w6 ⟨v6, rfl, h6, hb6⟩
    have HO6 := Lib.hid (show OwnB w6 wd.heap.size v6 f1.data from h6)
    have HT6 := Lib.hid (HTd.out.next hb6)
    have HS6 := Lib.hid hb6.size
    have HB6 := Lib.hid hb6
    have HBV := Lib.hid (HBB.out.brow)
    have HBW := Lib.hid (HBB.out.below HT6.out.ch.below)
    clear h6 hb6 HCP j1
    go_wp2_with fail
    refine hK.out _ _ HT6.out.ch (fun hHeld => ?_)
    clear hK K
    refine wpAnyH_ready (rs := [5]) (by kernel_rfl) (by simp) ?_
    refine AllReadyH.cons rfl (fun K hK => ?_) AllReadyH.nil
    rw [if_pos (by kernel_rfl)]
    refine wp_appB (.tmp 37) (.tmp 39) rfl rfl rfl HO6.out HS6.out HBW.out.brow HQ0.out ?_
    intro v7 w7 ho7 hb7
    have HT7 := Lib.hid (HTd.out.next (HB6.out.trans hb7))
    have HO7 := Lib.hid ho7
    have HD7 := Lib.hid (browIn_own (A := Out A w.heap.size (g + 1)) ho7 (HTd.out.new HAA.out))
    clear ho7 hb7
    refine hK.out _ _ HT7.out.ch (fun hHeld => ?_)
    clear hK K
    refine tk 6 rfl ?v_132 ?hy_132 ?r_132
    case hy_132 => intro w hSw; go_simp; try with_reducible rfl
    simp only [pA]
    refine wpAnyH_ready (rs := [7]) (by kernel_rfl) (by simp) ?_
    refine AllReadyH.cons rfl (fun K hK => ?_) AllReadyH.nil
    rw [if_pos (by kernel_rfl)]
    have j1 := HT7.out.fl.c1
    have f1c := HT7.out.fl.free 1
    refine wp_store_cell 47 (.tmp 41) (.tmp 40) rfl g 1 v7 (.slice ao f1.data.length dcap) (by kernel_rfl) HD7.out.one rfl rfl j1 f1c ?_
    have HT := Lib.hid (HT7.out.set (f' := (⟨f1.name, f1.data ++ o.b, f1.safe⟩ : Fil)) 1 v7 rfl HD7.out rfl)
    clear j1 f1c HT7 HT6 HTd
    refine hK.out _ _ HT.out.ch (fun hHeld => ?_)
    clear hK K hHeld
    generalize World.setCell _ _ _ = W6 at *
    refine wpAnyH_done (by kernel_rfl) ?_ _
    have HPUT := Lib.hid (put_any (A := Out A w.heap.size (g + 1)) (takeF o.name d.files) _ (⟨f1.name, f1.data ++ o.b, f1.safe⟩ : Fil) _ _ HT.out.row HT.out.dat (HT.out.new HAA.out) (Nat.le_trans (takeF_le _ _) HNN.out))
    have HBR := Lib.hid HT.out.fl.range
    go_wp2_with (with_reducible refine wpList_load_fl rfl (.tmp 5) rfl g 0 (⟨f1.name, f1.data ++ o.b, f1.safe⟩ : Fil) _ rfl HBR.out ?_)
    refine HPUT.out.mono ?_
    rintro e w7 ⟨v7, rfl, h7, hb7⟩
    have HP := Lib.hid h7
    have HC := Lib.hid (HT.out.ch.next hb7)
    have hg1 := HT.out.lo
    clear h7 hb7 HPUT HT HBR
    have HV1 := Lib.hid (show v7.oneCell' = true from HP.out.one)
    have k0 := HC.out.dk.c0
    have f0 := HC.out.dk.free 0
    go_wp2_with (with_reducible refine wpList_store_cellV rfl 22 (.tmp 82) (.tmp 81) rfl w.heap.size 0 v7 (.slice (some ⟨b, off, none⟩) d.files.length cap) (by kernel_rfl) HV1.out rfl rfl k0 f0 ?_)
    intro w8 hw8
    have HC8 := Lib.hid (show ChW w { d with files := putF (⟨f1.name, f1.data ++ o.b, f1.safe⟩ : Fil) (takeF o.name d.files) } v7 o (.slice ob o.b.length bcap) kv w8 by rw [hw8.out]; exact HC.out.set 0 v7 rfl)
    have HP8 := Lib.hid (show FilesIn (Out A w.heap.size (g + 1)) w8 v7 ({ d with files := putF (⟨f1.name, f1.data ++ o.b, f1.safe⟩ : Fil) (takeF o.name d.files) }).files by rw [hw8.out]; exact HP.out.turned (turned_set (b := w.heap.size) (e := (g + 1)) _ ⟨w.heap.size, 0, none⟩ _ (Nat.le_refl _) (by simp only; omega)) out_not)
    obtain ⟨rd, rv, hr8⟩ := HC8.out.res
    have HR8 := Lib.hid hr8
    clear hw8 hr8 k0 f0
    go_wp2_with (first | (with_reducible refine wpList_load_dk rfl (.tmp 2) rfl w.heap.size ({ d with files := putF (⟨f1.name, f1.data ++ o.b, f1.safe⟩ : Fil) (takeF o.name d.files) }) v7 rfl HC8.out.dk ?_) | (with_reducible refine wpList_store_dk rfl (.tmp 4) (.tmp 83) rfl (w.heap.size + 1 + 1) rd ({ d with files := putF (⟨f1.name, f1.data ++ o.b, f1.safe⟩ : Fil) (takeF o.name d.files) }) rv v7 rfl rfl HR8.out HV1.out ?_))
    intro w9 hw9
    obtain ⟨hd9, hb9, ht9⟩ := HC8.out.done hw9.out
    have HP9 := Lib.hid ((HP8.out.turned ht9 (fun k hk' => by have := out_not k hk'; omega)).mono (A' := A) (fun k hk' => hk'.1))
    have HD9 := Lib.hid hd9
    have HB9 := Lib.hid hb9
    clear hw9 hd9 hb9 ht9
    go_wp2
    exact bodyPost_ret (v := dkV ({ d with files := putF (⟨f1.name, f1.data ++ o.b, f1.safe⟩ : Fil) (takeF o.name d.files) }) v7) (results_dk1 rfl _ _ (w.heap.size + 1 + 1) ({ d with files := putF (⟨f1.name, f1.data ++ o.b, f1.safe⟩ : Fil) (takeF o.name d.files) }) v7 rfl HD9.out) rfl ⟨v7, by rw [HE.out], by rw [HE.out]; exact HP9.out, HB9.out⟩

end Go.Proofs.YtlobohpbgghleaaGreatDoor

namespace Go.Proofs.YtlobohpbgghleaaGreatDoor
open Go.RowKit

/-! ## the document's disk, walked: a step that is carried out (one theorem for each kind of call) -/

set_option maxRecDepth 100000 in
set_option maxHeartbeats 4000000 in
theorem change_sync {A : Nat → Prop} (d : Disk) (fv : Value) (o : DOp) (bv kv : Value) (w : World) (hf : FilesIn A w fv d.files) (hA : ∀ k, w.heap.size ≤ k → A k) (hn : d.files.length ≤ 1000000) (hk : o.k = 2)  (f : Fil) (ha : atF d.files o.name = some f) :
    Calls Tryz.prog 54 #[dkV d fv, opV o bv kv] w fun e w' => ∃ v, e = .returned (dkV (chgD d o) v) ∧ FilesIn A w' v (chgD d o).files ∧ Below w.heap.size w w' := by
  have e0 : (o.k == 0) = false := by rw [hk]; rfl
  have e1 : (o.k == 1) = false := by rw [hk]; rfl
  have e2 : (o.k == 2) = true := by rw [hk]; rfl
  have e3 : (o.k == 3) = false := by rw [hk]; rfl
  have e4 : (o.k == 4) = false := by rw [hk]; rfl
  have e5 : (o.k == 5) = false := by rw [hk]; rfl
  have HEQ : chgD d o = { d with files := putF (⟨f.name, f.data, (f.data.length : Int)⟩ : Fil) (takeF o.name d.files) } := by unfold chgD; rw [if_neg (by omega), ha]; simp only [if_neg (show ¬ o.k = 4 by omega)]; rw [if_neg (show ¬ o.k = 3 by omega)]; unfold chgF; rw [if_neg (show ¬ o.k = 1 by omega), if_pos hk]
  have HE := Lib.hid HEQ
  have HA0 := Lib.hid ha
  have HFL := Lib.hid hf.low
  obtain ⟨oa, cap, rfl, hl1, hl2, hcc⟩ := hf.low.shape
  have HCC := Lib.hid hcc
  have HW0 := Lib.hid (ChW.start w d (.slice oa d.files.length cap) o bv kv ⟨[], 0, 0, false, 0, 0⟩ (.slice none 0 0))
  have HAT := Lib.hid (fun W (h : ChW w d (.slice oa d.files.length cap) o bv kv W) => at_any (A := fun k => A k ∧ k < w.heap.size) d (.slice oa d.files.length cap) o.name W (HFL.out.below h.below))
  have HAA := Lib.hid hA
  have HNN := Lib.hid hn
  clear hf hA hcc hk HEQ ha hn
  go_enter Tryz.func54, Tryz.ntmps54
  go_wp2_with fail
  refine wp_region_held_drew (S := fun w' => ChW w d (.slice oa d.files.length cap) o bv kv w') (by kernel_rfl) (HW0.out.next (below_drewN' _ 1)) (fun hHeld => ?_)
  refine tk 0 rfl ?v_133 ?hy_133 ?r_133
  case hy_133 => intro w hSw; have k0 := hSw.dk.c0; have k1 := hSw.op.c1; go_simp; try with_reducible rfl
  simp only [pA, pB, pC, pD]
  refine tk 1 rfl ?v_134 ?hy_134 ?r_134
  case hy_134 => intro w hSw; have k0 := hSw.dk.c0; have k1 := hSw.op.c1; go_simp; try with_reducible rfl
  simp only [pA, pB, pC, pD]
  refine tk 3 rfl ?v_135 ?hy_135 ?r_135
  case hy_135 => intro w hSw; have k0 := hSw.dk.c0; have k1 := hSw.op.c1; go_simp; try with_reducible rfl
  simp only [pA, pB, pC, pD]
  refine tk 4 rfl ?v_136 ?hy_136 ?r_136
  case hy_136 => intro w hSw; have k0 := hSw.dk.c0; have k1 := hSw.op.c1; go_simp; try with_reducible rfl
  simp only [pA, pB, pC, pD]
  refine tkl 2 w.heap.size 0 (dkCs d (.slice oa d.files.length cap)).toList rfl rfl (fun w' h j v hv => by rw [Nat.zero_add, h.dk.cell]; simpa using hv) Tryz.underlying51 rfl (by rw [dkInfo]; rfl) ?_
  simp only [pA, pB, pC, pD]
  generalize World.drew _ = Wd at *
  refine wpAnyH_ready (rs := [5, 8]) (by kernel_rfl) (by simp) ?_
  refine AllReadyH.cons rfl (fun K hK => ?_) (AllReadyH.cons rfl (fun K hK => ?_) AllReadyH.nil)
  · go_simp
    go_at_call 50
    refine (HAT.out _ hHeld).mono ?_
    rintro e w1 ⟨z, rfl, hz, hb1⟩
    have HC1 := Lib.hid (hHeld.next hb1)
    clear hb1 HW0
    rcases hz with ⟨rfl, hbad⟩ | ⟨i, f1, rfl, hi, ha'⟩
    · exfalso; rw [HA0.out] at hbad; cases hbad
    have hff : f1 = f := by have h := HA0.out; rw [ha'] at h; exact Option.some.inj h
    subst hff
    obtain ⟨b, off, rfl, hbA, dv, hr, hdv⟩ := HCC.out i f1 hi
    have q1 : (i : Int) < (d.files.length : Int) := by have := (List.getElem?_eq_some_iff.1 hi).1; omega
    have HR := Lib.hid (fun W (hW : Below w.heap.size w W) => range_later hr hW)
    have HDV := Lib.hid hdv
    clear hi ha' hr hdv hbA
    go_wp2_with fail
    refine hK.out _ _ HC1.out (fun hHeld => ?_)
    clear hK K
    refine tk 6 rfl ?v_137 ?hy_137 ?r_137
    case hy_137 => intro w hSw; go_simp; try with_reducible rfl
    simp only [pA, pB, pC, pD]
    refine tkl 7 b (off + i * 3) (flCs f1 dv).toList rfl rfl (fun w' h => HR.out w' h.below) Tryz.underlying49 rfl flInfo ?_
    simp only [pA, pB, pC, pD]
    have HCA := Lib.hid (HC1.out.next (below_alloc w1 (.cells #[.string ⟨#[]⟩, .slice none 0 0, .int .i64 0] 49)))
    have HFZ := Lib.hid (show FlBlk (w1.alloc (.cells #[.string ⟨#[]⟩, .slice none 0 0, .int .i64 0] 49)) w1.heap.size ⟨[], [], 0⟩ (.slice none 0 0) from flBlk_alloc w1 ⟨[], [], 0⟩ (.slice none 0 0))
    have hg1 := HC1.out.size
    have hg2 : w1.heap.size < (w1.alloc (.cells #[.string ⟨#[]⟩, .slice none 0 0, .int .i64 0] 49)).heap.size := by simp
    refine wpAnyH_ready (rs := [8]) (by kernel_rfl) (by simp) ?_
    refine AllReadyH.cons rfl (fun K hK => ?_) AllReadyH.nil
    go_simp
    refine hK.out _ _ HCA.out (fun hHeld => ?_)
    clear hK K HC1
    generalize w1.heap.size = g at *
    generalize (w1.alloc (.cells #[.string ⟨#[]⟩, .slice none 0 0, .int .i64 0] 49)) = W0 at *
    refine wpAnyH_ready (rs := [9]) (by kernel_rfl) (by simp) ?_
    refine AllReadyH.cons rfl (fun K hK => ?_) AllReadyH.nil
    rw [if_pos (by kernel_rfl)]
    refine wp_store_row 49 (.tmp 5) (.tmp 25) rfl g (flCs f1 dv) rfl rfl 49 (flCs ⟨[], [], 0⟩ (.slice none 0 0)) HFZ.out flInfo rfl (flCs_all f1 dv HDV.out.one) ?_
    have HCS := Lib.hid (HCA.out.keep (show Below (w.heap.size + 1 + 1 + 1) W0 (W0.setRow g (flCs f1 dv)) from below_row (Below.refl _ _) hg1 _) (Nat.le_refl _))
    have HFS := Lib.hid (show FlBlk (W0.setRow g (flCs f1 dv)) g f1 dv from setRow_heap W0 g _ _ _ _ HFZ.out)
    have hg2 : g < (W0.setRow g (flCs f1 dv)).heap.size := by simpa using hg2
    refine hK.out _ _ HCS.out (fun _ => ?_)
    clear hK K HCA HFZ
    generalize W0.setRow g (flCs f1 dv) = W at *
    refine wpAnyH_done (by kernel_rfl) ?_ _
    have HC := HCS
    have HB := HFS
    have q4 := HC.out.op.c0
    have qn := HC.out.op.c1
    have q3 := HC.out.dk.c0
    -- the files without it
    have HTK := Lib.hid (fun W' (h : ChW w d (.slice (some ⟨b, off, none⟩) d.files.length cap) o bv kv W') (hs : g + 1 ≤ W'.heap.size) => take_any (A := Out A w.heap.size (g + 1)) d.files (.slice (some ⟨b, off, none⟩) d.files.length cap) o.name W' ((HFL.out.mono (A' := Out A w.heap.size (g + 1)) (fun k hk' => ⟨hk'.1, .inl hk'.2⟩)).below h.below) (fun k hk' => ⟨HAA.out k (Nat.le_trans h.below.size hk'), .inr (Nat.le_trans hs hk')⟩) HNN.out)
    go_wp2_with fail
    refine (HTK.out _ HC.out hg2).mono ?_
    rintro e w5 ⟨v5, rfl, h5, hb5⟩
    have HP5 := Lib.hid h5
    have HC5 := Lib.hid (HC.out.next hb5)
    have HB5 := Lib.hid (HB.out.below hb5)
    have hg5 : g < w5.heap.size := Nat.lt_of_lt_of_le hg2 hb5.size
    have q5 := HC5.out.op.c0
    clear h5 hb5 HC HB HTK q4 q3 qn HCC HAT HA0
    have HT5 := Lib.hid (show ChT A w d (.slice (some ⟨b, off, none⟩) d.files.length cap) o bv kv g f1 dv (takeF o.name d.files) v5 w5 from ⟨HC5.out, HB5.out, HP5.out, (HDV.out.mono (fun k hk' => ⟨hk'.1, .inl hk'.2⟩)).below HC5.out.below, hg1, hg5⟩)
    clear HB5 HP5 HC5
    have hshape := HDV.out
    obtain ⟨ao, dcap, rfl, hdl, hdc⟩ := hshape
    clear hdc
    have j1 := HT5.out.fl.c1
    have j2 := HT5.out.fl.c2
    have f2 := HT5.out.fl.free 2
    go_wp2_with (with_reducible refine wpList_store_cellV rfl 3 (.tmp 47) (.tmp 46) rfl g 2 (.int .i64 (f1.data.length : Int)) (.int .i64 f1.safe) (by kernel_rfl) rfl rfl rfl j2 f2 ?_)
    intro w6 hw6
    have HT := Lib.hid (HT5.out.set (f' := (⟨f1.name, f1.data, (f1.data.length : Int)⟩ : Fil)) 2 (.int .i64 (f1.data.length : Int)) rfl HT5.out.dat hw6.out)
    clear hw6 j1 j2 f2 HT5
    have HPUT := Lib.hid (put_any (A := Out A w.heap.size (g + 1)) (takeF o.name d.files) _ (⟨f1.name, f1.data, (f1.data.length : Int)⟩ : Fil) _ _ HT.out.row HT.out.dat (HT.out.new HAA.out) (Nat.le_trans (takeF_le _ _) HNN.out))
    have HBR := Lib.hid HT.out.fl.range
    go_wp2_with (with_reducible refine wpList_load_fl rfl (.tmp 5) rfl g 0 (⟨f1.name, f1.data, (f1.data.length : Int)⟩ : Fil) _ rfl HBR.out ?_)
    refine HPUT.out.mono ?_
    rintro e w7 ⟨v7, rfl, h7, hb7⟩
    have HP := Lib.hid h7
    have HC := Lib.hid (HT.out.ch.next hb7)
    have hg1 := HT.out.lo
    clear h7 hb7 HPUT HT HBR
    have HV1 := Lib.hid (show v7.oneCell' = true from HP.out.one)
    have k0 := HC.out.dk.c0
    have f0 := HC.out.dk.free 0
    go_wp2_with (with_reducible refine wpList_store_cellV rfl 22 (.tmp 82) (.tmp 81) rfl w.heap.size 0 v7 (.slice (some ⟨b, off, none⟩) d.files.length cap) (by kernel_rfl) HV1.out rfl rfl k0 f0 ?_)
    intro w8 hw8
    have HC8 := Lib.hid (show ChW w { d with files := putF (⟨f1.name, f1.data, (f1.data.length : Int)⟩ : Fil) (takeF o.name d.files) } v7 o bv kv w8 by rw [hw8.out]; exact HC.out.set 0 v7 rfl)
    have HP8 := Lib.hid (show FilesIn (Out A w.heap.size (g + 1)) w8 v7 ({ d with files := putF (⟨f1.name, f1.data, (f1.data.length : Int)⟩ : Fil) (takeF o.name d.files) }).files by rw [hw8.out]; exact HP.out.turned (turned_set (b := w.heap.size) (e := (g + 1)) _ ⟨w.heap.size, 0, none⟩ _ (Nat.le_refl _) (by simp only; omega)) out_not)
    obtain ⟨rd, rv, hr8⟩ := HC8.out.res
    have HR8 := Lib.hid hr8
    clear hw8 hr8 k0 f0
    go_wp2_with (first | (with_reducible refine wpList_load_dk rfl (.tmp 2) rfl w.heap.size ({ d with files := putF (⟨f1.name, f1.data, (f1.data.length : Int)⟩ : Fil) (takeF o.name d.files) }) v7 rfl HC8.out.dk ?_) | (with_reducible refine wpList_store_dk rfl (.tmp 4) (.tmp 83) rfl (w.heap.size + 1 + 1) rd ({ d with files := putF (⟨f1.name, f1.data, (f1.data.length : Int)⟩ : Fil) (takeF o.name d.files) }) rv v7 rfl rfl HR8.out HV1.out ?_))
    intro w9 hw9
    obtain ⟨hd9, hb9, ht9⟩ := HC8.out.done hw9.out
    have HP9 := Lib.hid ((HP8.out.turned ht9 (fun k hk' => by have := out_not k hk'; omega)).mono (A' := A) (fun k hk' => hk'.1))
    have HD9 := Lib.hid hd9
    have HB9 := Lib.hid hb9
    clear hw9 hd9 hb9 ht9
    go_wp2
    exact bodyPost_ret (v := dkV ({ d with files := putF (⟨f1.name, f1.data, (f1.data.length : Int)⟩ : Fil) (takeF o.name d.files) }) v7) (results_dk1 rfl _ _ (w.heap.size + 1 + 1) ({ d with files := putF (⟨f1.name, f1.data, (f1.data.length : Int)⟩ : Fil) (takeF o.name d.files) }) v7 rfl HD9.out) rfl ⟨v7, by rw [HE.out], by rw [HE.out]; exact HP9.out, HB9.out⟩
  · have HCA := Lib.hid (hHeld.next (below_alloc Wd (.cells #[.string ⟨#[]⟩, .slice none 0 0, .int .i64 0] 49)))
    have HFZ := Lib.hid (show FlBlk (Wd.alloc (.cells #[.string ⟨#[]⟩, .slice none 0 0, .int .i64 0] 49)) Wd.heap.size ⟨[], [], 0⟩ (.slice none 0 0) from flBlk_alloc Wd ⟨[], [], 0⟩ (.slice none 0 0))
    have hg1 := hHeld.size
    have hg2 : Wd.heap.size < (Wd.alloc (.cells #[.string ⟨#[]⟩, .slice none 0 0, .int .i64 0] 49)).heap.size := by simp
    clear HW0
    go_simp
    refine hK.out _ _ HCA.out (fun hHeld => ?_)
    clear hK K
    generalize Wd.heap.size = g at *
    generalize (Wd.alloc (.cells #[.string ⟨#[]⟩, .slice none 0 0, .int .i64 0] 49)) = Wz at *
    refine wpAnyH_ready (rs := [5]) (by kernel_rfl) (by simp) ?_
    refine AllReadyH.cons rfl (fun K hK => ?_) AllReadyH.nil
    go_simp
    go_at_call 50
    refine (HAT.out _ hHeld).mono ?_
    rintro e W0 ⟨z, rfl, hz, hb1⟩
    have HCA := Lib.hid (hHeld.next hb1)
    have HFZ := Lib.hid (HFZ.out.below hb1)
    have hg2 : g < W0.heap.size := Nat.lt_of_lt_of_le hg2 hb1.size
    clear hb1
    rcases hz with ⟨rfl, hbad⟩ | ⟨i, f1, rfl, hi, ha'⟩
    · exfalso; rw [HA0.out] at hbad; cases hbad
    have hff : f1 = f := by have h := HA0.out; rw [ha'] at h; exact Option.some.inj h
    subst hff
    obtain ⟨b, off, rfl, hbA, dv, hr, hdv⟩ := HCC.out i f1 hi
    have q1 : (i : Int) < (d.files.length : Int) := by have := (List.getElem?_eq_some_iff.1 hi).1; omega
    have HR := Lib.hid (fun W (hW : Below w.heap.size w W) => range_later hr hW)
    have HDV := Lib.hid hdv
    clear hi ha' hr hdv hbA
    go_wp2_with fail
    refine hK.out _ _ HCA.out (fun hHeld => ?_)
    clear hK K
    refine tk 6 rfl ?v_138 ?hy_138 ?r_138
    case hy_138 => intro w hSw; go_simp; try with_reducible rfl
    simp only [pA, pB, pC, pD]
    refine tkl 7 b (off + i * 3) (flCs f1 dv).toList rfl rfl (fun w' h => HR.out w' h.below) Tryz.underlying49 rfl flInfo ?_
    simp only [pA, pB, pC, pD]
    refine wpAnyH_ready (rs := [9]) (by kernel_rfl) (by simp) ?_
    refine AllReadyH.cons rfl (fun K hK => ?_) AllReadyH.nil
    rw [if_pos (by kernel_rfl)]
    refine wp_store_row 49 (.tmp 5) (.tmp 25) rfl g (flCs f1 dv) rfl rfl 49 (flCs ⟨[], [], 0⟩ (.slice none 0 0)) HFZ.out flInfo rfl (flCs_all f1 dv HDV.out.one) ?_
    have HCS := Lib.hid (HCA.out.keep (show Below (w.heap.size + 1 + 1 + 1) W0 (W0.setRow g (flCs f1 dv)) from below_row (Below.refl _ _) hg1 _) (Nat.le_refl _))
    have HFS := Lib.hid (show FlBlk (W0.setRow g (flCs f1 dv)) g f1 dv from setRow_heap W0 g _ _ _ _ HFZ.out)
    have hg2 : g < (W0.setRow g (flCs f1 dv)).heap.size := by simpa using hg2
    refine hK.out _ _ HCS.out (fun _ => ?_)
    clear hK K HCA HFZ
    generalize W0.setRow g (flCs f1 dv) = W at *
    refine wpAnyH_done (by kernel_rfl) ?_ _
    have HC := HCS
    have HB := HFS
    have q4 := HC.out.op.c0
    have qn := HC.out.op.c1
    have q3 := HC.out.dk.c0
    -- the files without it
    have HTK := Lib.hid (fun W' (h : ChW w d (.slice (some ⟨b, off, none⟩) d.files.length cap) o bv kv W') (hs : g + 1 ≤ W'.heap.size) => take_any (A := Out A w.heap.size (g + 1)) d.files (.slice (some ⟨b, off, none⟩) d.files.length cap) o.name W' ((HFL.out.mono (A' := Out A w.heap.size (g + 1)) (fun k hk' => ⟨hk'.1, .inl hk'.2⟩)).below h.below) (fun k hk' => ⟨HAA.out k (Nat.le_trans h.below.size hk'), .inr (Nat.le_trans hs hk')⟩) HNN.out)
    go_wp2_with fail
    refine (HTK.out _ HC.out hg2).mono ?_
    rintro e w5 ⟨v5, rfl, h5, hb5⟩
    have HP5 := Lib.hid h5
    have HC5 := Lib.hid (HC.out.next hb5)
    have HB5 := Lib.hid (HB.out.below hb5)
    have hg5 : g < w5.heap.size := Nat.lt_of_lt_of_le hg2 hb5.size
    have q5 := HC5.out.op.c0
    clear h5 hb5 HC HB HTK q4 q3 qn HCC HAT HA0
    have HT5 := Lib.hid (show ChT A w d (.slice (some ⟨b, off, none⟩) d.files.length cap) o bv kv g f1 dv (takeF o.name d.files) v5 w5 from ⟨HC5.out, HB5.out, HP5.out, (HDV.out.mono (fun k hk' => ⟨hk'.1, .inl hk'.2⟩)).below HC5.out.below, hg1, hg5⟩)
    clear HB5 HP5 HC5
    have hshape := HDV.out
    obtain ⟨ao, dcap, rfl, hdl, hdc⟩ := hshape
    clear hdc
    have j1 := HT5.out.fl.c1
    have j2 := HT5.out.fl.c2
    have f2 := HT5.out.fl.free 2
    go_wp2_with (with_reducible refine wpList_store_cellV rfl 3 (.tmp 47) (.tmp 46) rfl g 2 (.int .i64 (f1.data.length : Int)) (.int .i64 f1.safe) (by kernel_rfl) rfl rfl rfl j2 f2 ?_)
    intro w6 hw6
    have HT := Lib.hid (HT5.out.set (f' := (⟨f1.name, f1.data, (f1.data.length : Int)⟩ : Fil)) 2 (.int .i64 (f1.data.length : Int)) rfl HT5.out.dat hw6.out)
    clear hw6 j1 j2 f2 HT5
    have HPUT := Lib.hid (put_any (A := Out A w.heap.size (g + 1)) (takeF o.name d.files) _ (⟨f1.name, f1.data, (f1.data.length : Int)⟩ : Fil) _ _ HT.out.row HT.out.dat (HT.out.new HAA.out) (Nat.le_trans (takeF_le _ _) HNN.out))
    have HBR := Lib.hid HT.out.fl.range
    go_wp2_with (with_reducible refine wpList_load_fl rfl (.tmp 5) rfl g 0 (⟨f1.name, f1.data, (f1.data.length : Int)⟩ : Fil) _ rfl HBR.out ?_)
    refine HPUT.out.mono ?_
    rintro e w7 ⟨v7, rfl, h7, hb7⟩
    have HP := Lib.hid h7
    have HC := Lib.hid (HT.out.ch.next hb7)
    have hg1 := HT.out.lo
    clear h7 hb7 HPUT HT HBR
    have HV1 := Lib.hid (show v7.oneCell' = true from HP.out.one)
    have k0 := HC.out.dk.c0
    have f0 := HC.out.dk.free 0
    go_wp2_with (with_reducible refine wpList_store_cellV rfl 22 (.tmp 82) (.tmp 81) rfl w.heap.size 0 v7 (.slice (some ⟨b, off, none⟩) d.files.length cap) (by kernel_rfl) HV1.out rfl rfl k0 f0 ?_)
    intro w8 hw8
    have HC8 := Lib.hid (show ChW w { d with files := putF (⟨f1.name, f1.data, (f1.data.length : Int)⟩ : Fil) (takeF o.name d.files) } v7 o bv kv w8 by rw [hw8.out]; exact HC.out.set 0 v7 rfl)
    have HP8 := Lib.hid (show FilesIn (Out A w.heap.size (g + 1)) w8 v7 ({ d with files := putF (⟨f1.name, f1.data, (f1.data.length : Int)⟩ : Fil) (takeF o.name d.files) }).files by rw [hw8.out]; exact HP.out.turned (turned_set (b := w.heap.size) (e := (g + 1)) _ ⟨w.heap.size, 0, none⟩ _ (Nat.le_refl _) (by simp only; omega)) out_not)
    obtain ⟨rd, rv, hr8⟩ := HC8.out.res
    have HR8 := Lib.hid hr8
    clear hw8 hr8 k0 f0
    go_wp2_with (first | (with_reducible refine wpList_load_dk rfl (.tmp 2) rfl w.heap.size ({ d with files := putF (⟨f1.name, f1.data, (f1.data.length : Int)⟩ : Fil) (takeF o.name d.files) }) v7 rfl HC8.out.dk ?_) | (with_reducible refine wpList_store_dk rfl (.tmp 4) (.tmp 83) rfl (w.heap.size + 1 + 1) rd ({ d with files := putF (⟨f1.name, f1.data, (f1.data.length : Int)⟩ : Fil) (takeF o.name d.files) }) rv v7 rfl rfl HR8.out HV1.out ?_))
    intro w9 hw9
    obtain ⟨hd9, hb9, ht9⟩ := HC8.out.done hw9.out
    have HP9 := Lib.hid ((HP8.out.turned ht9 (fun k hk' => by have := out_not k hk'; omega)).mono (A' := A) (fun k hk' => hk'.1))
    have HD9 := Lib.hid hd9
    have HB9 := Lib.hid hb9
    clear hw9 hd9 hb9 ht9
    go_wp2
    exact bodyPost_ret (v := dkV ({ d with files := putF (⟨f1.name, f1.data, (f1.data.length : Int)⟩ : Fil) (takeF o.name d.files) }) v7) (results_dk1 rfl _ _ (w.heap.size + 1 + 1) ({ d with files := putF (⟨f1.name, f1.data, (f1.data.length : Int)⟩ : Fil) (takeF o.name d.files) }) v7 rfl HD9.out) rfl ⟨v7, by rw [HE.out], by rw [HE.out]; exact HP9.out, HB9.out⟩

end Go.Proofs.YtlobohpbgghleaaGreatDoor
