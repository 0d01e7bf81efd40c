import Derived.Test.YtlobohpbgghleaaGreatDoorDkBlk
import Derived.Test.YtlobohpbgghleaaGreatDoorRcApply
import Derived.Test.YtlobohpbgghleaaGreatDoorRefNames
import Derived.Test.YtlobohpbgghleaaGreatDoorRefDo4
namespace Go.Proofs.YtlobohpbgghleaaGreatDoor
open Go.RowKit

/-! ## the document's steps of a plan -/

def lenAt (fs : List Fil) (n : List UInt8) : Nat := match atF fs n with | none => 0 | some x => x.data.length
theorem file_any {A : Nat → Prop} (fs : List Fil) (fv : Value) (n : List UInt8) (w : World) (hf : FilesIn A w fv fs) :
    Calls Tryz.prog 63 #[fv, .string ⟨n.toArray⟩] w fun e w' => (∃ ao cap, e = .returned (.tuple #[.slice ao (lenAt fs n) cap, .bool (atF fs n).isSome])) ∧ w = w' := by
  obtain ⟨oa, cap, rfl, hl1, hl2, hc⟩ := hf.shape
  have HC := Lib.hid hc
  clear hc hf
  go_enter Tryz.func63, Tryz.ntmps63
  go_wp2
  go_loopw [6, 9] (fun _ iv wr => ∃ k : Nat, k ≤ fs.length ∧ iv = .int .i64 k ∧ wr = w ∧ Hid (∀ f ∈ fs.take k, f.name ≠ n)) (fun _ iv _ => fs.length - (intOf iv).toNat)
  case atStart => exact ⟨0, Nat.zero_le _, rfl, rfl, Lib.hid (by simp)⟩
  case round =>
    obtain ⟨k, hk, rfl, rfl, HN⟩ := hrel
    by_cases hlt : k < fs.length
    · obtain ⟨x, hx, htk, _⟩ := nth fs k hlt
      obtain ⟨b, off, rfl, _, dv, hr, hdv⟩ := HC.out k x hx
      have q1 : (k : Int) < (fs.length : Int) := by omega
      have cn : wr.cell? ⟨b, off + k * 3, none⟩ = some (.string ⟨x.name.toArray⟩) := hr 0 _ rfl
      obtain ⟨ao, dcap, rfl, _, _⟩ := hdv
      have cd : wr.cell? ⟨b, off + k * 3 + 1, none⟩ = some (.slice ao x.data.length dcap) := hr 1 _ rfl
      rcases heq : (x.name == n) with _ | _
      · have HN2 := Lib.hid (show ∀ f ∈ fs.take (k + 1), f.name ≠ n by
          intro f hf
          rw [htk] at hf
          rcases List.mem_append.1 hf with h1 | h1
          · exact HN.out f h1
          · simp at h1; rw [h1]; simpa using heq)
        clear hx htk hr cd
        go_wp2
        go_roundw
        case rel => exact ⟨k + 1, by omega, by go_num, by first | rfl | trivial, HN2⟩
        case measure => simp [intOf]; omega
      · have hat : atF fs n = some x := by rw [at_drop HN.out, dropF_cons hx]; unfold atF; rw [List.find?_cons, heq]
        have HI := Lib.hid (show lenAt fs n = x.data.length ∧ (atF fs n).isSome = true by unfold lenAt; rw [hat]; exact ⟨rfl, rfl⟩)
        clear hx htk hr hat
        go_wp2
        go_ret2
        rw [HI.out.1, HI.out.2]
        exact ⟨⟨_, _, rfl⟩, rfl⟩
    · obtain rfl : k = fs.length := by omega
      have HI := Lib.hid (show lenAt fs n = 0 ∧ (atF fs n).isSome = false by
        have hat : atF fs n = none := by rw [at_drop HN.out, List.drop_of_length_le (Nat.le_refl _)]; rfl
        unfold lenAt; rw [hat]; exact ⟨rfl, rfl⟩)
      go_wp2
      go_ret2
      rw [HI.out.1, HI.out.2]
      exact ⟨⟨_, _, rfl⟩, rfl⟩

/-- the blocks of Steps -/
structure SpW (w : World) (d : Disk) (fv : Value) (p : Pl) (sv rv : Value) (W : World) : Prop where
  dk : DkBlk W w.heap.size d fv
  pl : PlBlk W (w.heap.size + 1) p sv rv
  below : Below w.heap.size w W
  size : w.heap.size + 1 + 1 ≤ W.heap.size
theorem SpW.keep {w W W' : World} {d : Disk} {fv : Value} {p : Pl} {sv rv : Value} (h : SpW w d fv p sv rv W) {B : Nat} (hb : Below B W W') (hB : w.heap.size + 1 + 1 ≤ B) : SpW w d fv p sv rv W' :=
  ⟨h.dk.keep hb (by omega), h.pl.kept (hb.block _ (by omega)), h.below.trans (hb.mono (by omega)), Nat.le_trans h.size hb.size⟩
theorem SpW.next {w W W' : World} {d : Disk} {fv : Value} {p : Pl} {sv rv : Value} (h : SpW w d fv p sv rv W) (hb : Below W.heap.size W W') : SpW w d fv p sv rv W' := h.keep hb h.size
theorem SpW.start (w : World) (d : Disk) (fv : Value) (p : Pl) (sv rv : Value) : SpW w d fv p sv rv ((w.alloc (.cells (dkCs d fv) 51)).alloc (.cells (plCs p sv rv) 34)) := by
  have sz : ∀ (w : World) (o : Obj), (w.alloc o).heap.size = w.heap.size + 1 := fun w o => by simp
  have h2 := plBlk_alloc (w.alloc (.cells (dkCs d fv) 51)) p sv rv
  rw [sz] at h2
  exact ⟨(dkBlk_alloc w d fv).below (below_alloc _ _), h2, Below.next (below_alloc _ _) (below_alloc _ _), by rw [sz, sz]; omega⟩
theorem SgBlk.c1 {w : World} {b : Nat} {g : Sg} (h : SgBlk w b g) : w.cell? ⟨b, 1, none⟩ = some (.int .i64 g.first) := h.range 1 _ rfl
theorem nilDat (w : World) (B : Nat) : DatAt w (.slice none 0 0) [] ∧ ∀ g, datBlk (.slice none 0 0) = some g → B ≤ g := ⟨.inl ⟨rfl, none, rfl⟩, fun g h => by simp [datBlk] at h⟩
theorem oneMem {w : World} {B : Nat} {o : DOp} {v : Value} (h : DatAt w v o.b ∧ ∀ g, datBlk v = some g → B ≤ g) : ∀ p ∈ [(o, v)], DatAt w p.2 p.1.b ∧ ∀ g, datBlk p.2 = some g → B ≤ g := fun p hp => by
  simp at hp; rw [hp]; exact h
theorem threeMem {w : World} {B : Nat} {o o' o'' : DOp} {v v' v'' : Value} (h : DatAt w v o.b ∧ ∀ g, datBlk v = some g → B ≤ g) (h' : DatAt w v' o'.b ∧ ∀ g, datBlk v' = some g → B ≤ g) (h'' : DatAt w v'' o''.b ∧ ∀ g, datBlk v'' = some g → B ≤ g) :
    ∀ p ∈ [(o, v), (o', v'), (o'', v'')], DatAt w p.2 p.1.b ∧ ∀ g, datBlk p.2 = some g → B ≤ g := fun p hp => by
  simp at hp
  rcases hp with rfl | rfl | rfl
  · exact h
  · exact h'
  · exact h''

set_option maxRecDepth 100000 in
set_option maxHeartbeats 8000000 in
theorem refSteps_any {A : Nat → Prop} (d : Disk) (fv : Value) (p : Pl) (sv rv : Value) (w : World) (hf : FilesIn A w fv d.files) (hs : SgRow w sv p.man.segs) (hr : StRow w rv p.remove) (hok : manOk p.man = true) (hn : p.remove.length ≤ 1048576) :
    Calls Tryz.prog 56 #[dkV d fv, plV p sv rv] w fun e w' => ∃ v, e = .returned v ∧ OpsIn (fun k => w.heap.size ≤ k) w' v (refOps d p) ∧ Below w.heap.size w w' := by
  have HFI := Lib.hid hf
  obtain ⟨ob, bcap, rfl, hl1, hl2, hcs⟩ := hs
  obtain ⟨oa, cap, rfl, hl3, hl4, hcr⟩ := hr
  have HCR := Lib.hid hcr
  have HSR := Lib.hid (show SgRow w (.slice ob p.man.segs.length bcap) p.man.segs from ⟨ob, bcap, rfl, hl1, hl2, hcs⟩)
  have hlast : ∃ (j : Nat) (g : Sg), p.man.segs.length = j + 1 ∧ p.man.segs[j]? = some g ∧ lastSg p.man = g := by
    obtain ⟨g, h1, _, _, _, _⟩ := chain_last _ _ _ _ (manFine hok).chain
    rcases hx : p.man.segs.length with _ | j
    · rw [List.length_eq_zero_iff.1 hx] at h1; cases h1
    · refine ⟨j, g, rfl, ?_, ?_⟩
      · rw [List.getLast?_eq_getElem?, hx] at h1; simpa using h1
      · unfold lastSg; rw [h1]; rfl
  have HW0 := Lib.hid (SpW.start w d fv p (.slice ob p.man.segs.length bcap) (.slice oa p.remove.length cap))
  have HWz := Lib.hid (HW0.out.next (below_alloc _ (.cells #[] 59)))
  have HO0 := Lib.hid (show OwnO ((((w.alloc (.cells (dkCs d fv) 51)).alloc (.cells (plCs p (.slice ob p.man.segs.length bcap) (.slice oa p.remove.length cap)) 34))).alloc (.cells #[] 59)) (w.heap.size + 1 + 1) (.slice (some ⟨w.heap.size + 1 + 1, 0, none⟩) 0 0) [] by
    have := ownD_fresh (α := DOp) (e := 59) (size := 7) (cs := fun o v => (opCs o v (.slice none 0 0)).toList) (dat := fun o => o.b) ((w.alloc (.cells (dkCs d fv) 51)).alloc (.cells (plCs p (.slice ob p.man.segs.length bcap) (.slice oa p.remove.length cap)) 34)) (w.heap.size + 1 + 1) HW0.out.size
    rwa [show ((w.alloc (.cells (dkCs d fv) 51)).alloc (.cells (plCs p (.slice ob p.man.segs.length bcap) (.slice oa p.remove.length cap)) 34)).heap.size = w.heap.size + 1 + 1 by simp] at this)
  clear hcs hcr hf hok HW0
  simp only [dkCs, plCs] at HWz HO0
  have r7 := HWz.out.pl.c7
  go_enter Tryz.func56, Tryz.ntmps56
  go_wp2
  go_loopw [5, 6, 21] (fun v _ iv wr => ∃ (k : Nat) (ps : List (DOp × Value)), k ≤ p.remove.length ∧ iv = .int .i64 k ∧ ps.length = k ∧ OwnO wr (w.heap.size + 1 + 1) v ps ∧ Hid (ps.map (·.1) = (p.remove.take k).map opRemove) ∧ Hid (SpW w d fv p (.slice ob p.man.segs.length bcap) (.slice oa p.remove.length cap) wr)) (fun _ _ iv _ => p.remove.length - (intOf iv).toNat)
  case atStart => exact ⟨0, [], Nat.zero_le _, rfl, rfl, HO0.out, Lib.hid rfl, HWz⟩
  case round =>
    clear HO0 HWz r7
    obtain ⟨k, ps, hk, rfl, hpl, hown, HP, HW⟩ := hrel
    have HO := Lib.hid hown
    have r7 := HW.out.pl.c7
    have hB := HW.out.size
    clear hown
    by_cases hlt : k < p.remove.length
    · obtain ⟨x, hx, htk, _⟩ := nth p.remove k hlt
      have q1 : (k : Int) < (p.remove.length : Int) := by omega
      obtain ⟨b, off, rfl, hcx⟩ := HCR.out k x hx
      have cn : wr.cell? ⟨b, off + k, none⟩ = some (.string ⟨x.toArray⟩) := cell_later HW.out.below hcx
      have HTK := Lib.hid htk
      have hpl1 : ps.length + 1 ≤ 1000000000 := by omega
      clear hx htk hcx
      go_wp2_with (at_builtin; refine wpList_appO [(opRemove x, .slice none 0 0)] rfl (.tmp 24) (.tmp 31) rfl rfl rfl rfl rfl HO.out hB (oneMem (nilDat _ _)) hpl1 ?_)
      intro v' w' h1 h2 h3 h4
      have HO' := Lib.hid h1
      have HW' := Lib.hid (HW.out.keep h2 (Nat.le_refl _))
      clear h1 h2 h3 h4 cn r7 hB
      go_wp2
      go_roundw
      case rel => exact ⟨k + 1, ps ++ [(opRemove x, .slice none 0 0)], by omega, by go_num, by simp; omega, HO'.out, Lib.hid (by rw [List.map_append, HP.out, HTK.out, List.map_append]; rfl), HW'⟩
      case measure => simp [intOf]; omega
    · obtain rfl : k = p.remove.length := by omega
      have HPS := Lib.hid (show ps.map (·.1) = remOps p by rw [HP.out, List.take_length]; rfl)
      obtain ⟨j, g, hjl, hjg, hlg⟩ := hlast
      have hw1 : IntKind.i64.wrap ((p.man.segs.length : Int) - 1) = (j : Int) := by rw [IntKind.wrap_i64]; omega
      have q1 : (j : Int) < (p.man.segs.length : Int) := by omega
      obtain ⟨ob', cap', e1, _, _, hcs⟩ := HSR.out
      simp only [Value.slice.injEq] at e1
      obtain ⟨rfl, _, rfl⟩ := e1
      obtain ⟨b, off, rfl, hrg⟩ := hcs j g hjg
      have HRG := Lib.hid (range_later hrg HW.out.below)
      have r6 := HW.out.pl.c6
      clear hjg hcs hrg hjl HP r7
      go_wp2_with (with_reducible refine wpList_load_sg rfl (.tmp 42) rfl b (off + j * 4) g rfl HRG.out ?_)
      have HB5 := Lib.hid (below_alloc wr (.cells (sgCs g) 46))
      have HS5 := Lib.hid (show SgBlk (wr.alloc (.cells (sgCs g) 46)) wr.heap.size g from heap_alloc_new wr _)
      refine (refSegment_any g.num _).mono ?_
      rintro e w5 ⟨rfl, hb5⟩
      have HO5 := Lib.hid ((HO.out.later HB5.out).later hb5)
      have HW5 := Lib.hid ((HW.out.next HB5.out).next hb5)
      have HSB5 := Lib.hid (show SgBlk w5 wr.heap.size g by unfold SgBlk; rw [hb5.block _ (Array.getElem?_eq_some_iff.1 HS5.out).1]; exact HS5.out)
      have r0 := HW5.out.pl.c0
      have HSN := Lib.hid (show segN p.man = segName g.num by unfold segN; rw [hlg])
      have HLG := Lib.hid hlg
      obtain ⟨n, hnn⟩ : ∃ n, n = segName g.num := ⟨_, rfl⟩
      have HNN := Lib.hid hnn
      rw [← hnn]
      clear hb5 r6 hw1 HB5 HS5 HO HW hB hnn hlg
      have hB := HW5.out.size
      rcases hfr : p.fresh with _ | _
      case true =>
        have HE := Lib.hid (show refOps d p = remOps p ++ ([opCreate n, opAppend n (hdrEnc g.num g.first).1, opSync n] ++ ([opCreate tmpN, opAppend tmpN (encMan p.man).1, opSync tmpN] ++ [opRename tmpN manN])) by
          unfold refOps; rw [hfr, HSN.out, HLG.out, HNN.out]; rfl)
        rw [hfr] at r0
        have s0 := HSB5.out.c0
        have s1 := HSB5.out.c1
        have HHD := Lib.hid (refHeader_any g.num g.first w5)
        obtain ⟨er, her⟩ : ∃ er, er = hdrEnc g.num g.first := ⟨_, rfl⟩
        rw [← her] at HHD HE
        clear hfr her
        go_wp2_with fail
        refine HHD.out.mono ?_
        rintro e w6 ⟨v6, rfl, ho6, hb6⟩
        have HD6 := Lib.hid (datAt_own ho6)
        obtain ⟨o6, cap6, rfl, _, _⟩ := own_shape ho6
        have HO6 := Lib.hid (HO5.out.later hb6)
        have HW6 := Lib.hid (HW5.out.next hb6)
        have HMR := Lib.hid HW6.out.pl.man
        have HG6 := Lib.hid (show w.heap.size + 1 + 1 ≤ w5.heap.size from hB)
        have HEN := Lib.hid (refManEncode_any p.man (.slice (some ⟨b, off, none⟩) p.man.segs.length bcap) w6 (HSR.out.below HW6.out.below))
        obtain ⟨en, hen⟩ : ∃ en, en = encMan p.man := ⟨_, rfl⟩
        rw [← hen] at HEN HE
        clear ho6 hb6 HHD s0 s1 r0 hen HO5 HW5
        go_wp2_with (with_reducible refine wpList_load_mnAt rfl (.tmp 58) rfl (w.heap.size + 1) 1 p.man (.slice (some ⟨b, off, none⟩) p.man.segs.length bcap) rfl HMR.out ?_)
        refine HEN.out.mono ?_
        rintro e w7 ⟨v7, rfl, ho7, hb7⟩
        have HD7 := Lib.hid (datAt_own ho7)
        obtain ⟨o7, cap7, rfl, _, _⟩ := own_shape ho7
        have HO7 := Lib.hid (HO6.out.later hb7)
        have HW7 := Lib.hid (HW6.out.next hb7)
        have HD6' := Lib.hid (show DatAt w7 (.slice o6 er.1.length cap6) er.1 ∧ ∀ g, datBlk (.slice o6 er.1.length cap6) = some g → w.heap.size + 1 + 1 ≤ g from ⟨HD6.out.1.later hb7, fun g hg => Nat.le_trans HG6.out (HD6.out.2 g hg)⟩)
        have HD7' := Lib.hid (show DatAt w7 (.slice o7 en.1.length cap7) en.1 ∧ ∀ g, datBlk (.slice o7 en.1.length cap7) = some g → w.heap.size + 1 + 1 ≤ g from ⟨HD7.out.1, fun g hg => Nat.le_trans HW6.out.size (HD7.out.2 g hg)⟩)
        have hB7 := HW7.out.size
        clear ho7 hb7 HEN HO6 HW6 HMR HD6 HD7
        go_wp2_with (at_builtin; refine wpList_appO [(opCreate n, .slice none 0 0), (opAppend n er.1, .slice o6 er.1.length cap6), (opSync n, .slice none 0 0)] rfl (.tmp 63) (.tmp 71) rfl rfl rfl rfl rfl HO7.out hB7 (threeMem (nilDat _ _) HD6'.out (nilDat _ _)) (by omega) ?_)
        intro v8 w8 h1 h2 h3 h4
        have HO8 := Lib.hid h1
        have HW8 := Lib.hid (HW7.out.keep h2 (Nat.le_refl _))
        have HD8 := Lib.hid (show DatAt w8 (.slice o7 en.1.length cap7) en.1 ∧ ∀ g, datBlk (.slice o7 en.1.length cap7) = some g → w.heap.size + 1 + 1 ≤ g from ⟨HD7'.out.1.keptT h4 (by decide), HD7'.out.2⟩)
        have hB8 := HW8.out.size
        clear h1 h2 h3 h4 HO7 HW7 HD6' HD7' hB7
        go_wp2_with (at_builtin; refine wpList_appO [(opCreate tmpN, .slice none 0 0), (opAppend tmpN en.1, .slice o7 en.1.length cap7), (opSync tmpN, .slice none 0 0)] rfl (.tmp 73) (.tmp 78) rfl rfl rfl rfl rfl HO8.out hB8 (threeMem (nilDat _ _) HD8.out (nilDat _ _)) (by simp; omega) ?_)
        intro v9 w9 h1 h2 h3 h4
        have HO9 := Lib.hid h1
        have HW9 := Lib.hid (HW8.out.keep h2 (Nat.le_refl _))
        have hB9 := HW9.out.size
        clear h1 h2 h3 h4 HO8 HW8 HD8 hB8
        go_wp2_with (at_builtin; refine wpList_appO [(opRename tmpN manN, .slice none 0 0)] rfl (.tmp 80) (.tmp 82) rfl rfl rfl rfl rfl HO9.out hB9 (oneMem (nilDat _ _)) (by simp; omega) ?_)
        intro v10 w10 h1 h2 h3 h4
        have HF := Lib.hid (h1.ops (A := fun k => w.heap.size ≤ k) (fun k hk => by omega))
        have HW10 := Lib.hid (HW9.out.keep h2 (Nat.le_refl _))
        clear h1 h2 h3 h4
        go_wp2
        go_ret
        refine ⟨_, rfl, ?_, HW10.out.below⟩
        have hF := HF.out
        simp only [List.map_append, HPS.out] at hF
        rw [HE.out]
        exact hF
      have HE := Lib.hid (show refOps d p = remOps p ++ (opSize n :: (cutOps n p.cut (if p.remove.any (fun x => x == n) then none else atF d.files n) ++ [opSync n])) by
        unfold refOps; rw [hfr, HSN.out, HNN.out]; rfl)
      rw [hfr] at r0
      clear hfr
      go_wp2_with (at_builtin; refine wpList_appO [(opSize n, .slice none 0 0)] rfl (.tmp 84) (.tmp 87) rfl rfl rfl rfl rfl HO5.out hB (oneMem (nilDat _ _)) (by omega) ?_)
      intro v8 w8 h1 h2 h3 h4
      have HO8 := Lib.hid h1
      have HW8 := Lib.hid (HW5.out.keep h2 (Nat.le_refl _))
      have r7 := HW8.out.pl.c7
      clear h1 h2 h3 h4 r0 hB HO5 HW5 HSB5
      go_wp2
      go_loopw [13, 14, 92] (fun gv _ iv wr => ∃ k : Nat, k ≤ p.remove.length ∧ iv = .int .i64 k ∧ wr = w8 ∧ gv = .bool ((p.remove.take k).any (fun x => x == n))) (fun _ _ iv _ => p.remove.length - (intOf iv).toNat)
      case atStart => exact ⟨0, Nat.zero_le _, rfl, rfl, rfl⟩
      case round =>
        obtain ⟨k, hk, rfl, rfl, rfl⟩ := hrel
        by_cases hlt : k < p.remove.length
        · obtain ⟨x, hx, htk, _⟩ := nth p.remove k hlt
          have q2 : (k : Int) < (p.remove.length : Int) := by omega
          obtain ⟨b2, off2, rfl, hcx⟩ := HCR.out k x hx
          have cn : wr.cell? ⟨b2, off2 + k, none⟩ = some (.string ⟨x.toArray⟩) := cell_later HW8.out.below hcx
          have HTK := Lib.hid htk
          clear hx htk hcx
          rcases hg : (p.remove.take k).any (fun x => x == n) with _ | _
          · rcases hxn : (x == n) with _ | _
            · have HG := Lib.hid (show false = (p.remove.take (k + 1)).any (fun x => x == n) by rw [HTK.out, List.any_append, hg]; simp [hxn])
              go_wp2
              go_roundw
              case rel => exact ⟨k + 1, by omega, by go_num, by first | rfl | trivial, by rw [← HG.out]⟩
              case measure => simp [intOf]; omega
            · have HG := Lib.hid (show true = (p.remove.take (k + 1)).any (fun x => x == n) by rw [HTK.out, List.any_append, hg]; simp [hxn])
              go_wp2
              go_roundw
              case rel => exact ⟨k + 1, by omega, by go_num, by first | rfl | trivial, by rw [← HG.out]⟩
              case measure => simp [intOf]; omega
          · have HG := Lib.hid (show true = (p.remove.take (k + 1)).any (fun x => x == n) by rw [HTK.out, List.any_append, hg]; simp)
            go_wp2
            go_roundw
            case rel => exact ⟨k + 1, by omega, by go_num, by first | rfl | trivial, by rw [← HG.out]⟩
            case measure => simp [intOf]; omega
        · obtain rfl : k = p.remove.length := by omega
          rw [List.take_length]
          have c0 := HW8.out.dk.c0
          have r8 : wr.cell? ⟨w.heap.size + 1, 8, none⟩ = some (.int .i64 p.cut) := HW8.out.pl.c8
          have HFL := Lib.hid (file_any d.files fv n wr (HFI.out.below HW8.out.below))
          have hB := HW8.out.size
          clear r7 q1
          go_wp2_with fail
          refine HFL.out.mono ?_
          rintro e w10 ⟨⟨ao, dcap, rfl⟩, rfl⟩
          clear HFL c0
          rcases hat : atF d.files n with _ | x
          · have HE := Lib.hid (show refOps d p = remOps p ++ (opSize n :: [opSync n]) by rw [HE.out, hat]; cases p.remove.any (fun x => x == n) <;> rfl)
            have hsome : (none : Option Fil).isSome = false := rfl
            clear hat r8
            go_wp2_with (at_builtin; refine wpList_appO [(opSync n, .slice none 0 0)] rfl (.tmp 132) (.tmp 135) rfl rfl rfl rfl rfl HO8.out hB (oneMem (nilDat _ _)) (by simp; omega) ?_)
            intro v11 w11 h1 h2 h3 h4
            have HF := Lib.hid (h1.ops (A := fun k => w.heap.size ≤ k) (fun k hk => by omega))
            have HW11 := Lib.hid (HW8.out.keep h2 (Nat.le_refl _))
            clear h1 h2 h3 h4
            go_wp2
            go_ret
            refine ⟨_, rfl, ?_, HW11.out.below⟩
            have hF := HF.out
            simp only [List.map_append, HPS.out] at hF
            rw [HE.out]
            simpa using hF
          rcases hgn : p.remove.any (fun x => x == n) with _ | _
          case true =>
            have HE := Lib.hid (show refOps d p = remOps p ++ (opSize n :: [opSync n]) by rw [HE.out, hgn]; rfl)
            have hsome : (some x).isSome = true := rfl
            clear hat hgn r8
            go_wp2_with (at_builtin; refine wpList_appO [(opSync n, .slice none 0 0)] rfl (.tmp 132) (.tmp 135) rfl rfl rfl rfl rfl HO8.out hB (oneMem (nilDat _ _)) (by simp; omega) ?_)
            intro v11 w11 h1 h2 h3 h4
            have HF := Lib.hid (h1.ops (A := fun k => w.heap.size ≤ k) (fun k hk => by omega))
            have HW11 := Lib.hid (HW8.out.keep h2 (Nat.le_refl _))
            clear h1 h2 h3 h4
            go_wp2
            go_ret
            refine ⟨_, rfl, ?_, HW11.out.below⟩
            have hF := HF.out
            simp only [List.map_append, HPS.out] at hF
            rw [HE.out]
            simpa using hF
          have hlen : lenAt d.files n = x.data.length := by unfold lenAt; rw [hat]
          rw [hlen]
          rcases hcut : decide (p.cut < (x.data.length : Int)) with _ | _
          case false =>
            have HE := Lib.hid (show refOps d p = remOps p ++ (opSize n :: [opSync n]) by
              rw [HE.out, hgn, hat]
              show remOps p ++ (opSize n :: ((if p.cut < (x.data.length : Int) then [opCut n p.cut] else []) ++ [opSync n])) = _
              rw [if_neg (by simpa using hcut)]; rfl)
            have hsome : (some x).isSome = true := rfl
            clear hat hgn hlen
            go_wp2_with (at_builtin; refine wpList_appO [(opSync n, .slice none 0 0)] rfl (.tmp 132) (.tmp 135) rfl rfl rfl rfl rfl HO8.out hB (oneMem (nilDat _ _)) (by simp; omega) ?_)
            intro v11 w11 h1 h2 h3 h4
            have HF := Lib.hid (h1.ops (A := fun k => w.heap.size ≤ k) (fun k hk => by omega))
            have HW11 := Lib.hid (HW8.out.keep h2 (Nat.le_refl _))
            clear h1 h2 h3 h4
            go_wp2
            go_ret
            refine ⟨_, rfl, ?_, HW11.out.below⟩
            have hF := HF.out
            simp only [List.map_append, HPS.out] at hF
            rw [HE.out]
            simpa using hF
          have HE := Lib.hid (show refOps d p = remOps p ++ (opSize n :: [opCut n p.cut, opSync n]) by
            rw [HE.out, hgn, hat]
            show remOps p ++ (opSize n :: ((if p.cut < (x.data.length : Int) then [opCut n p.cut] else []) ++ [opSync n])) = _
            rw [if_pos (by simpa using hcut)]; rfl)
          have hsome : (some x).isSome = true := rfl
          clear hat hgn hlen
          go_wp2_with (at_builtin; refine wpList_appO [(opCut n p.cut, .slice none 0 0)] rfl (.tmp 125) (.tmp 130) rfl rfl rfl rfl rfl HO8.out hB (oneMem (nilDat _ _)) (by simp; omega) ?_)
          intro v10 w10 h1 h2 h3 h4
          have HO10 := Lib.hid h1
          have HW10 := Lib.hid (HW8.out.keep h2 (Nat.le_refl _))
          have hB10 := HW10.out.size
          clear h1 h2 h3 h4 r8
          go_wp2_with (at_builtin; refine wpList_appO [(opSync n, .slice none 0 0)] rfl (.tmp 132) (.tmp 135) rfl rfl rfl rfl rfl HO10.out hB10 (oneMem (nilDat _ _)) (by simp; omega) ?_)
          intro v11 w11 h1 h2 h3 h4
          have HF := Lib.hid (h1.ops (A := fun k => w.heap.size ≤ k) (fun k hk => by omega))
          have HW11 := Lib.hid (HW10.out.keep h2 (Nat.le_refl _))
          clear h1 h2 h3 h4
          go_wp2
          go_ret
          refine ⟨_, rfl, ?_, HW11.out.below⟩
          have hF := HF.out
          simp only [List.map_append, HPS.out] at hF
          rw [HE.out]
          exact hF

end Go.Proofs.YtlobohpbgghleaaGreatDoor

namespace Go.Proofs.YtlobohpbgghleaaGreatDoor
open Go.RowKit

/-! ## the document's Apply -/

theorem wpList_load_opAt {ops : Array Oper} {rest : List Oper} {o : Oper} {a : Act} {w : World} {Q : Exit → Act → World → Prop} (hgd : o.guard = none) (x : Operand) (ho : o.op = .load 59 x)
    (b off : Nat) (d : DOp) (bv kv : Value) (hx : a.eval x = .pointer (some ⟨b, off, none⟩)) (hE : w.rangeAt b off (opCs d bv kv).toList)
    (h : wpList Tryz.prog ops Q rest (a.put o.dst (opV d bv kv)) w) : wpList Tryz.prog ops Q (o :: rest) a w :=
  wpList_load_mid hgd 59 x ho b off hx (opCs d bv kv).toList _ hE Tryz.underlying59 rfl opInfo h
/-- the ops of a plan are told ones -/
theorem refOps_fine {d : Disk} {p : Pl} : ∀ o ∈ refOps d p, OpFine o := by
  have hb : ∀ (k : Int) (n t b : List UInt8) (x y : Int) (q : List Int), 0 ≤ k → k ≤ 5 → OpFine ⟨k, n, t, b, x, y, q⟩ := fun k n t b x y q h1 h2 => ⟨h1, by show k ≤ 7; omega, by show k ≠ 6; omega⟩
  have hb7 : ∀ n : List UInt8, OpFine (opSize n) := fun n => ⟨by show (0 : Int) ≤ 7; decide, by show (7 : Int) ≤ 7; decide, by show (7 : Int) ≠ 6; decide⟩
  intro o ho
  unfold refOps at ho
  rcases List.mem_append.1 ho with ho | ho
  · obtain ⟨x, _, rfl⟩ := List.mem_map.1 ho
    exact hb 4 _ _ _ _ _ _ (by decide) (by decide)
  · split at ho
    · simp only [beginOps, List.mem_cons, List.not_mem_nil, or_false] at ho
      rcases ho with rfl | rfl | rfl | rfl | rfl | rfl | rfl <;> exact hb _ _ _ _ _ _ _ (by decide) (by decide)
    · rcases List.mem_cons.1 ho with rfl | ho
      · exact hb7 _
      · rcases List.mem_append.1 ho with ho | ho
        · unfold cutOps at ho
          split at ho
          · cases ho
          · split at ho
            · simp at ho; subst ho; exact hb 5 _ _ _ _ _ _ (by decide) (by decide)
            · cases ho
        · simp at ho; subst ho; exact hb 2 _ _ _ _ _ _ (by decide) (by decide)
theorem refOps_n {d : Disk} {p : Pl} (hc : p.cut ≤ 9223372036854775807) : ∀ o ∈ refOps d p, o.n ≤ 9223372036854775807 := by
  intro o ho
  unfold refOps at ho
  rcases List.mem_append.1 ho with ho | ho
  · obtain ⟨x, _, rfl⟩ := List.mem_map.1 ho
    show (0 : Int) ≤ _; decide
  · split at ho
    · simp only [beginOps, List.mem_cons, List.not_mem_nil, or_false] at ho
      rcases ho with rfl | rfl | rfl | rfl | rfl | rfl | rfl <;> (show (0 : Int) ≤ _; decide)
    · rcases List.mem_cons.1 ho with rfl | ho
      · show (0 : Int) ≤ _; decide
      · rcases List.mem_append.1 ho with ho | ho
        · unfold cutOps at ho
          split at ho
          · cases ho
          · split at ho
            · simp at ho; subst ho; exact hc
            · cases ho
        · simp at ho; subst ho; show (0 : Int) ≤ _; decide
theorem refOps_len (d : Disk) (p : Pl) : (refOps d p).length ≤ p.remove.length + 7 := by
  unfold refOps remOps
  rw [List.length_append, List.length_map]
  split
  · simp [beginOps]
  · simp only [List.length_cons, List.length_append, List.length_nil]
    have : (cutOps (segN p.man) p.cut (if p.remove.any (fun x => x == segN p.man) then none else atF d.files (segN p.man))).length ≤ 1 := by
      unfold cutOps
      split
      · simp
      · split <;> simp
    omega
/-- the document's Apply: its blocks -/
structure RaW (w : World) (p : Pl) (sv rv : Value) (dk : Disk) (vk : Value) (W : World) : Prop where
  dk : DkBlk W w.heap.size dk vk
  pl : PlBlk W (w.heap.size + 1) p sv rv
  res : ∃ rd rv', DkBlk W (w.heap.size + 1 + 1) rd rv'
  below : Below w.heap.size w W
  size : w.heap.size + 1 + 1 + 1 ≤ W.heap.size
section
variable {w W W' : World} {p : Pl} {sv rv : Value} {dk d' : Disk} {vk fv' : Value}
theorem RaW.next (h : RaW w p sv rv dk vk W) (hb : Below W.heap.size W W') : RaW w p sv rv dk vk W' := by
  obtain ⟨rd, rv', hr⟩ := h.res
  have hs := h.size
  exact ⟨h.dk.below hb, h.pl.below hb, ⟨rd, rv', hr.below hb⟩, Below.next h.below hb, Nat.le_trans h.size hb.size⟩
theorem RaW.start (w : World) (p : Pl) (sv rv : Value) (d : Disk) (fv : Value) (rd : Disk) (rv' : Value) :
    RaW w p sv rv d fv (((w.alloc (.cells (dkCs d fv) 51)).alloc (.cells (plCs p sv rv) 34)).alloc (.cells (dkCs rd rv') 51)) := by
  have sz : ∀ (w : World) (o : Obj), (w.alloc o).heap.size = w.heap.size + 1 := fun w o => by simp
  have h2 := plBlk_alloc (w.alloc (.cells (dkCs d fv) 51)) p sv rv
  have h3 := dkBlk_alloc ((w.alloc (.cells (dkCs d fv) 51)).alloc (.cells (plCs p sv rv) 34)) rd rv'
  rw [sz] at h2
  rw [sz, sz] at h3
  exact ⟨((dkBlk_alloc w d fv).below (below_alloc _ _)).below (below_alloc _ _), h2.below (below_alloc _ _), ⟨rd, rv', h3⟩, Below.next (Below.next (below_alloc _ _) (below_alloc _ _)) (below_alloc _ _), by rw [sz, sz, sz]; omega⟩
theorem RaW.setAll (h : RaW w p sv rv dk vk W) (hW : W' = W.setRow w.heap.size (dkCs d' fv')) : RaW w p sv rv d' fv' W' := by
  subst hW
  obtain ⟨rd, rv', hr⟩ := h.res
  exact ⟨h.dk.row, h.pl.kept (setRow_other _ _ _ _ (by omega)), ⟨rd, rv', by unfold DkBlk; rw [setRow_other _ _ _ _ (by omega)]; exact hr⟩, below_row h.below (Nat.le_refl _) _, by simpa using h.size⟩
theorem RaW.keepRow (h : RaW w p sv rv dk vk W) {g : Nat} (hg : w.heap.size + 1 + 1 + 1 ≤ g) (cs : Array Value) : RaW w p sv rv dk vk (W.setRow g cs) := by
  obtain ⟨rd, rv', hr⟩ := h.res
  exact ⟨by unfold DkBlk; rw [setRow_other _ _ _ _ (by omega)]; exact h.dk, h.pl.kept (setRow_other _ _ _ _ (by omega)), ⟨rd, rv', by unfold DkBlk; rw [setRow_other _ _ _ _ (by omega)]; exact hr⟩, below_row h.below (by omega) _, by simpa using h.size⟩
theorem RaW.done (h : RaW w p sv rv dk vk W) (hW : W' = W.setRow (w.heap.size + 1 + 1) (dkCs d' fv')) : DkBlk W' (w.heap.size + 1 + 1) d' fv' ∧ Below w.heap.size w W' ∧ Turned (fun k => k = w.heap.size + 1 + 1) W W' := by
  subst hW
  obtain ⟨rd, rv', hr⟩ := h.res
  exact ⟨hr.row, below_row h.below (by omega) _, ⟨rfl, rfl, rfl, by simp, fun k _ hn => setRow_other _ _ _ _ hn⟩⟩
end
theorem PlBlk.manRange {w : World} {b : Nat} {p : Pl} {sv rv : Value} (h : PlBlk w b p sv rv) : w.rangeAt b 0 (plCs p sv rv).toList := fun j u hj => by
  rw [Nat.zero_add, h.cell]; simpa using hj
theorem plInfo : (Tryz.prog.info? 34).map (·.size) = some 10 := by kernel_rfl
theorem wpList_load_pl {ops : Array Oper} {rest : List Oper} {o : Oper} {a : Act} {w : World} {Q : Exit → Act → World → Prop} (hgd : o.guard = none) (x : Operand) (ho : o.op = .load 34 x)
    (g : Nat) (p : Pl) (sv rv : Value) (hx : a.eval x = .pointer (some ⟨g, 0, none⟩)) (hE : PlBlk w g p sv rv)
    (h : wpList Tryz.prog ops Q rest (a.put o.dst (plV p sv rv)) w) : wpList Tryz.prog ops Q (o :: rest) a w :=
  wpList_load_row hgd 34 x ho g hx 34 (plCs p sv rv) (0, 0) _ hE Tryz.underlying34 rfl plInfo h
def RaPost (A : Nat → Prop) (w : World) (r : Disk × Int) (e : Ending) (w' : World) : Prop :=
  ∃ v, e = .returned (.tuple #[dkV r.1 v, .int .i64 r.2]) ∧ FilesIn A w' v r.1.files ∧ Below w.heap.size w w'

set_option maxRecDepth 100000 in
set_option maxHeartbeats 4000000 in
theorem refApply_bad {A : Nat → Prop} (d : Disk) (fv : Value) (p : Pl) (sv rv : Value) (w : World) (hf : FilesIn A w fv d.files) (hs : SgRow w sv p.man.segs) (hok : manOk p.man = false) :
    Calls Tryz.prog 25 #[dkV d fv, plV p sv rv] w (RaPost A w (applyD d p)) := by
  have HE := Lib.hid (show applyD d p = (d, 1) by unfold applyD; rw [hok]; rfl)
  have HW0 := Lib.hid (RaW.start w p sv rv d fv ⟨[], 0, 0, false, 0, 0⟩ (.slice none 0 0))
  have HV := Lib.hid (refValid_any p.man sv _ (hs.below HW0.out.below))
  rw [hok] at HV
  have HFL := Lib.hid hf.low
  have HMR := Lib.hid HW0.out.pl.man
  simp only [dkCs, plCs] at HW0 HMR
  clear hf hs hok
  go_enter Tryz.func25, Tryz.ntmps25
  go_wp2_with (with_reducible refine wpList_load_mnAt rfl (.tmp 12) rfl (w.heap.size + 1) 1 p.man sv rfl HMR.out ?_)
  refine HV.out.mono ?_
  rintro e w1 ⟨rfl, hb1⟩
  have HW1 := Lib.hid (HW0.out.next hb1)
  have HV1 := Lib.hid (show fv.oneCell' = true from HFL.out.one)
  obtain ⟨rd, rvv, hr8⟩ := HW1.out.res
  have HR8 := Lib.hid hr8
  clear hb1 hr8
  go_wp2_with (first | (with_reducible refine wpList_load_dk rfl (.tmp 2) rfl w.heap.size d fv rfl HW1.out.dk ?_) | (with_reducible refine wpList_store_dk rfl (.tmp 4) (.tmp 16) rfl (w.heap.size + 1 + 1) rd d rvv fv rfl rfl HR8.out HV1.out ?_))
  intro w9 hw9
  obtain ⟨hd9, hb9, ht9⟩ := HW1.out.done hw9.out
  have HP9 := Lib.hid (((HFL.out.below HW1.out.below).turned ht9 (fun k hk' => by have := hk'.2; omega)).mono (A' := A) (fun k hk' => hk'.1))
  have HD9 := Lib.hid hd9
  have HB9 := Lib.hid hb9
  clear hw9 hd9 hb9 ht9
  go_wp2
  refine bodyPost_ret (v := .tuple #[dkV d fv, .int .i64 1]) (results_dk2 rfl _ _ (w.heap.size + 1 + 1) d fv _ rfl rfl HD9.out) rfl ?_
  unfold RaPost
  rw [HE.out]
  exact ⟨_, rfl, HP9.out, HB9.out⟩

set_option maxRecDepth 100000 in
set_option maxHeartbeats 8000000 in
theorem refApply_good {A : Nat → Prop} (d : Disk) (fv : Value) (p : Pl) (sv rv : Value) (w : World) (hf : FilesIn A w fv d.files) (hA : ∀ k, w.heap.size ≤ k → A k) (hd : DiskOk d) (hst : d.steps + p.remove.length + 16 < 4611686018427387904) (hs : SgRow w sv p.man.segs) (hr : StRow w rv p.remove) (hn : p.remove.length ≤ 1048576) (hc : p.cut ≤ 9223372036854775807) (hok : manOk p.man = true) :
    Calls Tryz.prog 25 #[dkV d fv, plV p sv rv] w (RaPost A w (applyD d p)) := by
  have HAP := Lib.hid (show applyD d p = runD d (refOps d p) by unfold applyD; rw [hok]; rfl)
  have HW0 := Lib.hid (RaW.start w p sv rv d fv ⟨[], 0, 0, false, 0, 0⟩ (.slice none 0 0))
  have HV := Lib.hid (refValid_any p.man sv _ (hs.below HW0.out.below))
  rw [hok] at HV
  have HFL := Lib.hid (hf.low.mono (A' := Out A w.heap.size (w.heap.size + 1 + 1 + 1)) (fun k hk' => ⟨hk'.1, .inl hk'.2⟩))
  have HAA := Lib.hid (show ∀ W : World, w.heap.size + 1 + 1 + 1 ≤ W.heap.size → ∀ k, W.heap.size ≤ k → Out A w.heap.size (w.heap.size + 1 + 1 + 1) k from fun W hW k hk => ⟨hA k (by omega), .inr (by omega)⟩)
  have HMR := Lib.hid HW0.out.pl.man
  have HST := Lib.hid (fun (W : World) (vk : Value) (hW : RaW w p sv rv d fv W) => refSteps_any (A := Out A w.heap.size (w.heap.size + 1 + 1 + 1)) d fv p sv rv W (HFL.out.below hW.below) (hs.below hW.below) (hr.below hW.below) hok hn)
  have HFINE := Lib.hid (refOps_fine (d := d) (p := p))
  have HFN := Lib.hid (refOps_n (d := d) (p := p) hc)
  have HLEN := Lib.hid (refOps_len d p)
  have HSB := Lib.hid hst
  have HDK := Lib.hid hd
  simp only [dkCs, plCs] at HW0 HMR
  clear hf hs hok hA hd hst hr hn hc
  go_enter Tryz.func25, Tryz.ntmps25
  go_wp2_with (with_reducible refine wpList_load_mnAt rfl (.tmp 12) rfl (w.heap.size + 1) 1 p.man sv rfl HMR.out ?_)
  refine HV.out.mono ?_
  rintro e w1 ⟨rfl, hb1⟩
  have HW1 := Lib.hid (HW0.out.next hb1)
  clear hb1 HW0 HMR HV
  go_wp2_with (first | (with_reducible refine wpList_load_dk rfl (.tmp 2) rfl w.heap.size d fv rfl HW1.out.dk ?_) | (with_reducible refine wpList_load_pl rfl (.tmp 3) rfl (w.heap.size + 1) p sv rv rfl HW1.out.pl ?_))
  refine (HST.out w1 fv HW1.out).mono ?_
  rintro e w2 ⟨v2, rfl, hops, hb2⟩
  have HW2 := Lib.hid (HW1.out.next hb2)
  have HF2 := Lib.hid (HFL.out.below HW2.out.below)
  have HOPS := Lib.hid hops
  obtain ⟨oa, cap, rfl, hl1, hl2, hco⟩ := hops
  have HCO := Lib.hid hco
  have HSZ := Lib.hid HW1.out.size
  obtain ⟨os, hos⟩ : ∃ os, os = refOps d p := ⟨_, rfl⟩
  rw [← hos] at HAP HFINE HFN HLEN HCO hl1
  rw [← hos]
  clear hb2 HST HW1 hco hos HOPS
  have HB2 := Lib.hid (fun k => show w1.heap.size ≤ k → Out A w.heap.size (w.heap.size + 1 + 1 + 1) k from fun hk => HAA.out w1 HSZ.out k hk)
  go_wp2
  go_loopw [7, 8, 9, 10, 11, 22] (fun _ _ _ _ _ iv wr => ∃ (k : Nat) (dk : Disk) (vk : Value), k ≤ os.length ∧ iv = .int .i64 k ∧ Hid (RaW w p sv rv dk vk wr) ∧ Hid (FilesIn (Out A w.heap.size (w.heap.size + 1 + 1 + 1)) wr vk dk.files) ∧ Hid (runD d os = runD dk (os.drop k)) ∧ Hid (DiskOk dk ∧ dk.steps ≤ d.steps + k) ∧
      Hid (∀ (i : Nat) o, os[i]? = some o → ∃ b off bv, oa = some ⟨b, off, none⟩ ∧ wr.rangeAt b (off + i * 7) (opCs o bv (.slice none 0 0)).toList ∧ BRowIn (Out A w.heap.size (w.heap.size + 1 + 1 + 1)) wr bv o.b ∧ w1.heap.size ≤ b)) (fun _ _ _ _ _ iv _ => os.length - (intOf iv).toNat)
  case atStart =>
    refine ⟨0, d, fv, Nat.zero_le _, rfl, HW2, HF2, Lib.hid rfl, Lib.hid ⟨HDK.out, by omega⟩, Lib.hid fun i o hi => ?_⟩
    obtain ⟨b, off, bv, e1, e2, e3, e4⟩ := HCO.out i o hi
    exact ⟨b, off, bv, e1, e3, e4.mono (fun k hk => HB2.out k hk), e2⟩
  case round =>
    clear HW2 HF2 HCO
    obtain ⟨k, dk, vk, hk, rfl, HW, HF, HRUN, HOK, HCO⟩ := hrel
    by_cases hlt : k < os.length
    · obtain ⟨o, ho, _, hom⟩ := nth os k hlt
      have q1 : (k : Int) < (os.length : Int) := by omega
      obtain ⟨b, off, bv, rfl, hrg, hbv, hbl⟩ := HCO.out k o ho
      have HFO := Lib.hid (HFINE.out o hom)
      have HNO := Lib.hid (HFN.out o hom)
      have HDR := Lib.hid (show os.drop k = o :: os.drop (k + 1) from dropF_cons ho)
      have HRG := Lib.hid (fun W (hW : Below wr.heap.size wr W) => range_later hrg hW)
      have HBV := Lib.hid hbv
      clear ho hom hbv hbl
      have HRG0 := Lib.hid hrg
      have HWd := Lib.hid (HW.out.next (show Below wr.heap.size wr wr.drew from below_drewN' wr 1))
      have HBd := Lib.hid (show Below wr.heap.size wr wr.drew from below_drewN' wr 1)
      have HFd := Lib.hid (HF.out.below HBd.out)
      have HVd := Lib.hid (HBV.out.below HBd.out)
      clear hrg HRG HW HF HBV
      go_wp2_with fail
      refine wp_region_held_drew (S := fun w' => RaW w p sv rv dk vk w' ∧ w'.rangeAt b (off + k * 7) (opCs o bv (.slice none 0 0)).toList) (by kernel_rfl) ⟨HWd.out, range_later HRG0.out HBd.out⟩ (fun hHeld => ?_)
      refine tkl 0 w.heap.size 0 (dkCs dk vk).toList rfl rfl (fun w' h j v hv => by rw [Nat.zero_add, h.1.dk.cell]; simpa using hv) Tryz.underlying51 rfl (by rw [dkInfo]; rfl) ?_
      simp only [pA, pB, pC, pD]
      refine tk 1 rfl ?v_63 ?hy_63 ?r_63
      case hy_63 => intro w hSw; go_simp; try with_reducible rfl
      simp only [pA, pB, pC, pD]
      refine tk 2 rfl ?v_64 ?hy_64 ?r_64
      case hy_64 => intro w hSw; go_simp; try with_reducible rfl
      simp only [pA, pB, pC, pD]
      refine tk 3 rfl ?v_65 ?hy_65 ?r_65
      case hy_65 => intro w hSw; go_simp; try with_reducible rfl
      simp only [pA, pB, pC, pD]
      refine tkl 4 b (off + k * 7) (opCs o bv (.slice none 0 0)).toList rfl rfl (fun w' h => h.2) Tryz.underlying59 rfl (by rw [opInfo]; rfl) ?_
      simp only [pA, pB, pC, pD]
      generalize World.drew _ = Wd at *
      refine wpAnyH_ready (rs := [5, 11]) (by kernel_rfl) (by simp) ?_
      refine AllReadyH.cons rfl (fun K hK => ?_) (AllReadyH.cons rfl (fun K hK => ?_) AllReadyH.nil)
      · have HKN := Lib.hid (fun gx' k => show Out A w.heap.size (w.heap.size + 1 + 1 + 1) k ∧ k < Wd.heap.size → Wd.heap.size ≤ gx' → k ≠ gx' from fun h1 h2 => by omega)
        go_simp
        go_at_call 23
        have HDO := Lib.hid (do_any (A := Out A w.heap.size (w.heap.size + 1 + 1 + 1)) dk vk o bv (.slice none 0 0) Wd HFd.out (HAA.out Wd HWd.out.size) HOK.out.1 (by have h1 := HOK.out.2; have h2 := HSB.out; have h3 := HLEN.out; omega) HVd.out HFO.out)
        refine HDO.out.mono ?_
        rintro e w3 ⟨v3, rfl, h3, hb3⟩
        have HF3 := Lib.hid h3.low
        have HW3 := Lib.hid (HWd.out.next hb3)
        have HB3 := Lib.hid (Below.next HBd.out hb3)
        clear HDO h3 hHeld HKN
        obtain ⟨dn, hdn⟩ : ∃ y, y = (doD dk o).1 := ⟨_, rfl⟩
        obtain ⟨er, her⟩ : ∃ y, y = (doD dk o).2.2.2 := ⟨_, rfl⟩
        rw [← hdn] at HF3
        rw [← hdn, ← her]
        have HDN := Lib.hid hdn
        have HER := Lib.hid her
        clear hdn her
        generalize (doD dk o).2.2.1 = en at *
        go_wp2_with fail
        refine hK.out _ _ ⟨HW3.out, range_later HRG0.out HB3.out⟩ (fun hHeld => ?_)
        clear hK K hb3
        refine tk 6 rfl ?v_66 ?hy_66 ?r_66
        case hy_66 => intro w hSw; go_simp; try with_reducible rfl
        simp only [pA, pB, pC, pD]
        refine tk 7 rfl ?v_67 ?hy_67 ?r_67
        case hy_67 => intro w hSw; go_simp; try with_reducible rfl
        simp only [pA, pB, pC, pD]
        refine tk 8 rfl ?v_68 ?hy_68 ?r_68
        case hy_68 => intro w hSw; go_simp; try with_reducible rfl
        simp only [pA, pB, pC, pD]
        refine tk 9 rfl ?v_69 ?hy_69 ?r_69
        case hy_69 => intro w hSw; go_simp; try with_reducible rfl
        simp only [pA, pB, pC, pD]
        refine tk 10 rfl ?v_70 ?hy_70 ?r_70
        case hy_70 => intro w hSw; go_simp; try with_reducible rfl
        simp only [pA, pB, pC, pD]
        have hgx : wr.heap.size ≤ w3.heap.size := HB3.out.size
        have hgx3 : w.heap.size + 1 + 1 + 1 ≤ w3.heap.size := HW3.out.size
        have HW5 := Lib.hid (HW3.out.next (below_alloc w3 (.cells #[.slice none 0 0, .int .i64 0, .int .i64 0, .bool false, .int .i64 0, .int .i64 0] 51)))
        have HB5 := Lib.hid (Below.next HB3.out (below_alloc w3 (.cells #[.slice none 0 0, .int .i64 0, .int .i64 0, .bool false, .int .i64 0, .int .i64 0] 51)))
        have HGZ := Lib.hid (show DkBlk (w3.alloc (.cells #[.slice none 0 0, .int .i64 0, .int .i64 0, .bool false, .int .i64 0, .int .i64 0] 51)) w3.heap.size ⟨[], 0, 0, false, 0, 0⟩ (.slice none 0 0) from heap_alloc_new w3 _)
        have HF5 := Lib.hid (show FilesIn (fun k => Out A w.heap.size (w.heap.size + 1 + 1 + 1) k ∧ k ≠ w3.heap.size) (w3.alloc (.cells #[.slice none 0 0, .int .i64 0, .int .i64 0, .bool false, .int .i64 0, .int .i64 0] 51)) v3 dn.files from (HF3.out.mono (fun k hk => ⟨hk.1, Nat.ne_of_lt hk.2⟩)).below (below_alloc w3 _))
        refine wpAnyH_ready (rs := [11]) (by kernel_rfl) (by simp) ?_
        refine AllReadyH.cons rfl (fun K hK => ?_) AllReadyH.nil
        go_simp
        refine hK.out _ _ ⟨HW5.out, range_later HRG0.out HB5.out⟩ (fun hHeld => ?_)
        clear hK K HW3 HB3 hHeld
        generalize w3.heap.size = gx at *
        generalize w3.alloc (.cells #[.slice none 0 0, .int .i64 0, .int .i64 0, .bool false, .int .i64 0, .int .i64 0] 51) = W5 at *
        refine wpAnyH_ready (rs := [12]) (by kernel_rfl) (by simp) ?_
        refine AllReadyH.cons rfl (fun K hK => ?_) AllReadyH.nil
        rw [if_pos (by kernel_rfl)]
        refine wp_store_row 51 (.tmp 8) (.tmp 32) rfl gx (dkCs dn v3) rfl rfl 51 (dkCs ⟨[], 0, 0, false, 0, 0⟩ (.slice none 0 0)) HGZ.out dkInfo rfl (dkCs_one _ _ HF3.out.one) ?_
        have HGS := Lib.hid (show DkBlk (W5.setRow gx (dkCs dn v3)) gx dn v3 from HGZ.out.row)
        have HW6 := Lib.hid (HW5.out.keepRow hgx3 (dkCs dn v3))
        have HF6 := Lib.hid ((HF5.out.turned (S := fun k => k = gx) (w' := W5.setRow gx (dkCs dn v3)) ⟨rfl, rfl, rfl, by simp, fun k _ hn => setRow_other _ _ _ _ hn⟩ (fun k hk => hk.2)).mono (A' := Out A w.heap.size (w.heap.size + 1 + 1 + 1)) (fun k hk => hk.1))
        have HB6 := Lib.hid (show Below wr.heap.size wr (W5.setRow gx (dkCs dn v3)) from below_row HB5.out hgx _)
        refine hK.out _ _ ⟨HW6.out, range_later HRG0.out HB6.out⟩ (fun hHeld => ?_)
        clear hK K HGZ HW5 HF5 HB5
        generalize W5.setRow gx (dkCs dn v3) = W6 at *
        refine tk 13 rfl ?v_71 ?hy_71 ?r_71
        case hy_71 => intro w hSw; go_simp; try with_reducible rfl
        simp only [pA]
        refine tk 14 rfl ?v_72 ?hy_72 ?r_72
        case hy_72 => intro w hSw; go_simp; try with_reducible rfl
        simp only [pA]
        refine tk 15 rfl ?v_73 ?hy_73 ?r_73
        case hy_73 => intro w hSw; go_simp; try with_reducible rfl
        simp only [pA]
        refine wpAnyH_done (by kernel_rfl) ?_ _
        go_wp2_with (first | (with_reducible refine wpList_load_dk rfl (.tmp 8) rfl gx dn v3 rfl HGS.out ?_) | (with_reducible refine wpList_store_dk rfl (.tmp 2) (.tmp 36) rfl w.heap.size dk dn vk v3 rfl rfl HW6.out.dk HF6.out.one ?_))
        intro w7 hw7
        have HW7 := Lib.hid (HW6.out.setAll hw7.out)
        have HT7 := Lib.hid (show Turned (fun k => k = w.heap.size) W6 w7 by rw [hw7.out]; exact ⟨rfl, rfl, rfl, by simp, fun k _ hn => setRow_other _ _ _ _ hn⟩)
        have HF7 := Lib.hid (HF6.out.turned HT7.out (fun k hk => by have := hk.2; omega))
        clear hw7 HGS HW6 HF6
        by_cases he : er = 0
        · have HRUN' := Lib.hid (show runD d os = runD dn (os.drop (k + 1)) by rw [HRUN.out, HDR.out, runD_go (by rw [← HER.out]; exact he), ← HDN.out])
          have HOK' := Lib.hid (show DiskOk dn ∧ dn.steps ≤ d.steps + (k + 1 : Nat) by
            rw [HDN.out]
            have h1 := (doD_steps dk o).1
            have h2 := HOK.out.2
            exact ⟨doD_ok HOK.out.1 (by have := HFO.out.hi; omega) HNO.out, by omega⟩)
          have HCO' := Lib.hid (show ∀ (i : Nat) o, os[i]? = some o → ∃ b' off' bv', some (⟨b, off, none⟩ : Addr) = some ⟨b', off', none⟩ ∧ w7.rangeAt b' (off' + i * 7) (opCs o bv' (.slice none 0 0)).toList ∧ BRowIn (Out A w.heap.size (w.heap.size + 1 + 1 + 1)) w7 bv' o.b ∧ w1.heap.size ≤ b' from fun i o' hi => by
            obtain ⟨b', off', bv', e1, e2, e3, e4⟩ := HCO.out i o' hi
            refine ⟨b', off', bv', e1, fun j u hj => HT7.out.cell (range_later e2 HB6.out j u hj) (by have := HSZ.out; show ¬ b' = w.heap.size; omega), ?_, e4⟩
            exact (e3.below HB6.out).turned HT7.out (fun k hk => by have := hk.2; omega))
          clear HRUN HOK HCO HT7 HB6
          subst he
          go_wp2
          go_roundw
          case rel => exact ⟨k + 1, dn, v3, by omega, by go_num, HW7, HF7, HRUN', HOK', HCO'⟩
          case measure => simp [intOf]; omega
        · have HE := Lib.hid (show applyD d p = (dn, er) by rw [HAP.out, HRUN.out, HDR.out, runD_stop (by rw [← HER.out]; exact he), ← HDN.out, ← HER.out])
          have tn : (er != 0) = true := by simpa using he
          have HV1 := Lib.hid (show v3.oneCell' = true from HF7.out.one)
          obtain ⟨rd, rvv, hr8⟩ := HW7.out.res
          have HR8 := Lib.hid hr8
          clear hr8 he HT7 HB6 HCO HRUN
          go_wp2_with (first | (with_reducible refine wpList_load_dk rfl (.tmp 2) rfl w.heap.size dn v3 rfl HW7.out.dk ?_) | (with_reducible refine wpList_store_dk rfl (.tmp 4) (.tmp 39) rfl (w.heap.size + 1 + 1) rd dn rvv v3 rfl rfl HR8.out HV1.out ?_))
          intro w9 hw9
          obtain ⟨hd9, hb9, ht9⟩ := HW7.out.done hw9.out
          have HP9 := Lib.hid ((HF7.out.turned ht9 (fun k hk' => by have := hk'.2; omega)).mono (A' := A) (fun k hk' => hk'.1))
          have HD9 := Lib.hid hd9
          have HB9 := Lib.hid hb9
          clear hw9 hd9 hb9 ht9
          go_wp2
          refine bodyPost_ret (v := .tuple #[dkV dn v3, .int .i64 er]) (results_dk2 rfl _ _ (w.heap.size + 1 + 1) dn v3 _ rfl rfl HD9.out) rfl ?_
          unfold RaPost
          rw [HE.out]
          exact ⟨_, rfl, HP9.out, HB9.out⟩
      · have hgx : wr.heap.size ≤ Wd.heap.size := HBd.out.size
        have hgx3 : w.heap.size + 1 + 1 + 1 ≤ Wd.heap.size := HWd.out.size
        have HWz := Lib.hid (HWd.out.next (below_alloc Wd (.cells #[.slice none 0 0, .int .i64 0, .int .i64 0, .bool false, .int .i64 0, .int .i64 0] 51)))
        have HBz := Lib.hid (Below.next HBd.out (below_alloc Wd (.cells #[.slice none 0 0, .int .i64 0, .int .i64 0, .bool false, .int .i64 0, .int .i64 0] 51)))
        have HGZ := Lib.hid (show DkBlk (Wd.alloc (.cells #[.slice none 0 0, .int .i64 0, .int .i64 0, .bool false, .int .i64 0, .int .i64 0] 51)) Wd.heap.size ⟨[], 0, 0, false, 0, 0⟩ (.slice none 0 0) from heap_alloc_new Wd _)
        have HFz := Lib.hid (show FilesIn (fun k => Out A w.heap.size (w.heap.size + 1 + 1 + 1) k ∧ k ≠ Wd.heap.size) (Wd.alloc (.cells #[.slice none 0 0, .int .i64 0, .int .i64 0, .bool false, .int .i64 0, .int .i64 0] 51)) vk dk.files from (HFd.out.low.mono (fun k hk => ⟨hk.1, Nat.ne_of_lt hk.2⟩)).below (below_alloc Wd _))
        have HVz := Lib.hid (show BRowIn (fun k => Out A w.heap.size (w.heap.size + 1 + 1 + 1) k ∧ k ≠ Wd.heap.size) (Wd.alloc (.cells #[.slice none 0 0, .int .i64 0, .int .i64 0, .bool false, .int .i64 0, .int .i64 0] 51)) bv o.b from (HVd.out.low.mono (fun k hk => ⟨hk.1, Nat.ne_of_lt hk.2⟩)).below (below_alloc Wd _))
        have hgz : Wd.heap.size < (Wd.alloc (.cells #[.slice none 0 0, .int .i64 0, .int .i64 0, .bool false, .int .i64 0, .int .i64 0] 51)).heap.size := by simp
        go_simp
        refine hK.out _ _ ⟨HWz.out, range_later HRG0.out HBz.out⟩ (fun hHeld => ?_)
        clear hK K HWd HBd HFd HVd
        generalize Wd.heap.size = gx at *
        generalize Wd.alloc (.cells #[.slice none 0 0, .int .i64 0, .int .i64 0, .bool false, .int .i64 0, .int .i64 0] 51) = Wz at *
        refine wpAnyH_ready (rs := [5]) (by kernel_rfl) (by simp) ?_
        refine AllReadyH.cons rfl (fun K hK => ?_) AllReadyH.nil
        go_simp
        go_at_call 23
        have HDO := Lib.hid (do_any (A := (fun k => Out A w.heap.size (w.heap.size + 1 + 1 + 1) k ∧ k ≠ gx)) dk vk o bv (.slice none 0 0) Wz HFz.out (fun k hk => ⟨HAA.out Wz HWz.out.size k hk, by omega⟩) HOK.out.1 (by have h1 := HOK.out.2; have h2 := HSB.out; have h3 := HLEN.out; omega) HVz.out HFO.out)
        refine HDO.out.mono ?_
        rintro e W5 ⟨v3, rfl, h3, hb3⟩
        have HF3 := Lib.hid h3
        have HF5 := Lib.hid h3
        have HW5 := Lib.hid (HWz.out.next hb3)
        have HB5 := Lib.hid (Below.next HBz.out hb3)
        have HGZ := Lib.hid (HGZ.out.below hb3)
        clear HDO h3 hHeld HWz HBz HFz HVz hgz
        obtain ⟨dn, hdn⟩ : ∃ y, y = (doD dk o).1 := ⟨_, rfl⟩
        obtain ⟨er, her⟩ : ∃ y, y = (doD dk o).2.2.2 := ⟨_, rfl⟩
        rw [← hdn] at HF3 HF5
        rw [← hdn, ← her]
        have HDN := Lib.hid hdn
        have HER := Lib.hid her
        clear hdn her
        generalize (doD dk o).2.2.1 = en at *
        go_wp2_with fail
        refine hK.out _ _ ⟨HW5.out, range_later HRG0.out HB5.out⟩ (fun hHeld => ?_)
        clear hK K hb3
        refine tk 6 rfl ?v_74 ?hy_74 ?r_74
        case hy_74 => intro w hSw; go_simp; try with_reducible rfl
        simp only [pA, pB, pC, pD]
        refine tk 7 rfl ?v_75 ?hy_75 ?r_75
        case hy_75 => intro w hSw; go_simp; try with_reducible rfl
        simp only [pA, pB, pC, pD]
        refine tk 8 rfl ?v_76 ?hy_76 ?r_76
        case hy_76 => intro w hSw; go_simp; try with_reducible rfl
        simp only [pA, pB, pC, pD]
        refine tk 9 rfl ?v_77 ?hy_77 ?r_77
        case hy_77 => intro w hSw; go_simp; try with_reducible rfl
        simp only [pA, pB, pC, pD]
        refine tk 10 rfl ?v_78 ?hy_78 ?r_78
        case hy_78 => intro w hSw; go_simp; try with_reducible rfl
        simp only [pA, pB, pC, pD]
        refine wpAnyH_ready (rs := [12]) (by kernel_rfl) (by simp) ?_
        refine AllReadyH.cons rfl (fun K hK => ?_) AllReadyH.nil
        rw [if_pos (by kernel_rfl)]
        refine wp_store_row 51 (.tmp 8) (.tmp 32) rfl gx (dkCs dn v3) rfl rfl 51 (dkCs ⟨[], 0, 0, false, 0, 0⟩ (.slice none 0 0)) HGZ.out dkInfo rfl (dkCs_one _ _ HF3.out.one) ?_
        have HGS := Lib.hid (show DkBlk (W5.setRow gx (dkCs dn v3)) gx dn v3 from HGZ.out.row)
        have HW6 := Lib.hid (HW5.out.keepRow hgx3 (dkCs dn v3))
        have HF6 := Lib.hid ((HF5.out.turned (S := fun k => k = gx) (w' := W5.setRow gx (dkCs dn v3)) ⟨rfl, rfl, rfl, by simp, fun k _ hn => setRow_other _ _ _ _ hn⟩ (fun k hk => hk.2)).mono (A' := Out A w.heap.size (w.heap.size + 1 + 1 + 1)) (fun k hk => hk.1))
        have HB6 := Lib.hid (show Below wr.heap.size wr (W5.setRow gx (dkCs dn v3)) from below_row HB5.out hgx _)
        refine hK.out _ _ ⟨HW6.out, range_later HRG0.out HB6.out⟩ (fun hHeld => ?_)
        clear hK K HGZ HW5 HF5 HB5
        generalize W5.setRow gx (dkCs dn v3) = W6 at *
        refine tk 13 rfl ?v_79 ?hy_79 ?r_79
        case hy_79 => intro w hSw; go_simp; try with_reducible rfl
        simp only [pA]
        refine tk 14 rfl ?v_80 ?hy_80 ?r_80
        case hy_80 => intro w hSw; go_simp; try with_reducible rfl
        simp only [pA]
        refine tk 15 rfl ?v_81 ?hy_81 ?r_81
        case hy_81 => intro w hSw; go_simp; try with_reducible rfl
        simp only [pA]
        refine wpAnyH_done (by kernel_rfl) ?_ _
        go_wp2_with (first | (with_reducible refine wpList_load_dk rfl (.tmp 8) rfl gx dn v3 rfl HGS.out ?_) | (with_reducible refine wpList_store_dk rfl (.tmp 2) (.tmp 36) rfl w.heap.size dk dn vk v3 rfl rfl HW6.out.dk HF6.out.one ?_))
        intro w7 hw7
        have HW7 := Lib.hid (HW6.out.setAll hw7.out)
        have HT7 := Lib.hid (show Turned (fun k => k = w.heap.size) W6 w7 by rw [hw7.out]; exact ⟨rfl, rfl, rfl, by simp, fun k _ hn => setRow_other _ _ _ _ hn⟩)
        have HF7 := Lib.hid (HF6.out.turned HT7.out (fun k hk => by have := hk.2; omega))
        clear hw7 HGS HW6 HF6
        by_cases he : er = 0
        · have HRUN' := Lib.hid (show runD d os = runD dn (os.drop (k + 1)) by rw [HRUN.out, HDR.out, runD_go (by rw [← HER.out]; exact he), ← HDN.out])
          have HOK' := Lib.hid (show DiskOk dn ∧ dn.steps ≤ d.steps + (k + 1 : Nat) by
            rw [HDN.out]
            have h1 := (doD_steps dk o).1
            have h2 := HOK.out.2
            exact ⟨doD_ok HOK.out.1 (by have := HFO.out.hi; omega) HNO.out, by omega⟩)
          have HCO' := Lib.hid (show ∀ (i : Nat) o, os[i]? = some o → ∃ b' off' bv', some (⟨b, off, none⟩ : Addr) = some ⟨b', off', none⟩ ∧ w7.rangeAt b' (off' + i * 7) (opCs o bv' (.slice none 0 0)).toList ∧ BRowIn (Out A w.heap.size (w.heap.size + 1 + 1 + 1)) w7 bv' o.b ∧ w1.heap.size ≤ b' from fun i o' hi => by
            obtain ⟨b', off', bv', e1, e2, e3, e4⟩ := HCO.out i o' hi
            refine ⟨b', off', bv', e1, fun j u hj => HT7.out.cell (range_later e2 HB6.out j u hj) (by have := HSZ.out; show ¬ b' = w.heap.size; omega), ?_, e4⟩
            exact (e3.below HB6.out).turned HT7.out (fun k hk => by have := hk.2; omega))
          clear HRUN HOK HCO HT7 HB6
          subst he
          go_wp2
          go_roundw
          case rel => exact ⟨k + 1, dn, v3, by omega, by go_num, HW7, HF7, HRUN', HOK', HCO'⟩
          case measure => simp [intOf]; omega
        · have HE := Lib.hid (show applyD d p = (dn, er) by rw [HAP.out, HRUN.out, HDR.out, runD_stop (by rw [← HER.out]; exact he), ← HDN.out, ← HER.out])
          have tn : (er != 0) = true := by simpa using he
          have HV1 := Lib.hid (show v3.oneCell' = true from HF7.out.one)
          obtain ⟨rd, rvv, hr8⟩ := HW7.out.res
          have HR8 := Lib.hid hr8
          clear hr8 he HT7 HB6 HCO HRUN
          go_wp2_with (first | (with_reducible refine wpList_load_dk rfl (.tmp 2) rfl w.heap.size dn v3 rfl HW7.out.dk ?_) | (with_reducible refine wpList_store_dk rfl (.tmp 4) (.tmp 39) rfl (w.heap.size + 1 + 1) rd dn rvv v3 rfl rfl HR8.out HV1.out ?_))
          intro w9 hw9
          obtain ⟨hd9, hb9, ht9⟩ := HW7.out.done hw9.out
          have HP9 := Lib.hid ((HF7.out.turned ht9 (fun k hk' => by have := hk'.2; omega)).mono (A' := A) (fun k hk' => hk'.1))
          have HD9 := Lib.hid hd9
          have HB9 := Lib.hid hb9
          clear hw9 hd9 hb9 ht9
          go_wp2
          refine bodyPost_ret (v := .tuple #[dkV dn v3, .int .i64 er]) (results_dk2 rfl _ _ (w.heap.size + 1 + 1) dn v3 _ rfl rfl HD9.out) rfl ?_
          unfold RaPost
          rw [HE.out]
          exact ⟨_, rfl, HP9.out, HB9.out⟩
    · obtain rfl : k = os.length := by omega
      have HE := Lib.hid (show applyD d p = (dk, 0) by rw [HAP.out, HRUN.out, List.drop_of_length_le (Nat.le_refl _)]; rfl)
      have HV1 := Lib.hid (show vk.oneCell' = true from HF.out.one)
      obtain ⟨rd, rvv, hr8⟩ := HW.out.res
      have HR8 := Lib.hid hr8
      clear hr8 HCO HRUN
      go_wp2_with (first | (with_reducible refine wpList_load_dk rfl (.tmp 2) rfl w.heap.size dk vk rfl HW.out.dk ?_) | (with_reducible refine wpList_store_dk rfl (.tmp 4) (.tmp 42) rfl (w.heap.size + 1 + 1) rd dk rvv vk rfl rfl HR8.out HV1.out ?_))
      intro w9 hw9
      obtain ⟨hd9, hb9, ht9⟩ := HW.out.done hw9.out
      have HP9 := Lib.hid ((HF.out.turned ht9 (fun k hk' => by have := hk'.2; omega)).mono (A' := A) (fun k hk' => hk'.1))
      have HD9 := Lib.hid hd9
      have HB9 := Lib.hid hb9
      clear hw9 hd9 hb9 ht9
      go_wp2
      refine bodyPost_ret (v := .tuple #[dkV dk vk, .int .i64 0]) (results_dk2 rfl _ _ (w.heap.size + 1 + 1) dk vk _ rfl rfl HD9.out) rfl ?_
      unfold RaPost
      rw [HE.out]
      exact ⟨_, rfl, HP9.out, HB9.out⟩

end Go.Proofs.YtlobohpbgghleaaGreatDoor
