import Derived.Test.YtlobohpbgghleaaGreatDoorRowD
import Derived.Test.YtlobohpbgghleaaGreatDoorBars
import Derived.Test.YtlobohpbgghleaaGreatDoorDkBlk
namespace Go.Proofs.YtlobohpbgghleaaGreatDoor
open Go.RowKit

/-! ## the document's disk: New, Copy, Same -/

set_option maxRecDepth 100000 in
theorem refNew_any (room : Int) (w : World) :
    Calls Tryz.prog 48 #[.int .i64 room] w fun e w' => e = .returned (dkV (newD room) (.slice none 0 0)) ∧ Below w.heap.size w w' := by
  have key : ∀ r : Int, clampRoom room = r → DkBlk (w.alloc (.cells #[.slice none 0 0, .int .i64 r, .int .i64 0, .bool false, .int .i64 0, .int .i64 0] 51)) w.heap.size (newD room) (.slice none 0 0) := fun r hr => by
    subst hr; exact heap_alloc_new w _
  have hb : ∀ r : Int, Below w.heap.size w (w.alloc (.cells #[.slice none 0 0, .int .i64 r, .int .i64 0, .bool false, .int .i64 0, .int .i64 0] 51)) := fun r => below_alloc w _
  have HB := Lib.hid hb
  have HK := Lib.hid key
  clear key hb
  rcases h1 : decide (room < 0) with _ | _
  · rcases h2 : decide (67108864 < room) with _ | _
    · have HD := Lib.hid (HK.out room (by unfold clampRoom; rw [if_neg (by simpa using h1), if_neg (by simpa using h2)]))
      go_enter Tryz.func48, Tryz.ntmps48
      go_wp2
      exact bodyPost_ret (v := dkV (newD room) (.slice none 0 0)) (results_dk1 rfl _ _ w.heap.size (newD room) (.slice none 0 0) rfl HD.out) rfl ⟨rfl, HB.out _⟩
    · have HD := Lib.hid (HK.out 67108864 (by unfold clampRoom; rw [if_neg (by simpa using h1), if_pos (by simpa using h2)]))
      go_enter Tryz.func48, Tryz.ntmps48
      go_wp2
      exact bodyPost_ret (v := dkV (newD room) (.slice none 0 0)) (results_dk1 rfl _ _ w.heap.size (newD room) (.slice none 0 0) rfl HD.out) rfl ⟨rfl, HB.out _⟩
  · have HD := Lib.hid (HK.out 0 (by unfold clampRoom; rw [if_pos (by simpa using h1)]))
    go_enter Tryz.func48, Tryz.ntmps48
    go_wp2
    exact bodyPost_ret (v := dkV (newD room) (.slice none 0 0)) (results_dk1 rfl _ _ w.heap.size (newD room) (.slice none 0 0) rfl HD.out) rfl ⟨rfl, HB.out _⟩

theorem take_succ_of {α : Type} {l : List α} {k : Nat} {x : α} (h : l[k]? = some x) : l.take (k + 1) = l.take k ++ [x] := by
  obtain ⟨h1, h2⟩ := List.getElem?_eq_some_iff.1 h
  rw [List.take_succ_eq_append_getElem h1, h2]

set_option maxRecDepth 100000 in
set_option maxHeartbeats 2000000 in
theorem refCopyF_any {A : Nat → Prop} (fs : List Fil) (fv : Value) (w : World) (hf : FilesIn A w fv fs) (hn : fs.length ≤ 1000000000) (hl : ∀ f ∈ fs, f.data.length ≤ 140737488355328) :
    Calls Tryz.prog 11 #[fv] w fun e w' => ∃ v, e = .returned v ∧ FilesIn (fun k => w.heap.size ≤ k) w' v fs ∧ Below w.heap.size w w' := by
  obtain ⟨oa, cap, rfl, hl1, hl2, hcc⟩ := hf.shape
  have HCC := Lib.hid hcc
  have HL := Lib.hid hl
  have HO0 := Lib.hid (show OwnG (w.alloc (.cells #[] 49)) w.heap.size (.slice (some ⟨w.heap.size, 0, none⟩) 0 0) [] from ownD_fresh w w.heap.size (Nat.le_refl _))
  have HB0 := Lib.hid (below_alloc w (.cells #[] 49))
  clear hcc hf hl
  go_enter Tryz.func11, Tryz.ntmps11
  go_wp2
  go_loopw [3, 4, 8] (fun v _ iv wr => ∃ (k : Nat) (ps : List (Fil × Value)), k ≤ fs.length ∧ iv = .int .i64 k ∧ ps.length = k ∧ OwnG wr w.heap.size v ps ∧ Hid (ps.map (·.1) = fs.take k) ∧ Below w.heap.size w wr) (fun _ _ iv _ => fs.length - (intOf iv).toNat)
  case atStart => exact ⟨0, [], Nat.zero_le _, rfl, rfl, HO0.out, Lib.hid rfl, HB0.out⟩
  case round =>
    clear HO0 HB0
    obtain ⟨k, ps, hk, rfl, hpl, hown, HP, hb⟩ := hrel
    have HO := Lib.hid hown
    have HB := Lib.hid hb
    clear hown hb
    by_cases hlt : k < fs.length
    · obtain ⟨f, hf, _, hfm⟩ := nth fs k hlt
      have q1 : (k : Int) < (fs.length : Int) := by omega
      obtain ⟨b, off, rfl, _, dv, hr, hdv⟩ := HCC.out k f hf
      have HSL := Lib.hid (fun W (hW : Below w.heap.size w W) => show W.rangeAt b (off + k * 3) (flCs f dv).toList ∧ BRow W dv f.data from ⟨range_later hr hW, (hdv.below hW).brow⟩)
      have HLEN := Lib.hid (HL.out f hfm)
      have HTK := Lib.hid (take_succ_of hf)
      clear hf hfm hr hdv
      go_wp2_with fail
      refine wp_region_held_drew (S := fun w' => Below w.heap.size w w') (by kernel_rfl) (Below.next HB.out (show Below wr.heap.size wr wr.drew from below_drewN' wr 1)) (fun hHeld => ?_)
      refine tk 0 rfl ?v_213 ?hy_213 ?r_213
      case hy_213 => intro w hSw; have c0 : w.cell? ⟨b, off + k * 3, none⟩ = some (.string ⟨f.name.toArray⟩) := (HSL.out _ hSw).1 0 _ rfl; have c1 := (HSL.out _ hSw).1 1 _ rfl; have c2 := (HSL.out _ hSw).1 2 _ rfl; go_simp; try with_reducible rfl
      simp only [pA, pB, pC, pD]
      refine tk 1 rfl ?v_214 ?hy_214 ?r_214
      case hy_214 => intro w hSw; have c0 : w.cell? ⟨b, off + k * 3, none⟩ = some (.string ⟨f.name.toArray⟩) := (HSL.out _ hSw).1 0 _ rfl; have c1 := (HSL.out _ hSw).1 1 _ rfl; have c2 := (HSL.out _ hSw).1 2 _ rfl; go_simp; try with_reducible rfl
      simp only [pA, pB, pC, pD]
      refine tk 2 rfl ?v_215 ?hy_215 ?r_215
      case hy_215 => intro w hSw; have c0 : w.cell? ⟨b, off + k * 3, none⟩ = some (.string ⟨f.name.toArray⟩) := (HSL.out _ hSw).1 0 _ rfl; have c1 := (HSL.out _ hSw).1 1 _ rfl; have c2 := (HSL.out _ hSw).1 2 _ rfl; go_simp; try with_reducible rfl
      simp only [pA, pB, pC, pD]
      refine tk 3 rfl ?v_216 ?hy_216 ?r_216
      case hy_216 => intro w hSw; have c0 : w.cell? ⟨b, off + k * 3, none⟩ = some (.string ⟨f.name.toArray⟩) := (HSL.out _ hSw).1 0 _ rfl; have c1 := (HSL.out _ hSw).1 1 _ rfl; have c2 := (HSL.out _ hSw).1 2 _ rfl; go_simp; try with_reducible rfl
      simp only [pA, pB, pC, pD]
      refine tk 4 rfl ?v_217 ?hy_217 ?r_217
      case hy_217 => intro w hSw; have c0 : w.cell? ⟨b, off + k * 3, none⟩ = some (.string ⟨f.name.toArray⟩) := (HSL.out _ hSw).1 0 _ rfl; have c1 := (HSL.out _ hSw).1 1 _ rfl; have c2 := (HSL.out _ hSw).1 2 _ rfl; go_simp; try with_reducible rfl
      simp only [pA, pB, pC, pD]
      refine tk 5 rfl ?v_218 ?hy_218 ?r_218
      case hy_218 => intro w hSw; have c0 : w.cell? ⟨b, off + k * 3, none⟩ = some (.string ⟨f.name.toArray⟩) := (HSL.out _ hSw).1 0 _ rfl; have c1 := (HSL.out _ hSw).1 1 _ rfl; have c2 := (HSL.out _ hSw).1 2 _ rfl; go_simp; try with_reducible rfl
      simp only [pA, pB, pC, pD]
      refine tk 6 rfl ?v_219 ?hy_219 ?r_219
      case hy_219 => intro w hSw; have c0 : w.cell? ⟨b, off + k * 3, none⟩ = some (.string ⟨f.name.toArray⟩) := (HSL.out _ hSw).1 0 _ rfl; have c1 := (HSL.out _ hSw).1 1 _ rfl; have c2 := (HSL.out _ hSw).1 2 _ rfl; go_simp; try with_reducible rfl
      simp only [pA, pB, pC, pD]
      refine tk 7 rfl ?v_220 ?hy_220 ?r_220
      case hy_220 => intro w hSw; have c0 : w.cell? ⟨b, off + k * 3, none⟩ = some (.string ⟨f.name.toArray⟩) := (HSL.out _ hSw).1 0 _ rfl; have c1 := (HSL.out _ hSw).1 1 _ rfl; have c2 := (HSL.out _ hSw).1 2 _ rfl; go_simp; try with_reducible rfl
      simp only [pA, pB, pC, pD]
      refine tk 8 rfl ?v_221 ?hy_221 ?r_221
      case hy_221 => intro w hSw; have c0 : w.cell? ⟨b, off + k * 3, none⟩ = some (.string ⟨f.name.toArray⟩) := (HSL.out _ hSw).1 0 _ rfl; have c1 := (HSL.out _ hSw).1 1 _ rfl; have c2 := (HSL.out _ hSw).1 2 _ rfl; go_simp; try with_reducible rfl
      simp only [pA, pB, pC, pD]
      refine tk 9 rfl ?v_222 ?hy_222 ?r_222
      case hy_222 => intro w hSw; have c0 : w.cell? ⟨b, off + k * 3, none⟩ = some (.string ⟨f.name.toArray⟩) := (HSL.out _ hSw).1 0 _ rfl; have c1 := (HSL.out _ hSw).1 1 _ rfl; have c2 := (HSL.out _ hSw).1 2 _ rfl; go_simp; try with_reducible rfl
      simp only [pA, pB, pC, pD]
      refine tk 10 rfl ?v_223 ?hy_223 ?r_223
      case hy_223 => intro w hSw; have c0 : w.cell? ⟨b, off + k * 3, none⟩ = some (.string ⟨f.name.toArray⟩) := (HSL.out _ hSw).1 0 _ rfl; have c1 := (HSL.out _ hSw).1 1 _ rfl; have c2 := (HSL.out _ hSw).1 2 _ rfl; go_simp; try with_reducible rfl
      simp only [pA, pB, pC, pD]
      refine tk 12 rfl ?v_224 ?hy_224 ?r_224
      case hy_224 => intro w hSw; have c0 : w.cell? ⟨b, off + k * 3, none⟩ = some (.string ⟨f.name.toArray⟩) := (HSL.out _ hSw).1 0 _ rfl; have c1 := (HSL.out _ hSw).1 1 _ rfl; have c2 := (HSL.out _ hSw).1 2 _ rfl; go_simp; try with_reducible rfl
      simp only [pA, pB, pC, pD]
      refine tk 13 rfl ?v_225 ?hy_225 ?r_225
      case hy_225 => intro w hSw; have c0 : w.cell? ⟨b, off + k * 3, none⟩ = some (.string ⟨f.name.toArray⟩) := (HSL.out _ hSw).1 0 _ rfl; have c1 := (HSL.out _ hSw).1 1 _ rfl; have c2 := (HSL.out _ hSw).1 2 _ rfl; go_simp; try with_reducible rfl
      simp only [pA, pB, pC, pD]
      refine tk 14 rfl ?v_226 ?hy_226 ?r_226
      case hy_226 => intro w hSw; have c0 : w.cell? ⟨b, off + k * 3, none⟩ = some (.string ⟨f.name.toArray⟩) := (HSL.out _ hSw).1 0 _ rfl; have c1 := (HSL.out _ hSw).1 1 _ rfl; have c2 := (HSL.out _ hSw).1 2 _ rfl; go_simp; try with_reducible rfl
      simp only [pA, pB, pC, pD]
      refine tk 15 rfl ?v_227 ?hy_227 ?r_227
      case hy_227 => intro w hSw; have c0 : w.cell? ⟨b, off + k * 3, none⟩ = some (.string ⟨f.name.toArray⟩) := (HSL.out _ hSw).1 0 _ rfl; have c1 := (HSL.out _ hSw).1 1 _ rfl; have c2 := (HSL.out _ hSw).1 2 _ rfl; go_simp; try with_reducible rfl
      simp only [pA, pB, pC, pD]
      refine tk 16 rfl ?v_228 ?hy_228 ?r_228
      case hy_228 => intro w hSw; have c0 : w.cell? ⟨b, off + k * 3, none⟩ = some (.string ⟨f.name.toArray⟩) := (HSL.out _ hSw).1 0 _ rfl; have c1 := (HSL.out _ hSw).1 1 _ rfl; have c2 := (HSL.out _ hSw).1 2 _ rfl; go_simp; try with_reducible rfl
      simp only [pA, pB, pC, pD]
      have HOd := Lib.hid (HO.out.later (show Below wr.heap.size wr wr.drew from below_drewN' wr 1))
      have HBd := Lib.hid (Below.next HB.out (show Below wr.heap.size wr wr.drew from below_drewN' wr 1))
      clear HO HB
      generalize World.drew _ = Wd at *
      refine wpAnyH_ready (rs := [11]) (by kernel_rfl) (by simp) ?_
      refine AllReadyH.cons rfl (fun K hK => ?_) AllReadyH.nil
      go_simp
      go_at_call 37
      refine (copyBytes_any f.data dv _ (HSL.out _ hHeld).2 HLEN.out).mono ?_
      rintro e w2 ⟨v2, rfl, ho2, hb2⟩
      have HD2 := Lib.hid (datAt_own ho2)
      obtain ⟨o2, cap2, rfl, _, _⟩ := own_shape ho2
      have HO2 := Lib.hid (HOd.out.later hb2)
      have HB2 := Lib.hid (Below.next HBd.out hb2)
      have HGE := Lib.hid HBd.out.size
      clear ho2 hb2 hHeld HOd HBd
      go_wp2_with fail
      refine hK.out _ _ HB2.out (fun hHeld => ?_)
      clear hK K
      refine tk 17 rfl ?v_229 ?hy_229 ?r_229
      case hy_229 => intro w hSw; go_simp; try with_reducible rfl
      simp only [pA, pB, pC, pD]
      refine wpAnyH_ready (rs := [18]) (by kernel_rfl) (by simp) ?_
      refine AllReadyH.cons rfl (fun K hK => ?_) AllReadyH.nil
      go_simp
      refine hK.out _ _ (Below.next HB2.out (below_alloc w2 _)) (fun hHeld => ?_)
      clear hK K
      have hB2 : w.heap.size ≤ w2.heap.size := HB2.out.size
      refine wpAnyH_ready (rs := [19]) (by kernel_rfl) (by simp) ?_
      refine AllReadyH.cons rfl (fun K hK => ?_) AllReadyH.nil
      rw [if_pos (by kernel_rfl)]
      refine wp_appG (f := f) (dv := .slice o2 f.data.length cap2) (.tmp 11) (.tmp 29) rfl rfl rfl HO2.out hB2 HD2.out.1 (fun g' hg' => Nat.le_trans HGE.out (HD2.out.2 g' hg')) (by omega) ?_
      intro v3 w3 h3 h4 h5
      have HO3 := Lib.hid h3
      have HB3 := Lib.hid (HB2.out.trans h4)
      clear h3 h4 h5 hB2
      refine hK.out _ _ HB3.out (fun hHeld => ?_)
      clear hK K
      refine tk 20 rfl ?v_230 ?hy_230 ?r_230
      case hy_230 => intro w hSw; go_simp; try with_reducible rfl
      simp only [pA]
      refine wpAnyH_done (by kernel_rfl) ?_ _
      go_wp2
      go_roundw
      case rel => exact ⟨k + 1, ps ++ [(f, .slice o2 f.data.length cap2)], by omega, by go_num, by simp; omega, HO3.out, Lib.hid (by rw [List.map_append, HP.out, HTK.out]; rfl), HB3.out⟩
      case measure => simp [intOf]; omega
    · obtain rfl : k = fs.length := by omega
      have HE := Lib.hid (show ps.map (·.1) = fs by rw [HP.out, List.take_length])
      have HF := Lib.hid (HO.out.files (A := fun k => w.heap.size ≤ k) (fun k hk => hk))
      go_wp2
      go_ret
      exact ⟨_, rfl, by rw [← HE.out]; exact HF.out, HB.out⟩

set_option maxRecDepth 100000 in
set_option maxHeartbeats 2000000 in
theorem refSameF_any {A A' : Nat → Prop} (fs : List Fil) (v1 v2 : Value) (w : World) (h1 : FilesIn A w v1 fs) (h2 : FilesIn A' w v2 fs) (hl : ∀ f ∈ fs, f.data.length ≤ 140737488355328) :
    Calls Tryz.prog 18 #[v1, v2] w fun e w' => e = .returned (.bool true) ∧ Below w.heap.size w w' := by
  obtain ⟨oa, cap, rfl, hl1, hl2, hcc⟩ := h1.shape
  obtain ⟨ob, cap', rfl, hl3, hl4, hcd⟩ := h2.shape
  have HCC := Lib.hid hcc
  have HCD := Lib.hid hcd
  have HL := Lib.hid hl
  clear hcc hcd h1 h2 hl
  go_enter Tryz.func18, Tryz.ntmps18
  go_wp2
  go_loopw [5, 13] (fun _ iv wr => ∃ (k : Nat), k ≤ fs.length ∧ iv = .int .i64 k ∧ Below w.heap.size w wr) (fun _ iv _ => fs.length - (intOf iv).toNat)
  case atStart => exact ⟨0, Nat.zero_le _, rfl, Below.refl _ _⟩
  case round =>
    obtain ⟨k, hk, rfl, hb⟩ := hrel
    have HB := Lib.hid hb
    clear hb
    by_cases hlt : k < fs.length
    · obtain ⟨f, hf, _, hfm⟩ := nth fs k hlt
      have q1 : (k : Int) < (fs.length : Int) := by omega
      obtain ⟨b, off, rfl, _, dv, hr, hdv⟩ := HCC.out k f hf
      obtain ⟨b', off', rfl, _, dv', hr', hdv'⟩ := HCD.out k f hf
      have HSL := Lib.hid (fun W (hW : Below w.heap.size w W) => show W.rangeAt b (off + k * 3) (flCs f dv).toList ∧ BRow W dv f.data from ⟨range_later hr hW, (hdv.below hW).brow⟩)
      have HSM := Lib.hid (fun W (hW : Below w.heap.size w W) => show W.rangeAt b' (off' + k * 3) (flCs f dv').toList ∧ BRow W dv' f.data from ⟨range_later hr' hW, (hdv'.below hW).brow⟩)
      have HLEN := Lib.hid (Nat.le_trans (HL.out f hfm) (by decide : 140737488355328 ≤ 9223372036854775807))
      have t1 : (f.name != f.name) = false := by simp
      have t2 : (f.safe != f.safe) = false := by simp
      clear hf hfm hr hdv hr' hdv'
      go_wp2_with fail
      refine wp_region_held_drew (S := fun w' => Below w.heap.size w w') (by kernel_rfl) (Below.next HB.out (show Below wr.heap.size wr wr.drew from below_drewN' wr 1)) (fun hHeld => ?_)
      refine tk 0 rfl ?v_231 ?hy_231 ?r_231
      case hy_231 => intro w hSw; have c0 : w.cell? ⟨b, off + k * 3, none⟩ = some (.string ⟨f.name.toArray⟩) := (HSL.out _ hSw).1 0 _ rfl; have c1 := (HSL.out _ hSw).1 1 _ rfl; have c2 := (HSL.out _ hSw).1 2 _ rfl; have j0 : w.cell? ⟨b', off' + k * 3, none⟩ = some (.string ⟨f.name.toArray⟩) := (HSM.out _ hSw).1 0 _ rfl; have j1 := (HSM.out _ hSw).1 1 _ rfl; have j2 := (HSM.out _ hSw).1 2 _ rfl; go_simp; try with_reducible rfl
      simp only [pA, pB, pC, pD]
      refine tk 1 rfl ?v_232 ?hy_232 ?r_232
      case hy_232 => intro w hSw; have c0 : w.cell? ⟨b, off + k * 3, none⟩ = some (.string ⟨f.name.toArray⟩) := (HSL.out _ hSw).1 0 _ rfl; have c1 := (HSL.out _ hSw).1 1 _ rfl; have c2 := (HSL.out _ hSw).1 2 _ rfl; have j0 : w.cell? ⟨b', off' + k * 3, none⟩ = some (.string ⟨f.name.toArray⟩) := (HSM.out _ hSw).1 0 _ rfl; have j1 := (HSM.out _ hSw).1 1 _ rfl; have j2 := (HSM.out _ hSw).1 2 _ rfl; go_simp; try with_reducible rfl
      simp only [pA, pB, pC, pD]
      refine tk 2 rfl ?v_233 ?hy_233 ?r_233
      case hy_233 => intro w hSw; have c0 : w.cell? ⟨b, off + k * 3, none⟩ = some (.string ⟨f.name.toArray⟩) := (HSL.out _ hSw).1 0 _ rfl; have c1 := (HSL.out _ hSw).1 1 _ rfl; have c2 := (HSL.out _ hSw).1 2 _ rfl; have j0 : w.cell? ⟨b', off' + k * 3, none⟩ = some (.string ⟨f.name.toArray⟩) := (HSM.out _ hSw).1 0 _ rfl; have j1 := (HSM.out _ hSw).1 1 _ rfl; have j2 := (HSM.out _ hSw).1 2 _ rfl; go_simp; try with_reducible rfl
      simp only [pA, pB, pC, pD]
      refine tk 3 rfl ?v_234 ?hy_234 ?r_234
      case hy_234 => intro w hSw; have c0 : w.cell? ⟨b, off + k * 3, none⟩ = some (.string ⟨f.name.toArray⟩) := (HSL.out _ hSw).1 0 _ rfl; have c1 := (HSL.out _ hSw).1 1 _ rfl; have c2 := (HSL.out _ hSw).1 2 _ rfl; have j0 : w.cell? ⟨b', off' + k * 3, none⟩ = some (.string ⟨f.name.toArray⟩) := (HSM.out _ hSw).1 0 _ rfl; have j1 := (HSM.out _ hSw).1 1 _ rfl; have j2 := (HSM.out _ hSw).1 2 _ rfl; go_simp; try with_reducible rfl
      simp only [pA, pB, pC, pD]
      refine tk 4 rfl ?v_235 ?hy_235 ?r_235
      case hy_235 => intro w hSw; have c0 : w.cell? ⟨b, off + k * 3, none⟩ = some (.string ⟨f.name.toArray⟩) := (HSL.out _ hSw).1 0 _ rfl; have c1 := (HSL.out _ hSw).1 1 _ rfl; have c2 := (HSL.out _ hSw).1 2 _ rfl; have j0 : w.cell? ⟨b', off' + k * 3, none⟩ = some (.string ⟨f.name.toArray⟩) := (HSM.out _ hSw).1 0 _ rfl; have j1 := (HSM.out _ hSw).1 1 _ rfl; have j2 := (HSM.out _ hSw).1 2 _ rfl; go_simp; try with_reducible rfl
      simp only [pA, pB, pC, pD]
      refine tk 5 rfl ?v_236 ?hy_236 ?r_236
      case hy_236 => intro w hSw; have c0 : w.cell? ⟨b, off + k * 3, none⟩ = some (.string ⟨f.name.toArray⟩) := (HSL.out _ hSw).1 0 _ rfl; have c1 := (HSL.out _ hSw).1 1 _ rfl; have c2 := (HSL.out _ hSw).1 2 _ rfl; have j0 : w.cell? ⟨b', off' + k * 3, none⟩ = some (.string ⟨f.name.toArray⟩) := (HSM.out _ hSw).1 0 _ rfl; have j1 := (HSM.out _ hSw).1 1 _ rfl; have j2 := (HSM.out _ hSw).1 2 _ rfl; go_simp; try with_reducible rfl
      simp only [pA, pB, pC, pD]
      refine tk 6 rfl ?v_237 ?hy_237 ?r_237
      case hy_237 => intro w hSw; have c0 : w.cell? ⟨b, off + k * 3, none⟩ = some (.string ⟨f.name.toArray⟩) := (HSL.out _ hSw).1 0 _ rfl; have c1 := (HSL.out _ hSw).1 1 _ rfl; have c2 := (HSL.out _ hSw).1 2 _ rfl; have j0 : w.cell? ⟨b', off' + k * 3, none⟩ = some (.string ⟨f.name.toArray⟩) := (HSM.out _ hSw).1 0 _ rfl; have j1 := (HSM.out _ hSw).1 1 _ rfl; have j2 := (HSM.out _ hSw).1 2 _ rfl; go_simp; try with_reducible rfl
      simp only [pA, pB, pC, pD]
      refine tk 7 rfl ?v_238 ?hy_238 ?r_238
      case hy_238 => intro w hSw; have c0 : w.cell? ⟨b, off + k * 3, none⟩ = some (.string ⟨f.name.toArray⟩) := (HSL.out _ hSw).1 0 _ rfl; have c1 := (HSL.out _ hSw).1 1 _ rfl; have c2 := (HSL.out _ hSw).1 2 _ rfl; have j0 : w.cell? ⟨b', off' + k * 3, none⟩ = some (.string ⟨f.name.toArray⟩) := (HSM.out _ hSw).1 0 _ rfl; have j1 := (HSM.out _ hSw).1 1 _ rfl; have j2 := (HSM.out _ hSw).1 2 _ rfl; go_simp; try with_reducible rfl
      simp only [pA, pB, pC, pD]
      refine tk 8 rfl ?v_239 ?hy_239 ?r_239
      case hy_239 => intro w hSw; have c0 : w.cell? ⟨b, off + k * 3, none⟩ = some (.string ⟨f.name.toArray⟩) := (HSL.out _ hSw).1 0 _ rfl; have c1 := (HSL.out _ hSw).1 1 _ rfl; have c2 := (HSL.out _ hSw).1 2 _ rfl; have j0 : w.cell? ⟨b', off' + k * 3, none⟩ = some (.string ⟨f.name.toArray⟩) := (HSM.out _ hSw).1 0 _ rfl; have j1 := (HSM.out _ hSw).1 1 _ rfl; have j2 := (HSM.out _ hSw).1 2 _ rfl; go_simp; try with_reducible rfl
      simp only [pA, pB, pC, pD]
      refine tk 9 rfl ?v_240 ?hy_240 ?r_240
      case hy_240 => intro w hSw; have c0 : w.cell? ⟨b, off + k * 3, none⟩ = some (.string ⟨f.name.toArray⟩) := (HSL.out _ hSw).1 0 _ rfl; have c1 := (HSL.out _ hSw).1 1 _ rfl; have c2 := (HSL.out _ hSw).1 2 _ rfl; have j0 : w.cell? ⟨b', off' + k * 3, none⟩ = some (.string ⟨f.name.toArray⟩) := (HSM.out _ hSw).1 0 _ rfl; have j1 := (HSM.out _ hSw).1 1 _ rfl; have j2 := (HSM.out _ hSw).1 2 _ rfl; go_simp; try with_reducible rfl
      simp only [pA, pB, pC, pD]
      refine tk 10 rfl ?v_241 ?hy_241 ?r_241
      case hy_241 => intro w hSw; have c0 : w.cell? ⟨b, off + k * 3, none⟩ = some (.string ⟨f.name.toArray⟩) := (HSL.out _ hSw).1 0 _ rfl; have c1 := (HSL.out _ hSw).1 1 _ rfl; have c2 := (HSL.out _ hSw).1 2 _ rfl; have j0 : w.cell? ⟨b', off' + k * 3, none⟩ = some (.string ⟨f.name.toArray⟩) := (HSM.out _ hSw).1 0 _ rfl; have j1 := (HSM.out _ hSw).1 1 _ rfl; have j2 := (HSM.out _ hSw).1 2 _ rfl; go_simp; try with_reducible rfl
      simp only [pA, pB, pC, pD]
      refine tk 11 rfl ?v_242 ?hy_242 ?r_242
      case hy_242 => intro w hSw; have c0 : w.cell? ⟨b, off + k * 3, none⟩ = some (.string ⟨f.name.toArray⟩) := (HSL.out _ hSw).1 0 _ rfl; have c1 := (HSL.out _ hSw).1 1 _ rfl; have c2 := (HSL.out _ hSw).1 2 _ rfl; have j0 : w.cell? ⟨b', off' + k * 3, none⟩ = some (.string ⟨f.name.toArray⟩) := (HSM.out _ hSw).1 0 _ rfl; have j1 := (HSM.out _ hSw).1 1 _ rfl; have j2 := (HSM.out _ hSw).1 2 _ rfl; go_simp; try with_reducible rfl
      simp only [pA, pB, pC, pD]
      refine tk 12 rfl ?v_243 ?hy_243 ?r_243
      case hy_243 => intro w hSw; have c0 : w.cell? ⟨b, off + k * 3, none⟩ = some (.string ⟨f.name.toArray⟩) := (HSL.out _ hSw).1 0 _ rfl; have c1 := (HSL.out _ hSw).1 1 _ rfl; have c2 := (HSL.out _ hSw).1 2 _ rfl; have j0 : w.cell? ⟨b', off' + k * 3, none⟩ = some (.string ⟨f.name.toArray⟩) := (HSM.out _ hSw).1 0 _ rfl; have j1 := (HSM.out _ hSw).1 1 _ rfl; have j2 := (HSM.out _ hSw).1 2 _ rfl; go_simp; try with_reducible rfl
      simp only [pA, pB, pC, pD]
      refine tk 13 rfl ?v_244 ?hy_244 ?r_244
      case hy_244 => intro w hSw; have c0 : w.cell? ⟨b, off + k * 3, none⟩ = some (.string ⟨f.name.toArray⟩) := (HSL.out _ hSw).1 0 _ rfl; have c1 := (HSL.out _ hSw).1 1 _ rfl; have c2 := (HSL.out _ hSw).1 2 _ rfl; have j0 : w.cell? ⟨b', off' + k * 3, none⟩ = some (.string ⟨f.name.toArray⟩) := (HSM.out _ hSw).1 0 _ rfl; have j1 := (HSM.out _ hSw).1 1 _ rfl; have j2 := (HSM.out _ hSw).1 2 _ rfl; go_simp; try with_reducible rfl
      simp only [pA, pB, pC, pD]
      refine tk 14 rfl ?v_245 ?hy_245 ?r_245
      case hy_245 => intro w hSw; have c0 : w.cell? ⟨b, off + k * 3, none⟩ = some (.string ⟨f.name.toArray⟩) := (HSL.out _ hSw).1 0 _ rfl; have c1 := (HSL.out _ hSw).1 1 _ rfl; have c2 := (HSL.out _ hSw).1 2 _ rfl; have j0 : w.cell? ⟨b', off' + k * 3, none⟩ = some (.string ⟨f.name.toArray⟩) := (HSM.out _ hSw).1 0 _ rfl; have j1 := (HSM.out _ hSw).1 1 _ rfl; have j2 := (HSM.out _ hSw).1 2 _ rfl; go_simp; try with_reducible rfl
      simp only [pA, pB, pC, pD]
      refine tk 15 rfl ?v_246 ?hy_246 ?r_246
      case hy_246 => intro w hSw; have c0 : w.cell? ⟨b, off + k * 3, none⟩ = some (.string ⟨f.name.toArray⟩) := (HSL.out _ hSw).1 0 _ rfl; have c1 := (HSL.out _ hSw).1 1 _ rfl; have c2 := (HSL.out _ hSw).1 2 _ rfl; have j0 : w.cell? ⟨b', off' + k * 3, none⟩ = some (.string ⟨f.name.toArray⟩) := (HSM.out _ hSw).1 0 _ rfl; have j1 := (HSM.out _ hSw).1 1 _ rfl; have j2 := (HSM.out _ hSw).1 2 _ rfl; go_simp; try with_reducible rfl
      simp only [pA, pB, pC, pD]
      refine tk 16 rfl ?v_247 ?hy_247 ?r_247
      case hy_247 => intro w hSw; have c0 : w.cell? ⟨b, off + k * 3, none⟩ = some (.string ⟨f.name.toArray⟩) := (HSL.out _ hSw).1 0 _ rfl; have c1 := (HSL.out _ hSw).1 1 _ rfl; have c2 := (HSL.out _ hSw).1 2 _ rfl; have j0 : w.cell? ⟨b', off' + k * 3, none⟩ = some (.string ⟨f.name.toArray⟩) := (HSM.out _ hSw).1 0 _ rfl; have j1 := (HSM.out _ hSw).1 1 _ rfl; have j2 := (HSM.out _ hSw).1 2 _ rfl; go_simp; try with_reducible rfl
      simp only [pA, pB, pC, pD]
      refine tk 17 rfl ?v_248 ?hy_248 ?r_248
      case hy_248 => intro w hSw; have c0 : w.cell? ⟨b, off + k * 3, none⟩ = some (.string ⟨f.name.toArray⟩) := (HSL.out _ hSw).1 0 _ rfl; have c1 := (HSL.out _ hSw).1 1 _ rfl; have c2 := (HSL.out _ hSw).1 2 _ rfl; have j0 : w.cell? ⟨b', off' + k * 3, none⟩ = some (.string ⟨f.name.toArray⟩) := (HSM.out _ hSw).1 0 _ rfl; have j1 := (HSM.out _ hSw).1 1 _ rfl; have j2 := (HSM.out _ hSw).1 2 _ rfl; go_simp; try with_reducible rfl
      simp only [pA, pB, pC, pD]
      refine tk 18 rfl ?v_249 ?hy_249 ?r_249
      case hy_249 => intro w hSw; have c0 : w.cell? ⟨b, off + k * 3, none⟩ = some (.string ⟨f.name.toArray⟩) := (HSL.out _ hSw).1 0 _ rfl; have c1 := (HSL.out _ hSw).1 1 _ rfl; have c2 := (HSL.out _ hSw).1 2 _ rfl; have j0 : w.cell? ⟨b', off' + k * 3, none⟩ = some (.string ⟨f.name.toArray⟩) := (HSM.out _ hSw).1 0 _ rfl; have j1 := (HSM.out _ hSw).1 1 _ rfl; have j2 := (HSM.out _ hSw).1 2 _ rfl; go_simp; try with_reducible rfl
      simp only [pA, pB, pC, pD]
      refine tk 19 rfl ?v_250 ?hy_250 ?r_250
      case hy_250 => intro w hSw; have c0 : w.cell? ⟨b, off + k * 3, none⟩ = some (.string ⟨f.name.toArray⟩) := (HSL.out _ hSw).1 0 _ rfl; have c1 := (HSL.out _ hSw).1 1 _ rfl; have c2 := (HSL.out _ hSw).1 2 _ rfl; have j0 : w.cell? ⟨b', off' + k * 3, none⟩ = some (.string ⟨f.name.toArray⟩) := (HSM.out _ hSw).1 0 _ rfl; have j1 := (HSM.out _ hSw).1 1 _ rfl; have j2 := (HSM.out _ hSw).1 2 _ rfl; go_simp; try with_reducible rfl
      simp only [pA, pB, pC, pD]
      refine tk 20 rfl ?v_251 ?hy_251 ?r_251
      case hy_251 => intro w hSw; have c0 : w.cell? ⟨b, off + k * 3, none⟩ = some (.string ⟨f.name.toArray⟩) := (HSL.out _ hSw).1 0 _ rfl; have c1 := (HSL.out _ hSw).1 1 _ rfl; have c2 := (HSL.out _ hSw).1 2 _ rfl; have j0 : w.cell? ⟨b', off' + k * 3, none⟩ = some (.string ⟨f.name.toArray⟩) := (HSM.out _ hSw).1 0 _ rfl; have j1 := (HSM.out _ hSw).1 1 _ rfl; have j2 := (HSM.out _ hSw).1 2 _ rfl; go_simp; try with_reducible rfl
      simp only [pA, pB, pC, pD]
      refine tk 21 rfl ?v_252 ?hy_252 ?r_252
      case hy_252 => intro w hSw; have c0 : w.cell? ⟨b, off + k * 3, none⟩ = some (.string ⟨f.name.toArray⟩) := (HSL.out _ hSw).1 0 _ rfl; have c1 := (HSL.out _ hSw).1 1 _ rfl; have c2 := (HSL.out _ hSw).1 2 _ rfl; have j0 : w.cell? ⟨b', off' + k * 3, none⟩ = some (.string ⟨f.name.toArray⟩) := (HSM.out _ hSw).1 0 _ rfl; have j1 := (HSM.out _ hSw).1 1 _ rfl; have j2 := (HSM.out _ hSw).1 2 _ rfl; go_simp; try with_reducible rfl
      simp only [pA, pB, pC, pD]
      refine tk 22 rfl ?v_253 ?hy_253 ?r_253
      case hy_253 => intro w hSw; have c0 : w.cell? ⟨b, off + k * 3, none⟩ = some (.string ⟨f.name.toArray⟩) := (HSL.out _ hSw).1 0 _ rfl; have c1 := (HSL.out _ hSw).1 1 _ rfl; have c2 := (HSL.out _ hSw).1 2 _ rfl; have j0 : w.cell? ⟨b', off' + k * 3, none⟩ = some (.string ⟨f.name.toArray⟩) := (HSM.out _ hSw).1 0 _ rfl; have j1 := (HSM.out _ hSw).1 1 _ rfl; have j2 := (HSM.out _ hSw).1 2 _ rfl; go_simp; try with_reducible rfl
      simp only [pA, pB, pC, pD]
      refine tk 23 rfl ?v_254 ?hy_254 ?r_254
      case hy_254 => intro w hSw; have c0 : w.cell? ⟨b, off + k * 3, none⟩ = some (.string ⟨f.name.toArray⟩) := (HSL.out _ hSw).1 0 _ rfl; have c1 := (HSL.out _ hSw).1 1 _ rfl; have c2 := (HSL.out _ hSw).1 2 _ rfl; have j0 : w.cell? ⟨b', off' + k * 3, none⟩ = some (.string ⟨f.name.toArray⟩) := (HSM.out _ hSw).1 0 _ rfl; have j1 := (HSM.out _ hSw).1 1 _ rfl; have j2 := (HSM.out _ hSw).1 2 _ rfl; go_simp; try with_reducible rfl
      simp only [pA, pB, pC, pD]
      refine tk 24 rfl ?v_255 ?hy_255 ?r_255
      case hy_255 => intro w hSw; have c0 : w.cell? ⟨b, off + k * 3, none⟩ = some (.string ⟨f.name.toArray⟩) := (HSL.out _ hSw).1 0 _ rfl; have c1 := (HSL.out _ hSw).1 1 _ rfl; have c2 := (HSL.out _ hSw).1 2 _ rfl; have j0 : w.cell? ⟨b', off' + k * 3, none⟩ = some (.string ⟨f.name.toArray⟩) := (HSM.out _ hSw).1 0 _ rfl; have j1 := (HSM.out _ hSw).1 1 _ rfl; have j2 := (HSM.out _ hSw).1 2 _ rfl; go_simp; try with_reducible rfl
      simp only [pA, pB, pC, pD]
      refine tk 25 rfl ?v_256 ?hy_256 ?r_256
      case hy_256 => intro w hSw; have c0 : w.cell? ⟨b, off + k * 3, none⟩ = some (.string ⟨f.name.toArray⟩) := (HSL.out _ hSw).1 0 _ rfl; have c1 := (HSL.out _ hSw).1 1 _ rfl; have c2 := (HSL.out _ hSw).1 2 _ rfl; have j0 : w.cell? ⟨b', off' + k * 3, none⟩ = some (.string ⟨f.name.toArray⟩) := (HSM.out _ hSw).1 0 _ rfl; have j1 := (HSM.out _ hSw).1 1 _ rfl; have j2 := (HSM.out _ hSw).1 2 _ rfl; go_simp; try with_reducible rfl
      simp only [pA, pB, pC, pD]
      refine tk 26 rfl ?v_257 ?hy_257 ?r_257
      case hy_257 => intro w hSw; have c0 : w.cell? ⟨b, off + k * 3, none⟩ = some (.string ⟨f.name.toArray⟩) := (HSL.out _ hSw).1 0 _ rfl; have c1 := (HSL.out _ hSw).1 1 _ rfl; have c2 := (HSL.out _ hSw).1 2 _ rfl; have j0 : w.cell? ⟨b', off' + k * 3, none⟩ = some (.string ⟨f.name.toArray⟩) := (HSM.out _ hSw).1 0 _ rfl; have j1 := (HSM.out _ hSw).1 1 _ rfl; have j2 := (HSM.out _ hSw).1 2 _ rfl; go_simp; try with_reducible rfl
      simp only [pA, pB, pC, pD]
      refine tk 27 rfl ?v_258 ?hy_258 ?r_258
      case hy_258 => intro w hSw; have c0 : w.cell? ⟨b, off + k * 3, none⟩ = some (.string ⟨f.name.toArray⟩) := (HSL.out _ hSw).1 0 _ rfl; have c1 := (HSL.out _ hSw).1 1 _ rfl; have c2 := (HSL.out _ hSw).1 2 _ rfl; have j0 : w.cell? ⟨b', off' + k * 3, none⟩ = some (.string ⟨f.name.toArray⟩) := (HSM.out _ hSw).1 0 _ rfl; have j1 := (HSM.out _ hSw).1 1 _ rfl; have j2 := (HSM.out _ hSw).1 2 _ rfl; go_simp; try with_reducible rfl
      simp only [pA, pB, pC, pD]
      refine tk 28 rfl ?v_259 ?hy_259 ?r_259
      case hy_259 => intro w hSw; have c0 : w.cell? ⟨b, off + k * 3, none⟩ = some (.string ⟨f.name.toArray⟩) := (HSL.out _ hSw).1 0 _ rfl; have c1 := (HSL.out _ hSw).1 1 _ rfl; have c2 := (HSL.out _ hSw).1 2 _ rfl; have j0 : w.cell? ⟨b', off' + k * 3, none⟩ = some (.string ⟨f.name.toArray⟩) := (HSM.out _ hSw).1 0 _ rfl; have j1 := (HSM.out _ hSw).1 1 _ rfl; have j2 := (HSM.out _ hSw).1 2 _ rfl; go_simp; try with_reducible rfl
      simp only [pA, pB, pC, pD]
      refine tk 29 rfl ?v_260 ?hy_260 ?r_260
      case hy_260 => intro w hSw; have c0 : w.cell? ⟨b, off + k * 3, none⟩ = some (.string ⟨f.name.toArray⟩) := (HSL.out _ hSw).1 0 _ rfl; have c1 := (HSL.out _ hSw).1 1 _ rfl; have c2 := (HSL.out _ hSw).1 2 _ rfl; have j0 : w.cell? ⟨b', off' + k * 3, none⟩ = some (.string ⟨f.name.toArray⟩) := (HSM.out _ hSw).1 0 _ rfl; have j1 := (HSM.out _ hSw).1 1 _ rfl; have j2 := (HSM.out _ hSw).1 2 _ rfl; go_simp; try with_reducible rfl
      simp only [pA, pB, pC, pD]
      refine tk 30 rfl ?v_261 ?hy_261 ?r_261
      case hy_261 => intro w hSw; have c0 : w.cell? ⟨b, off + k * 3, none⟩ = some (.string ⟨f.name.toArray⟩) := (HSL.out _ hSw).1 0 _ rfl; have c1 := (HSL.out _ hSw).1 1 _ rfl; have c2 := (HSL.out _ hSw).1 2 _ rfl; have j0 : w.cell? ⟨b', off' + k * 3, none⟩ = some (.string ⟨f.name.toArray⟩) := (HSM.out _ hSw).1 0 _ rfl; have j1 := (HSM.out _ hSw).1 1 _ rfl; have j2 := (HSM.out _ hSw).1 2 _ rfl; go_simp; try with_reducible rfl
      simp only [pA, pB, pC, pD]
      refine tk 31 rfl ?v_262 ?hy_262 ?r_262
      case hy_262 => intro w hSw; have c0 : w.cell? ⟨b, off + k * 3, none⟩ = some (.string ⟨f.name.toArray⟩) := (HSL.out _ hSw).1 0 _ rfl; have c1 := (HSL.out _ hSw).1 1 _ rfl; have c2 := (HSL.out _ hSw).1 2 _ rfl; have j0 : w.cell? ⟨b', off' + k * 3, none⟩ = some (.string ⟨f.name.toArray⟩) := (HSM.out _ hSw).1 0 _ rfl; have j1 := (HSM.out _ hSw).1 1 _ rfl; have j2 := (HSM.out _ hSw).1 2 _ rfl; go_simp; try with_reducible rfl
      simp only [pA, pB, pC, pD]
      refine tk 32 rfl ?v_263 ?hy_263 ?r_263
      case hy_263 => intro w hSw; have c0 : w.cell? ⟨b, off + k * 3, none⟩ = some (.string ⟨f.name.toArray⟩) := (HSL.out _ hSw).1 0 _ rfl; have c1 := (HSL.out _ hSw).1 1 _ rfl; have c2 := (HSL.out _ hSw).1 2 _ rfl; have j0 : w.cell? ⟨b', off' + k * 3, none⟩ = some (.string ⟨f.name.toArray⟩) := (HSM.out _ hSw).1 0 _ rfl; have j1 := (HSM.out _ hSw).1 1 _ rfl; have j2 := (HSM.out _ hSw).1 2 _ rfl; go_simp; try with_reducible rfl
      simp only [pA, pB, pC, pD]
      refine tk 33 rfl ?v_264 ?hy_264 ?r_264
      case hy_264 => intro w hSw; have c0 : w.cell? ⟨b, off + k * 3, none⟩ = some (.string ⟨f.name.toArray⟩) := (HSL.out _ hSw).1 0 _ rfl; have c1 := (HSL.out _ hSw).1 1 _ rfl; have c2 := (HSL.out _ hSw).1 2 _ rfl; have j0 : w.cell? ⟨b', off' + k * 3, none⟩ = some (.string ⟨f.name.toArray⟩) := (HSM.out _ hSw).1 0 _ rfl; have j1 := (HSM.out _ hSw).1 1 _ rfl; have j2 := (HSM.out _ hSw).1 2 _ rfl; go_simp; try with_reducible rfl
      simp only [pA, pB, pC, pD]
      refine tk 34 rfl ?v_265 ?hy_265 ?r_265
      case hy_265 => intro w hSw; have c0 : w.cell? ⟨b, off + k * 3, none⟩ = some (.string ⟨f.name.toArray⟩) := (HSL.out _ hSw).1 0 _ rfl; have c1 := (HSL.out _ hSw).1 1 _ rfl; have c2 := (HSL.out _ hSw).1 2 _ rfl; have j0 : w.cell? ⟨b', off' + k * 3, none⟩ = some (.string ⟨f.name.toArray⟩) := (HSM.out _ hSw).1 0 _ rfl; have j1 := (HSM.out _ hSw).1 1 _ rfl; have j2 := (HSM.out _ hSw).1 2 _ rfl; go_simp; try with_reducible rfl
      simp only [pA, pB, pC, pD]
      generalize World.drew _ = Wd at *
      refine wpAnyH_ready (rs := [35]) (by kernel_rfl) (by simp) ?_
      refine AllReadyH.cons rfl (fun K hK => ?_) AllReadyH.nil
      go_simp
      go_at_call 46
      refine (sameBytes_any f.data dv dv' _ (HSL.out _ hHeld).2 (HSM.out _ hHeld).2 HLEN.out).mono ?_
      rintro e w2 ⟨rfl, hb2⟩
      have HB2 := Lib.hid (Below.next hHeld hb2)
      clear hb2 hHeld
      go_wp2_with fail
      refine hK.out _ _ HB2.out (fun hHeld => ?_)
      clear hK K
      refine tk 36 rfl ?v_266 ?hy_266 ?r_266
      case hy_266 => intro w hSw; go_simp; try with_reducible rfl
      simp only [pA, pB, pC, pD]
      refine tk 37 rfl ?v_267 ?hy_267 ?r_267
      case hy_267 => intro w hSw; go_simp; try with_reducible rfl
      simp only [pA, pB, pC, pD]
      refine wpAnyH_done (by kernel_rfl) ?_ _
      go_wp2
      go_roundw
      case rel => exact ⟨k + 1, by omega, by go_num, HB2.out⟩
      case measure => simp [intOf]; omega
    · obtain rfl : k = fs.length := by omega
      go_wp2
      go_ret
      exact ⟨rfl, HB.out⟩

end Go.Proofs.YtlobohpbgghleaaGreatDoor

namespace Go.Proofs.YtlobohpbgghleaaGreatDoor
open Go.RowKit

/-! ## the document's disk: Mount -/

theorem wpList_store_fl {ops : Array Oper} {rest : List Oper} {o : Oper} {a : Act} {w : World} {Q : Exit → Act → World → Prop} (hgd : o.guard = none) (x y : Operand) (ho : o.op = .store 49 x y)
    (g : Nat) (f f' : Fil) (dv dv' : Value) (hx : a.eval x = .pointer (some ⟨g, 0, none⟩)) (hy : a.eval y = flV f' dv') (hE : FlBlk w g f dv) (h1 : dv'.oneCell' = true)
    (h : ∀ W, Hid (W = w.setRow g (flCs f' dv')) → wpList Tryz.prog ops Q rest (a.put o.dst undef) W) : wpList Tryz.prog ops Q (o :: rest) a w :=
  wpList_store_row hgd 49 x y ho g (flCs f' dv') hx hy 49 (flCs f dv) hE flInfo rfl (flCs_all f' dv' h1) (h _ (Lib.hid rfl))
theorem FlBlk.row {w : World} {g : Nat} {f f' : Fil} {dv dv' : Value} (h : FlBlk w g f dv) : FlBlk (w.setRow g (flCs f' dv')) g f' dv' := setRow_heap w g _ _ _ _ h
/-- Mount's loop: the disk so far -/
structure MtW (w : World) (room : Int) (fs : List Fil) (gd k : Nat) (dc : Disk) (vc : Value) (wr : World) : Prop where
  res : DkBlk wr w.heap.size zeroD (.slice none 0 0)
  dk : DkBlk wr gd dc vc
  row : FilesIn (fun k => gd < k) wr vc dc.files
  below : Below w.heap.size w wr
  run : mountGo (newD room) fs = mountGo dc (fs.drop k)
  ok : DiskOk dc
  cnt : dc.files.length ≤ k
  lo : w.heap.size < gd
section
variable {w : World} {room : Int} {fs : List Fil} {gd k : Nat} {dc : Disk} {vc : Value} {wr W : World}
theorem MtW.hi (h : MtW w room fs gd k dc vc wr) : gd < wr.heap.size := h.dk.lt
theorem MtW.next (h : MtW w room fs gd k dc vc wr) (hb : Below wr.heap.size wr W) : MtW w room fs gd k dc vc W := ⟨h.res.below hb, h.dk.below hb, h.row.below hb, Below.next h.below hb, h.run, h.ok, h.cnt, h.lo⟩
/-- the result is laid -/
theorem MtW.done (h : MtW w room fs gd k dc vc wr) {d' : Disk} {fv' : Value} (hW : W = wr.setRow w.heap.size (dkCs d' fv')) : DkBlk W w.heap.size d' fv' ∧ Below w.heap.size w W ∧ Turned (fun k => k = w.heap.size) wr W := by
  subst hW
  exact ⟨h.res.row, below_row h.below (Nat.le_refl _) _, ⟨rfl, rfl, rfl, by simp, fun k _ hn => setRow_other _ _ _ _ hn⟩⟩
theorem MtW.lay (h : MtW w room fs gd k dc vc wr) {f : Fil} {v : Value} (hf : fs[k]? = some f) (he : mountE dc f = 0) (hk : k < 700) (hr : FilesIn (fun k => gd < k) wr v (putF f dc.files)) (hW : W = wr.setCell ⟨gd, 0, none⟩ v) : MtW w room fs gd (k + 1) (layF dc f) v W := by
  subst hW
  have hlo := h.lo
  have hc := h.cnt
  refine ⟨h.res.otherCell (by omega) 0 v, h.dk.set 0 v rfl, hr.turned (Turned.setCell (S := fun k => k = gd) _ ⟨gd, 0, none⟩ v rfl) (fun k hk => by omega), h.below.setCell (p := ⟨gd, 0, none⟩) (Nat.le_of_lt hlo) v, ?_, layF_ok h.ok he (by omega), by simp only [layF, putF_length]; omega, hlo⟩
  rw [h.run, mountGo_at hf, if_pos he]
end
def MountPost (w : World) (r : Disk × Int) (e : Ending) (w' : World) : Prop :=
  ∃ v, e = .returned (.tuple #[dkV r.1 v, .int .i64 r.2]) ∧ FilesIn (fun k => w.heap.size ≤ k) w' v r.1.files ∧ Below w.heap.size w w'
theorem filesIn_nil (A : Nat → Prop) (w : World) : FilesIn A w (.slice none 0 0) [] := ⟨none, 0, rfl, Nat.le_refl _, by decide, fun h => absurd rfl h⟩

set_option maxRecDepth 100000 in
set_option maxHeartbeats 8000000 in
theorem refMount_any (room : Int) (fs : List Fil) (fv : Value) (w : World) (hf : FilesIn (fun _ => True) w fv fs) (hl : ∀ f ∈ fs, f.data.length ≤ 1048576) :
    Calls Tryz.prog 21 #[.int .i64 room, fv] w (MountPost w (mountD room fs)) := by
  obtain ⟨oa, cap, rfl, hl1, hl2, hcc⟩ := hf.shape
  have HCC := Lib.hid hcc
  have HL := Lib.hid hl
  have HNEW := Lib.hid (refNew_any room (w.alloc (.cells (dkCs zeroD (.slice none 0 0)) 51)))
  have HR0 := Lib.hid (dkBlk_alloc w zeroD (.slice none 0 0))
  have HB0 := Lib.hid (below_alloc w (.cells (dkCs zeroD (.slice none 0 0)) 51))
  clear hcc hf hl
  go_enter Tryz.func21, Tryz.ntmps21
  go_wp2_with fail
  refine HNEW.out.mono ?_
  rintro e w1 ⟨rfl, hb1⟩
  have HB1 := Lib.hid (Below.next HB0.out hb1)
  have HR1 := Lib.hid (HR0.out.below hb1)
  have hsz := Nat.lt_of_lt_of_le HR0.out.lt hb1.size
  have HDz := Lib.hid (dkBlk_alloc w1 zeroD (.slice none 0 0))
  simp only [dkCs, zeroD] at HDz
  clear hb1 HB0 HR0 HNEW
  go_wp2_with (with_reducible refine wpList_store_dk rfl (.tmp 6) (.tmp 11) rfl w1.heap.size ⟨[], 0, 0, false, 0, 0⟩ (newD room) (.slice none 0 0) (.slice none 0 0) rfl rfl HDz.out rfl ?_)
  intro w2 hw2
  have HM := Lib.hid (show MtW w room fs w1.heap.size 0 (newD room) (.slice none 0 0) w2 by
    rw [hw2.out]
    have hba := below_alloc w1 (.cells #[.slice none 0 0, .int .i64 0, .int .i64 0, .bool false, .int .i64 0, .int .i64 0] 51)
    exact ⟨by unfold DkBlk; rw [setRow_other _ _ _ _ (by omega)]; exact HR1.out.below hba, HDz.out.row, filesIn_nil _ _, below_row (Below.next HB1.out hba) (by omega) _, rfl, newD_ok room, Nat.zero_le _, hsz⟩)
  clear hw2 HB1 HR1 HDz hsz
  generalize w1.heap.size = gd at *
  rcases h7 : decide ((700 : Int) < (fs.length : Int)) with _ | _
  · have HMD := Lib.hid (show mountD room fs = mountGo (newD room) fs by unfold mountD; rw [if_neg (by have := of_decide_eq_false h7; omega)])
    have hn7 : fs.length ≤ 700 := by have := of_decide_eq_false h7; omega
    go_wp2
    go_loopw [7, 8, 9, 18] (fun uv _ _ iv wr => ∃ (k : Nat) (dc : Disk) (vc : Value), k ≤ fs.length ∧ iv = .int .i64 k ∧ uv = .int .i64 (usedF dc.files : Int) ∧ Hid (MtW w room fs gd k dc vc wr)) (fun _ _ _ iv _ => fs.length - (intOf iv).toNat)
    case atStart => exact ⟨0, newD room, _, Nat.zero_le _, rfl, rfl, HM⟩
    case round =>
      clear HM h7
      obtain ⟨k, dc, vc, hk, rfl, rfl, HM⟩ := hrel
      by_cases hlt : k < fs.length
      · obtain ⟨f, hf, _, hfm⟩ := nth fs k hlt
        have q1 : (k : Int) < (fs.length : Int) := by omega
        obtain ⟨b, off, rfl, _, dv, hr, hdv⟩ := HCC.out k f hf
        have HFK := Lib.hid hf
        have HR := Lib.hid (range_later hr HM.out.below)
        have HDV := Lib.hid (fun W (hW : Below w.heap.size w W) => (hdv.below hW).brow)
        obtain ⟨ao, dcap, rfl, hdl, hdc⟩ := hdv
        have HFZ := Lib.hid (flBlk_alloc wr ⟨[], [], 0⟩ (.slice none 0 0))
        simp only [flCs] at HFZ
        have HL1 := Lib.hid (HL.out f hfm)
        clear hf hfm hr hdc hdl
        go_wp2_with (first | (with_reducible refine wpList_load_fl rfl (.tmp 23) rfl b (off + k * 3) f (.slice ao f.data.length dcap) rfl HR.out ?_) | (with_reducible refine wpList_store_fl rfl (.tmp 9) (.tmp 24) rfl wr.heap.size ⟨[], [], 0⟩ f (.slice none 0 0) (.slice ao f.data.length dcap) rfl rfl HFZ.out rfl ?_))
        intro wf hwf
        have HFB := Lib.hid (show FlBlk wf wr.heap.size f (.slice ao f.data.length dcap) by rw [hwf.out]; exact HFZ.out.row)
        have HMF := Lib.hid (show MtW w room fs gd k dc vc wf by
          rw [hwf.out]
          exact HM.out.next (below_row ((Below.refl _ _).alloc (Nat.le_refl _) _) (Nat.le_refl _) _))
        have hgf := HM.out.hi
        clear hwf HFZ HR HM
        generalize wr.heap.size = gf at *
        have HM := HMF
        clear HMF
        have n0 := HFB.out.c0
        have HRT := Lib.hid (fun W => refRight_any f.name W)
        rcases hrn : rightName f.name with _ | _
        · rw [hrn] at HRT
          have HRN := Lib.hid hrn
          clear hrn
          go_wp2_with fail
          go_at_call 49
          refine (HRT.out _).mono ?_
          rintro e w3 ⟨rfl, rfl⟩
          have HE := Lib.hid (show mountD room fs = (zeroD, 50) by rw [HMD.out, HM.out.run, mountGo_at HFK.out, if_neg (by rw [show mountE dc f = 50 by unfold mountE; rw [HRN.out]; rfl]; decide), show mountE dc f = 50 by unfold mountE; rw [HRN.out]; rfl])
          have HV := Lib.hid (show (Value.slice none 0 0).oneCell' = true from rfl)
          have HRS := Lib.hid HM.out.res
          go_wp2_with (first | (with_reducible refine wpList_load_dk rfl (.tmp 6) rfl gd dc vc rfl HM.out.dk ?_) | (with_reducible refine wpList_store_dk rfl (.tmp 4) (.tmp 29) rfl w.heap.size zeroD zeroD (.slice none 0 0) (.slice none 0 0) rfl rfl HRS.out HV.out ?_))
          intro w9 hw9
          obtain ⟨hd9, hb9, ht9⟩ := HM.out.done hw9.out
          have HD9 := Lib.hid hd9
          have HB9 := Lib.hid hb9
          have HT9 := Lib.hid ht9
          clear hw9 hd9 hb9 ht9
          go_wp2
          refine bodyPost_ret (v := .tuple #[dkV zeroD (.slice none 0 0), .int .i64 (50)]) (results_dk2 rfl _ _ w.heap.size zeroD (.slice none 0 0) _ rfl rfl HD9.out) rfl ?_
          unfold MountPost
          rw [HE.out]
          exact ⟨_, rfl, filesIn_nil _ _, HB9.out⟩
        rw [hrn] at HRT
        have HRN := Lib.hid hrn
        clear hrn
        go_wp2_with fail
        go_at_call 49
        refine (HRT.out _).mono ?_
        rintro e w3 ⟨rfl, rfl⟩
        clear HRT
        have HATF := Lib.hid (at_any (A := fun k => gd < k) dc vc f.name _ HM.out.row)
        go_wp2_with (with_reducible refine wpList_load_dk rfl (.tmp 6) rfl gd dc vc rfl HM.out.dk ?_)
        refine HATF.out.mono ?_
        rintro e w4 ⟨z, rfl, hz, hb4⟩
        have HM := Lib.hid (HM.out.next hb4)
        have HFB := Lib.hid (HFB.out.below hb4)
        clear hb4 n0 HATF
        rcases hz with ⟨rfl, hat⟩ | ⟨i, x, rfl, _, hat⟩
        case inr =>
          have HAT := Lib.hid hat
          have t9 : decide ((0 : Int) ≤ (i : Int)) = true := by simp
          clear hat
          have HE := Lib.hid (show mountD room fs = (zeroD, 52) by rw [HMD.out, HM.out.run, mountGo_at HFK.out, if_neg (by rw [show mountE dc f = 52 by unfold mountE; rw [HRN.out, HAT.out]; rfl]; decide), show mountE dc f = 52 by unfold mountE; rw [HRN.out, HAT.out]; rfl])
          have HV := Lib.hid (show (Value.slice none 0 0).oneCell' = true from rfl)
          have HRS := Lib.hid HM.out.res
          go_wp2_with (first | (with_reducible refine wpList_load_dk rfl (.tmp 6) rfl gd dc vc rfl HM.out.dk ?_) | (with_reducible refine wpList_store_dk rfl (.tmp 4) (.tmp 35) rfl w.heap.size zeroD zeroD (.slice none 0 0) (.slice none 0 0) rfl rfl HRS.out HV.out ?_))
          intro w9 hw9
          obtain ⟨hd9, hb9, ht9⟩ := HM.out.done hw9.out
          have HD9 := Lib.hid hd9
          have HB9 := Lib.hid hb9
          have HT9 := Lib.hid ht9
          clear hw9 hd9 hb9 ht9
          go_wp2
          refine bodyPost_ret (v := .tuple #[dkV zeroD (.slice none 0 0), .int .i64 (52)]) (results_dk2 rfl _ _ w.heap.size zeroD (.slice none 0 0) _ rfl rfl HD9.out) rfl ?_
          unfold MountPost
          rw [HE.out]
          exact ⟨_, rfl, filesIn_nil _ _, HB9.out⟩
        have HAT := Lib.hid hat
        have n1 := HFB.out.c1
        have n2 := HFB.out.c2
        clear hat
        rcases hs0 : decide (f.safe < 0) with _ | _
        case true =>
          have HE1 := Lib.hid (show mountE dc f = 1 by unfold mountE; rw [HRN.out, HAT.out, hs0]; rfl)
          have HE := Lib.hid (show mountD room fs = (zeroD, 1) by rw [HMD.out, HM.out.run, mountGo_at HFK.out, if_neg (by rw [HE1.out]; decide), HE1.out])
          have HV := Lib.hid (show (Value.slice none 0 0).oneCell' = true from rfl)
          have HRS := Lib.hid HM.out.res
          go_wp2_with (first | (with_reducible refine wpList_load_dk rfl (.tmp 6) rfl gd dc vc rfl HM.out.dk ?_) | (with_reducible refine wpList_store_dk rfl (.tmp 4) (.tmp 47) rfl w.heap.size zeroD zeroD (.slice none 0 0) (.slice none 0 0) rfl rfl HRS.out HV.out ?_))
          intro w9 hw9
          obtain ⟨hd9, hb9, ht9⟩ := HM.out.done hw9.out
          have HD9 := Lib.hid hd9
          have HB9 := Lib.hid hb9
          have HT9 := Lib.hid ht9
          clear hw9 hd9 hb9 ht9
          go_wp2
          refine bodyPost_ret (v := .tuple #[dkV zeroD (.slice none 0 0), .int .i64 (1)]) (results_dk2 rfl _ _ w.heap.size zeroD (.slice none 0 0) _ rfl rfl HD9.out) rfl ?_
          unfold MountPost
          rw [HE.out]
          exact ⟨_, rfl, filesIn_nil _ _, HB9.out⟩
        rcases hs1 : decide ((f.data.length : Int) < f.safe) with _ | _
        case true =>
          have HE1 := Lib.hid (show mountE dc f = 1 by unfold mountE; rw [HRN.out, HAT.out, hs0, hs1]; rfl)
          have HE := Lib.hid (show mountD room fs = (zeroD, 1) by rw [HMD.out, HM.out.run, mountGo_at HFK.out, if_neg (by rw [HE1.out]; decide), HE1.out])
          have HV := Lib.hid (show (Value.slice none 0 0).oneCell' = true from rfl)
          have HRS := Lib.hid HM.out.res
          go_wp2_with (first | (with_reducible refine wpList_load_dk rfl (.tmp 6) rfl gd dc vc rfl HM.out.dk ?_) | (with_reducible refine wpList_store_dk rfl (.tmp 4) (.tmp 47) rfl w.heap.size zeroD zeroD (.slice none 0 0) (.slice none 0 0) rfl rfl HRS.out HV.out ?_))
          intro w9 hw9
          obtain ⟨hd9, hb9, ht9⟩ := HM.out.done hw9.out
          have HD9 := Lib.hid hd9
          have HB9 := Lib.hid hb9
          have HT9 := Lib.hid ht9
          clear hw9 hd9 hb9 ht9
          go_wp2
          refine bodyPost_ret (v := .tuple #[dkV zeroD (.slice none 0 0), .int .i64 (1)]) (results_dk2 rfl _ _ w.heap.size zeroD (.slice none 0 0) _ rfl rfl HD9.out) rfl ?_
          unfold MountPost
          rw [HE.out]
          exact ⟨_, rfl, filesIn_nil _ _, HB9.out⟩
        have c1 := HM.out.dk.c1
        have hus := HM.out.ok.used
        have hrm := HM.out.ok.room
        have HW := Lib.hid (show IntKind.i64.wrap ((usedF dc.files : Int) + (f.data.length : Int)) = (usedF dc.files : Int) + (f.data.length : Int) by have := HL1.out; rw [IntKind.wrap_i64]; omega)
        have hw := HW.out
        rcases hfull : decide (dc.room < (usedF dc.files : Int) + (f.data.length : Int)) with _ | _
        case true =>
          have HE54 := Lib.hid (show mountE dc f = 54 by
            unfold mountE; rw [HRN.out, HAT.out, hs0, hs1]
            have : dc.room - (usedF dc.files : Int) < (f.data.length : Int) := by have := of_decide_eq_true hfull; omega
            rw [if_neg (by simp), if_neg (by simp), if_neg (by simp), if_pos (by simpa using this)])
          clear hus hrm
          have HE := Lib.hid (show mountD room fs = (zeroD, 54) by rw [HMD.out, HM.out.run, mountGo_at HFK.out, if_neg (by rw [HE54.out]; decide), HE54.out])
          have HV := Lib.hid (show (Value.slice none 0 0).oneCell' = true from rfl)
          have HRS := Lib.hid HM.out.res
          go_wp2_with (first | (with_reducible refine wpList_load_dk rfl (.tmp 6) rfl gd dc vc rfl HM.out.dk ?_) | (with_reducible refine wpList_store_dk rfl (.tmp 4) (.tmp 56) rfl w.heap.size zeroD zeroD (.slice none 0 0) (.slice none 0 0) rfl rfl HRS.out HV.out ?_))
          intro w9 hw9
          obtain ⟨hd9, hb9, ht9⟩ := HM.out.done hw9.out
          have HD9 := Lib.hid hd9
          have HB9 := Lib.hid hb9
          have HT9 := Lib.hid ht9
          clear hw9 hd9 hb9 ht9
          go_wp2
          refine bodyPost_ret (v := .tuple #[dkV zeroD (.slice none 0 0), .int .i64 (54)]) (results_dk2 rfl _ _ w.heap.size zeroD (.slice none 0 0) _ rfl rfl HD9.out) rfl ?_
          unfold MountPost
          rw [HE.out]
          exact ⟨_, rfl, filesIn_nil _ _, HB9.out⟩
        have HE0 := Lib.hid (show mountE dc f = 0 by
          unfold mountE; rw [HRN.out, HAT.out, hs0, hs1]
          have : ¬ dc.room - (usedF dc.files : Int) < (f.data.length : Int) := by have := of_decide_eq_false hfull; omega
          rw [if_neg (by simp), if_neg (by simp), if_neg (by simp), if_neg (by simpa using this)])
        have HUP := Lib.hid (show (usedF (layF dc f).files : Int) = (usedF dc.files : Int) + (f.data.length : Int) by simp only [layF, usedF_put]; omega)
        clear hus hrm
        go_wp2_with fail
        have HMd := Lib.hid (HM.out.next (show Below w4.heap.size w4 w4.drew from below_drewN' w4 1))
        have HFd := Lib.hid (HFB.out.below (show Below w4.heap.size w4 w4.drew from below_drewN' w4 1))
        refine wp_region_held_drew (S := fun w' => FlBlk w' gf f (.slice ao f.data.length dcap)) (by kernel_rfl) HFd.out (fun hHeld => ?_)
        clear n1 n2 c1 HM HFB hfull hs0 hs1
        refine tk 0 rfl ?v_268 ?hy_268 ?r_268
        case hy_268 => intro w hSw; have n0 := hSw.c0; have n1 := hSw.c1; have n2 := hSw.c2; go_simp; try with_reducible rfl
        simp only [pA, pB, pC, pD]
        refine tk 2 rfl ?v_269 ?hy_269 ?r_269
        case hy_269 => intro w hSw; have n0 := hSw.c0; have n1 := hSw.c1; have n2 := hSw.c2; go_simp; try with_reducible rfl
        simp only [pA, pB, pC, pD]
        refine tk 3 rfl ?v_270 ?hy_270 ?r_270
        case hy_270 => intro w hSw; have n0 := hSw.c0; have n1 := hSw.c1; have n2 := hSw.c2; go_simp; try with_reducible rfl
        simp only [pA, pB, pC, pD]
        refine tk 4 rfl ?v_271 ?hy_271 ?r_271
        case hy_271 => intro w hSw; have n0 := hSw.c0; have n1 := hSw.c1; have n2 := hSw.c2; go_simp; try with_reducible rfl
        simp only [pA, pB, pC, pD]
        refine tk 5 rfl ?v_272 ?hy_272 ?r_272
        case hy_272 => intro w hSw; have n0 := hSw.c0; have n1 := hSw.c1; have n2 := hSw.c2; go_simp; try with_reducible rfl
        simp only [pA, pB, pC, pD]
        refine tk 7 rfl ?v_273 ?hy_273 ?r_273
        case hy_273 => intro w hSw; have n0 := hSw.c0; have n1 := hSw.c1; have n2 := hSw.c2; go_simp; try with_reducible rfl
        simp only [pA, pB, pC, pD]
        refine tk 8 rfl ?v_274 ?hy_274 ?r_274
        case hy_274 => intro w hSw; have n0 := hSw.c0; have n1 := hSw.c1; have n2 := hSw.c2; go_simp; try with_reducible rfl
        simp only [pA, pB, pC, pD]
        generalize World.drew _ = Wd at *
        have c0 := HMd.out.dk.c0
        refine wpAnyH_ready (rs := [1, 6]) (by kernel_rfl) (by simp) ?_
        refine AllReadyH.cons rfl (fun K hK => ?_) (AllReadyH.cons rfl (fun K hK => ?_) AllReadyH.nil)
        · go_simp
          refine hK.out _ _ HFd.out (fun hHeld => ?_)
          clear hK K
          refine wpAnyH_ready (rs := [6]) (by kernel_rfl) (by simp) ?_
          refine AllReadyH.cons rfl (fun K hK => ?_) AllReadyH.nil
          go_simp
          go_at_call 37
          refine (copyBytes_any f.data (.slice ao f.data.length dcap) _ (HDV.out _ HMd.out.below) (Nat.le_trans HL1.out (by decide))).mono ?_
          rintro e w5 ⟨v5, rfl, ho5, hb5⟩
          have HM5 := Lib.hid (HMd.out.next hb5)
          have HF5 := Lib.hid (HFd.out.below hb5)
          have HO5 := Lib.hid (browIn_own (A := fun k => gd < k) ho5 (fun k hk => Nat.lt_of_lt_of_le HMd.out.hi hk))
          obtain ⟨o5, cap5, rfl, _, _⟩ := own_shape ho5
          clear ho5 hb5 HMd HFd hHeld c0
          go_wp2_with fail
          refine hK.out _ _ HF5.out (fun hHeld => ?_)
          clear hK K
          refine tk 9 rfl ?v_275 ?hy_275 ?r_275
          case hy_275 => intro w hSw; go_simp; try with_reducible rfl
          simp only [pA, pB, pC, pD]
          refine wpAnyH_ready (rs := [10]) (by kernel_rfl) (by simp) ?_
          refine AllReadyH.cons rfl (fun K hK => ?_) AllReadyH.nil
          go_simp
          go_at_call 51
          refine (put_any (A := fun k => gd < k) dc.files vc f (.slice o5 f.data.length cap5) _ HM5.out.row HO5.out (fun k hk => Nat.lt_of_lt_of_le HM5.out.hi hk) (by have := HM5.out.ok.count; omega)).mono ?_
          rintro e w6 ⟨v6, rfl, h6, hb6⟩
          have HP6 := Lib.hid h6
          have HM6 := Lib.hid (HM5.out.next hb6)
          have HF6 := Lib.hid (HF5.out.below hb6)
          clear h6 hb6 HM5 HF5 hHeld
          go_wp2_with fail
          refine hK.out _ _ HF6.out (fun hHeld => ?_)
          clear hK K
          have j0 := HM6.out.dk.c0
          have f0 := HM6.out.dk.free 0
          refine tk 11 rfl ?v_276 ?hy_276 ?r_276
          case hy_276 => intro w hSw; go_simp; try with_reducible rfl
          simp only [pA]
          refine wpAnyH_ready (rs := [12]) (by kernel_rfl) (by simp) ?_
          refine AllReadyH.cons rfl (fun K hK => ?_) AllReadyH.nil
          rw [if_pos (by kernel_rfl)]
          refine wp_store_cell 22 (.tmp 73) (.tmp 72) rfl gd 0 v6 vc (by kernel_rfl) HP6.out.one rfl rfl j0 f0 ?_
          have hk7 : k < 700 := by omega
          have HM7 := Lib.hid (HM6.out.lay HFK.out HE0.out hk7 HP6.out rfl)
          have HF7 := Lib.hid (show FlBlk (w6.setCell ⟨gd, 0, none⟩ v6) gf f (.slice ao f.data.length dcap) by
            unfold FlBlk; simp only [World.setCell]; rw [Array.getElem?_modify, if_neg (by omega)]; exact HF6.out)
          clear j0 f0
          refine hK.out _ _ HF7.out (fun hHeld => ?_)
          clear hK K hHeld HF7 HF6 HM6 HP6
          generalize World.setCell _ _ _ = W at *
          refine wpAnyH_done (by kernel_rfl) ?_ _
          go_wp2
          go_roundw
          case rel => exact ⟨k + 1, layF dc f, v6, by omega, by go_num, by rw [HUP.out], HM7⟩
          case measure => simp [intOf]; omega
        · go_simp
          go_at_call 37
          refine (copyBytes_any f.data (.slice ao f.data.length dcap) _ (HDV.out _ HMd.out.below) (Nat.le_trans HL1.out (by decide))).mono ?_
          rintro e w5 ⟨v5, rfl, ho5, hb5⟩
          have HM5 := Lib.hid (HMd.out.next hb5)
          have HF5 := Lib.hid (HFd.out.below hb5)
          have HO5 := Lib.hid (browIn_own (A := fun k => gd < k) ho5 (fun k hk => Nat.lt_of_lt_of_le HMd.out.hi hk))
          obtain ⟨o5, cap5, rfl, _, _⟩ := own_shape ho5
          clear ho5 hb5 HMd HFd hHeld c0
          go_wp2_with fail
          refine hK.out _ _ HF5.out (fun hHeld => ?_)
          clear hK K
          have c0 := HM5.out.dk.c0
          refine tk 9 rfl ?v_277 ?hy_277 ?r_277
          case hy_277 => intro w hSw; go_simp; try with_reducible rfl
          simp only [pA, pB, pC, pD]
          refine wpAnyH_ready (rs := [1]) (by kernel_rfl) (by simp) ?_
          refine AllReadyH.cons rfl (fun K hK => ?_) AllReadyH.nil
          go_simp
          refine hK.out _ _ HF5.out (fun hHeld => ?_)
          clear hK K c0
          refine wpAnyH_ready (rs := [10]) (by kernel_rfl) (by simp) ?_
          refine AllReadyH.cons rfl (fun K hK => ?_) AllReadyH.nil
          go_simp
          go_at_call 51
          refine (put_any (A := fun k => gd < k) dc.files vc f (.slice o5 f.data.length cap5) _ HM5.out.row HO5.out (fun k hk => Nat.lt_of_lt_of_le HM5.out.hi hk) (by have := HM5.out.ok.count; omega)).mono ?_
          rintro e w6 ⟨v6, rfl, h6, hb6⟩
          have HP6 := Lib.hid h6
          have HM6 := Lib.hid (HM5.out.next hb6)
          have HF6 := Lib.hid (HF5.out.below hb6)
          clear h6 hb6 HM5 HF5 hHeld
          go_wp2_with fail
          refine hK.out _ _ HF6.out (fun hHeld => ?_)
          clear hK K
          have j0 := HM6.out.dk.c0
          have f0 := HM6.out.dk.free 0
          refine tk 11 rfl ?v_278 ?hy_278 ?r_278
          case hy_278 => intro w hSw; go_simp; try with_reducible rfl
          simp only [pA]
          refine wpAnyH_ready (rs := [12]) (by kernel_rfl) (by simp) ?_
          refine AllReadyH.cons rfl (fun K hK => ?_) AllReadyH.nil
          rw [if_pos (by kernel_rfl)]
          refine wp_store_cell 22 (.tmp 73) (.tmp 72) rfl gd 0 v6 vc (by kernel_rfl) HP6.out.one rfl rfl j0 f0 ?_
          have hk7 : k < 700 := by omega
          have HM7 := Lib.hid (HM6.out.lay HFK.out HE0.out hk7 HP6.out rfl)
          have HF7 := Lib.hid (show FlBlk (w6.setCell ⟨gd, 0, none⟩ v6) gf f (.slice ao f.data.length dcap) by
            unfold FlBlk; simp only [World.setCell]; rw [Array.getElem?_modify, if_neg (by omega)]; exact HF6.out)
          clear j0 f0
          refine hK.out _ _ HF7.out (fun hHeld => ?_)
          clear hK K hHeld HF7 HF6 HM6 HP6
          generalize World.setCell _ _ _ = W at *
          refine wpAnyH_done (by kernel_rfl) ?_ _
          go_wp2
          go_roundw
          case rel => exact ⟨k + 1, layF dc f, v6, by omega, by go_num, by rw [HUP.out], HM7⟩
          case measure => simp [intOf]; omega
      · obtain rfl : k = fs.length := by omega
        have HE := Lib.hid (show mountD room fs = (dc, 0) by rw [HMD.out, HM.out.run, List.drop_of_length_le (Nat.le_refl _)]; rfl)
        have HV := Lib.hid (show vc.oneCell' = true from HM.out.row.one)
        have HRS := Lib.hid HM.out.res
        go_wp2_with (first | (with_reducible refine wpList_load_dk rfl (.tmp 6) rfl gd dc vc rfl HM.out.dk ?_) | (with_reducible refine wpList_store_dk rfl (.tmp 4) (.tmp 75) rfl w.heap.size zeroD dc (.slice none 0 0) vc rfl rfl HRS.out HV.out ?_))
        intro w9 hw9
        obtain ⟨hd9, hb9, ht9⟩ := HM.out.done hw9.out
        have HD9 := Lib.hid hd9
        have HB9 := Lib.hid hb9
        have HT9 := Lib.hid ht9
        clear hw9 hd9 hb9 ht9
        go_wp2
        refine bodyPost_ret (v := .tuple #[dkV dc vc, .int .i64 (0)]) (results_dk2 rfl _ _ w.heap.size dc vc _ rfl rfl HD9.out) rfl ?_
        unfold MountPost
        rw [HE.out]
        exact ⟨_, rfl, (HM.out.row.turned HT9.out (fun k hk => by have := HM.out.lo; omega)).mono (fun k hk => Nat.le_of_lt (Nat.lt_trans HM.out.lo hk)), HB9.out⟩
  · have HE := Lib.hid (show mountD room fs = (zeroD, 53) by unfold mountD; rw [if_pos (by have := of_decide_eq_true h7; omega)])
    have HV := Lib.hid (show (Value.slice none 0 0).oneCell' = true from rfl)
    have HRS := Lib.hid HM.out.res
    go_wp2_with (first | (with_reducible refine wpList_store_dk rfl (.tmp 4) (.tmp 15) rfl w.heap.size zeroD zeroD (.slice none 0 0) (.slice none 0 0) rfl rfl HRS.out HV.out ?_))
    intro w9 hw9
    obtain ⟨hd9, hb9, ht9⟩ := HM.out.done hw9.out
    have HD9 := Lib.hid hd9
    have HB9 := Lib.hid hb9
    have HT9 := Lib.hid ht9
    clear hw9 hd9 hb9 ht9
    go_wp2
    refine bodyPost_ret (v := .tuple #[dkV zeroD (.slice none 0 0), .int .i64 (53)]) (results_dk2 rfl _ _ w.heap.size zeroD (.slice none 0 0) _ rfl rfl HD9.out) rfl ?_
    unfold MountPost
    rw [HE.out]
    exact ⟨_, rfl, filesIn_nil _ _, HB9.out⟩

end Go.Proofs.YtlobohpbgghleaaGreatDoor
