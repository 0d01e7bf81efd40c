import Derived.Test.YtlobohpbgghleaaGreatDoorRefMount
import Derived.Test.YtlobohpbgghleaaGreatDoorFsImage
import Derived.Test.YtlobohpbgghleaaGreatDoorFsDir
namespace Go.Proofs.YtlobohpbgghleaaGreatDoor
open Go.RowKit

/-! ## simfs.Mount -/

theorem wp_fsPut {o : Oper} {a : Act} {K : Act → World → Prop} {Q : Exit → Act → World → Prop} {w : World} {f m : Nat} {L : List Slot} {s : Slot} (x y z : Operand) (hop : o.op = Op.mapUpdate 77 x y z)
    (hx : a.eval x = .map (some m)) (hy : a.eval y = .string ⟨s.fil.name.toArray⟩) (hz : a.eval z = .pointer (some ⟨s.blk, 0, none⟩)) (hB : Body w f m L) (hn : s.fil.name.length ≤ 1000) (hL : L.length ≤ 1000000) (hs : SlotAt w s)
    (h1 : s.blk ≠ f ∧ s.blk ≠ m ∧ datBlk s.sl ≠ some f ∧ datBlk s.sl ≠ some m ∧ datBlk s.sl ≠ some s.blk) (h2 : ∀ t ∈ takeS s.fil.name L, Far s t)
    (hK : ∀ w', Body w' f m (putS s (takeS s.fil.name L)) → w.grownBy w' (some m) → K (a.put o.dst undef) w') : o.wp Tryz.prog a w K Q := by
  obtain ⟨w', hrun, h3, h4⟩ := hB.put hn hL hs h1 h2
  unfold Oper.wp
  simp [execOp, hop, hx, hy, hz, hrun, Result.andThen]
  exact hK w' h3 h4

def FsMountPost (w : World) (r : Disk × Int) (e : Ending) (w' : World) : Prop :=
  ((r.2 ≠ 0 ∧ e = .returned (.tuple #[.pointer none, .int .i64 r.2])) ∨
   (r.2 = 0 ∧ ∃ f m L, e = .returned (.tuple #[.pointer (some ⟨f, 0, none⟩), .int .i64 0]) ∧ FsAt w' f m r.1 L ∧ ∀ k, foot f m L k → w.heap.size ≤ k)) ∧ Below w.heap.size w w'
/-- Mount's loop: the disk so far -/
structure FmW (w : World) (room : Int) (fs : List Fil) (f m k : Nat) (dc : Disk) (L : List Slot) (wr : World) : Prop where
  at_ : FsAt wr f m dc L
  low : ∀ k, foot f m L k → w.heap.size ≤ k
  below : Below w.heap.size w wr
  run : mountGo (newD room) fs = mountGo dc (fs.drop k)
  cnt : dc.files.length ≤ k
theorem FmW.next {w wr W : World} {room : Int} {fs : List Fil} {f m k : Nat} {dc : Disk} {L : List Slot} (h : FmW w room fs f m k dc L wr) (hb : Below wr.heap.size wr W) : FmW w room fs f m k dc L W :=
  ⟨h.at_.below hb, h.low, Below.next h.below hb, h.run, h.cnt⟩

set_option maxRecDepth 100000 in
set_option maxHeartbeats 8000000 in
theorem fsMount_any {A : Nat → Prop} (room : Int) (fs : List Fil) (fv : Value) (w : World) (hf : FilesIn A w fv fs) (hl : ∀ f ∈ fs, f.data.length ≤ 1048576) :
    Calls Tryz.prog 10 #[.int .i64 room, fv] w (FsMountPost w (mountD room fs)) := by
  obtain ⟨oa, cap, rfl, hl1, hl2, hcc⟩ := hf.shape
  have HCC := Lib.hid hcc
  have HL := Lib.hid hl
  clear hcc hf hl
  go_enter Tryz.func10, Tryz.ntmps10
  go_wp2_with fail
  refine (fsNew_any room w).mono ?_
  rintro e w1 ⟨f, m, rfl, hat, hf1, hm1, hb1⟩
  have HM := Lib.hid (show FmW w room fs f m 0 (newD room) [] w1 from ⟨hat, fun k hk => by
    rcases hk with rfl | rfl | ⟨s, hs, _⟩
    · exact hf1
    · exact hm1
    · exact absurd hs List.not_mem_nil, hb1, rfl, Nat.zero_le _⟩)
  clear hat hf1 hm1 hb1
  rcases h7 : decide ((700 : Int) < (fs.length : Int)) with _ | _
  case true =>
    have HE := Lib.hid (show mountD room fs = (zeroD, 53) by unfold mountD; rw [if_pos (by have := of_decide_eq_true h7; omega)])
    go_wp2
    go_ret2
    unfold FsMountPost
    rw [HE.out]
    exact ⟨.inl ⟨by decide, rfl⟩, HM.out.below⟩
  have HMD := Lib.hid (show mountD room fs = mountGo (newD room) fs by unfold mountD; rw [if_neg (by have := of_decide_eq_false h7; omega)])
  have hn7 : fs.length ≤ 700 := by have := of_decide_eq_false h7; omega
  go_wp2
  go_loopw [8, 16] (fun _ iv wr => ∃ (k : Nat) (dc : Disk) (L : List Slot), k ≤ fs.length ∧ iv = .int .i64 k ∧ Hid (FmW w room fs f m k dc L wr)) (fun _ iv _ => fs.length - (intOf iv).toNat)
  case atStart => exact ⟨0, newD room, [], Nat.zero_le _, rfl, HM⟩
  case round =>
    clear HM h7
    obtain ⟨k, dc, L, hk, rfl, HM⟩ := hrel
    by_cases hlt : k < fs.length
    · obtain ⟨x, hx, _, hxm⟩ := nth fs k hlt
      have q1 : (k : Int) < (fs.length : Int) := by omega
      obtain ⟨b, off, rfl, _, dv, hr, hdv⟩ := HCC.out k x hx
      have HFK := Lib.hid hx
      have HR := Lib.hid (range_later hr HM.out.below)
      have HDV := Lib.hid (fun W (hW : Below w.heap.size w W) => (hdv.below hW).brow)
      obtain ⟨ao, dcap, rfl, hdl, hdc⟩ := hdv
      have HFZ := Lib.hid (flBlk_alloc wr ⟨[], [], 0⟩ (.slice none 0 0))
      simp only [flCs] at HFZ
      have HL1 := Lib.hid (HL.out x hxm)
      clear hx hxm hr hdc hdl
      go_wp2_with (first | (with_reducible refine wpList_load_fl rfl (.tmp 18) rfl b (off + k * 3) x (.slice ao x.data.length dcap) rfl HR.out ?_) | (with_reducible refine wpList_store_fl rfl (.tmp 8) (.tmp 19) rfl wr.heap.size ⟨[], [], 0⟩ x (.slice none 0 0) (.slice ao x.data.length dcap) rfl rfl HFZ.out rfl ?_))
      intro wf hwf
      have HFB := Lib.hid (show FlBlk wf wr.heap.size x (.slice ao x.data.length dcap) by rw [hwf.out]; exact HFZ.out.row)
      have HMF := Lib.hid (show FmW w room fs f m k dc L wf by
        rw [hwf.out]
        exact HM.out.next (below_row ((Below.refl _ _).alloc (Nat.le_refl _) _) (Nat.le_refl _) _))
      have hgf : ¬ foot f m L wr.heap.size := fun hc => by have := HM.out.at_.lt _ hc; omega
      have HGF := Lib.hid hgf
      clear hwf HFZ HR HM hgf
      generalize wr.heap.size = gx at *
      have HM := HMF
      clear HMF
      have n0 := HFB.out.c0
      have n1 := HFB.out.c1
      have n2 := HFB.out.c2
      have c0 := HM.out.at_.hd.c0
      have c1 : wf.cell? ⟨f, 1, none⟩ = some (.int .i64 dc.room) := HM.out.at_.hd.c1
      have c2 : wf.cell? ⟨f, 2, none⟩ = some (.int .i64 (usedF dc.files : Int)) := HM.out.at_.hd.c2
      have HRT := Lib.hid (fun W => Right_any x.name W)
      rcases hrn : rightName x.name with _ | _
      · rw [hrn] at HRT
        have HE := Lib.hid (show mountD room fs = (zeroD, 50) by
          have he : mountE dc x = 50 := by unfold mountE; rw [hrn]; rfl
          rw [HMD.out, HM.out.run, mountGo_at HFK.out, if_neg (by rw [he]; decide), he])
        clear hrn n1 n2 c0 c1 c2
        go_wp2_with (go_at_call 35; refine (HRT.out _).mono ?_; rintro e w3 ⟨rfl, rfl⟩)
        go_ret2
        unfold FsMountPost
        rw [HE.out]
        exact ⟨.inl ⟨by decide, rfl⟩, HM.out.below⟩
      rw [hrn] at HRT
      have HRN := Lib.hid hrn
      have HXL := Lib.hid (right_len hrn)
      clear hrn
      rcases hsl : slotAt L x.name with _ | s
      case some =>
        have HE := Lib.hid (show mountD room fs = (zeroD, 52) by
          have hat : atF dc.files x.name = some s.fil := by rw [← HM.out.at_.fil, fils_at, hsl]; rfl
          have he : mountE dc x = 52 := by unfold mountE; rw [HRN.out, hat]; rfl
          rw [HMD.out, HM.out.run, mountGo_at HFK.out, if_neg (by rw [he]; decide), he])
        have HLK := Lib.hid (fun W (hB : Body W f m L) => show (Instr.lookup 77 (.map (some m)) (.string ⟨x.name.toArray⟩) false).run Tryz.prog W = .ok (.pointer (some ⟨s.blk, 0, none⟩)) W by
          have := hB.look (n := x.name) HXL.out; rw [hsl] at this; exact this)
        clear hsl
        go_wp2_with (go_at_call 35; refine (HRT.out _).mono ?_; rintro e w3 ⟨rfl, rfl⟩)
        have HMd := Lib.hid (HM.out.next (show Below wf.heap.size wf wf.drew from below_drewN' wf 1))
        have HFd := Lib.hid (HFB.out.below (show Below wf.heap.size wf wf.drew from below_drewN' wf 1))
        refine wp_region_held_drew (S := fun w' => HdAt w' f m (hdOf dc) ∧ FlBlk w' gx x (.slice ao x.data.length dcap) ∧ Body w' f m L) (by kernel_rfl) ⟨HMd.out.at_.hd, HFd.out, HMd.out.at_.body⟩ (fun hHeld => ?_)
        clear n0 n1 n2 c0 c1 c2
        refine tk 0 rfl ?v_184 ?hy_184 ?r_184
        case hy_184 => intro w hSw; have c0 := hSw.1.c0; have n0 := hSw.2.1.c0; have hlook := HLK.out _ hSw.2.2; go_simp; try with_reducible rfl
        simp only [pA, pB, pC, pD]
        refine tk 1 rfl ?v_185 ?hy_185 ?r_185
        case hy_185 => intro w hSw; have c0 := hSw.1.c0; have n0 := hSw.2.1.c0; have hlook := HLK.out _ hSw.2.2; go_simp; try with_reducible rfl
        simp only [pA, pB, pC, pD]
        refine tk 2 rfl ?v_186 ?hy_186 ?r_186
        case hy_186 => intro w hSw; have c0 := hSw.1.c0; have n0 := hSw.2.1.c0; have hlook := HLK.out _ hSw.2.2; go_simp; try with_reducible rfl
        simp only [pA, pB, pC, pD]
        refine tk 3 rfl ?v_187 ?hy_187 ?r_187
        case hy_187 => intro w hSw; have c0 := hSw.1.c0; have n0 := hSw.2.1.c0; have hlook := HLK.out _ hSw.2.2; go_simp; try with_reducible rfl
        simp only [pA, pB, pC, pD]
        refine tk 4 rfl ?v_188 ?hy_188 ?r_188
        case hy_188 => intro w hSw; have c0 := hSw.1.c0; have n0 := hSw.2.1.c0; have hlook := HLK.out _ hSw.2.2; go_simp; try with_reducible rfl
        simp only [pA, pB, pC, pD]
        refine tk 5 rfl ?v_189 ?hy_189 ?r_189
        case hy_189 => intro w hSw; have c0 := hSw.1.c0; have n0 := hSw.2.1.c0; have hlook := HLK.out _ hSw.2.2; go_simp; try with_reducible rfl
        simp only [pA, pB, pC, pD]
        refine tk 6 rfl ?v_190 ?hy_190 ?r_190
        case hy_190 => intro w hSw; have c0 := hSw.1.c0; have n0 := hSw.2.1.c0; have hlook := HLK.out _ hSw.2.2; go_simp; try with_reducible rfl
        simp only [pA, pB, pC, pD]
        refine tk 7 rfl ?v_191 ?hy_191 ?r_191
        case hy_191 => intro w hSw; have c0 := hSw.1.c0; have n0 := hSw.2.1.c0; have hlook := HLK.out _ hSw.2.2; go_simp; try with_reducible rfl
        simp only [pA, pB, pC, pD]
        refine tk 8 rfl ?v_192 ?hy_192 ?r_192
        case hy_192 => intro w hSw; have c0 := hSw.1.c0; have n0 := hSw.2.1.c0; have hlook := HLK.out _ hSw.2.2; go_simp; try with_reducible rfl
        simp only [pA, pB, pC, pD]
        refine wpAnyH_done (by kernel_rfl) ?_ _
        have HM := HMd
        have HFB := HFd
        clear HMd HFd HRT HLK
        generalize World.drew _ = w3 at *
        go_wp2
        go_ret2
        unfold FsMountPost
        rw [HE.out]
        exact ⟨.inl ⟨by decide, rfl⟩, HM.out.below⟩
      have HLK := Lib.hid (fun W (hB : Body W f m L) => show (Instr.lookup 77 (.map (some m)) (.string ⟨x.name.toArray⟩) false).run Tryz.prog W = .ok (.pointer none) W by
        have := hB.look (n := x.name) HXL.out; rw [hsl] at this; exact this)
      have HAT := Lib.hid (show atF dc.files x.name = none by rw [← HM.out.at_.fil, fils_at, hsl]; rfl)
      have HTS := Lib.hid (show takeS x.name L = L by
        unfold takeS
        rw [List.filter_eq_self]
        intro y hy
        have := List.find?_eq_none.1 hsl y hy
        simpa using this)
      clear hsl
      go_wp2_with (go_at_call 35; refine (HRT.out _).mono ?_; rintro e w3 ⟨rfl, rfl⟩)
      have HMd := Lib.hid (HM.out.next (show Below wf.heap.size wf wf.drew from below_drewN' wf 1))
      have HFd := Lib.hid (HFB.out.below (show Below wf.heap.size wf wf.drew from below_drewN' wf 1))
      refine wp_region_held_drew (S := fun w' => HdAt w' f m (hdOf dc) ∧ FlBlk w' gx x (.slice ao x.data.length dcap) ∧ Body w' f m L) (by kernel_rfl) ⟨HMd.out.at_.hd, HFd.out, HMd.out.at_.body⟩ (fun hHeld => ?_)
      clear n0 n1 n2 c0 c1 c2
      refine tk 0 rfl ?v_193 ?hy_193 ?r_193
      case hy_193 => intro w hSw; have c0 := hSw.1.c0; have n0 := hSw.2.1.c0; have hlook := HLK.out _ hSw.2.2; go_simp; try with_reducible rfl
      simp only [pA, pB, pC, pD]
      refine tk 1 rfl ?v_194 ?hy_194 ?r_194
      case hy_194 => intro w hSw; have c0 := hSw.1.c0; have n0 := hSw.2.1.c0; have hlook := HLK.out _ hSw.2.2; go_simp; try with_reducible rfl
      simp only [pA, pB, pC, pD]
      refine tk 2 rfl ?v_195 ?hy_195 ?r_195
      case hy_195 => intro w hSw; have c0 := hSw.1.c0; have n0 := hSw.2.1.c0; have hlook := HLK.out _ hSw.2.2; go_simp; try with_reducible rfl
      simp only [pA, pB, pC, pD]
      refine tk 3 rfl ?v_196 ?hy_196 ?r_196
      case hy_196 => intro w hSw; have c0 := hSw.1.c0; have n0 := hSw.2.1.c0; have hlook := HLK.out _ hSw.2.2; go_simp; try with_reducible rfl
      simp only [pA, pB, pC, pD]
      refine tk 4 rfl ?v_197 ?hy_197 ?r_197
      case hy_197 => intro w hSw; have c0 := hSw.1.c0; have n0 := hSw.2.1.c0; have hlook := HLK.out _ hSw.2.2; go_simp; try with_reducible rfl
      simp only [pA, pB, pC, pD]
      refine tk 5 rfl ?v_198 ?hy_198 ?r_198
      case hy_198 => intro w hSw; have c0 := hSw.1.c0; have n0 := hSw.2.1.c0; have hlook := HLK.out _ hSw.2.2; go_simp; try with_reducible rfl
      simp only [pA, pB, pC, pD]
      refine tk 6 rfl ?v_199 ?hy_199 ?r_199
      case hy_199 => intro w hSw; have c0 := hSw.1.c0; have n0 := hSw.2.1.c0; have hlook := HLK.out _ hSw.2.2; go_simp; try with_reducible rfl
      simp only [pA, pB, pC, pD]
      refine tk 7 rfl ?v_200 ?hy_200 ?r_200
      case hy_200 => intro w hSw; have c0 := hSw.1.c0; have n0 := hSw.2.1.c0; have hlook := HLK.out _ hSw.2.2; go_simp; try with_reducible rfl
      simp only [pA, pB, pC, pD]
      refine tk 8 rfl ?v_201 ?hy_201 ?r_201
      case hy_201 => intro w hSw; have c0 := hSw.1.c0; have n0 := hSw.2.1.c0; have hlook := HLK.out _ hSw.2.2; go_simp; try with_reducible rfl
      simp only [pA, pB, pC, pD]
      refine wpAnyH_done (by kernel_rfl) ?_ _
      have HM := HMd
      have HFB := HFd
      clear HMd HFd HRT HLK
      generalize World.drew _ = w3 at *
      have n2 := HFB.out.c2
      have n1 := HFB.out.c1
      rcases hs0 : decide (x.safe < 0) with _ | _
      case true =>
        have HE := Lib.hid (show mountD room fs = (zeroD, 1) by
          have he : mountE dc x = 1 := by unfold mountE; rw [HRN.out, HAT.out, hs0]; rfl
          rw [HMD.out, HM.out.run, mountGo_at HFK.out, if_neg (by rw [he]; decide), he])
        go_wp2
        go_ret2
        unfold FsMountPost
        rw [HE.out]
        exact ⟨.inl ⟨by decide, rfl⟩, HM.out.below⟩
      rcases hs1 : decide ((x.data.length : Int) < x.safe) with _ | _
      case true =>
        have HE := Lib.hid (show mountD room fs = (zeroD, 1) by
          have he : mountE dc x = 1 := by unfold mountE; rw [HRN.out, HAT.out, hs0, hs1]; rfl
          rw [HMD.out, HM.out.run, mountGo_at HFK.out, if_neg (by rw [he]; decide), he])
        go_wp2
        go_ret2
        unfold FsMountPost
        rw [HE.out]
        exact ⟨.inl ⟨by decide, rfl⟩, HM.out.below⟩
      have hus := HM.out.at_.ok.used
      have hrm := HM.out.at_.ok.room
      have hw : IntKind.i64.wrap (dc.room - (usedF dc.files : Int)) = dc.room - (usedF dc.files : Int) := by rw [IntKind.wrap_i64]; omega
      have c1 : w3.cell? ⟨f, 1, none⟩ = some (.int .i64 dc.room) := HM.out.at_.hd.c1
      have c2 : w3.cell? ⟨f, 2, none⟩ = some (.int .i64 (usedF dc.files : Int)) := HM.out.at_.hd.c2
      have HN := Lib.hid (fun n => HFB.out.below (below_drewN' w3 n))
      have HMN := Lib.hid (fun n => HM.out.next (below_drewN' w3 n))
      rcases hfull : decide (dc.room - (usedF dc.files : Int) < (x.data.length : Int)) with _ | _
      case true =>
        have HE := Lib.hid (show mountD room fs = (zeroD, 54) by
          have he : mountE dc x = 54 := by
            unfold mountE; rw [HRN.out, HAT.out, hs0, hs1, hfull]; rfl
          rw [HMD.out, HM.out.run, mountGo_at HFK.out, if_neg (by rw [he]; decide), he])
        clear hus hrm
        go_wp2_with fail
        go_quiet (fail)
        go_wp2
        go_ret2
        unfold FsMountPost
        rw [HE.out]
        exact ⟨.inl ⟨by decide, rfl⟩, (HMN.out _).below⟩
      have HE0 := Lib.hid (show mountE dc x = 0 by
        unfold mountE; rw [HRN.out, HAT.out, hs0, hs1, hfull]; rfl)
      have HUP := Lib.hid (show (usedF (layF dc x).files : Int) = (usedF dc.files : Int) + (x.data.length : Int) by simp only [layF, usedF_put]; omega)
      have HW := Lib.hid (show IntKind.i64.wrap ((usedF dc.files : Int) + (x.data.length : Int)) = (usedF dc.files : Int) + (x.data.length : Int) by have := HL1.out; rw [IntKind.wrap_i64]; omega)
      go_wp2_with fail
      go_quiet (fail)
      have HFB := Lib.hid (HN.out nq)
      have HM := Lib.hid (HMN.out nq)
      clear HN HMN n1 n2 c1 c2 hus hrm hw hfull hs0 hs1
      generalize w3.drewN nq = w4 at *
      have HMd := Lib.hid (HM.out.next (show Below w4.heap.size w4 w4.drew from below_drewN' w4 1))
      have HFd := Lib.hid (HFB.out.below (show Below w4.heap.size w4 w4.drew from below_drewN' w4 1))
      go_wp2_with fail
      refine wp_region_held_drew (S := fun w' => HdAt w' f m (hdOf dc) ∧ FlBlk w' gx x (.slice ao x.data.length dcap)) (by kernel_rfl) ⟨HMd.out.at_.hd, HFd.out⟩ (fun hHeld => ?_)
      clear HM HFB
      refine tk 0 rfl ?v_202 ?hy_202 ?r_202
      case hy_202 => intro w hSw; have c0 := hSw.1.c0; have n0 := hSw.2.c0; have n1 := hSw.2.c1; have n2 := hSw.2.c2; go_simp; try with_reducible rfl
      simp only [pA, pB, pC, pD]
      refine tk 1 rfl ?v_203 ?hy_203 ?r_203
      case hy_203 => intro w hSw; have c0 := hSw.1.c0; have n0 := hSw.2.c0; have n1 := hSw.2.c1; have n2 := hSw.2.c2; go_simp; try with_reducible rfl
      simp only [pA, pB, pC, pD]
      refine tk 2 rfl ?v_204 ?hy_204 ?r_204
      case hy_204 => intro w hSw; have c0 := hSw.1.c0; have n0 := hSw.2.c0; have n1 := hSw.2.c1; have n2 := hSw.2.c2; go_simp; try with_reducible rfl
      simp only [pA, pB, pC, pD]
      refine tk 3 rfl ?v_205 ?hy_205 ?r_205
      case hy_205 => intro w hSw; have c0 := hSw.1.c0; have n0 := hSw.2.c0; have n1 := hSw.2.c1; have n2 := hSw.2.c2; go_simp; try with_reducible rfl
      simp only [pA, pB, pC, pD]
      refine tk 4 rfl ?v_206 ?hy_206 ?r_206
      case hy_206 => intro w hSw; have c0 := hSw.1.c0; have n0 := hSw.2.c0; have n1 := hSw.2.c1; have n2 := hSw.2.c2; go_simp; try with_reducible rfl
      simp only [pA, pB, pC, pD]
      refine tk 5 rfl ?v_207 ?hy_207 ?r_207
      case hy_207 => intro w hSw; have c0 := hSw.1.c0; have n0 := hSw.2.c0; have n1 := hSw.2.c1; have n2 := hSw.2.c2; go_simp; try with_reducible rfl
      simp only [pA, pB, pC, pD]
      refine tk 6 rfl ?v_208 ?hy_208 ?r_208
      case hy_208 => intro w hSw; have c0 := hSw.1.c0; have n0 := hSw.2.c0; have n1 := hSw.2.c1; have n2 := hSw.2.c2; go_simp; try with_reducible rfl
      simp only [pA, pB, pC, pD]
      refine tk 7 rfl ?v_209 ?hy_209 ?r_209
      case hy_209 => intro w hSw; have c0 := hSw.1.c0; have n0 := hSw.2.c0; have n1 := hSw.2.c1; have n2 := hSw.2.c2; go_simp; try with_reducible rfl
      simp only [pA, pB, pC, pD]
      refine tk 9 rfl ?v_210 ?hy_210 ?r_210
      case hy_210 => intro w hSw; have c0 := hSw.1.c0; have n0 := hSw.2.c0; have n1 := hSw.2.c1; have n2 := hSw.2.c2; go_simp; try with_reducible rfl
      simp only [pA, pB, pC, pD]
      refine tk 10 rfl ?v_211 ?hy_211 ?r_211
      case hy_211 => intro w hSw; have c0 := hSw.1.c0; have n0 := hSw.2.c0; have n1 := hSw.2.c1; have n2 := hSw.2.c2; go_simp; try with_reducible rfl
      simp only [pA, pB, pC, pD]
      generalize World.drew _ = Wd at *
      refine wpAnyH_ready (rs := [8]) (by kernel_rfl) (by simp) ?_
      refine AllReadyH.cons rfl (fun K hK => ?_) AllReadyH.nil
      go_simp
      go_at_call 36
      refine (clone_any x.data (.slice ao x.data.length dcap) _ (HDV.out _ HMd.out.below) (Nat.le_trans HL1.out (by decide))).mono ?_
      rintro e w5 ⟨v5, rfl, ho5, hb5⟩
      have HD5 := Lib.hid (datAt_own ho5)
      obtain ⟨o5, cap5, rfl, _, _⟩ := own_shape ho5
      have HM5 := Lib.hid (HMd.out.next hb5)
      have HF5 := Lib.hid (HFd.out.below hb5)
      have HOLD := Lib.hid (fun k (hk : foot f m L k) => HMd.out.at_.lt k hk)
      have HWL := Lib.hid (HMd.out.below.size)
      clear ho5 hb5 HMd HFd hHeld
      go_wp2_with fail
      refine hK.out _ _ ⟨HM5.out.at_.hd, HF5.out⟩ (fun hHeld => ?_)
      clear hK K
      refine tk 11 rfl ?v_212 ?hy_212 ?r_212
      case hy_212 => intro w hSw; go_simp; try with_reducible rfl
      simp only [pA, pB, pC, pD]
      have HM6 := Lib.hid (HM5.out.next (below_alloc w5 (.cells #[.slice o5 x.data.length cap5, .int .i64 x.safe] 82)))
      have HF6 := Lib.hid (HF5.out.below (below_alloc w5 (.cells #[.slice o5 x.data.length cap5, .int .i64 x.safe] 82)))
      have HX := Lib.hid (show SlotAt (w5.alloc (.cells #[.slice o5 x.data.length cap5, .int .i64 x.safe] 82)) ⟨x, w5.heap.size, .slice o5 x.data.length cap5⟩ from ⟨heap_alloc_new w5 _, HD5.out.1.later (below_alloc w5 _)⟩)
      have HL5 := Lib.hid (fun k (hk : foot f m L k) => HM5.out.at_.lt k hk)
      have HG5 := Lib.hid (fun g (hg : datBlk (.slice o5 x.data.length cap5) = some g) => HD5.out.1.lt hg)
      refine wpAnyH_ready (rs := [12]) (by kernel_rfl) (by simp) ?_
      refine AllReadyH.cons rfl (fun K hK => ?_) AllReadyH.nil
      go_simp
      refine hK.out _ _ ⟨HM6.out.at_.hd, HF6.out⟩ (fun hHeld => ?_)
      clear hK K hHeld
      have hL7 : L.length ≤ 1000000 := by
        have h1 := HM6.out.at_.fil
        have h2 := HM6.out.at_.ok.count
        rw [← h1] at h2
        have : (fils L).length = L.length := by simp [fils]
        omega
      have HNE := Lib.hid (show w5.heap.size ≠ f ∧ w5.heap.size ≠ m ∧ datBlk (.slice o5 x.data.length cap5) ≠ some f ∧ datBlk (.slice o5 x.data.length cap5) ≠ some m ∧ datBlk (.slice o5 x.data.length cap5) ≠ some w5.heap.size from
        ⟨fun e => by have := HL5.out f (.inl rfl); omega, fun e => by have := HL5.out m (.inr (.inl rfl)); omega, fun e => by have := HD5.out.2 f e; have := HOLD.out f (.inl rfl); omega,
         fun e => by have := HD5.out.2 m e; have := HOLD.out m (.inr (.inl rfl)); omega, fun e => by have := HG5.out _ e; omega⟩)
      have HFAR := Lib.hid (show ∀ t ∈ takeS x.name L, Far ⟨x, w5.heap.size, .slice o5 x.data.length cap5⟩ t from fun t ht' => by
        have ht := (List.mem_filter.1 ht').1
        have hb := HOLD.out t.blk (.inr (.inr ⟨t, ht, .inl rfl⟩))
        have hb5 := HL5.out t.blk (.inr (.inr ⟨t, ht, .inl rfl⟩))
        refine ⟨fun e => ?_, fun e => ?_, fun e => ?_, fun g hg hg' => ?_⟩
        · simp only at e; omega
        · have := HD5.out.2 t.blk e; omega
        · have := HL5.out _ (.inr (.inr ⟨t, ht, .inr e⟩)); simp only at this; omega
        · have h1 := HD5.out.2 g hg
          have h2 := HOLD.out g (.inr (.inr ⟨t, ht, .inr hg'⟩))
          omega)
      refine wpAnyH_ready (rs := [13]) (by kernel_rfl) (by simp) ?_
      refine AllReadyH.cons rfl (fun K hK => ?_) AllReadyH.nil
      rw [if_pos (by kernel_rfl)]
      refine wp_fsPut (s := ⟨x, w5.heap.size, .slice o5 x.data.length cap5⟩) (.tmp 63) (.tmp 65) (.tmp 72) rfl rfl rfl rfl HM6.out.at_.body HXL.out hL7 HX.out HNE.out HFAR.out ?_
      intro w7 hb7 hg7
      have HB7 := Lib.hid (show Body w7 f m (putS ⟨x, w5.heap.size, .slice o5 x.data.length cap5⟩ L) by have := hb7; rw [HTS.out] at this; exact this)
      have hfm := HM6.out.at_.body.apart.1
      have HH7 := Lib.hid (HM6.out.at_.hd.kept (hg7.block f HM6.out.at_.hd.lt (by simpa using hfm)))
      have HF7 := Lib.hid (show FlBlk w7 gx x (.slice ao x.data.length dcap) by
        unfold FlBlk
        rw [hg7.block gx (Array.getElem?_eq_some_iff.1 HF6.out).1 (by simpa using fun e => HGF.out (.inr (.inl e)))]
        exact HF6.out)
      have HBW7 := Lib.hid (show Below w.heap.size w w7 from HM6.out.below.grown hg7 HM6.out.below.size (fun j hj => by cases hj; exact HM6.out.low m (.inr (.inl rfl))))
      clear hb7 hg7 hfm
      refine hK.out _ _ ⟨HH7.out, HF7.out⟩ (fun hHeld => ?_)
      clear hK K hHeld
      refine wpAnyH_done (by kernel_rfl) ?_ _
      have c2 : w7.cell? ⟨f, 2, none⟩ = some (.int .i64 (usedF dc.files : Int)) := HH7.out.c2
      have f2 := HH7.out.free 2
      have n1 := HF7.out.c1
      have hw := HW.out
      go_wp2_with fail
      go_still_tail 10, (by kernel_rfl)
      have HBd := Lib.hid (show Below w7.heap.size w7 w7.drew from below_drewN' w7 1)
      have c2' : w7.drew.cell? ⟨f, 2, none⟩ = some (.int .i64 (usedF dc.files : Int)) := c2
      refine wpList_store_cellV rfl 3 (.tmp 82) (.tmp 80) rfl f 2 (.int .i64 ((usedF dc.files : Int) + (x.data.length : Int))) (.int .i64 (usedF dc.files : Int)) (by kernel_rfl) rfl rfl rfl c2' f2 ?_
      intro w8 hw8
      have hk7 : k < 700 := by omega
      have HM8 := Lib.hid (show FmW w room fs f m (k + 1) (layF dc x) (putS ⟨x, w5.heap.size, .slice o5 x.data.length cap5⟩ L) w8 by
        rw [hw8.out]
        have hcnt := HM6.out.cnt
        refine ⟨⟨?_, (HB7.out.below HH7.out.lt HBd.out).setHd 2 _, by rw [fils_put, HM6.out.at_.fil]; rfl, layF_ok HM6.out.at_.ok HE0.out (by omega)⟩, fun q hq => ?_, (Below.next HBW7.out HBd.out).setCell (p := ⟨f, 2, none⟩) (HM6.out.low f (.inl rfl)) _, ?_, by simp only [layF, putF_length]; omega⟩
        · have e : hdOf (layF dc x) = { hdOf dc with used := (usedF dc.files : Int) + (x.data.length : Int) } := by
            unfold hdOf
            rw [HUP.out]
            rfl
          rw [e]
          exact (HH7.out.below HBd.out).set 2 _ rfl
        · rcases foot_put q hq with h1 | h1 | h1
          · exact HM6.out.low q h1
          · rw [h1]; exact HM5.out.below.size
          · exact Nat.le_trans HWL.out (HD5.out.2 q h1)
        · rw [HM6.out.run, mountGo_at HFK.out, if_pos HE0.out])
      clear hw8 c2 c2' f2 n1 hw
      go_wp2
      go_roundw
      case rel => exact ⟨k + 1, layF dc x, _, by omega, by go_num, HM8⟩
      case measure => simp [intOf]; omega
    · obtain rfl : k = fs.length := by omega
      have HE := Lib.hid (show mountD room fs = (dc, 0) by rw [HMD.out, HM.out.run, List.drop_of_length_le (Nat.le_refl _)]; rfl)
      go_wp2
      go_ret2
      unfold FsMountPost
      rw [HE.out]
      exact ⟨.inr ⟨rfl, f, m, L, rfl, HM.out.at_, HM.out.low⟩, HM.out.below⟩

end Go.Proofs.YtlobohpbgghleaaGreatDoor
