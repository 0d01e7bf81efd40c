import Derived.Test.YtlobohpbgghleaaGreatDoorFsDir
import Derived.Test.YtlobohpbgghleaaGreatDoorRefDisk
namespace Go.Proofs.YtlobohpbgghleaaGreatDoor

/-! ## the calls keep what holds of a disk -/

theorem bar_front {d : Disk} {o : DOp} (h : barD d o = 0) : d.down = false ∧ rightName o.name = true ∧ (o.k = 3 → rightName o.to = true) := by
  unfold barD at h
  rcases hd : d.down
  · rw [hd] at h
    simp only [Bool.false_eq_true, if_false] at h
    rcases hr : rightName o.name
    · rw [hr] at h; simp at h
    · rw [hr] at h
      refine ⟨rfl, rfl, fun hk => ?_⟩
      rcases ht : rightName o.to
      · rw [ht, hk] at h; simp at h
      · rfl
  · rw [hd] at h; simp at h
theorem bar_none {d : Disk} {o : DOp} (h : barD d o = 0) (ha : atF d.files o.name = none) : o.k = 0 ∧ d.files.length < 700 := by
  obtain ⟨h1, h2, h3⟩ := bar_front h
  unfold barD at h
  rw [h1, h2, ha] at h
  by_cases h0 : o.k = 0
  · refine ⟨h0, ?_⟩
    simp [h0] at h
    exact h
  · exfalso
    by_cases hk : o.k = 3
    · have := h3 hk
      simp [hk, this] at h
    · simp [h0, hk] at h
theorem bar_some {d : Disk} {o : DOp} {f : Fil} (h : barD d o = 0) (ha : atF d.files o.name = some f) :
    o.k ≠ 0 ∧ (o.k = 1 → (o.b.length : Int) ≤ d.room - (usedF d.files : Int)) ∧ (o.k = 5 → 0 ≤ o.n ∧ o.n ≤ (f.data.length : Int)) ∧ (o.k = 6 → 0 ≤ o.n ∧ 0 ≤ o.m ∧ o.n ≤ (f.data.length : Int) ∧ o.m ≤ (f.data.length : Int) - o.n) := by
  obtain ⟨h1, h2, h3⟩ := bar_front h
  unfold barD at h
  rw [h1, h2, ha] at h
  have h4 : (decide (o.k = 3) && !rightName o.to) = false := by
    by_cases hk : o.k = 3
    · rw [h3 hk]; simp
    · simp [hk]
  simp only [h4, Bool.not_true, Bool.or_false, Bool.false_eq_true, if_false] at h
  by_cases h0 : o.k = 0
  · exfalso; simp [h0] at h
  · simp only [h0, decide_false, Bool.false_eq_true, if_false] at h
    refine ⟨h0, fun hk => ?_, fun hk => ?_, fun hk => ?_⟩
    · simp [hk] at h; omega
    · simp [hk] at h; omega
    · simp [hk] at h; omega
theorem chgF_cases (o : DOp) (f : Fil) (h3 : o.k ≠ 3) : (o.k = 1 ∧ chgF o f = { f with data := f.data ++ o.b }) ∨ (o.k = 2 ∧ chgF o f = { f with safe := (f.data.length : Int) }) ∨
    (o.k = 5 ∧ chgF o f = { f with data := f.data.take o.n.toNat, safe := if o.n < f.safe then o.n else f.safe }) ∨ chgF o f = f := by
  unfold chgF
  by_cases h1 : o.k = 1
  · exact .inl ⟨h1, by rw [if_pos h1]⟩
  by_cases h2 : o.k = 2
  · exact .inr (.inl ⟨h2, by rw [if_neg h1, if_pos h2]⟩)
  by_cases h5 : o.k = 5
  · exact .inr (.inr (.inl ⟨h5, by rw [if_neg h1, if_neg h2, if_neg h3, if_pos h5]⟩))
  · exact .inr (.inr (.inr (by rw [if_neg h1, if_neg h2, if_neg h3, if_neg h5])))
theorem chgD_ok {d x : Disk} {o : DOp} (h : DiskOk x) (hf : x.files = d.files) (hr : x.room = d.room) (hb : barD d o = 0) : DiskOk (chgD x o) := by
  obtain ⟨b1, b2, b3⟩ := bar_front hb
  rcases ha : atF d.files o.name with _ | f
  · obtain ⟨c1, c2⟩ := bar_none hb ha
    unfold chgD
    rw [if_pos c1]
    refine h.put (f := ⟨o.name, [], 0⟩) b2 ⟨by simp, by simp⟩ (fun y hy => ?_) (by rw [hf]; exact c2) (by simpa using h.used)
    rw [hf] at hy
    have := List.find?_eq_none.1 ha y hy
    simpa using this
  · obtain ⟨c1, c2, c3, c4⟩ := bar_some hb ha
    have hax : atF x.files o.name = some f := by rw [hf]; exact ha
    obtain ⟨hfn, hfm⟩ := at_name hax
    have hs := h.safe f hfm
    have hu := h.used
    by_cases h4 : o.k = 4
    · unfold chgD
      rw [if_neg c1, hax]
      simp only [if_pos h4]
      exact h.take _
    by_cases h3 : o.k = 3
    · unfold chgD
      rw [if_neg c1, hax]
      simp only [if_neg h4, if_pos h3]
      have e : chgF o f = { f with name := o.to } := by
        unfold chgF
        rw [if_neg (by omega), if_neg (by omega), if_pos h3]
      rw [e]
      have k1 := h.take o.name
      have k2 := k1.take o.to
      have hl1 := takeF_length hax
      have hl2 : (takeF o.to (takeF o.name x.files)).length ≤ (takeF o.name x.files).length := List.length_filter_le _ _
      have hc := h.count
      have u1 := usedF_take h.rise hax
      have u2 : usedF (takeF o.to (takeF o.name x.files)) ≤ usedF (takeF o.name x.files) := by
        rcases hat : atF (takeF o.name x.files) o.to with _ | y
        · rw [take_none hat]; exact Nat.le_refl _
        · have := usedF_take (fs := takeF o.name x.files) k1.rise hat; omega
      have := k2.put (f := { f with name := o.to }) (b3 h3) hs (fun y hy => by
        have := (List.mem_filter.1 hy).2
        simpa using this) (by show (takeF o.to (takeF o.name x.files)).length < 700; omega) (by show (usedF (takeF o.to (takeF o.name x.files)) : Int) + f.data.length ≤ x.room; omega)
      exact this
    · rw [chg_set (x := f) h.rise hax c1 h3 h4]
      rcases chgF_cases o f h3 with ⟨hk1, e⟩ | ⟨hk1, e⟩ | ⟨hk1, e⟩ | e
      · have := c2 hk1
        rw [e]
        refine h.setFile hax hfn ?_ ?_
        · simp only [List.length_append]; omega
        · simp only [List.length_append]
          rw [hf, hr]
          omega
      · rw [e]
        exact h.setFile hax hfn (by simp only; omega) (by simp only; omega)
      · have := c3 hk1
        rw [e]
        refine h.setFile hax hfn ?_ ?_
        · simp only [List.length_take]
          split <;> omega
        · simp only [List.length_take]; omega
      · rw [e]
        exact h.setFile hax hfn hs (by omega)
theorem doD_ok {d : Disk} {o : DOp} (h : DiskOk d) (h8 : o.k ≠ 8) (hn : o.n ≤ 9223372036854775807) : DiskOk (doD d o).1 := by
  by_cases h9 : o.k = 9
  · unfold doD
    rw [if_neg h8, if_pos h9]
    refine ⟨h.rise, h.names, h.safe, h.count, h.room, h.used, ?_, h.steps, h.reads⟩
    show 0 ≤ (if 0 < o.n then o.n else 0) ∧ (if 0 < o.n then o.n else 0) ≤ 9223372036854775807
    split <;> omega
  by_cases hr : o.k < 0 ∨ 9 < o.k
  · unfold doD
    rw [if_neg h8, if_neg h9, if_pos hr]
    exact h
  have hk : 0 ≤ o.k ∧ o.k ≤ 7 := by omega
  by_cases hb : barD d o = 0
  · by_cases h5 : o.k ≤ 5
    · rw [doD_step ⟨hk.1, h5⟩ hb]
      have hs : DiskOk (chgD (stepD d) o) := chgD_ok (d := d) h.step (stepD_files d) (stepD_room d) hb
      by_cases hf : d.fuse = 1
      · simp only [if_pos hf]
        split
        · exact hs
        · exact h.step
      · simp only [if_neg hf]
        exact hs
    · unfold doD
      rw [if_neg h8, if_neg h9, if_neg hr, if_neg (by simpa using hb)]
      by_cases h6 : o.k = 6
      · rw [if_pos h6]
        have hm : 0 ≤ o.m := by
          rcases ha : atF d.files o.name with _ | f
          · have := (bar_none hb ha).1; omega
          · exact ((bar_some hb ha).2.2.2 h6).2.1
        have := h.reads
        exact ⟨h.rise, h.names, h.safe, h.count, h.room, h.used, h.fuse, h.steps, by show 0 ≤ d.reads + o.m; omega⟩
      · rw [if_neg h6, if_pos (by omega)]
        exact h
  · rw [doD_barred hk hb]
    exact h

end Go.Proofs.YtlobohpbgghleaaGreatDoor

namespace Go.Proofs.YtlobohpbgghleaaGreatDoor

/-! ## a disk on which files lie, in plain words -/

def clampRoom (r : Int) : Int := if r < 0 then 0 else if 67108864 < r then 67108864 else r
def newD (r : Int) : Disk := ⟨[], clampRoom r, 0, false, 0, 0⟩
def zeroD : Disk := ⟨[], 0, 0, false, 0, 0⟩
theorem clamp_bounds (r : Int) : 0 ≤ clampRoom r ∧ clampRoom r ≤ 67108864 := by unfold clampRoom; split <;> (try split) <;> omega
theorem newD_ok (r : Int) : DiskOk (newD r) where
  rise := List.Pairwise.nil
  names := fun _ h => by cases h
  safe := fun _ h => by cases h
  count := Nat.zero_le _
  room := clamp_bounds r
  used := by have := (clamp_bounds r).1; simpa [newD, usedF] using this
  fuse := ⟨Int.le_refl _, by show (0 : Int) ≤ 9223372036854775807; decide⟩
  steps := Int.le_refl _
  reads := Int.le_refl _
/-- what bars a file from being laid on a disk; 0: nothing -/
def mountE (d : Disk) (f : Fil) : Int :=
  if !rightName f.name then 50 else if (atF d.files f.name).isSome then 52 else if decide (f.safe < 0) || decide ((f.data.length : Int) < f.safe) then 1
  else if decide (d.room - (usedF d.files : Int) < (f.data.length : Int)) then 54 else 0
def layF (d : Disk) (f : Fil) : Disk := { d with files := putF f d.files }
def mountGo : Disk → List Fil → Disk × Int
  | d, [] => (d, 0)
  | d, f :: r => if mountE d f = 0 then mountGo (layF d f) r else (zeroD, mountE d f)
def mountD (room : Int) (fs : List Fil) : Disk × Int := if 700 < fs.length then (zeroD, 53) else mountGo (newD room) fs
theorem mountE_zero {d : Disk} {f : Fil} (h : mountE d f = 0) : rightName f.name = true ∧ atF d.files f.name = none ∧ 0 ≤ f.safe ∧ f.safe ≤ (f.data.length : Int) ∧ (f.data.length : Int) ≤ d.room - (usedF d.files : Int) := by
  unfold mountE at h
  rcases hr : rightName f.name
  · rw [hr] at h; simp at h
  · rw [hr] at h
    rcases ha : atF d.files f.name with _ | x
    · rw [ha] at h
      simp only [Bool.not_true, Bool.false_eq_true, if_false, Option.isSome_none] at h
      by_cases hs : f.safe < 0 ∨ (f.data.length : Int) < f.safe
      · rw [if_pos (by simpa using hs)] at h; cases h
      · rw [if_neg (by simpa using hs)] at h
        by_cases hl : d.room - (usedF d.files : Int) < (f.data.length : Int)
        · rw [if_pos (by simpa using hl)] at h; cases h
        · exact ⟨rfl, rfl, by omega, by omega, by omega⟩
    · rw [ha] at h; simp at h
theorem layF_ok {d : Disk} {f : Fil} (h : DiskOk d) (he : mountE d f = 0) (hc : d.files.length < 700) : DiskOk (layF d f) := by
  obtain ⟨h1, h2, h3, h4, h5⟩ := mountE_zero he
  refine h.put h1 ⟨h3, h4⟩ (fun x hx => ?_) hc (by omega)
  have := List.find?_eq_none.1 h2 x hx
  simpa using this
theorem mountGo_ok : ∀ (fs : List Fil) (d : Disk), DiskOk d → d.files.length + fs.length ≤ 700 → (mountGo d fs).2 = 0 → DiskOk (mountGo d fs).1
  | [], _, h, _, _ => h
  | f :: r, d, h, hc, he => by
    rw [mountGo] at he ⊢
    by_cases h0 : mountE d f = 0
    · rw [if_pos h0] at he ⊢
      simp only [List.length_cons] at hc
      refine mountGo_ok r _ (layF_ok h h0 (by omega)) ?_ he
      simp only [layF, putF_length]; omega
    · rw [if_neg h0] at he
      exact absurd he h0
theorem mountD_ok {room : Int} {fs : List Fil} (h : (mountD room fs).2 = 0) : DiskOk (mountD room fs).1 ∧ (mountD room fs).1.steps = 0 ∧ (mountD room fs).1.down = false := by
  have key : ∀ (fs : List Fil) (d : Disk), (mountGo d fs).2 = 0 → (mountGo d fs).1.steps = d.steps ∧ (mountGo d fs).1.down = d.down := fun fs => by
    induction fs with
    | nil => intro d _; exact ⟨rfl, rfl⟩
    | cons f r ih =>
      intro d he
      rw [mountGo] at he ⊢
      by_cases h0 : mountE d f = 0
      · rw [if_pos h0] at he ⊢
        exact ih _ he
      · rw [if_neg h0] at he
        exact absurd he h0
  unfold mountD at h ⊢
  by_cases h7 : 700 < fs.length
  · rw [if_pos h7] at h; cases h
  · rw [if_neg h7] at h ⊢
    exact ⟨mountGo_ok fs _ (newD_ok room) (by simp [newD]; omega) h, key fs _ h⟩
theorem dropF_cons' {α : Type} {l : List α} {k : Nat} {x : α} (h : l[k]? = some x) : l.drop k = x :: l.drop (k + 1) := by
  obtain ⟨h1, h2⟩ := List.getElem?_eq_some_iff.1 h
  rw [List.drop_eq_getElem_cons h1, h2]
/-- the state of the run behind the first k files -/
theorem mountGo_at {fs : List Fil} {k : Nat} {f : Fil} (hf : fs[k]? = some f) (d : Disk) : mountGo d (fs.drop k) = if mountE d f = 0 then mountGo (layF d f) (fs.drop (k + 1)) else (zeroD, mountE d f) := by
  rw [dropF_cons' hf, mountGo]

end Go.Proofs.YtlobohpbgghleaaGreatDoor

namespace Go.Proofs.YtlobohpbgghleaaGreatDoor
open Go.RowKit

/-! ## the document's disk, walked: what bars a call (one theorem for each kind of call) -/

set_option maxRecDepth 100000 in
set_option maxHeartbeats 4000000 in
theorem barred_create {A : Nat → Prop} (d : Disk) (fv : Value) (o : DOp) (bv kv : Value) (w : World) (hf : FilesIn A w fv d.files) (hd : DiskOk d) (hb : BRowIn A w bv o.b) (hdn : d.down = false) (hr : rightName o.name = true) (hk : o.k = 0) :
    Calls Tryz.prog 53 #[dkV d fv, opV o bv kv] w fun e w' => e = .returned (.int .i64 (barD d o)) ∧ Below w.heap.size w w' := by
  have e0 : (o.k == 0) = true := by rw [hk]; rfl
  have e1 : (o.k == 1) = false := by rw [hk]; rfl
  have e3 : (o.k == 3) = false := by rw [hk]; rfl
  have e5 : (o.k == 5) = false := by rw [hk]; rfl
  have e6 : (o.k == 6) = false := by rw [hk]; rfl
  have HB0 := Lib.hid (Below.next (below_alloc w (.cells (dkCs d fv) 51)) (below_alloc _ (.cells (opCs o bv kv) 59)))
  have HF0 := Lib.hid (hf.below HB0.out)
  have HD0 := Lib.hid ((dkBlk_alloc w d fv).below (below_alloc _ (.cells (opCs o bv kv) 59)))
  have HO0 := Lib.hid (opBlk_alloc (w.alloc (.cells (dkCs d fv) 51)) o bv kv)
  have hs : (w.alloc (.cells (dkCs d fv) 51)).heap.size = w.heap.size + 1 := by simp
  rw [hs] at HO0
  obtain ⟨oa, cap, rfl, hl1, hl2, hc⟩ := hf.shape
  obtain ⟨ob, bcap, rfl, hbl, hbc⟩ := hb
  have hrm := hd.room
  have hus := hd.used
  have HU := Lib.hid (show (usedF d.files : Int) ≤ 4611686018427387904 by omega)
  have hw : IntKind.i64.wrap (d.room - (usedF d.files : Int)) = d.room - (usedF d.files : Int) := by rw [IntKind.wrap_i64]; omega
  have HAT := Lib.hid (at_any (A := A) d (.slice oa d.files.length cap) o.name _ HF0.out)
  have HR1 := Lib.hid (fun W => refRight_any o.name W)
  have HR2 := Lib.hid (fun W => refRight_any o.to W)
  rw [hr] at HR1

  have HFRONT := Lib.hid hdn
  have HFX := Lib.hid hf
  have HNB := Lib.hid (fun f (ha : atF d.files o.name = some f) => show barD d o = (52) by unfold barD; rw [hdn, hr, ha]; simp [hk])
  have HNN := Lib.hid (fun (ha : atF d.files o.name = none) => show barD d o = (if decide (700 ≤ d.files.length) then 53 else 0) by unfold barD; rw [hdn, hr, ha]; simp [hk])
  clear hc hbc hf hd hr hrm hus hs hk
  simp only [dkCs, dkV, hdn] at HB0 HF0 HD0 HO0 HAT
  go_enter Tryz.func53, Tryz.ntmps53
  go_wp2_with (go_at_call 49; first | (with_reducible refine (HR1.out _).mono ?_; rintro e w1 ⟨rfl, rfl⟩) | (with_reducible refine (HR2.out _).mono ?_; rintro e w1 ⟨rfl, rfl⟩))
  go_at_call 50
  refine HAT.out.mono ?_
  rintro e w1 ⟨z, rfl, hz, hb1⟩
  have HD1 := Lib.hid (HD0.out.below hb1)
  have HO1 := Lib.hid (HO0.out.below hb1)
  have HB1 := Lib.hid hb1
  have HF1 := Lib.hid (HF0.out.below hb1)
  have HBW := Lib.hid (Below.next HB0.out hb1)
  have k0 := HO1.out.c0
  have c0 := HD1.out.c0
  clear hb1
  rcases hz with ⟨rfl, ha⟩ | ⟨i, f, rfl, hi, ha⟩
  · have HE := Lib.hid (HNN.out ha)
    clear ha HNN HNB
    by_cases h7 : 700 ≤ d.files.length
    · have t7 : decide ((700 : Int) ≤ (d.files.length : Int)) = true := by rw [decide_eq_true_eq]; omega
      have HE2 := Lib.hid (show barD d o = 53 by rw [HE.out, if_pos (by simpa using h7)])
      clear HE h7
      go_wp2
      go_ret
      exact ⟨by rw [HE2.out]; rfl, HBW.out⟩
    · have t7 : decide ((700 : Int) ≤ (d.files.length : Int)) = false := by simp; omega
      have HE2 := Lib.hid (show barD d o = 0 by rw [HE.out, if_neg (by simpa using h7)])
      clear HE h7
      go_wp2
      go_ret
      exact ⟨by rw [HE2.out]; rfl, HBW.out⟩
  · have HE := Lib.hid (HNB.out f ha)
    have hil := (List.getElem?_eq_some_iff.1 hi).1
    have q1 : (i : Int) < (d.files.length : Int) := by omega
    have t9 : decide ((0 : Int) ≤ (i : Int)) = true := by simp
    have t8 : decide ((i : Int) < 0) = false := by simp
    clear HNN HNB
    clear hi ha hil
    go_wp2
    go_ret
    exact ⟨by rw [HE.out]; rfl, HBW.out⟩

end Go.Proofs.YtlobohpbgghleaaGreatDoor

namespace Go.Proofs.YtlobohpbgghleaaGreatDoor
open Go.RowKit

/-! ## the document's disk, walked: what bars a call (one theorem for each kind of call) -/

set_option maxRecDepth 100000 in
set_option maxHeartbeats 4000000 in
theorem barred_plain {A : Nat → Prop} (d : Disk) (fv : Value) (o : DOp) (bv kv : Value) (w : World) (hf : FilesIn A w fv d.files) (hd : DiskOk d) (hb : BRowIn A w bv o.b) (hdn : d.down = false) (hr : rightName o.name = true) (hk : o.k = 2 ∨ o.k = 4 ∨ o.k = 7) :
    Calls Tryz.prog 53 #[dkV d fv, opV o bv kv] w fun e w' => e = .returned (.int .i64 (barD d o)) ∧ Below w.heap.size w w' := by
  have e0 : (o.k == 0) = false := by simp; omega
  have e1 : (o.k == 1) = false := by simp; omega
  have e3 : (o.k == 3) = false := by simp; omega
  have e5 : (o.k == 5) = false := by simp; omega
  have e6 : (o.k == 6) = false := by simp; omega
  have HB0 := Lib.hid (Below.next (below_alloc w (.cells (dkCs d fv) 51)) (below_alloc _ (.cells (opCs o bv kv) 59)))
  have HF0 := Lib.hid (hf.below HB0.out)
  have HD0 := Lib.hid ((dkBlk_alloc w d fv).below (below_alloc _ (.cells (opCs o bv kv) 59)))
  have HO0 := Lib.hid (opBlk_alloc (w.alloc (.cells (dkCs d fv) 51)) o bv kv)
  have hs : (w.alloc (.cells (dkCs d fv) 51)).heap.size = w.heap.size + 1 := by simp
  rw [hs] at HO0
  obtain ⟨oa, cap, rfl, hl1, hl2, hc⟩ := hf.shape
  obtain ⟨ob, bcap, rfl, hbl, hbc⟩ := hb
  have hrm := hd.room
  have hus := hd.used
  have HU := Lib.hid (show (usedF d.files : Int) ≤ 4611686018427387904 by omega)
  have hw : IntKind.i64.wrap (d.room - (usedF d.files : Int)) = d.room - (usedF d.files : Int) := by rw [IntKind.wrap_i64]; omega
  have HAT := Lib.hid (at_any (A := A) d (.slice oa d.files.length cap) o.name _ HF0.out)
  have HR1 := Lib.hid (fun W => refRight_any o.name W)
  have HR2 := Lib.hid (fun W => refRight_any o.to W)
  rw [hr] at HR1

  have HFRONT := Lib.hid hdn
  have HFX := Lib.hid hf
  have HNB := Lib.hid (fun f (ha : atF d.files o.name = some f) => show barD d o = (0) by unfold barD; rw [hdn, hr, ha]; simp [show ¬ o.k = 0 by omega, show ¬ o.k = 1 by omega, show ¬ o.k = 3 by omega, show ¬ o.k = 5 by omega, show ¬ o.k = 6 by omega])
  have HNN := Lib.hid (fun (ha : atF d.files o.name = none) => show barD d o = (51) by unfold barD; rw [hdn, hr, ha]; simp [show ¬ o.k = 0 by omega, show ¬ o.k = 3 by omega])
  clear hc hbc hf hd hr hrm hus hs hk
  simp only [dkCs, dkV, hdn] at HB0 HF0 HD0 HO0 HAT
  go_enter Tryz.func53, Tryz.ntmps53
  go_wp2_with (go_at_call 49; first | (with_reducible refine (HR1.out _).mono ?_; rintro e w1 ⟨rfl, rfl⟩) | (with_reducible refine (HR2.out _).mono ?_; rintro e w1 ⟨rfl, rfl⟩))
  go_at_call 50
  refine HAT.out.mono ?_
  rintro e w1 ⟨z, rfl, hz, hb1⟩
  have HD1 := Lib.hid (HD0.out.below hb1)
  have HO1 := Lib.hid (HO0.out.below hb1)
  have HB1 := Lib.hid hb1
  have HF1 := Lib.hid (HF0.out.below hb1)
  have HBW := Lib.hid (Below.next HB0.out hb1)
  have k0 := HO1.out.c0
  have c0 := HD1.out.c0
  clear hb1
  rcases hz with ⟨rfl, ha⟩ | ⟨i, f, rfl, hi, ha⟩
  · have HE := Lib.hid (HNN.out ha)
    clear ha HNN HNB
    clear HB1
    go_wp2
    go_ret
    exact ⟨by rw [HE.out]; rfl, HBW.out⟩
  · have HE := Lib.hid (HNB.out f ha)
    have hil := (List.getElem?_eq_some_iff.1 hi).1
    have q1 : (i : Int) < (d.files.length : Int) := by omega
    have t9 : decide ((0 : Int) ≤ (i : Int)) = true := by simp
    have t8 : decide ((i : Int) < 0) = false := by simp
    clear HNN HNB
    obtain ⟨dv, cn⟩ : ∃ dv, dv = f.data.length ∧ ∃ b off ao dcap, oa = some ⟨b, off, none⟩ ∧ w1.cell? ⟨b, off + i * 3 + 1, none⟩ = some (.slice ao f.data.length dcap) := by
      obtain ⟨oa', cap', e, _, _, hcc⟩ := (HFX.out.below HBW.out).shape
      simp only [Value.slice.injEq] at e
      obtain ⟨rfl, _, rfl⟩ := e
      obtain ⟨b, off, e1, _, dv, hrg, hdv⟩ := hcc i f hi
      obtain ⟨ao, dcap, e2, _, _⟩ := hdv
      subst e2
      exact ⟨_, rfl, b, off, ao, dcap, e1, hrg 1 _ rfl⟩
    obtain ⟨_, b, off, ao, dcap, rfl, cn⟩ := cn
    clear hi ha
    clear hil HB1
    have HDn := Lib.hid (fun n => Below.next HBW.out (below_drewN' w1 n))
    have HOn := Lib.hid (fun n => HO1.out.below (below_drewN' w1 n))
    go_wp2_with fail
    go_quiet (fail)
    have k0' := (HOn.out nq).c0
    go_wp2
    go_ret
    exact ⟨by rw [HE.out]; rfl, HDn.out nq⟩

end Go.Proofs.YtlobohpbgghleaaGreatDoor

namespace Go.Proofs.YtlobohpbgghleaaGreatDoor
open Go.RowKit

/-! ## the document's disk, walked: what bars a call (one theorem for each kind of call) -/

set_option maxRecDepth 100000 in
set_option maxHeartbeats 4000000 in
theorem barred_rename {A : Nat → Prop} (d : Disk) (fv : Value) (o : DOp) (bv kv : Value) (w : World) (hf : FilesIn A w fv d.files) (hd : DiskOk d) (hb : BRowIn A w bv o.b) (hdn : d.down = false) (hr : rightName o.name = true) (hk : o.k = 3) (hr2 : rightName o.to = true) :
    Calls Tryz.prog 53 #[dkV d fv, opV o bv kv] w fun e w' => e = .returned (.int .i64 (barD d o)) ∧ Below w.heap.size w w' := by
  have e0 : (o.k == 0) = false := by rw [hk]; rfl
  have e1 : (o.k == 1) = false := by rw [hk]; rfl
  have e3 : (o.k == 3) = true := by rw [hk]; rfl
  have e5 : (o.k == 5) = false := by rw [hk]; rfl
  have e6 : (o.k == 6) = false := by rw [hk]; rfl
  have HB0 := Lib.hid (Below.next (below_alloc w (.cells (dkCs d fv) 51)) (below_alloc _ (.cells (opCs o bv kv) 59)))
  have HF0 := Lib.hid (hf.below HB0.out)
  have HD0 := Lib.hid ((dkBlk_alloc w d fv).below (below_alloc _ (.cells (opCs o bv kv) 59)))
  have HO0 := Lib.hid (opBlk_alloc (w.alloc (.cells (dkCs d fv) 51)) o bv kv)
  have hs : (w.alloc (.cells (dkCs d fv) 51)).heap.size = w.heap.size + 1 := by simp
  rw [hs] at HO0
  obtain ⟨oa, cap, rfl, hl1, hl2, hc⟩ := hf.shape
  obtain ⟨ob, bcap, rfl, hbl, hbc⟩ := hb
  have hrm := hd.room
  have hus := hd.used
  have HU := Lib.hid (show (usedF d.files : Int) ≤ 4611686018427387904 by omega)
  have hw : IntKind.i64.wrap (d.room - (usedF d.files : Int)) = d.room - (usedF d.files : Int) := by rw [IntKind.wrap_i64]; omega
  have HAT := Lib.hid (at_any (A := A) d (.slice oa d.files.length cap) o.name _ HF0.out)
  have HR1 := Lib.hid (fun W => refRight_any o.name W)
  have HR2 := Lib.hid (fun W => refRight_any o.to W)
  rw [hr] at HR1
  rw [hr2] at HR2
  have HFRONT := Lib.hid hdn
  have HFX := Lib.hid hf
  have HNB := Lib.hid (fun f (ha : atF d.files o.name = some f) => show barD d o = (0) by unfold barD; rw [hdn, hr, ha]; simp [hk, hr2])
  have HNN := Lib.hid (fun (ha : atF d.files o.name = none) => show barD d o = (51) by unfold barD; rw [hdn, hr, ha]; simp [hk, hr2])
  clear hc hbc hf hd hr hrm hus hs hk
  simp only [dkCs, dkV, hdn] at HB0 HF0 HD0 HO0 HAT
  go_enter Tryz.func53, Tryz.ntmps53
  go_wp2_with (go_at_call 49; first | (with_reducible refine (HR1.out _).mono ?_; rintro e w1 ⟨rfl, rfl⟩) | (with_reducible refine (HR2.out _).mono ?_; rintro e w1 ⟨rfl, rfl⟩))
  go_at_call 50
  refine HAT.out.mono ?_
  rintro e w1 ⟨z, rfl, hz, hb1⟩
  have HD1 := Lib.hid (HD0.out.below hb1)
  have HO1 := Lib.hid (HO0.out.below hb1)
  have HB1 := Lib.hid hb1
  have HF1 := Lib.hid (HF0.out.below hb1)
  have HBW := Lib.hid (Below.next HB0.out hb1)
  have k0 := HO1.out.c0
  have c0 := HD1.out.c0
  clear hb1
  rcases hz with ⟨rfl, ha⟩ | ⟨i, f, rfl, hi, ha⟩
  · have HE := Lib.hid (HNN.out ha)
    clear ha HNN HNB
    clear HB1
    go_wp2
    go_ret
    exact ⟨by rw [HE.out]; rfl, HBW.out⟩
  · have HE := Lib.hid (HNB.out f ha)
    have hil := (List.getElem?_eq_some_iff.1 hi).1
    have q1 : (i : Int) < (d.files.length : Int) := by omega
    have t9 : decide ((0 : Int) ≤ (i : Int)) = true := by simp
    have t8 : decide ((i : Int) < 0) = false := by simp
    clear HNN HNB
    obtain ⟨dv, cn⟩ : ∃ dv, dv = f.data.length ∧ ∃ b off ao dcap, oa = some ⟨b, off, none⟩ ∧ w1.cell? ⟨b, off + i * 3 + 1, none⟩ = some (.slice ao f.data.length dcap) := by
      obtain ⟨oa', cap', e, _, _, hcc⟩ := (HFX.out.below HBW.out).shape
      simp only [Value.slice.injEq] at e
      obtain ⟨rfl, _, rfl⟩ := e
      obtain ⟨b, off, e1, _, dv, hrg, hdv⟩ := hcc i f hi
      obtain ⟨ao, dcap, e2, _, _⟩ := hdv
      subst e2
      exact ⟨_, rfl, b, off, ao, dcap, e1, hrg 1 _ rfl⟩
    obtain ⟨_, b, off, ao, dcap, rfl, cn⟩ := cn
    clear hi ha
    clear hil HB1
    have HDn := Lib.hid (fun n => Below.next HBW.out (below_drewN' w1 n))
    have HOn := Lib.hid (fun n => HO1.out.below (below_drewN' w1 n))
    go_wp2_with fail
    go_quiet (fail)
    have k0' := (HOn.out nq).c0
    go_wp2
    go_ret
    exact ⟨by rw [HE.out]; rfl, HDn.out nq⟩

end Go.Proofs.YtlobohpbgghleaaGreatDoor

namespace Go.Proofs.YtlobohpbgghleaaGreatDoor
open Go.RowKit

/-! ## the document's disk, walked: what bars a call (one theorem for each kind of call) -/

set_option maxRecDepth 100000 in
set_option maxHeartbeats 4000000 in
theorem barred_cut {A : Nat → Prop} (d : Disk) (fv : Value) (o : DOp) (bv kv : Value) (w : World) (hf : FilesIn A w fv d.files) (hd : DiskOk d) (hb : BRowIn A w bv o.b) (hdn : d.down = false) (hr : rightName o.name = true) (hk : o.k = 5) :
    Calls Tryz.prog 53 #[dkV d fv, opV o bv kv] w fun e w' => e = .returned (.int .i64 (barD d o)) ∧ Below w.heap.size w w' := by
  have e0 : (o.k == 0) = false := by rw [hk]; rfl
  have e1 : (o.k == 1) = false := by rw [hk]; rfl
  have e3 : (o.k == 3) = false := by rw [hk]; rfl
  have e5 : (o.k == 5) = true := by rw [hk]; rfl
  have e6 : (o.k == 6) = false := by rw [hk]; rfl
  have HB0 := Lib.hid (Below.next (below_alloc w (.cells (dkCs d fv) 51)) (below_alloc _ (.cells (opCs o bv kv) 59)))
  have HF0 := Lib.hid (hf.below HB0.out)
  have HD0 := Lib.hid ((dkBlk_alloc w d fv).below (below_alloc _ (.cells (opCs o bv kv) 59)))
  have HO0 := Lib.hid (opBlk_alloc (w.alloc (.cells (dkCs d fv) 51)) o bv kv)
  have hs : (w.alloc (.cells (dkCs d fv) 51)).heap.size = w.heap.size + 1 := by simp
  rw [hs] at HO0
  obtain ⟨oa, cap, rfl, hl1, hl2, hc⟩ := hf.shape
  obtain ⟨ob, bcap, rfl, hbl, hbc⟩ := hb
  have hrm := hd.room
  have hus := hd.used
  have HU := Lib.hid (show (usedF d.files : Int) ≤ 4611686018427387904 by omega)
  have hw : IntKind.i64.wrap (d.room - (usedF d.files : Int)) = d.room - (usedF d.files : Int) := by rw [IntKind.wrap_i64]; omega
  have HAT := Lib.hid (at_any (A := A) d (.slice oa d.files.length cap) o.name _ HF0.out)
  have HR1 := Lib.hid (fun W => refRight_any o.name W)
  have HR2 := Lib.hid (fun W => refRight_any o.to W)
  rw [hr] at HR1

  have HFRONT := Lib.hid hdn
  have HFX := Lib.hid hf
  have HNB := Lib.hid (fun f (ha : atF d.files o.name = some f) => show barD d o = (if decide (o.n < 0) || decide ((f.data.length : Int) < o.n) then 1 else 0) by unfold barD; rw [hdn, hr, ha]; simp [hk])
  have HNN := Lib.hid (fun (ha : atF d.files o.name = none) => show barD d o = (51) by unfold barD; rw [hdn, hr, ha]; simp [hk])
  clear hc hbc hf hd hr hrm hus hs hk
  simp only [dkCs, dkV, hdn] at HB0 HF0 HD0 HO0 HAT
  go_enter Tryz.func53, Tryz.ntmps53
  go_wp2_with (go_at_call 49; first | (with_reducible refine (HR1.out _).mono ?_; rintro e w1 ⟨rfl, rfl⟩) | (with_reducible refine (HR2.out _).mono ?_; rintro e w1 ⟨rfl, rfl⟩))
  go_at_call 50
  refine HAT.out.mono ?_
  rintro e w1 ⟨z, rfl, hz, hb1⟩
  have HD1 := Lib.hid (HD0.out.below hb1)
  have HO1 := Lib.hid (HO0.out.below hb1)
  have HB1 := Lib.hid hb1
  have HF1 := Lib.hid (HF0.out.below hb1)
  have HBW := Lib.hid (Below.next HB0.out hb1)
  have k0 := HO1.out.c0
  have c0 := HD1.out.c0
  clear hb1
  rcases hz with ⟨rfl, ha⟩ | ⟨i, f, rfl, hi, ha⟩
  · have HE := Lib.hid (HNN.out ha)
    clear ha HNN HNB
    clear HB1
    go_wp2
    go_ret
    exact ⟨by rw [HE.out]; rfl, HBW.out⟩
  · have HE := Lib.hid (HNB.out f ha)
    have hil := (List.getElem?_eq_some_iff.1 hi).1
    have q1 : (i : Int) < (d.files.length : Int) := by omega
    have t9 : decide ((0 : Int) ≤ (i : Int)) = true := by simp
    have t8 : decide ((i : Int) < 0) = false := by simp
    clear HNN HNB
    obtain ⟨dv, cn⟩ : ∃ dv, dv = f.data.length ∧ ∃ b off ao dcap, oa = some ⟨b, off, none⟩ ∧ w1.cell? ⟨b, off + i * 3 + 1, none⟩ = some (.slice ao f.data.length dcap) := by
      obtain ⟨oa', cap', e, _, _, hcc⟩ := (HFX.out.below HBW.out).shape
      simp only [Value.slice.injEq] at e
      obtain ⟨rfl, _, rfl⟩ := e
      obtain ⟨b, off, e1, _, dv, hrg, hdv⟩ := hcc i f hi
      obtain ⟨ao, dcap, e2, _, _⟩ := hdv
      subst e2
      exact ⟨_, rfl, b, off, ao, dcap, e1, hrg 1 _ rfl⟩
    obtain ⟨_, b, off, ao, dcap, rfl, cn⟩ := cn
    clear hi ha
    clear hil HB1
    have HDn := Lib.hid (fun n => Below.next HBW.out (below_drewN' w1 n))
    have HOn := Lib.hid (fun n => HO1.out.below (below_drewN' w1 n))
    go_wp2_with fail
    go_quiet (fail)
    have k0' := (HOn.out nq).c0
    have k4 := (HOn.out nq).c4
    rcases hn0 : decide (o.n < 0) with _ | _
    · rcases hn1 : decide ((f.data.length : Int) < o.n) with _ | _
      · rw [hn0, hn1] at HE
        go_wp2
        go_ret
        exact ⟨by rw [HE.out]; rfl, HDn.out nq⟩
      · rw [hn0, hn1] at HE
        go_wp2
        go_ret
        exact ⟨by rw [HE.out]; rfl, HDn.out nq⟩
    · rw [hn0] at HE
      go_wp2
      go_ret
      exact ⟨by rw [HE.out]; rfl, HDn.out nq⟩

end Go.Proofs.YtlobohpbgghleaaGreatDoor

namespace Go.Proofs.YtlobohpbgghleaaGreatDoor
open Go.RowKit

/-! ## the document's disk, walked: what bars a call (one theorem for each kind of call) -/

set_option maxRecDepth 100000 in
set_option maxHeartbeats 4000000 in
theorem barred_append {A : Nat → Prop} (d : Disk) (fv : Value) (o : DOp) (bv kv : Value) (w : World) (hf : FilesIn A w fv d.files) (hd : DiskOk d) (hb : BRowIn A w bv o.b) (hdn : d.down = false) (hr : rightName o.name = true) (hk : o.k = 1) :
    Calls Tryz.prog 53 #[dkV d fv, opV o bv kv] w fun e w' => e = .returned (.int .i64 (barD d o)) ∧ Below w.heap.size w w' := by
  have e0 : (o.k == 0) = false := by rw [hk]; rfl
  have e1 : (o.k == 1) = true := by rw [hk]; rfl
  have e3 : (o.k == 3) = false := by rw [hk]; rfl
  have e5 : (o.k == 5) = false := by rw [hk]; rfl
  have e6 : (o.k == 6) = false := by rw [hk]; rfl
  have HB0 := Lib.hid (Below.next (below_alloc w (.cells (dkCs d fv) 51)) (below_alloc _ (.cells (opCs o bv kv) 59)))
  have HF0 := Lib.hid (hf.below HB0.out)
  have HD0 := Lib.hid ((dkBlk_alloc w d fv).below (below_alloc _ (.cells (opCs o bv kv) 59)))
  have HO0 := Lib.hid (opBlk_alloc (w.alloc (.cells (dkCs d fv) 51)) o bv kv)
  have hs : (w.alloc (.cells (dkCs d fv) 51)).heap.size = w.heap.size + 1 := by simp
  rw [hs] at HO0
  obtain ⟨oa, cap, rfl, hl1, hl2, hc⟩ := hf.shape
  obtain ⟨ob, bcap, rfl, hbl, hbc⟩ := hb
  have hrm := hd.room
  have hus := hd.used
  have HU := Lib.hid (show (usedF d.files : Int) ≤ 4611686018427387904 by omega)
  have hw : IntKind.i64.wrap (d.room - (usedF d.files : Int)) = d.room - (usedF d.files : Int) := by rw [IntKind.wrap_i64]; omega
  have HAT := Lib.hid (at_any (A := A) d (.slice oa d.files.length cap) o.name _ HF0.out)
  have HR1 := Lib.hid (fun W => refRight_any o.name W)
  have HR2 := Lib.hid (fun W => refRight_any o.to W)
  rw [hr] at HR1

  have HFRONT := Lib.hid hdn
  have HFX := Lib.hid hf
  have HNB := Lib.hid (fun f (ha : atF d.files o.name = some f) => show barD d o = (if decide (d.room - (usedF d.files : Int) < (o.b.length : Int)) then 54 else 0) by unfold barD; rw [hdn, hr, ha]; simp [hk])
  have HNN := Lib.hid (fun (ha : atF d.files o.name = none) => show barD d o = (51) by unfold barD; rw [hdn, hr, ha]; simp [hk])
  clear hc hbc hf hd hr hrm hus hs hk
  simp only [dkCs, dkV, hdn] at HB0 HF0 HD0 HO0 HAT
  go_enter Tryz.func53, Tryz.ntmps53
  go_wp2_with (go_at_call 49; first | (with_reducible refine (HR1.out _).mono ?_; rintro e w1 ⟨rfl, rfl⟩) | (with_reducible refine (HR2.out _).mono ?_; rintro e w1 ⟨rfl, rfl⟩))
  go_at_call 50
  refine HAT.out.mono ?_
  rintro e w1 ⟨z, rfl, hz, hb1⟩
  have HD1 := Lib.hid (HD0.out.below hb1)
  have HO1 := Lib.hid (HO0.out.below hb1)
  have HB1 := Lib.hid hb1
  have HF1 := Lib.hid (HF0.out.below hb1)
  have HBW := Lib.hid (Below.next HB0.out hb1)
  have k0 := HO1.out.c0
  have c0 := HD1.out.c0
  clear hb1
  rcases hz with ⟨rfl, ha⟩ | ⟨i, f, rfl, hi, ha⟩
  · have HE := Lib.hid (HNN.out ha)
    clear ha HNN HNB
    clear HB1
    go_wp2
    go_ret
    exact ⟨by rw [HE.out]; rfl, HBW.out⟩
  · have HE := Lib.hid (HNB.out f ha)
    have hil := (List.getElem?_eq_some_iff.1 hi).1
    have q1 : (i : Int) < (d.files.length : Int) := by omega
    have t9 : decide ((0 : Int) ≤ (i : Int)) = true := by simp
    have t8 : decide ((i : Int) < 0) = false := by simp
    clear HNN HNB
    obtain ⟨dv, cn⟩ : ∃ dv, dv = f.data.length ∧ ∃ b off ao dcap, oa = some ⟨b, off, none⟩ ∧ w1.cell? ⟨b, off + i * 3 + 1, none⟩ = some (.slice ao f.data.length dcap) := by
      obtain ⟨oa', cap', e, _, _, hcc⟩ := (HFX.out.below HBW.out).shape
      simp only [Value.slice.injEq] at e
      obtain ⟨rfl, _, rfl⟩ := e
      obtain ⟨b, off, e1, _, dv, hrg, hdv⟩ := hcc i f hi
      obtain ⟨ao, dcap, e2, _, _⟩ := hdv
      subst e2
      exact ⟨_, rfl, b, off, ao, dcap, e1, hrg 1 _ rfl⟩
    obtain ⟨_, b, off, ao, dcap, rfl, cn⟩ := cn
    clear hi ha
    clear hil
    have HST := Lib.hid (show (DkBlk w1.drew w.heap.size d (.slice (some ⟨b, off, none⟩) d.files.length cap) ∧ OpBlk w1.drew (w.heap.size + 1) o (.slice ob o.b.length bcap) kv) ∧ Below w1.heap.size w1 w1.drew from ⟨⟨HD1.out.below (below_drewN' w1 1), HO1.out.below (below_drewN' w1 1)⟩, below_drewN' w1 1⟩)
    go_wp2_with fail
    refine wp_region_held_drew (S := fun w' => (DkBlk w' w.heap.size d (.slice (some ⟨b, off, none⟩) d.files.length cap) ∧ OpBlk w' (w.heap.size + 1) o (.slice ob o.b.length bcap) kv) ∧ Below w1.heap.size w1 w') (by kernel_rfl) HST.out (fun hHeld => ?_)
    clear k0 c0 cn
    refine tk 0 rfl ?v_157 ?hy_157 ?r_157
    case hy_157 => intro w hSw; have k0 := hSw.1.2.c0; have k3 := hSw.1.2.c3; have c1 := hSw.1.1.c1; go_simp; try with_reducible rfl
    simp only [pA, pB, pC, pD]
    refine tk 1 rfl ?v_158 ?hy_158 ?r_158
    case hy_158 => intro w hSw; have k0 := hSw.1.2.c0; have k3 := hSw.1.2.c3; have c1 := hSw.1.1.c1; go_simp; try with_reducible rfl
    simp only [pA, pB, pC, pD]
    refine tk 2 rfl ?v_159 ?hy_159 ?r_159
    case hy_159 => intro w hSw; have k0 := hSw.1.2.c0; have k3 := hSw.1.2.c3; have c1 := hSw.1.1.c1; go_simp; try with_reducible rfl
    simp only [pA, pB, pC, pD]
    refine tk 3 rfl ?v_160 ?hy_160 ?r_160
    case hy_160 => intro w hSw; have k0 := hSw.1.2.c0; have k3 := hSw.1.2.c3; have c1 := hSw.1.1.c1; go_simp; try with_reducible rfl
    simp only [pA, pB, pC, pD]
    refine tk 4 rfl ?v_161 ?hy_161 ?r_161
    case hy_161 => intro w hSw; have k0 := hSw.1.2.c0; have k3 := hSw.1.2.c3; have c1 := hSw.1.1.c1; go_simp; try with_reducible rfl
    simp only [pA, pB, pC, pD]
    refine tk 5 rfl ?v_162 ?hy_162 ?r_162
    case hy_162 => intro w hSw; have k0 := hSw.1.2.c0; have k3 := hSw.1.2.c3; have c1 := hSw.1.1.c1; go_simp; try with_reducible rfl
    simp only [pA, pB, pC, pD]
    refine tk 6 rfl ?v_163 ?hy_163 ?r_163
    case hy_163 => intro w hSw; have k0 := hSw.1.2.c0; have k3 := hSw.1.2.c3; have c1 := hSw.1.1.c1; go_simp; try with_reducible rfl
    simp only [pA, pB, pC, pD]
    refine tk 7 rfl ?v_164 ?hy_164 ?r_164
    case hy_164 => intro w hSw; have k0 := hSw.1.2.c0; have k3 := hSw.1.2.c3; have c1 := hSw.1.1.c1; go_simp; try with_reducible rfl
    simp only [pA, pB, pC, pD]
    refine tk 8 rfl ?v_165 ?hy_165 ?r_165
    case hy_165 => intro w hSw; have k0 := hSw.1.2.c0; have k3 := hSw.1.2.c3; have c1 := hSw.1.1.c1; go_simp; try with_reducible rfl
    simp only [pA, pB, pC, pD]
    refine tkl 9 w.heap.size 0 (dkCs d (.slice (some ⟨b, off, none⟩) d.files.length cap)).toList rfl rfl (fun w' h j v hv => by rw [Nat.zero_add, h.1.1.cell]; simpa using hv) Tryz.underlying51 rfl (by rw [dkInfo]; rfl) ?_
    simp only [pA, pB, pC, pD]
    refine wpAnyH_ready (rs := [10]) (by kernel_rfl) (by simp) ?_
    refine AllReadyH.cons rfl (fun K hK => ?_) AllReadyH.nil
    go_simp
    go_at_call 65
    refine (refUsed_any (A := A) d (.slice (some ⟨b, off, none⟩) d.files.length cap) _ (HF1.out.below hHeld.2) HU.out).mono ?_
    rintro e w2 ⟨rfl, hb2⟩
    have HBH := Lib.hid hHeld.2
    have HD2 := Lib.hid (hHeld.1.1.below hb2)
    have HO2 := Lib.hid (hHeld.1.2.below hb2)
    have HB2 := Lib.hid (Below.next HBH.out hb2)
    clear hb2 hHeld
    go_wp2_with fail
    refine hK.out _ _ ⟨⟨HD2.out, HO2.out⟩, HB2.out⟩ (fun hHeld => ?_)
    clear hK K
    rcases hfull : decide (d.room - (usedF d.files : Int) < (o.b.length : Int)) with _ | _
    · rw [hfull] at HE
      refine tk 11 rfl ?v_166 ?hy_166 ?r_166
      case hy_166 => intro w hSw; go_simp; try with_reducible rfl
      simp only [pA, pB, pC, pD]
      refine tk 12 rfl ?v_167 ?hy_167 ?r_167
      case hy_167 => intro w hSw; go_simp; try with_reducible rfl
      simp only [pA, pB, pC, pD]
      refine tk 13 rfl ?v_168 ?hy_168 ?r_168
      case hy_168 => intro w hSw; go_simp; try with_reducible rfl
      simp only [pA, pB, pC, pD]
      refine wpAnyH_done (by kernel_rfl) ?_ _
      have k0 := hHeld.1.2.c0
      have HBE := Lib.hid (Below.next HBW.out hHeld.2)
      go_wp2
      go_ret
      exact ⟨by rw [HE.out]; rfl, HBE.out⟩
    · rw [hfull] at HE
      refine tk 11 rfl ?v_169 ?hy_169 ?r_169
      case hy_169 => intro w hSw; go_simp; try with_reducible rfl
      simp only [pA, pB, pC, pD]
      refine tk 12 rfl ?v_170 ?hy_170 ?r_170
      case hy_170 => intro w hSw; go_simp; try with_reducible rfl
      simp only [pA, pB, pC, pD]
      refine tk 13 rfl ?v_171 ?hy_171 ?r_171
      case hy_171 => intro w hSw; go_simp; try with_reducible rfl
      simp only [pA, pB, pC, pD]
      refine wpAnyH_done (by kernel_rfl) ?_ _
      have HBE := Lib.hid (Below.next HBW.out hHeld.2)
      go_wp2
      go_ret
      exact ⟨by rw [HE.out]; rfl, HBE.out⟩

end Go.Proofs.YtlobohpbgghleaaGreatDoor
