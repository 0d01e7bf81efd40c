import Derived.Test.YtlobohpbgghleaaGreatDoorFilRow
import Derived.Test.YtlobohpbgghleaaGreatDoorFsDir
import Derived.Test.YtlobohpbgghleaaGreatDoorApp
namespace Go.Proofs.YtlobohpbgghleaaGreatDoor
open Go.RowKit

/-! ## the document's disk, walked: At, Used, take -/

def dkCs (d : Disk) (fv : Value) : Array Value := #[fv, .int .i64 d.room, .int .i64 d.fuse, .bool d.down, .int .i64 d.steps, .int .i64 d.reads]
def DkBlk (w : World) (g : Nat) (d : Disk) (fv : Value) : Prop := w.heap[g]? = some (.cells (dkCs d fv) 51 (0, 0))
theorem DkBlk.lt {w : World} {g : Nat} {d : Disk} {fv : Value} (h : DkBlk w g d fv) : g < w.heap.size := (Array.getElem?_eq_some_iff.1 h).1
theorem DkBlk.below {w w' : World} {g : Nat} {d : Disk} {fv : Value} (h : DkBlk w g d fv) (hb : Below w.heap.size w w') : DkBlk w' g d fv := by unfold DkBlk at *; rw [hb.block g (Array.getElem?_eq_some_iff.1 h).1]; exact h
theorem DkBlk.keep {w w' : World} {g B : Nat} {d : Disk} {fv : Value} (h : DkBlk w g d fv) (hb : Below B w w') (hB : g < B) : DkBlk w' g d fv := by unfold DkBlk at *; rw [hb.block g hB]; exact h
theorem DkBlk.cell {w : World} {g : Nat} {d : Disk} {fv : Value} (h : DkBlk w g d fv) (j : Nat) : w.cell? ⟨g, j, none⟩ = (dkCs d fv)[j]? := by unfold DkBlk at h; simp [World.cell?, h]
theorem DkBlk.c0 {w : World} {g : Nat} {d : Disk} {fv : Value} (h : DkBlk w g d fv) : w.cell? ⟨g, 0, none⟩ = some fv := h.cell 0
theorem DkBlk.c1 {w : World} {g : Nat} {d : Disk} {fv : Value} (h : DkBlk w g d fv) : w.cell? ⟨g, 1, none⟩ = some (.int .i64 d.room) := h.cell 1
theorem DkBlk.c2 {w : World} {g : Nat} {d : Disk} {fv : Value} (h : DkBlk w g d fv) : w.cell? ⟨g, 2, none⟩ = some (.int .i64 d.fuse) := h.cell 2
theorem DkBlk.c3 {w : World} {g : Nat} {d : Disk} {fv : Value} (h : DkBlk w g d fv) : w.cell? ⟨g, 3, none⟩ = some (.bool d.down) := h.cell 3
theorem DkBlk.c4 {w : World} {g : Nat} {d : Disk} {fv : Value} (h : DkBlk w g d fv) : w.cell? ⟨g, 4, none⟩ = some (.int .i64 d.steps) := h.cell 4
theorem DkBlk.c5 {w : World} {g : Nat} {d : Disk} {fv : Value} (h : DkBlk w g d fv) : w.cell? ⟨g, 5, none⟩ = some (.int .i64 d.reads) := h.cell 5
theorem DkBlk.free {w : World} {g : Nat} {d : Disk} {fv : Value} (h : DkBlk w g d fv) (j : Nat) : w.frozen? ⟨g, j, none⟩ = false := by unfold DkBlk at h; simp [World.frozen?, h]
theorem dkBlk_alloc (w : World) (d : Disk) (fv : Value) : DkBlk (w.alloc (.cells (dkCs d fv) 51)) w.heap.size d fv := heap_alloc_new w _
theorem dkInfo : (Tryz.prog.info? 51).map (·.size) = some 6 := by kernel_rfl
theorem wpList_load_dk {ops : Array Oper} {rest : List Oper} {o : Oper} {a : Act} {w : World} {Q : Exit → Act → World → Prop} (hgd : o.guard = none) (x : Operand) (ho : o.op = .load 51 x)
    (g : Nat) (d : Disk) (fv : Value) (hx : a.eval x = .pointer (some ⟨g, 0, none⟩)) (hE : DkBlk w g d fv)
    (h : wpList Tryz.prog ops Q rest (a.put o.dst (dkV d fv)) w) : wpList Tryz.prog ops Q (o :: rest) a w :=
  wpList_load_row hgd 51 x ho g hx 51 (dkCs d fv) (0, 0) _ hE Tryz.underlying51 rfl dkInfo h
theorem wpList_load_fl {ops : Array Oper} {rest : List Oper} {o : Oper} {a : Act} {w : World} {Q : Exit → Act → World → Prop} (hgd : o.guard = none) (x : Operand) (ho : o.op = .load 49 x)
    (b off : Nat) (f : Fil) (dv : Value) (hx : a.eval x = .pointer (some ⟨b, off, none⟩)) (hE : w.rangeAt b off (flCs f dv).toList)
    (h : wpList Tryz.prog ops Q rest (a.put o.dst (flV f dv)) w) : wpList Tryz.prog ops Q (o :: rest) a w :=
  wpList_load_mid hgd 49 x ho b off hx (flCs f dv).toList _ hE Tryz.underlying49 rfl flInfo h

/-- the place of a file; -1: there is none -/
def IdxOf (fs : List Fil) (n : List UInt8) (z : Int) : Prop := (z = -1 ∧ atF fs n = none) ∨ ∃ (i : Nat) (f : Fil), z = (i : Int) ∧ fs[i]? = some f ∧ atF fs n = some f
theorem dropF_cons {α : Type} {l : List α} {k : Nat} {x : α} (h : l[k]? = some x) : l.drop k = x :: l.drop (k + 1) := by
  obtain ⟨h1, h2⟩ := List.getElem?_eq_some_iff.1 h
  rw [List.drop_eq_getElem_cons h1, h2]
theorem at_drop {fs : List Fil} {n : List UInt8} {k : Nat} (h : ∀ f ∈ fs.take k, f.name ≠ n) : atF fs n = atF (fs.drop k) n := by
  unfold atF
  conv => lhs; rw [← List.take_append_drop k fs]
  rw [List.find?_append, List.find?_eq_none.2 (fun x hx => by simpa using h x hx)]
  rfl

set_option maxHeartbeats 1000000 in
theorem at_any {A : Nat → Prop} (d : Disk) (fv : Value) (n : List UInt8) (w : World) (hf : FilesIn A w fv d.files) :
    Calls Tryz.prog 50 #[dkV d fv, .string ⟨n.toArray⟩] w fun e w' => ∃ z, e = .returned (.int .i64 z) ∧ IdxOf d.files n z ∧ Below w.heap.size w w' := by
  obtain ⟨oa, cap, rfl, hl1, hl2, hc⟩ := hf.shape
  have HC := Lib.hid hc
  have HD0 := Lib.hid (dkBlk_alloc w d (.slice oa d.files.length cap))
  clear hc hf
  go_enter Tryz.func50, Tryz.ntmps50
  go_wp2
  go_loopw [5, 9] (fun _ iv wr => ∃ k : Nat, k ≤ d.files.length ∧ iv = .int .i64 k ∧ DkBlk wr w.heap.size d (.slice oa d.files.length cap) ∧ Hid (∀ f ∈ d.files.take k, f.name ≠ n) ∧ Below w.heap.size w wr) (fun _ iv _ => d.files.length - (intOf iv).toNat)
  case atStart => exact ⟨0, Nat.zero_le _, rfl, HD0.out, Lib.hid (by simp), below_alloc _ _⟩
  case round =>
    clear HD0
    obtain ⟨k, hk, rfl, hd, HN, hb⟩ := hrel
    have HD := Lib.hid hd
    have HB := Lib.hid hb
    clear hd hb
    by_cases hlt : k < d.files.length
    · obtain ⟨x, hx, htk, _⟩ := nth d.files k hlt
      obtain ⟨b, off, rfl, _, dv, hr, _⟩ := HC.out k x hx
      have q1 : (k : Int) < (d.files.length : Int) := by omega
      have c0 := HD.out.c0
      have cn : wr.cell? ⟨b, off + k * 3, none⟩ = some (.string ⟨x.name.toArray⟩) := cell_later HB.out (hr 0 _ rfl)
      rcases heq : (x.name == n) with _ | _
      · have HN2 := Lib.hid (show ∀ f ∈ d.files.take (k + 1), f.name ≠ n by
          intro f hf
          rw [htk] at hf
          rcases List.mem_append.1 hf with h1 | h1
          · exact HN.out f h1
          · simp at h1; rw [h1]; simpa using heq)
        clear hx htk hr
        go_wp2
        go_roundw
        case rel => exact ⟨k + 1, by omega, by go_num, HD.out, HN2, HB.out⟩
        case measure => simp [intOf]; omega
      · have HI := Lib.hid (show IdxOf d.files n (k : Int) from .inr ⟨k, x, rfl, hx, by
          rw [at_drop HN.out, dropF_cons hx]; unfold atF; rw [List.find?_cons, heq]⟩)
        clear hx htk hr
        go_wp2
        go_ret
        exact ⟨_, rfl, HI.out, HB.out⟩
    · obtain rfl : k = d.files.length := by omega
      have HI := Lib.hid (show IdxOf d.files n (-1) from .inl ⟨rfl, by rw [at_drop HN.out, List.drop_of_length_le (Nat.le_refl _)]; rfl⟩)
      go_wp2
      go_ret
      exact ⟨_, rfl, HI.out, HB.out⟩

theorem usedF_take_succ {fs : List Fil} {k : Nat} {x : Fil} (h : fs[k]? = some x) : usedF (fs.take (k + 1)) = usedF (fs.take k) + x.data.length := by
  obtain ⟨h1, h2⟩ := List.getElem?_eq_some_iff.1 h
  rw [List.take_succ_eq_append_getElem h1, h2]
  simp [usedF]
theorem usedF_take_le (fs : List Fil) (k : Nat) : usedF (fs.take k) ≤ usedF fs := by
  conv => rhs; rw [← List.take_append_drop k fs]
  unfold usedF
  rw [List.map_append, List.sum_append]
  omega

set_option maxHeartbeats 1000000 in
theorem refUsed_any {A : Nat → Prop} (d : Disk) (fv : Value) (w : World) (hf : FilesIn A w fv d.files) (hu : (usedF d.files : Int) ≤ 4611686018427387904) :
    Calls Tryz.prog 65 #[dkV d fv] w fun e w' => e = .returned (.int .i64 (usedF d.files : Int)) ∧ Below w.heap.size w w' := by
  obtain ⟨oa, cap, rfl, hl1, hl2, hc⟩ := hf.shape
  have HC := Lib.hid hc
  have HD0 := Lib.hid (dkBlk_alloc w d (.slice oa d.files.length cap))
  clear hc hf
  go_enter Tryz.func65, Tryz.ntmps65
  go_wp2
  go_loopw [3, 4, 8] (fun nv _ iv wr => ∃ k : Nat, k ≤ d.files.length ∧ iv = .int .i64 k ∧ nv = .int .i64 (usedF (d.files.take k) : Int) ∧ DkBlk wr w.heap.size d (.slice oa d.files.length cap) ∧ Below w.heap.size w wr) (fun _ _ iv _ => d.files.length - (intOf iv).toNat)
  case atStart => exact ⟨0, Nat.zero_le _, rfl, rfl, HD0.out, below_alloc _ _⟩
  case round =>
    clear HD0
    obtain ⟨k, hk, rfl, rfl, hd, hb⟩ := hrel
    have HD := Lib.hid hd
    have HB := Lib.hid hb
    clear hd hb
    by_cases hlt : k < d.files.length
    · obtain ⟨x, hx, _, _⟩ := nth d.files k hlt
      obtain ⟨b, off, rfl, _, dv, hr, hdv⟩ := HC.out k x hx
      have q1 : (k : Int) < (d.files.length : Int) := by omega
      have c0 := HD.out.c0
      obtain ⟨do_, dcap, rfl, _, _⟩ := hdv
      have cn : wr.cell? ⟨b, off + k * 3 + 1, none⟩ = some (.slice do_ x.data.length dcap) := cell_later HB.out (hr 1 _ rfl)
      have HU := Lib.hid (usedF_take_succ hx)
      have h1 := usedF_take_le d.files (k + 1)
      have hw : IntKind.i64.wrap ((usedF (d.files.take k) : Int) + (x.data.length : Int)) = (usedF (d.files.take k) : Int) + (x.data.length : Int) := by
        rw [HU.out] at h1
        rw [IntKind.wrap_i64]; omega
      clear hx hr h1
      go_wp2
      go_roundw
      case rel => exact ⟨k + 1, by omega, by go_num, by rw [HU.out]; go_num, HD.out, HB.out⟩
      case measure => simp [intOf]; omega
    · obtain rfl : k = d.files.length := by omega
      have HE := Lib.hid (show usedF (d.files.take d.files.length) = usedF d.files by rw [List.take_length])
      go_wp2
      go_ret
      exact ⟨by rw [← HE.out]; rfl, HB.out⟩

end Go.Proofs.YtlobohpbgghleaaGreatDoor

namespace Go.Proofs.YtlobohpbgghleaaGreatDoor
open Go.RowKit

/-! ## the document's disk, walked: take, Put -/

/-- a row of files of one's own, from block B on; their bytes in blocks of A -/
def OwnF (A : Nat → Prop) (w : World) (B : Nat) (v : Value) (ps : List (Fil × Value)) : Prop := w.ownsRow B 49 3 v ps.length (flCells ps) ∧ ∀ p ∈ ps, BRowIn (fun k => A k ∧ k < B) w p.2 p.1.data
theorem OwnF.later {A : Nat → Prop} {w w' : World} {B : Nat} {v : Value} {ps : List (Fil × Value)} (h : OwnF A w B v ps) (hb : Below w.heap.size w w') : OwnF A w' B v ps := ⟨own_later h.1 hb, fun p hp => (h.2 p hp).below hb⟩
theorem OwnF.files {A : Nat → Prop} {w : World} {B : Nat} {v : Value} {ps : List (Fil × Value)} (h : OwnF A w B v ps) (hA : ∀ k, B ≤ k → A k) : FilesIn A w v (ps.map (·.1)) := files_own h.1 hA fun p hp => (h.2 p hp).mono fun _ hk => hk.1
theorem ownF_fresh (A : Nat → Prop) (w : World) (B : Nat) (hB : B ≤ w.heap.size) : OwnF A (w.alloc (.cells #[] 49)) B (.slice (some ⟨w.heap.size, 0, none⟩) 0 0) [] := ⟨own_fresh w _ 3 B hB, fun _ h => by cases h⟩
theorem wpList_appF {ops : Array Oper} {rest : List Oper} {o : Oper} {a : Act} {Q : Exit → Act → World → Prop} {A : Nat → Prop} {w : World} (hgd : o.guard = none) (s y : Operand) (ho : o.op = .call { callee := .builtin .append, args := #[s, y], argTypes := #[22, 22] }) {B : Nat} {v : Value} {ps : List (Fil × Value)} {f : Fil} {dv : Value}
    (hs : a.eval s = v) (hy : a.eval y = .slice (some ⟨w.heap.size, 0, none⟩) 1 1) (hown : OwnF A w B v ps) (hB : B ≤ w.heap.size) (hd : BRowIn (fun k => A k ∧ k < B) w dv f.data) (hl : ps.length + 1 ≤ 1000000000)
    (h : ∀ v' w', OwnF A w' B v' (ps ++ [(f, dv)]) → Below B w w' → w.heap.size ≤ w'.heap.size → wpList Tryz.prog ops Q rest (a.put o.dst v') w') : wpList Tryz.prog ops Q (o :: rest) a (w.alloc (.cells (flCs f dv) 49)) := by
  obtain ⟨i0, hi, hz0, hz1, hz2⟩ := info_parts infoFl
  have hb := below_alloc w (.cells (flCs f dv) 49)
  have h1d : dv.oneCell' = true := by obtain ⟨_, _, e, _, _⟩ := hd; rw [e]; rfl
  refine wpList_append_own _ hgd s y 22 ho B 49 i0 zeroFl 3 48 Tryz.underlying22 hi hz0 hz1 hz2 rfl (by decide) v ps.length (flCells ps) hs (own_later hown.1 hb) ⟨w.heap.size, 0, none⟩ 1 1 (flCs f dv).toList hy rfl (fun j u hj => ?_) (fun u hu => ?_) (by unfold maxLen; omega) (by omega) (Nat.le_trans hB hb.size) ?_
  · rw [addr_add, Nat.zero_add, World.cell?_alloc_new]
    simpa using hj
  · simp [flCs] at hu; rcases hu with rfl | rfl | rfl
    · rfl
    · exact h1d
    · rfl
  · intro v' w' hown' hg _
    have hb2 := below_of_grown (own_later hown.1 hb) (Nat.le_trans hB hb.size) hg
    have hrow : ∀ (x : Value) (l : List UInt8), BRowIn (fun k => A k ∧ k < B) w x l → BRowIn (fun k => A k ∧ k < B) w' x l := fun x l hx => by
      obtain ⟨oa, cap, e1, e2, e3⟩ := hx.below hb
      refine ⟨oa, cap, e1, e2, fun hn => ?_⟩
      obtain ⟨b, off, e4, ha, hc⟩ := e3 hn
      exact ⟨b, off, e4, ha, fun i u hu => hg.cell (hc i u hu) fun e => by
        have := (own_later hown.1 hb).lt b e.symm
        have := ha.2
        omega⟩
    refine h v' w' ⟨?_, fun p hp => ?_⟩ ((hb.mono hB).trans hb2) (Nat.le_trans hb.size hg.size)
    · rw [List.length_append, flCells_snoc]
      exact hown'
    · rcases List.mem_append.1 hp with hp | hp
      · exact hrow _ _ (hown.2 p hp)
      · simp at hp; rw [hp]; exact hrow _ _ hd

theorem takeF_take {fs : List Fil} {n : List UInt8} {k : Nat} {x : Fil} (h : fs[k]? = some x) : takeF n (fs.take (k + 1)) = takeF n (fs.take k) ++ (if x.name == n then [] else [x]) := by
  obtain ⟨h1, h2⟩ := List.getElem?_eq_some_iff.1 h
  unfold takeF
  rw [List.take_succ_eq_append_getElem h1, h2, List.filter_append]
  rcases hx : (x.name == n) with _ | _
  · rw [List.filter_cons_of_pos (by rw [hx]; rfl)]; rfl
  · rw [List.filter_cons_of_neg (by rw [hx]; exact Bool.false_ne_true)]; rfl

set_option maxHeartbeats 1000000 in
theorem take_any {A : Nat → Prop} (fs : List Fil) (fv : Value) (n : List UInt8) (w : World) (hf : FilesIn A w fv fs) (hA : ∀ k, w.heap.size ≤ k → A k) (hn : fs.length ≤ 1000000) :
    Calls Tryz.prog 86 #[fv, .string ⟨n.toArray⟩] w fun e w' => ∃ v, e = .returned v ∧ FilesIn A w' v (takeF n fs) ∧ Below w.heap.size w w' := by
  obtain ⟨oa, cap, rfl, hl1, hl2, hc⟩ := hf.shape
  have HC := Lib.hid (show ∀ (i : Nat) f, fs[i]? = some f → ∃ b off, oa = some ⟨b, off, none⟩ ∧ ∃ dv, w.rangeAt b (off + i * 3) (flCs f dv).toList ∧ BRowIn (fun k => A k ∧ k < w.heap.size) w dv f.data from fun i f hi => by
    obtain ⟨b, off, e, _, dv, hr, hd⟩ := hc i f hi
    refine ⟨b, off, e, dv, hr, ?_⟩
    obtain ⟨oa', cap', e1, e2, e3⟩ := hd
    refine ⟨oa', cap', e1, e2, fun hne => ?_⟩
    obtain ⟨b', off', e4, ha, hcell⟩ := e3 hne
    refine ⟨b', off', e4, ⟨ha, ?_⟩, hcell⟩
    obtain ⟨x, hx⟩ := List.exists_mem_of_ne_nil _ hne
    obtain ⟨i, hi⟩ := List.getElem?_of_mem hx
    exact World.block_lt_of_cell? w _ (hcell i x hi))
  have HA := Lib.hid hA
  have HF0 := Lib.hid (ownF_fresh A w w.heap.size (Nat.le_refl _))
  clear hc hf hA
  go_enter Tryz.func86, Tryz.ntmps86
  go_wp2
  go_loopw [5, 6, 10] (fun ov _ iv wr => ∃ (k : Nat) (ps : List (Fil × Value)), k ≤ fs.length ∧ iv = .int .i64 k ∧ OwnF A wr w.heap.size ov ps ∧ Hid (ps.map (·.1) = takeF n (fs.take k)) ∧ Below w.heap.size w wr) (fun _ _ iv _ => fs.length - (intOf iv).toNat)
  case atStart => exact ⟨0, [], Nat.zero_le _, rfl, HF0.out, Lib.hid rfl, below_alloc _ _⟩
  case round =>
    clear HF0
    obtain ⟨k, ps, hk, rfl, hown, HP, hb⟩ := hrel
    have HO := Lib.hid hown
    have HB := Lib.hid hb
    have hsz := hb.size
    clear hown hb
    by_cases hlt : k < fs.length
    · obtain ⟨x, hx, _, _⟩ := nth fs k hlt
      obtain ⟨b, off, rfl, dv, hr, hdv⟩ := HC.out k x hx
      have q1 : (k : Int) < (fs.length : Int) := by omega
      have HCE := Lib.hid (range_later hr HB.out)
      have cn : wr.cell? ⟨b, off + k * 3, none⟩ = some (.string ⟨x.name.toArray⟩) := HCE.out 0 _ rfl
      have HT := Lib.hid (takeF_take (n := n) hx)
      have HDV := Lib.hid (hdv.below HB.out)
      have hpl : ps.length + 1 ≤ 1000000000 := by
        have h1 : ps.length = (takeF n (fs.take k)).length := by rw [← HP.out]; simp
        have h2 : (takeF n (fs.take k)).length ≤ (fs.take k).length := List.length_filter_le _ _
        rw [List.length_take] at h2
        omega
      clear hx hr hdv
      rcases heq : (x.name == n) with _ | _
      · have t1 : (x.name != n) = true := by unfold bne; rw [heq]; rfl
        have t2 : ¬ x.name = n := by simpa using heq
        go_wp2_with (first | (with_reducible refine wpList_load_fl rfl (.tmp 23) rfl b (off + k * 3) x dv rfl HCE.out ?_) | (at_builtin; refine wpList_appF rfl (.tmp 20) (.tmp 25) rfl rfl rfl HO.out hsz HDV.out hpl ?_))
        intro v' w' h1 h2 h3
        have HF := Lib.hid h1
        have HG := Lib.hid (HB.out.trans h2)
        clear h1 h2
        go_wp2
        go_roundw
        case rel => exact ⟨k + 1, ps ++ [(x, dv)], by omega, by go_num, HF.out, Lib.hid (by rw [List.map_append, HP.out, HT.out, heq]; rfl), HG.out⟩
        case measure => simp [intOf]; omega
      · have t1 : (x.name != n) = false := by unfold bne; rw [heq]; rfl
        have t2 : x.name = n := by simpa using heq
        have HNE := Lib.hid (show ps.map (·.1) = takeF n (fs.take (k + 1)) by rw [HP.out, HT.out, heq]; simp)
        clear t2
        go_wp2
        go_roundw
        case rel => exact ⟨k + 1, ps, by omega, by go_num, HO.out, HNE, HB.out⟩
        case measure => simp [intOf]; omega
    · obtain rfl : k = fs.length := by omega
      have HE := Lib.hid (show ps.map (·.1) = takeF n fs by rw [HP.out, List.take_length])
      go_wp2
      go_ret
      exact ⟨_, rfl, by rw [← HE.out]; exact HO.out.files HA.out, HB.out⟩

end Go.Proofs.YtlobohpbgghleaaGreatDoor

namespace Go.Proofs.YtlobohpbgghleaaGreatDoor
open Go.RowKit

/-! ## the document's disk, walked: Put -/

theorem less_before : ∀ a b : List UInt8, Op.bytesLess a b = bytesBefore a b
  | [], [] => rfl
  | [], _ :: _ => rfl
  | _ :: _, [] => rfl
  | x :: a, y :: b => by rw [Op.bytesLess, bytesBefore, less_before a b]
theorem gt_before {a b : List UInt8} : (!Op.bytesLess a b && !(a == b)) = bytesBefore b a := by
  rw [less_before]
  by_cases h : a = b
  · subst h; rw [WideAt.bytes_irrefl]; simp
  · rw [show (a == b) = false by simpa using h]
    rcases WideAt.bytes_total a b h with h1 | h1
    · rw [h1, bytes_asymm h1]; rfl
    · rw [h1, bytes_asymm h1]; rfl
/-- what is still to come of Put's answer -/
def putRest (f : Fil) (done : Bool) (r : List Fil) : List Fil := if done then r else putF f r
theorem putRest_done {f x : Fil} {r : List Fil} : putRest f true (x :: r) = [x] ++ putRest f true r := rfl
theorem putRest_here {f x : Fil} {r : List Fil} (h : bytesBefore f.name x.name = true) : putRest f false (x :: r) = [f, x] ++ putRest f true r := by
  simp [putRest, putF, h]
theorem putRest_on {f x : Fil} {r : List Fil} (h : bytesBefore f.name x.name = false) : putRest f false (x :: r) = [x] ++ putRest f false r := by
  simp [putRest, putF, h]
def FlBlk (w : World) (g : Nat) (f : Fil) (dv : Value) : Prop := w.heap[g]? = some (.cells (flCs f dv) 49 (0, 0))
theorem FlBlk.keep {w w' : World} {g B : Nat} {f : Fil} {dv : Value} (h : FlBlk w g f dv) (hb : Below B w w') (hB : g < B) : FlBlk w' g f dv := by unfold FlBlk at *; rw [hb.block g hB]; exact h
theorem FlBlk.below {w w' : World} {g : Nat} {f : Fil} {dv : Value} (h : FlBlk w g f dv) (hb : Below w.heap.size w w') : FlBlk w' g f dv := h.keep hb (Array.getElem?_eq_some_iff.1 h).1
theorem FlBlk.range {w : World} {g : Nat} {f : Fil} {dv : Value} (h : FlBlk w g f dv) : w.rangeAt g 0 (flCs f dv).toList := fun j u hj => by
  unfold FlBlk at h
  simp only [World.cell?, h, Nat.zero_add]
  simpa using hj
theorem FlBlk.c0 {w : World} {g : Nat} {f : Fil} {dv : Value} (h : FlBlk w g f dv) : w.cell? ⟨g, 0, none⟩ = some (.string ⟨f.name.toArray⟩) := h.range 0 _ rfl
theorem flBlk_alloc (w : World) (f : Fil) (dv : Value) : FlBlk (w.alloc (.cells (flCs f dv) 49)) w.heap.size f dv := heap_alloc_new w _

set_option maxRecDepth 100000 in
set_option maxHeartbeats 4000000 in
theorem put_any {A : Nat → Prop} (fs : List Fil) (fv : Value) (f : Fil) (dv0 : Value) (w : World) (hf : FilesIn A w fv fs) (hd0 : BRowIn A w dv0 f.data) (hA : ∀ k, w.heap.size ≤ k → A k) (hn : fs.length ≤ 1000000) :
    Calls Tryz.prog 51 #[fv, flV f dv0] w fun e w' => ∃ v, e = .returned v ∧ FilesIn A w' v (putF f fs) ∧ Below w.heap.size w w' := by
  obtain ⟨oa, cap, rfl, hl1, hl2, hc⟩ := hf.shape
  have low : ∀ (v : Value) (l : List UInt8), BRowIn A w v l → BRowIn (fun k => A k ∧ k < w.heap.size + 1) w v l := fun v l h => by
    obtain ⟨oa', cap', e1, e2, e3⟩ := h
    refine ⟨oa', cap', e1, e2, fun hne => ?_⟩
    obtain ⟨b', off', e4, ha, hcell⟩ := e3 hne
    refine ⟨b', off', e4, ⟨ha, ?_⟩, hcell⟩
    obtain ⟨x, hx⟩ := List.exists_mem_of_ne_nil _ hne
    obtain ⟨i, hi⟩ := List.getElem?_of_mem hx
    have := World.block_lt_of_cell? w _ (hcell i x hi)
    exact Nat.lt_succ_of_lt this
  have HC := Lib.hid (show ∀ (i : Nat) f, fs[i]? = some f → ∃ b off, oa = some ⟨b, off, none⟩ ∧ ∃ dv, w.rangeAt b (off + i * 3) (flCs f dv).toList ∧ BRowIn (fun k => A k ∧ k < w.heap.size + 1) w dv f.data from fun i f hi => by
    obtain ⟨b, off, e, _, dv, hr, hd⟩ := hc i f hi
    exact ⟨b, off, e, dv, hr, low _ _ hd⟩)
  have HD0 := Lib.hid (low _ _ hd0)
  have HA := Lib.hid (fun k (hk : w.heap.size + 1 ≤ k) => hA k (Nat.le_trans (Nat.le_succ _) hk))
  have HFB := Lib.hid (flBlk_alloc w f dv0)
  have HF0 := Lib.hid (show OwnF A ((w.alloc (.cells (flCs f dv0) 49)).alloc (.cells #[] 49)) (w.heap.size + 1) (.slice (some ⟨w.heap.size + 1, 0, none⟩) 0 0) [] by
    have := ownF_fresh A (w.alloc (.cells (flCs f dv0) 49)) (w.heap.size + 1) (by simp)
    simpa using this)
  have HB0 := Lib.hid (Below.next (below_alloc w (.cells (flCs f dv0) 49)) (below_alloc _ (.cells #[] 49)))
  have HFB2 := Lib.hid (HFB.out.below (below_alloc _ (.cells #[] 49)))
  clear hc hf hA low hd0 HFB
  obtain ⟨od, dcap, rfl, _, hdd⟩ := HD0.out
  clear hdd
  go_enter Tryz.func51, Tryz.ntmps51
  go_wp2
  go_loopw [5, 6, 7, 11] (fun ov dn _ iv wr => ∃ (k : Nat) (done : Bool) (ps : List (Fil × Value)), k ≤ fs.length ∧ iv = .int .i64 k ∧ dn = .bool done ∧ ps.length ≤ 2 * k + 1 ∧ OwnF A wr (w.heap.size + 1) ov ps ∧ FlBlk wr w.heap.size f (.slice od f.data.length dcap) ∧ Hid (putF f fs = ps.map (·.1) ++ putRest f done (fs.drop k)) ∧ Below w.heap.size w wr) (fun _ _ _ iv _ => fs.length - (intOf iv).toNat)
  case atStart => exact ⟨0, false, [], Nat.zero_le _, rfl, rfl, by simp, HF0.out, HFB2.out, Lib.hid rfl, HB0.out⟩
  case round =>
    clear HF0 HFB2 HB0
    obtain ⟨k, done, ps, hk, rfl, rfl, hpl, hown, hfb, HP, hb⟩ := hrel
    have HO := Lib.hid hown
    have HFB := Lib.hid hfb
    have HB := Lib.hid hb
    have hsz : w.heap.size + 1 ≤ wr.heap.size := (Array.getElem?_eq_some_iff.1 hfb).1
    clear hown hb hfb
    by_cases hlt : k < fs.length
    · obtain ⟨x, hx, _, _⟩ := nth fs k hlt
      obtain ⟨b, off, rfl, dv, hr, hdv⟩ := HC.out k x hx
      have q1 : (k : Int) < (fs.length : Int) := by omega
      have HDR := Lib.hid (dropF_cons hx)
      have HCW := Lib.hid hr
      have HDW := Lib.hid hdv
      have HCE := Lib.hid (range_later hr HB.out)
      have cn : wr.cell? ⟨b, off + k * 3, none⟩ = some (.string ⟨x.name.toArray⟩) := HCE.out 0 _ rfl
      have cf := HFB.out.c0
      have HDV := Lib.hid (hdv.below HB.out)
      have hpl1 : ps.length + 1 ≤ 1000000000 := by omega
      have HOn := Lib.hid (fun n => HO.out.later (below_drewN' wr n))
      have HCn := Lib.hid (fun n => range_later HCE.out (below_drewN' wr n))
      have HDn := Lib.hid (fun n => HDV.out.below (below_drewN' wr n))
      have HFn := Lib.hid (fun n => HFB.out.below (below_drewN' wr n))
      have HBn := Lib.hid (fun n => Below.next HB.out (below_drewN' wr n))
      clear hx hr hdv
      rcases done with _ | _
      case true =>
        have HPN := Lib.hid (show putF f fs = (ps ++ [(x, dv)]).map (·.1) ++ putRest f true (fs.drop (k + 1)) by rw [HP.out, HDR.out, putRest_done, List.map_append, List.append_assoc]; rfl)
        clear cn cf HP
        go_wp2_with fail
        go_quiet (fail)
        go_wp2_with (first | (with_reducible refine wpList_load_fl rfl (.tmp 33) rfl b (off + k * 3) x dv rfl (HCn.out nq) ?_) | (at_builtin; refine wpList_appF rfl (.tmp 30) (.tmp 35) rfl rfl rfl (HOn.out nq) hsz (HDn.out nq) hpl1 ?_))
        intro v' w' h1 h2 h3
        have HF := Lib.hid h1
        have HG := Lib.hid ((HBn.out nq).trans (h2.mono (Nat.le_succ _)))
        have HFF := Lib.hid ((HFn.out nq).keep h2 (Nat.lt_succ_self _))
        clear h1 h2
        go_wp2
        go_roundw
        case rel => exact ⟨k + 1, true, ps ++ [(x, dv)], by omega, by go_num, rfl, by simp; omega, HF.out, HFF.out, HPN, HG.out⟩
        case measure => simp [intOf]; omega
      case false =>
        rcases hgt : bytesBefore f.name x.name with _ | _
        · have t1 : (!Op.bytesLess x.name f.name && !(x.name == f.name)) = false := by rw [gt_before]; exact hgt
          have HPN := Lib.hid (show putF f fs = (ps ++ [(x, dv)]).map (·.1) ++ putRest f false (fs.drop (k + 1)) by rw [HP.out, HDR.out, putRest_on hgt, List.map_append, List.append_assoc]; rfl)
          clear HP hgt
          go_wp2_with fail
          go_quiet (fail)
          go_wp2_with (first | (with_reducible refine wpList_load_fl rfl (.tmp 33) rfl b (off + k * 3) x dv rfl (HCn.out nq) ?_) | (at_builtin; refine wpList_appF rfl (.tmp 30) (.tmp 35) rfl rfl rfl (HOn.out nq) hsz (HDn.out nq) hpl1 ?_))
          intro v' w' h1 h2 h3
          have HF := Lib.hid h1
          have HG := Lib.hid ((HBn.out nq).trans (h2.mono (Nat.le_succ _)))
          have HFF := Lib.hid ((HFn.out nq).keep h2 (Nat.lt_succ_self _))
          clear h1 h2
          go_wp2
          go_roundw
          case rel => exact ⟨k + 1, false, ps ++ [(x, dv)], by omega, by go_num, rfl, by simp; omega, HF.out, HFF.out, HPN, HG.out⟩
          case measure => simp [intOf]; omega
        · have t1 : (!Op.bytesLess x.name f.name && !(x.name == f.name)) = true := by rw [gt_before]; exact hgt
          have HPN := Lib.hid (show putF f fs = (ps ++ [(f, Value.slice od f.data.length dcap), (x, dv)]).map (·.1) ++ putRest f true (fs.drop (k + 1)) by rw [HP.out, HDR.out, putRest_here hgt]; simp)
          have HD0n := Lib.hid (fun n => HD0.out.below (HBn.out n))
          have HRF := Lib.hid (fun n => (HFn.out n).range)
          have hpl2 : (ps ++ [(f, Value.slice od f.data.length dcap)]).length + 1 ≤ 1000000000 := by simp; omega
          clear HP hgt
          go_wp2_with fail
          go_quiet (fail)
          go_wp2_with (first | (with_reducible refine wpList_load_fl rfl (.tmp 3) rfl w.heap.size 0 f (.slice od f.data.length dcap) rfl (HRF.out nq) ?_) | (at_builtin; refine wpList_appF rfl (.tmp 26) (.tmp 28) rfl rfl rfl (HOn.out nq) hsz (HD0n.out nq) hpl1 ?_))
          intro v' w' h1 h2 h3
          have HF := Lib.hid h1
          have HG := Lib.hid ((HBn.out nq).trans (h2.mono (Nat.le_succ _)))
          have HFF := Lib.hid ((HFn.out nq).keep h2 (Nat.lt_succ_self _))
          have HCx := Lib.hid (range_later HCW.out HG.out)
          have HDx := Lib.hid (HDW.out.below HG.out)
          have hsz2 := Nat.le_trans hsz h3
          clear h1 h2
          go_wp2_with (first | (with_reducible refine wpList_load_fl rfl (.tmp 33) rfl b (off + k * 3) x dv rfl HCx.out ?_) | (at_builtin; refine wpList_appF rfl (.tmp 30) (.tmp 35) rfl rfl rfl HF.out hsz2 HDx.out hpl2 ?_))
          intro v2 w2 h1 h2 h3
          have HF2 := Lib.hid h1
          have HG2 := Lib.hid (HG.out.trans (h2.mono (Nat.le_succ _)))
          have HFF2 := Lib.hid (HFF.out.keep h2 (Nat.lt_succ_self _))
          clear h1 h2
          go_wp2
          go_roundw
          case rel => exact ⟨k + 1, true, ps ++ [(f, Value.slice od f.data.length dcap), (x, dv)], by omega, by go_num, rfl, by simp; omega, HF2.out, HFF2.out, HPN, HG2.out⟩
          case measure => simp [intOf]; omega
    · obtain rfl : k = fs.length := by omega
      have HE := Lib.hid (show putF f fs = ps.map (·.1) ++ putRest f done [] by rw [HP.out, List.drop_of_length_le (Nat.le_refl _)])
      clear HP
      rcases done with _ | _
      · have HRF := Lib.hid HFB.out.range
        have HD1 := Lib.hid (HD0.out.below HB.out)
        have hpl1 : ps.length + 1 ≤ 1000000000 := by omega
        go_wp2_with (first | (with_reducible refine wpList_load_fl rfl (.tmp 3) rfl w.heap.size 0 f (.slice od f.data.length dcap) rfl HRF.out ?_) | (at_builtin; refine wpList_appF rfl (.tmp 40) (.tmp 42) rfl rfl rfl HO.out hsz HD1.out hpl1 ?_))
        intro v' w' h1 h2 h3
        have HF := Lib.hid h1
        have HG := Lib.hid (HB.out.trans (h2.mono (Nat.le_succ _)))
        clear h1 h2
        go_wp2
        go_ret
        refine ⟨_, rfl, ?_, HG.out⟩
        have e : putF f fs = (ps ++ [(f, Value.slice od f.data.length dcap)]).map (·.1) := by rw [HE.out]; simp [putRest, putF]
        rw [e]
        exact HF.out.files HA.out
      · go_wp2
        go_ret
        refine ⟨_, rfl, ?_, HB.out⟩
        have e : putF f fs = ps.map (·.1) := by rw [HE.out]; simp [putRest]
        rw [e]
        exact HO.out.files HA.out

end Go.Proofs.YtlobohpbgghleaaGreatDoor

namespace Go.Proofs.YtlobohpbgghleaaGreatDoor
open Go.RowKit

/-! ## the document's disk, walked: what bars a call -/

set_option maxHeartbeats 1000000 in
theorem refRight_any (l : List UInt8) (w : World) :
    Calls Tryz.prog 49 #[.string ⟨l.toArray⟩] w fun e w' => e = .returned (.bool (rightName l)) ∧ w = w' := by
  by_cases h0 : l = []
  · subst h0
    go_enter Tryz.func49, Tryz.ntmps49
    go_wp2
    go_ret
    exact ⟨rfl, rfl⟩
  have h0p : 0 < l.length := List.length_pos_iff.2 h0
  by_cases h1 : 24 < l.length
  · have hp : Hid (rightName l = false) := Lib.hid (by simp [rightName]; omega)
    clear h0
    go_enter Tryz.func49, Tryz.ntmps49
    go_wp2
    go_ret
    exact ⟨by rw [hp.out]; rfl, rfl⟩
  clear h0
  go_enter Tryz.func49, Tryz.ntmps49
  go_wp2
  go_loop [3, 4] (fun iv _ => ∃ k : Nat, k ≤ l.length ∧ iv = .int .i64 k ∧ (l.take k).all okCh = true) (fun iv _ => (l.length - intOf iv).toNat)
  case atStart => exact ⟨0, by omega, rfl, rfl⟩
  case round =>
    obtain ⟨k, hk, rfl, hall⟩ := hrel
    have HA := Lib.hid hall
    by_cases hk6 : k < l.length
    · obtain ⟨x, hx, hts, hmem⟩ := nth l k hk6
      have hy := ba_get hx
      have HT := Lib.hid hts
      have hno : Hid (okCh x = false → rightName l = false) := Lib.hid fun hf => by
        rw [rightName]
        have : l.all okCh = false := by
          rw [Bool.eq_false_iff]; intro ha
          have := List.all_eq_true.1 ha x hmem
          rw [hf] at this; cases this
        rw [this]; simp
      clear hx hts hall hmem
      by_cases hc : okCh x = true
      · have hrel : Hid (∃ j : Nat, j ≤ l.length ∧ Value.int .i64 ((k : Int) + 1) = .int .i64 j ∧ (l.take j).all okCh = true) := Lib.hid ⟨k + 1, hk6, by go_num, by rw [HT.out]; simp [HA.out, hc]⟩
        simp only [okCh, Bool.or_eq_true, Bool.and_eq_true, decide_eq_true_eq] at hc
        go_wp2
        all_goals first | (go_round; (case rel => exact hrel.out); (case measure => simp [intOf]; omega)) | (exfalso; rename_i hx; first | omega | (simp at hx; omega) | (have q := ‹(!((x.toNat : Int) == 45)) = true ∧ (!((x.toNat : Int) == 46)) = true›; simp at q; omega))
      · have hc' : okCh x = false := by simpa using hc
        have hp : Hid (rightName l = false) := Lib.hid (hno.out hc')
        clear hno hc
        simp only [okCh, Bool.or_eq_false_iff, Bool.and_eq_false_iff, decide_eq_false_iff_not] at hc'
        go_wp2
        all_goals first | (go_ret; exact ⟨by rw [hp.out]; rfl, rfl⟩) | (exfalso; rename_i hx; first | omega | (simp at hx; omega))
    · obtain rfl : k = l.length := by omega
      rw [List.take_length] at hall
      have hp : Hid (rightName l = true) := Lib.hid (by simp [rightName, hall]; omega)
      clear hall HA
      go_wp2
      go_ret
      exact ⟨by rw [hp.out]; rfl, rfl⟩

/-- a call of the document's disk, as a value -/
@[reducible] def opV (o : DOp) (bv kv : Value) : Value := .agg #[.int .i64 o.k, .string ⟨o.name.toArray⟩, .string ⟨o.to.toArray⟩, bv, .int .i64 o.n, .int .i64 o.m, kv]
def opCs (o : DOp) (bv kv : Value) : Array Value := #[.int .i64 o.k, .string ⟨o.name.toArray⟩, .string ⟨o.to.toArray⟩, bv, .int .i64 o.n, .int .i64 o.m, kv]
def OpBlk (w : World) (g : Nat) (o : DOp) (bv kv : Value) : Prop := w.heap[g]? = some (.cells (opCs o bv kv) 59 (0, 0))
section
variable {w : World} {g : Nat} {o : DOp} {bv kv : Value}
theorem OpBlk.keep {w' : World} {B : Nat} (h : OpBlk w g o bv kv) (hb : Below B w w') (hB : g < B) : OpBlk w' g o bv kv := by unfold OpBlk at *; rw [hb.block g hB]; exact h
theorem OpBlk.lt (h : OpBlk w g o bv kv) : g < w.heap.size := (Array.getElem?_eq_some_iff.1 h).1
theorem OpBlk.below {w' : World} (h : OpBlk w g o bv kv) (hb : Below w.heap.size w w') : OpBlk w' g o bv kv := h.keep hb h.lt
theorem OpBlk.cell (h : OpBlk w g o bv kv) (j : Nat) : w.cell? ⟨g, j, none⟩ = (opCs o bv kv)[j]? := by unfold OpBlk at h; simp [World.cell?, h]
theorem OpBlk.c0 (h : OpBlk w g o bv kv) : w.cell? ⟨g, 0, none⟩ = some (.int .i64 o.k) := h.cell 0
theorem OpBlk.c1 (h : OpBlk w g o bv kv) : w.cell? ⟨g, 1, none⟩ = some (.string ⟨o.name.toArray⟩) := h.cell 1
theorem OpBlk.c2 (h : OpBlk w g o bv kv) : w.cell? ⟨g, 2, none⟩ = some (.string ⟨o.to.toArray⟩) := h.cell 2
theorem OpBlk.c3 (h : OpBlk w g o bv kv) : w.cell? ⟨g, 3, none⟩ = some bv := h.cell 3
theorem OpBlk.c4 (h : OpBlk w g o bv kv) : w.cell? ⟨g, 4, none⟩ = some (.int .i64 o.n) := h.cell 4
theorem OpBlk.c5 (h : OpBlk w g o bv kv) : w.cell? ⟨g, 5, none⟩ = some (.int .i64 o.m) := h.cell 5
theorem OpBlk.c6 (h : OpBlk w g o bv kv) : w.cell? ⟨g, 6, none⟩ = some kv := h.cell 6
end
theorem opBlk_alloc (w : World) (o : DOp) (bv kv : Value) : OpBlk (w.alloc (.cells (opCs o bv kv) 59)) w.heap.size o bv kv := heap_alloc_new w _
theorem opInfo : (Tryz.prog.info? 59).map (·.size) = some 7 := by kernel_rfl
theorem wpList_load_op {ops : Array Oper} {rest : List Oper} {o : Oper} {a : Act} {w : World} {Q : Exit → Act → World → Prop} (hgd : o.guard = none) (x : Operand) (ho : o.op = .load 59 x)
    (g : Nat) (d : DOp) (bv kv : Value) (hx : a.eval x = .pointer (some ⟨g, 0, none⟩)) (hE : OpBlk w g d bv kv)
    (h : wpList Tryz.prog ops Q rest (a.put o.dst (opV d bv kv)) w) : wpList Tryz.prog ops Q (o :: rest) a w :=
  wpList_load_row hgd 59 x ho g hx 59 (opCs d bv kv) (0, 0) _ hE Tryz.underlying59 rfl opInfo h

theorem OpBlk.free {w : World} {g : Nat} {o : DOp} {bv kv : Value} (h : OpBlk w g o bv kv) (j : Nat) : w.frozen? ⟨g, j, none⟩ = false := by unfold OpBlk at h; simp [World.frozen?, h]
theorem DkBlk.set {w : World} {g : Nat} {d d' : Disk} {fv fv' : Value} (h : DkBlk w g d fv) (j : Nat) (v : Value) (e : (dkCs d fv).setIfInBounds j v = dkCs d' fv') : DkBlk (w.setCell ⟨g, j, none⟩ v) g d' fv' := by
  unfold DkBlk at h ⊢
  rw [← e]
  simp only [World.setCell]
  rw [Array.getElem?_modify]
  simp [h]
theorem OpBlk.otherCell {w : World} {g k : Nat} {o : DOp} {bv kv : Value} (h : OpBlk w g o bv kv) (hn : g ≠ k) (j : Nat) (v : Value) : OpBlk (w.setCell ⟨k, j, none⟩ v) g o bv kv := by
  unfold OpBlk at h ⊢
  simp only [World.setCell]
  rw [Array.getElem?_modify]
  simp [h, Ne.symm hn]
theorem DkBlk.otherCell {w : World} {g k : Nat} {d : Disk} {fv : Value} (h : DkBlk w g d fv) (hn : g ≠ k) (j : Nat) (v : Value) : DkBlk (w.setCell ⟨k, j, none⟩ v) g d fv := by
  unfold DkBlk at h ⊢
  simp only [World.setCell]
  rw [Array.getElem?_modify]
  simp [h, Ne.symm hn]
/-- a whole struct loaded in a drawn region -/
theorem tkl {P : Program} {ops : Array Oper} {Q : Exit → Act → World → Prop} {md : Region.Mode} {S : World → Prop} {d : Option Tmp} {ty : TypeId} {x : Operand} {t : TypeId} {p : String} {af : Array Edge} {g : Option (Nat × Bool)} {fuel : Nat} {listed : Array Bool} {a : Act} {w : World}
    (i : Nat) (b o : Nat) (cs : List Value) {de : TypeDesc} (hi : ops[i]? = some ⟨d, .load ty x, t, p, af, g⟩) (hx : a.eval x = .pointer (some ⟨b, o, none⟩)) (hc : ∀ w, S w → w.rangeAt b o cs) (hu : P.underlying ty = some de) (hd : de.isRow = true) (hin : (P.info? ty).map (·.size) = some cs.length)
    (h : wpAnyH P md ops Q S fuel (listed.setIfInBounds i true) (a.put d (.agg cs.toArray)) w)
    (hs : Region.noSelect ops = true := by kernel_rfl) (hf : Region.free md ops listed i = true := by kernel_rfl) (hr : (Region.ready md ops listed).contains i = true := by kernel_rfl)
    (hQ : ∀ c a w, Q (.panic c) (a.put d (.agg cs.toArray)) w → Q (.panic c) a w := by exact fun _ _ _ h => h) (hw : Region.wanted ⟨d, .load ty x, t, p, af, g⟩ (yielded ops a.tmps) = true := by kernel_rfl) (hS : S w := by assumption) :
    wpAnyH P md ops Q S (fuel + 1) listed a w := wpAnyH_take hi hs hf hr hQ (yieldsIf_load_mid hw ty x rfl b o hx cs de hc hu hd hin) hS h

end Go.Proofs.YtlobohpbgghleaaGreatDoor
