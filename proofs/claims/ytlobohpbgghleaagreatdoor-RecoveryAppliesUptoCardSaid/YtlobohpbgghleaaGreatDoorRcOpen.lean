import Derived.Test.YtlobohpbgghleaaGreatDoorFsDir
import Derived.Test.YtlobohpbgghleaaGreatDoorManEnc
import Derived.Test.YtlobohpbgghleaaGreatDoorReadsU
import Derived.Test.YtlobohpbgghleaaGreatDoorOpenBy
import Derived.Test.YtlobohpbgghleaaGreatDoorOpen
import Derived.Test.YtlobohpbgghleaaGreatDoorFilRow
import Derived.Test.YtlobohpbgghleaaGreatDoorManRow
namespace Go.Proofs.YtlobohpbgghleaaGreatDoor

/-! ## what a plan does, in plain words -/

structure Pl where
  fresh : Bool
  man : Man
  remove : List (List UInt8)
  cut : Int
  last : Int
/-- the calls, one behind the other, up to the first that is refused -/
def runD : Disk → List DOp → Disk × Int
  | d, [] => (d, 0)
  | d, o :: r => if (doD d o).2.2.2 = 0 then runD (doD d o).1 r else ((doD d o).1, (doD d o).2.2.2)
theorem runD_append : ∀ (a b : List DOp) (d : Disk), runD d (a ++ b) = if (runD d a).2 = 0 then runD (runD d a).1 b else runD d a
  | [], b, d => by simp [runD]
  | o :: a, b, d => by
    rw [List.cons_append, runD, runD]
    by_cases h : (doD d o).2.2.2 = 0
    · rw [if_pos h, if_pos h, runD_append a b]
    · rw [if_neg h, if_neg h]
      simp only [if_neg h]
def manN : List UInt8 := [109, 97, 110, 105, 102, 101, 115, 116]
def tmpN : List UInt8 := [109, 97, 110, 105, 102, 101, 115, 116, 46, 116, 109, 112]
/-- a new store, step by step -/
def beginOps (n : List UInt8) (g : Sg) (m : Man) : List DOp :=
  [opCreate n, opAppend n (hdrEnc g.num g.first).1, opSync n, opCreate tmpN, opAppend tmpN (encMan m).1, opSync tmpN, opRename tmpN manN]
def cutOps (n : List UInt8) (k : Int) (x : Option Fil) : List DOp :=
  match x with
  | none => []
  | some f => if k < (f.data.length : Int) then [opCut n k] else []
def remOps (p : Pl) : List DOp := p.remove.map opRemove
def lastSg (m : Man) : Sg := m.segs.getLast?.getD ⟨0, 0, 0, 0⟩
def segN (m : Man) : List UInt8 := segName (lastSg m).num
/-- the document's steps: found ahead of all -/
def refOps (d : Disk) (p : Pl) : List DOp :=
  remOps p ++ if p.fresh then beginOps (segN p.man) (lastSg p.man) p.man
    else opSize (segN p.man) :: (cutOps (segN p.man) p.cut (if p.remove.any (fun x => x == segN p.man) then none else atF d.files (segN p.man)) ++ [opSync (segN p.man)])
/-- what is done when the strays are gone -/
def tailOps (d : Disk) (p : Pl) : List DOp :=
  if p.fresh then beginOps (segN p.man) (lastSg p.man) p.man
    else opSize (segN p.man) :: (cutOps (segN p.man) p.cut (atF d.files (segN p.man)) ++ [opSync (segN p.man)])
/-- a plan's disk, and the error -/
def applyD (d : Disk) (p : Pl) : Disk × Int :=
  if manOk p.man then runD d (refOps d p) else (d, 1)
theorem take_at {n : List UInt8} (fs : List Fil) : atF (takeF n fs) n = none := by
  unfold atF takeF
  rw [List.find?_eq_none]
  intro x hx
  have := (List.mem_filter.1 hx).2
  simpa using this
theorem doD_remove {d : Disk} {n : List UInt8} (h : (doD d (opRemove n)).2.2.2 = 0) : (doD d (opRemove n)).1.files = takeF n d.files := by
  by_cases hb : barD d (opRemove n) = 0
  · rw [doD_step (by simp [opRemove]) hb] at h ⊢
    by_cases hf : d.fuse = 1
    · simp only [if_pos hf] at h; omega
    · simp only [if_neg hf]
      rw [bar_remove] at hb
      obtain ⟨_, _, x, ha⟩ := openE_zero hb
      unfold chgD
      rw [if_neg (by simp [opRemove]), stepD_files]
      show (match atF d.files n with | none => stepD d | some f => _).files = _
      rw [ha]
      simp [opRemove]
  · rw [doD_barred (by simp [opRemove]) hb] at h
    exact absurd h hb
/-- behind the strays: what is still there -/
theorem rem_at (n : List UInt8) : ∀ (l : List (List UInt8)) (d : Disk), (runD d (l.map opRemove)).2 = 0 → atF (runD d (l.map opRemove)).1.files n = if l.any (fun x => x == n) then none else atF d.files n
  | [], d, _ => by simp [runD]
  | x :: l, d, h => by
    rw [List.map_cons, runD] at h ⊢
    by_cases h0 : (doD d (opRemove x)).2.2.2 = 0
    · rw [if_pos h0] at h ⊢
      rw [rem_at n l _ h, doD_remove h0, List.any_cons]
      by_cases hx : x = n
      · subst hx
        rw [take_at]
        simp
      · rw [show (x == n) = false by simpa using hx, at_take hx, Bool.false_or]
    · rw [if_neg h0] at h
      exact absurd h h0
theorem size_refused {d : Disk} {n : List UInt8} (h : atF d.files n = none) : (doD d (opSize n)).2.2.2 ≠ 0 := by
  have he : openE d n ≠ 0 := fun e => by
    obtain ⟨_, _, x, hx⟩ := openE_zero e
    rw [h] at hx; cases hx
  rw [doD_barred (by simp [opSize]) (by rw [bar_size]; exact he), bar_size]
  exact he
/-- the document's list of steps is what is done, one behind the other -/
theorem refOps_run (d : Disk) (p : Pl) : runD d (refOps d p) = if (runD d (remOps p)).2 = 0 then runD (runD d (remOps p)).1 (tailOps (runD d (remOps p)).1 p) else runD d (remOps p) := by
  unfold refOps tailOps
  rw [runD_append]
  by_cases h : (runD d (remOps p)).2 = 0
  · rw [if_pos h, if_pos h]
    rcases p.fresh
    · simp only [Bool.false_eq_true, if_false]
      have ha := rem_at (segN p.man) p.remove d h
      rcases hx : atF (runD d (remOps p)).1.files (segN p.man) with _ | f
      · have := size_refused hx
        rw [runD, if_neg this, runD, if_neg this]
      · rw [show (runD d (p.remove.map opRemove)) = runD d (remOps p) from rfl, hx] at ha
        rw [← ha]
    · rfl
  · rw [if_neg h, if_neg h]
theorem doD_steps (d : Disk) (o : DOp) : (doD d o).1.steps ≤ d.steps + 1 ∧ d.steps ≤ (doD d o).1.steps := by
  have hc : ∀ x : Disk, (chgD x o).steps = x.steps := fun x => by
    unfold chgD
    split
    · rfl
    · split
      · rfl
      · split
        · rfl
        · split <;> rfl
  unfold doD
  split
  · exact ⟨by simp; omega, by simp⟩
  · split
    · exact ⟨by simp; omega, by simp⟩
    · split
      · exact ⟨by simp; omega, by simp⟩
      · split
        · exact ⟨by simp; omega, by simp⟩
        · split
          · exact ⟨by simp; omega, by simp⟩
          · split
            · exact ⟨by simp; omega, by simp⟩
            · split
              · split
                · simp only [hc]; exact ⟨by omega, by omega⟩
                · exact ⟨by simp; omega, by simp⟩
              · simp only [hc]; exact ⟨by omega, by omega⟩

end Go.Proofs.YtlobohpbgghleaaGreatDoor

namespace Go.Proofs.YtlobohpbgghleaaGreatDoor
open Go.RowKit Go.ChangeShapes Go.WideShapes

/-! ## files and plans as arguments -/

def I64x (n : Int) : Prop := -9223372036854775808 ≤ n ∧ n ≤ 9223372036854775807
theorem i64x_of_wf {n : Int} (h : (Lit.int .i64 n).wf = true) : I64x n := by
  unfold I64x
  simpa [Lit.wf, show IntKind.i64.min = -9223372036854775808 from by decide] using h
theorem u8_of {z : Int} (h : (Lit.int .u8 z).wf = true) : ((UInt8.ofNat z.toNat).toNat : Int) = z := by
  have h' : 0 ≤ z ∧ z ≤ 255 := by simpa [Lit.wf, show IntKind.u8.min = 0 from by decide, show IntKind.u8.max = 255 from by decide] using h
  rw [UInt8.toNat_ofNat']
  omega
theorem bRow_of {w : World} {v : Value} {zs : List Int} (h : RowU 1 (RInt .u8) w v zs) : BRow w v (zs.map fun z => UInt8.ofNat z.toNat) ∧ zs.length ≤ 1048576 := by
  obtain ⟨oa, cap, rfl, h1, h2, h3⟩ := h
  have hw : ∀ z ∈ zs, (Lit.int .u8 z).wf = true := fun z hzm => by
    obtain ⟨i, hi, he⟩ := List.getElem_of_mem hzm
    obtain ⟨b, off, _, h5⟩ := h3 (by rintro rfl; simp at hi)
    obtain ⟨cs, _, _, hR⟩ := h5 i z (by rw [List.getElem?_eq_getElem hi, he])
    exact hR.2
  refine ⟨⟨oa, cap, by rw [List.length_map], by simpa using h1, fun hn => ?_⟩, by omega⟩
  obtain ⟨b, off, h4, h5⟩ := h3 (by rintro rfl; exact hn rfl)
  refine ⟨b, off, h4, fun i x hx => ?_⟩
  rw [List.getElem?_map] at hx
  obtain ⟨z, hz1, rfl⟩ := Option.map_eq_some_iff.1 hx
  obtain ⟨cs, _, hcs, hR⟩ := h5 i z hz1
  have := hcs 0 (.int .u8 z) (by rw [hR.1]; rfl)
  rw [u8_of (hw z (List.mem_of_getElem? hz1))]
  simpa using this
/-- a file's cells -/
def RFl (w : World) (cs : List Value) (f : Fil) : Prop := ∃ dv, cs = (flCs f dv).toList ∧ BRow w dv f.data ∧ f.name.length ≤ 1048576 ∧ f.data.length ≤ 1048576 ∧ I64x f.safe
theorem opensU_File : OpensU Tryz.prog 49 3 RFl := by
  intro H enc W fuel cs x hx hz
  have ho : OpensU Tryz.prog 49 3 (RCons 1 RStrU (RCons 1 (RRowU 1 (RInt .u8)) (RCons 1 (RInt .i64) RNil))) :=
    opensU_struct Tryz.underlying49 (by kernel_rfl) (opensU_cons rfl (by kernel_rfl) (opensU_str Tryz.underlying9) (opensU_cons rfl (by kernel_rfl) (opensU_slice Tryz.underlying47 (by kernel_rfl) (by decide) (opensU_int (k := .u8) Tryz.underlying5))
      (opensU_cons rfl (by kernel_rfl) (opensU_int Tryz.underlying3) opensU_nil)))
  obtain ⟨hl, ⟨n, zs, s, _⟩, h0, h1, h2, _⟩ := ho enc W fuel cs x hx hz
  obtain ⟨dv, e1, r1⟩ := h1
  obtain ⟨a1, a2⟩ := bRow_of r1
  refine ⟨hl, ⟨n, zs.map fun z => UInt8.ofNat z.toNat, s⟩, dv, ?_, a1, h0.2, by rw [List.length_map]; exact a2, i64x_of_wf h2.2⟩
  match cs, hl with
  | [c0, c1, c2], _ =>
    have e0 := h0.1
    have e2 := h2.1
    simp at e0 e1 e2
    simp [flCs, e0, e1, e2]
/-- a slice of files as an argument -/
structure RdFiles (w : World) (v : Value) (fs : List Fil) : Prop where
  row : FilesIn (fun _ => True) w v fs
  len : fs.length ≤ 1048576
  nm : ∀ f ∈ fs, f.name.length ≤ 1048576
  dat : ∀ f ∈ fs, f.data.length ≤ 1048576
  safe : ∀ f ∈ fs, I64x f.safe
theorem browIn_true {w : World} {v : Value} {l : List UInt8} (h : BRow w v l) : BRowIn (fun _ => True) w v l := by
  obtain ⟨oa, cap, h1, h2, h3⟩ := h
  exact ⟨oa, cap, h1, h2, fun hn => by obtain ⟨b, off, e, hc⟩ := h3 hn; exact ⟨b, off, e, trivial, hc⟩⟩
set_option maxRecDepth 100000 in
theorem openU_sl_api_File {H : Type} {enc : TypeId × Value → H} {W : World} {base : Nat} {v : Value} {d : DataW H} {p : List MemPlace}
    (hok : Value.okWide Tryz.prog W .any base 22 v) (h : DataW.Trod enc Tryz.prog W 0 (fun _ => true) true 22 v d p) (hz : Rows.uptoBulk d ≤ 1048576) :
    ∃ a, RdFiles W v a := by
  obtain ⟨rs, oa, cap, rfl, h1, h2, h3⟩ := openU_slice_by (P := Tryz.prog) (opensU_slice Tryz.underlying22 (by kernel_rfl) (by decide) opensU_File) Tryz.underlying22 hok h hz
  have hall : ∀ f ∈ rs, ∃ cs, RFl W cs f := fun f hf => by
    obtain ⟨i, hi, he⟩ := List.getElem_of_mem hf
    obtain ⟨b, off, h4, h5⟩ := h3 (by rintro rfl; simp at hi)
    obtain ⟨cs, _, _, hR⟩ := h5 i f (by rw [List.getElem?_eq_getElem hi, he])
    exact ⟨cs, hR⟩
  refine ⟨rs, ⟨oa, cap, rfl, h1, by unfold maxLen; omega, fun hn => ?_⟩, by omega, fun f hf => ?_, fun f hf => ?_, fun f hf => ?_⟩
  · obtain ⟨b, off, h4, h5⟩ := h3 hn
    refine ⟨b, off, h4, trivial, fun i r hi => ?_⟩
    obtain ⟨cs, _, hc, dv, hR, hB, _⟩ := h5 i r hi
    exact ⟨dv, fun j u hj => hc j u (by rw [hR]; exact hj), browIn_true hB⟩
  · obtain ⟨cs, dv, _, _, h6, _⟩ := hall f hf
    exact h6
  · obtain ⟨cs, dv, _, _, _, h6, _⟩ := hall f hf
    exact h6
  · obtain ⟨cs, dv, _, _, _, _, h6⟩ := hall f hf
    exact h6

def RSgc (_ : World) (cs : List Value) (g : Sg) : Prop := cs = (sgCs g).toList ∧ I64x g.num ∧ I64x g.first ∧ I64x g.count ∧ I64x g.foot
theorem opensU_Seg : OpensU Tryz.prog 46 4 RSgc := by
  intro H enc W fuel cs x hx hz
  have ho : OpensU Tryz.prog 46 4 (RCons 1 (RInt .i64) (RCons 1 (RInt .i64) (RCons 1 (RInt .i64) (RCons 1 (RInt .i64) RNil)))) :=
    opensU_struct Tryz.underlying46 (by kernel_rfl) (opensU_cons rfl (by kernel_rfl) (opensU_int Tryz.underlying3) (opensU_cons rfl (by kernel_rfl) (opensU_int Tryz.underlying3) (opensU_cons rfl (by kernel_rfl) (opensU_int Tryz.underlying3) (opensU_cons rfl (by kernel_rfl) (opensU_int Tryz.underlying3) opensU_nil))))
  obtain ⟨hl, ⟨a, b, c, d, _⟩, h0, h1, h2, h3, _⟩ := ho enc W fuel cs x hx hz
  refine ⟨hl, ⟨a, b, c, d⟩, ?_, i64x_of_wf h0.2, i64x_of_wf h1.2, i64x_of_wf h2.2, i64x_of_wf h3.2⟩
  match cs, hl with
  | [c0, c1, c2, c3], _ =>
    have e0 := h0.1
    have e1 := h1.1
    have e2 := h2.1
    have e3 := h3.1
    simp at e0 e1 e2 e3
    simp [sgCs, e0, e1, e2, e3]
theorem sgRow_of {w : World} {v : Value} {l : List Sg} (h : RowU 4 RSgc w v l) : SgRow w v l ∧ l.length ≤ 1048576 := by
  obtain ⟨oa, cap, rfl, h1, h2, h3⟩ := h
  refine ⟨⟨oa, cap, rfl, h1, by omega, fun i g hi => ?_⟩, by omega⟩
  obtain ⟨b, off, h4, h5⟩ := h3 (by rintro rfl; simp at hi)
  obtain ⟨cs, _, hc, hR⟩ := h5 i g hi
  exact ⟨b, off, h4, fun j u hj => hc j u (by rw [hR.1]; exact hj)⟩
/-- strings in a slice -/
def StRow (w : World) (v : Value) (l : List (List UInt8)) : Prop :=
  ∃ oa cap, v = .slice oa l.length cap ∧ l.length ≤ cap ∧ cap ≤ 9223372036854775807 ∧ ∀ (i : Nat) x, l[i]? = some x → ∃ b off, oa = some ⟨b, off, none⟩ ∧ w.cell? ⟨b, off + i, none⟩ = some (.string ⟨x.toArray⟩)
theorem StRow.below {w w' : World} {v : Value} {l : List (List UInt8)} (h : StRow w v l) (hb : Below w.heap.size w w') : StRow w' v l := by
  obtain ⟨oa, cap, h1, h2, h3, h4⟩ := h
  exact ⟨oa, cap, h1, h2, h3, fun i g hg => by obtain ⟨b, off, e, hc⟩ := h4 i g hg; exact ⟨b, off, e, cell_later hb hc⟩⟩
theorem stRow_of {w : World} {v : Value} {l : List (List UInt8)} (h : RowU 1 RStrU w v l) : StRow w v l ∧ l.length ≤ 1048576 := by
  obtain ⟨oa, cap, rfl, h1, h2, h3⟩ := h
  refine ⟨⟨oa, cap, rfl, h1, by omega, fun i g hi => ?_⟩, by omega⟩
  obtain ⟨b, off, h4, h5⟩ := h3 (by rintro rfl; simp at hi)
  obtain ⟨cs, _, hc, hR⟩ := h5 i g hi
  refine ⟨b, off, h4, ?_⟩
  have := hc 0 (.string ⟨g.toArray⟩) (by rw [hR.1]; rfl)
  simpa using this
def RMan (w : World) (cs : List Value) (m : Man) : Prop := ∃ sv, cs = (mnCs m sv).toList ∧ SgRow w sv m.segs ∧ m.segs.length ≤ 1048576
theorem opensU_Manifest : OpensU Tryz.prog 31 6 RMan := by
  intro H enc W fuel cs x hx hz
  have ho : OpensU Tryz.prog 31 6 (RCons 1 (RInt .i64) (RCons 1 (RInt .i64) (RCons 1 (RInt .i64) (RCons 1 (RInt .i64) (RCons 1 (RInt .i64) (RCons 1 (RRowU 4 RSgc) RNil)))))) :=
    opensU_struct Tryz.underlying31 (by kernel_rfl) (opensU_cons rfl (by kernel_rfl) (opensU_int Tryz.underlying3) (opensU_cons rfl (by kernel_rfl) (opensU_int Tryz.underlying3) (opensU_cons rfl (by kernel_rfl) (opensU_int Tryz.underlying3) (opensU_cons rfl (by kernel_rfl) (opensU_int Tryz.underlying3) (opensU_cons rfl (by kernel_rfl) (opensU_int Tryz.underlying3)
      (opensU_cons rfl (by kernel_rfl) (opensU_slice Tryz.underlying29 (by kernel_rfl) (by decide) opensU_Seg) opensU_nil))))))
  obtain ⟨hl, ⟨a, b, c, d, e, gs, _⟩, h0, h1, h2, h3, h4, h5, _⟩ := ho enc W fuel cs x hx hz
  obtain ⟨sv, e5, r5⟩ := h5
  obtain ⟨a1, a2⟩ := sgRow_of r5
  refine ⟨hl, ⟨a, b, c, d, e, gs⟩, sv, ?_, a1, a2⟩
  match cs, hl with
  | [c0, c1, c2, c3, c4, c5], _ =>
    have e0 := h0.1
    have e1 := h1.1
    have e2 := h2.1
    have e3 := h3.1
    have e4 := h4.1
    simp at e0 e1 e2 e3 e4 e5
    simp [mnCs, e0, e1, e2, e3, e4, e5]

/-- a plan as a value -/
def plCs (p : Pl) (sv rv : Value) : Array Value := #[.bool p.fresh, .int .i64 p.man.gen, .int .i64 p.man.next, .int .i64 p.man.floor, .int .i64 p.man.snap, .int .i64 p.man.snapSeq, sv, rv, .int .i64 p.cut, .int .i64 p.last]
@[reducible] def plV (p : Pl) (sv rv : Value) : Value := .agg #[.bool p.fresh, .int .i64 p.man.gen, .int .i64 p.man.next, .int .i64 p.man.floor, .int .i64 p.man.snap, .int .i64 p.man.snapSeq, sv, rv, .int .i64 p.cut, .int .i64 p.last]
structure PlIn (w : World) (p : Pl) (sv rv : Value) : Prop where
  seg : SgRow w sv p.man.segs
  rem : StRow w rv p.remove
  segs : p.man.segs.length ≤ 1048576
  rems : p.remove.length ≤ 1048576
  cut : I64x p.cut
def RPlc (w : World) (cs : List Value) (p : Pl) : Prop := ∃ sv rv, cs = (plCs p sv rv).toList ∧ PlIn w p sv rv
theorem opensU_Plan : OpensU Tryz.prog 34 10 RPlc := by
  intro H enc W fuel cs x hx hz
  have ho : OpensU Tryz.prog 34 10 (RCons 1 RBool (RCons 6 RMan (RCons 1 (RRowU 1 RStrU) (RCons 1 (RInt .i64) (RCons 1 (RInt .i64) RNil))))) :=
    opensU_struct Tryz.underlying34 (by kernel_rfl) (opensU_cons rfl (by kernel_rfl) (opensU_bool Tryz.underlying4) (opensU_cons rfl (by kernel_rfl) opensU_Manifest (opensU_cons rfl (by kernel_rfl) (opensU_slice Tryz.underlying32 (by kernel_rfl) (by decide) (opensU_str Tryz.underlying9))
      (opensU_cons rfl (by kernel_rfl) (opensU_int Tryz.underlying3) (opensU_cons rfl (by kernel_rfl) (opensU_int Tryz.underlying3) opensU_nil)))))
  obtain ⟨hl, ⟨fr, mn, rs, c, la, _⟩, h0, h1, h2, h3, h4, _⟩ := ho enc W fuel cs x hx hz
  obtain ⟨sv, e1, s1, s2⟩ := h1
  obtain ⟨rv, e2, r2⟩ := h2
  obtain ⟨a1, a2⟩ := stRow_of r2
  refine ⟨hl, ⟨fr, mn, rs, c, la⟩, sv, rv, ?_, ⟨s1, a1, s2, a2, i64x_of_wf h3.2⟩⟩
  match cs, hl with
  | [c0, c1, c2, c3, c4, c5, c6, c7, c8, c9], _ =>
    have e0 := h0
    have e3 := h3.1
    have e4 := h4.1
    simp [RBool, mnCs] at e0 e1 e2 e3 e4
    simp [plCs, e0, e1, e2, e3, e4]
/-- a plan as an argument -/
def RdPlan (w : World) (v : Value) (p : Pl) : Prop := ∃ sv rv, v = plV p sv rv ∧ PlIn w p sv rv
set_option maxRecDepth 100000 in
theorem openU_api_Plan {H : Type} {enc : TypeId × Value → H} {W : World} {base : Nat} {v : Value} {d : DataW H} {p : List MemPlace}
    (hok : Value.okWide Tryz.prog W .any base 34 v) (h : DataW.Trod enc Tryz.prog W 0 (fun _ => true) true 34 v d p) (hz : Rows.uptoBulk d ≤ 1048576) :
    ∃ a, RdPlan W v a := by
  obtain ⟨cs, c, rfl, hl, sv, rv, h1, h2⟩ := openU_struct_by (P := Tryz.prog) opensU_Plan Tryz.underlying34 hok h hz
  refine ⟨c, sv, rv, ?_, h2⟩
  obtain ⟨l⟩ := cs
  have : l = (plCs c sv rv).toList := h1
  subst this
  rfl

end Go.Proofs.YtlobohpbgghleaaGreatDoor
