import Derived.ProofKit
import Derived.WideAt
import Derived.WideShapes
import Derived.Test.YtlobohpbgghleaaGreatDoorRight
namespace Go.Proofs.YtlobohpbgghleaaGreatDoor
open Go.WideAt Go.WideShapes

/-! ## a disk, as the document tells it: files in the order of their names -/

structure Fil where
  name : List UInt8
  data : List UInt8
  safe : Int
/-- the files of a disk (rising by name), its room, the fuse, the power, the counts -/
structure Disk where
  files : List Fil
  room : Int
  fuse : Int
  down : Bool
  steps : Int
  reads : Int

def Rise (fs : List Fil) : Prop := fs.Pairwise fun a b => bytesBefore a.name b.name = true
def atF (fs : List Fil) (n : List UInt8) : Option Fil := fs.find? fun f => f.name == n
/-- with one more, ahead of the first of a greater name -/
def putF (f : Fil) : List Fil → List Fil
  | [] => [f]
  | y :: r => if bytesBefore f.name y.name then f :: y :: r else y :: putF f r
def takeF (n : List UInt8) (fs : List Fil) : List Fil := fs.filter fun f => !(f.name == n)
def usedF (fs : List Fil) : Nat := (fs.map fun f => f.data.length).sum
/-- the one of that name turned in its place -/
def setF (n : List UInt8) (g : Fil → Fil) (fs : List Fil) : List Fil := fs.map fun f => if f.name == n then g f else f

theorem bytes_asymm {a b : List UInt8} (h : bytesBefore a b = true) : bytesBefore b a = false := by
  rcases hb : bytesBefore b a
  · rfl
  · have := bytes_trans _ _ _ h hb
    rw [bytes_irrefl] at this
    cases this
theorem bytes_ne {a b : List UInt8} (h : bytesBefore a b = true) : a ≠ b := fun e => by rw [e, bytes_irrefl] at h; cases h

theorem mem_putF {f x : Fil} : ∀ {fs : List Fil}, x ∈ putF f fs ↔ x = f ∨ x ∈ fs
  | [] => by simp [putF]
  | y :: r => by
    unfold putF
    split
    · simp
    · simp only [List.mem_cons, mem_putF (fs := r)]
      constructor
      · rintro (h | h | h)
        · exact .inr (.inl h)
        · exact .inl h
        · exact .inr (.inr h)
      · rintro (h | h | h)
        · exact .inr (.inl h)
        · exact .inl h
        · exact .inr (.inr h)
theorem putF_length (f : Fil) : ∀ fs : List Fil, (putF f fs).length = fs.length + 1
  | [] => rfl
  | y :: r => by unfold putF; split <;> simp [putF_length f r]
theorem usedF_put (f : Fil) : ∀ fs : List Fil, usedF (putF f fs) = f.data.length + usedF fs
  | [] => by simp [usedF, putF]
  | y :: r => by
    have h := usedF_put f r
    unfold putF
    split
    · simp [usedF]
    · simp only [usedF, List.map_cons, List.sum_cons] at h ⊢
      omega
theorem rise_put {f : Fil} : ∀ {fs : List Fil}, Rise fs → (∀ x ∈ fs, x.name ≠ f.name) → Rise (putF f fs)
  | [], _, _ => by simp [Rise, putF]
  | y :: r, h, hn => by
    obtain ⟨h1, h2⟩ := List.pairwise_cons.1 h
    unfold putF
    split
    · rename_i hb
      exact List.pairwise_cons.2 ⟨fun x hx => by
        rcases List.mem_cons.1 hx with rfl | hx
        · exact hb
        · exact bytes_trans _ _ _ hb (h1 x hx), h⟩
    · rename_i hb
      have hyf : bytesBefore y.name f.name = true := by
        rcases bytes_total f.name y.name (Ne.symm (hn y (by simp))) with h3 | h3
        · exact absurd h3 hb
        · exact h3
      exact List.pairwise_cons.2 ⟨fun x hx => by
        rcases mem_putF.1 hx with rfl | hx
        · exact hyf
        · exact h1 x hx, rise_put h2 fun x hx => hn x (by simp [hx])⟩
theorem rise_take {n : List UInt8} {fs : List Fil} (h : Rise fs) : Rise (takeF n fs) := h.sublist List.filter_sublist
theorem rise_set {n : List UInt8} {g : Fil → Fil} {fs : List Fil} (h : Rise fs) (hg : ∀ f, (g f).name = f.name) : Rise (setF n g fs) := by
  unfold Rise setF at *
  rw [List.pairwise_map]
  have hs : ∀ f : Fil, (if f.name == n then g f else f).name = f.name := fun f => by split <;> simp [hg]
  simpa only [hs] using h
theorem rise_set' {n : List UInt8} {g : Fil → Fil} {fs : List Fil} (h : Rise fs) (hg : ∀ f ∈ fs, n = f.name → (g f).name = f.name) : Rise (setF n g fs) := by
  unfold Rise setF at *
  rw [List.pairwise_map]
  have hs : ∀ f ∈ fs, (if f.name == n then g f else f).name = f.name := fun f hf => by
    split
    · rename_i hc; exact hg f hf (by simpa using (beq_iff_eq.1 hc).symm)
    · rfl
  refine h.imp_of_mem fun {a b} ha hb hab => ?_
  rw [hs a ha, hs b hb]
  exact hab
theorem take_none {n : List UInt8} {fs : List Fil} (h : atF fs n = none) : takeF n fs = fs := by
  unfold takeF
  rw [List.filter_eq_self]
  intro x hx
  have := List.find?_eq_none.1 h x hx
  simpa using this
/-- in a rising list every name stands once -/
theorem rise_one : ∀ {fs : List Fil} {n : List UInt8} {f x : Fil}, Rise fs → atF fs n = some f → x ∈ fs → x.name = n → x = f
  | [], _, _, _, _, _, hx, _ => by cases hx
  | y :: r, n, f, x, h, ha, hx, hn => by
    obtain ⟨h1, h2⟩ := List.pairwise_cons.1 h
    unfold atF at ha
    rw [List.find?_cons] at ha
    by_cases hy : y.name = n
    · rw [show (y.name == n) = true by simpa using hy] at ha
      simp only [Option.some.injEq] at ha
      rcases List.mem_cons.1 hx with rfl | hx
      · exact ha
      · exact absurd (hy.trans hn.symm) (bytes_ne (h1 x hx))
    · rw [show (y.name == n) = false by simpa using hy] at ha
      rcases List.mem_cons.1 hx with rfl | hx
      · exact absurd hn hy
      · exact rise_one h2 ha hx hn
theorem at_name {fs : List Fil} {n : List UInt8} {f : Fil} (h : atF fs n = some f) : f.name = n ∧ f ∈ fs := by
  have h1 := List.find?_some h
  exact ⟨by simpa using h1, List.mem_of_find?_eq_some h⟩
/-- taken out and put back, turned: it stands where it stood -/
theorem put_take : ∀ {fs : List Fil} {n : List UInt8} {f f' : Fil}, Rise fs → atF fs n = some f → f'.name = n → putF f' (takeF n fs) = setF n (fun _ => f') fs
  | [], _, _, _, _, h, _ => by cases h
  | y :: r, n, f, f', h, ha, hn => by
    obtain ⟨h1, h2⟩ := List.pairwise_cons.1 h
    unfold atF at ha
    rw [List.find?_cons] at ha
    by_cases hy : y.name = n
    · have e1 : takeF n (y :: r) = r := by
        unfold takeF
        rw [List.filter_cons, show (y.name == n) = true by simpa using hy]
        simp only [Bool.not_true, Bool.false_eq_true, if_false]
        rw [List.filter_eq_self]
        intro x hx
        have := bytes_ne (h1 x hx)
        rw [hy] at this
        simpa using this.symm
      have e2 : setF n (fun _ => f') (y :: r) = f' :: r := by
        unfold setF
        rw [List.map_cons, show (y.name == n) = true by simpa using hy]
        simp only [if_true]
        congr 1
        rw [List.map_congr_left (g := id) (fun x hx => by
          have := bytes_ne (h1 x hx)
          rw [hy] at this
          simp [this.symm])]
        simp
      rw [e1, e2]
      match r, h1 with
      | [], _ => rfl
      | z :: r', h1 => rw [putF, if_pos (by rw [hn, ← hy]; exact h1 z (by simp))]
    · rw [show (y.name == n) = false by simpa using hy] at ha
      have e1 : takeF n (y :: r) = y :: takeF n r := by
        unfold takeF
        rw [List.filter_cons, show (y.name == n) = false by simpa using hy]
        rfl
      have e2 : setF n (fun _ => f') (y :: r) = y :: setF n (fun _ => f') r := by
        unfold setF
        rw [List.map_cons, show (y.name == n) = false by simpa using hy]
        rfl
      have hyf := h1 f (List.mem_of_find?_eq_some ha)
      have hfn : f.name = n := by have := List.find?_some ha; simpa using this
      rw [e1, e2, putF, if_neg (by rw [hn, ← hfn, bytes_asymm hyf]; simp), put_take h2 ha hn]

end Go.Proofs.YtlobohpbgghleaaGreatDoor

namespace Go.Proofs.YtlobohpbgghleaaGreatDoor

/-! ## the calls of a disk, in plain words -/

/-- K: 0 create, 1 append, 2 sync, 3 rename, 4 remove, 5 cut, 6 read, 7 size, 8 restart, 9 fuse -/
structure DOp where
  k : Int
  name : List UInt8
  to : List UInt8
  b : List UInt8
  n : Int
  m : Int
  keep : List Int
def barD (d : Disk) (o : DOp) : Int :=
  if d.down then 3
  else if !rightName o.name || (decide (o.k = 3) && !rightName o.to) then 50
  else match atF d.files o.name with
    | none => if decide (o.k = 0) then (if decide (700 ≤ d.files.length) then 53 else 0) else 51
    | some f =>
      if decide (o.k = 0) then 52
      else if decide (o.k = 1) && decide (d.room - (usedF d.files : Int) < (o.b.length : Int)) then 54
      else if decide (o.k = 5) && (decide (o.n < 0) || decide ((f.data.length : Int) < o.n)) then 1
      else if decide (o.k = 6) && (decide (o.n < 0) || decide (o.m < 0) || decide ((f.data.length : Int) < o.n) || decide ((f.data.length : Int) - o.n < o.m)) then 1
      else 0
/-- a file behind a step that carries it on -/
def chgF (o : DOp) (f : Fil) : Fil :=
  if o.k = 1 then { f with data := f.data ++ o.b }
  else if o.k = 2 then { f with safe := (f.data.length : Int) }
  else if o.k = 3 then { f with name := o.to }
  else if o.k = 5 then { f with data := f.data.take o.n.toNat, safe := if o.n < f.safe then o.n else f.safe }
  else f
def chgD (d : Disk) (o : DOp) : Disk :=
  if o.k = 0 then { d with files := putF ⟨o.name, [], 0⟩ d.files }
  else match atF d.files o.name with
    | none => d
    | some f =>
      if o.k = 4 then { d with files := takeF o.name d.files }
      else if o.k = 3 then { d with files := putF (chgF o f) (takeF o.to (takeF o.name d.files)) }
      else { d with files := putF (chgF o f) (takeF o.name d.files) }
/-- how many bytes a file keeps at a loss of power -/
def keptN (f : Fil) (k : Int) : Int := if 0 < k then (if (f.data.length : Int) - f.safe < k then (f.data.length : Int) else f.safe + k) else f.safe
def restF : List Fil → List Int → List Fil
  | [], _ => []
  | f :: r, ks => ⟨f.name, f.data.take (keptN f (ks.headD 0)).toNat, keptN f (ks.headD 0)⟩ :: restF r ks.tail
def doD (d : Disk) (o : DOp) : Disk × List UInt8 × Int × Int :=
  if o.k = 8 then ({ d with files := restF d.files o.keep, down := false, fuse := 0 }, [], 0, 0)
  else if o.k = 9 then ({ d with fuse := if 0 < o.n then o.n else 0 }, [], 0, 0)
  else if o.k < 0 ∨ 9 < o.k then (d, [], 0, 0)
  else if barD d o ≠ 0 then (d, [], 0, barD d o)
  else if o.k = 6 then ({ d with reads := d.reads + o.m }, match atF d.files o.name with | none => [] | some f => (f.data.drop o.n.toNat).take o.m.toNat, 0, 0)
  else if o.k = 7 then (d, [], match atF d.files o.name with | none => 0 | some f => (f.data.length : Int), 0)
  else if d.fuse = 1 then ((if o.k = 1 then chgD { d with fuse := 0, down := true } o else { d with fuse := 0, down := true }), [], 0, 3)
  else (chgD { d with fuse := if 1 < d.fuse then d.fuse - 1 else d.fuse, steps := d.steps + 1 } o, [], 0, 0)

/-- what holds of a disk at all times -/
structure DiskOk (d : Disk) : Prop where
  rise : Rise d.files
  names : ∀ f ∈ d.files, rightName f.name = true
  safe : ∀ f ∈ d.files, 0 ≤ f.safe ∧ f.safe ≤ (f.data.length : Int)
  count : d.files.length ≤ 700
  room : 0 ≤ d.room ∧ d.room ≤ 67108864
  used : (usedF d.files : Int) ≤ d.room
  fuse : 0 ≤ d.fuse ∧ d.fuse ≤ 9223372036854775807
  steps : 0 ≤ d.steps
  reads : 0 ≤ d.reads

end Go.Proofs.YtlobohpbgghleaaGreatDoor

namespace Go.Proofs.YtlobohpbgghleaaGreatDoor

/-! ## what the calls keep -/

theorem usedF_take : ∀ {fs : List Fil} {n : List UInt8} {f : Fil}, Rise fs → atF fs n = some f → usedF (takeF n fs) + f.data.length = usedF fs
  | [], _, _, _, h => by cases h
  | y :: r, n, f, h, ha => by
    obtain ⟨h1, h2⟩ := List.pairwise_cons.1 h
    unfold atF at ha
    rw [List.find?_cons] at ha
    by_cases hy : y.name = n
    · rw [show (y.name == n) = true by simpa using hy] at ha
      simp only [Option.some.injEq] at ha
      subst ha
      have e1 : takeF n (y :: r) = r := by
        unfold takeF
        rw [List.filter_cons, show (y.name == n) = true by simpa using hy]
        simp only [Bool.not_true, Bool.false_eq_true, if_false]
        rw [List.filter_eq_self]
        intro x hx
        have := bytes_ne (h1 x hx)
        rw [hy] at this
        simpa using this.symm
      rw [e1]
      simp only [usedF, List.map_cons, List.sum_cons]
      omega
    · rw [show (y.name == n) = false by simpa using hy] at ha
      have e1 : takeF n (y :: r) = y :: takeF n r := by
        unfold takeF
        rw [List.filter_cons, show (y.name == n) = false by simpa using hy]
        rfl
      have := usedF_take h2 ha
      rw [e1]
      simp only [usedF, List.map_cons, List.sum_cons] at this ⊢
      omega
theorem usedF_take_none {fs : List Fil} {n : List UInt8} (h : atF fs n = none) : usedF (takeF n fs) = usedF fs := by rw [take_none h]
theorem usedF_set {fs : List Fil} {n : List UInt8} {f f' : Fil} (h : Rise fs) (ha : atF fs n = some f) (hn : f'.name = n) : usedF (setF n (fun _ => f') fs) + f.data.length = usedF fs + f'.data.length := by
  have h1 := usedF_take h ha
  rw [← put_take h ha hn, usedF_put]
  omega
theorem len_le_used {fs : List Fil} {f : Fil} (h : f ∈ fs) : f.data.length ≤ usedF fs := by
  induction fs with
  | nil => cases h
  | cons y r ih =>
    simp only [usedF, List.map_cons, List.sum_cons] at ih ⊢
    rcases List.mem_cons.1 h with rfl | h
    · omega
    · have := ih h; omega
theorem mem_setF {n : List UInt8} {f' x : Fil} {fs : List Fil} (h : x ∈ setF n (fun _ => f') fs) : x = f' ∨ x ∈ fs := by
  obtain ⟨y, hy, rfl⟩ := List.mem_map.1 h
  by_cases hc : (y.name == n) = true
  · rw [if_pos hc]; exact .inl rfl
  · rw [if_neg hc]; exact .inr hy

theorem DiskOk.files {d : Disk} (h : DiskOk d) {fs : List Fil} (h1 : Rise fs) (h2 : ∀ f ∈ fs, rightName f.name = true) (h3 : ∀ f ∈ fs, 0 ≤ f.safe ∧ f.safe ≤ (f.data.length : Int)) (h4 : fs.length ≤ 700) (h5 : (usedF fs : Int) ≤ d.room) : DiskOk { d with files := fs } :=
  ⟨h1, h2, h3, h4, h.room, h5, h.fuse, h.steps, h.reads⟩
theorem DiskOk.setFile {d : Disk} (h : DiskOk d) {n : List UInt8} {f f' : Fil} (ha : atF d.files n = some f) (hn : f'.name = n) (hs : 0 ≤ f'.safe ∧ f'.safe ≤ (f'.data.length : Int)) (hu : (usedF d.files : Int) + f'.data.length ≤ d.room + f.data.length) : DiskOk { d with files := setF n (fun _ => f') d.files } := by
  have hu' := usedF_set h.rise ha hn
  obtain ⟨hfn, hfm⟩ := at_name ha
  refine h.files (rise_set' h.rise fun y hy hyn => by rw [hn, hyn]) (fun x hx => ?_) (fun x hx => ?_) (by simp [setF]; exact h.count) (by omega)
  · rcases mem_setF hx with rfl | hx
    · rw [hn, ← hfn]; exact h.names f hfm
    · exact h.names x hx
  · rcases mem_setF hx with rfl | hx
    · exact hs
    · exact h.safe x hx
theorem DiskOk.take {d : Disk} (h : DiskOk d) (n : List UInt8) : DiskOk { d with files := takeF n d.files } := by
  have hl : (takeF n d.files).length ≤ d.files.length := List.length_filter_le _ _
  refine h.files (rise_take h.rise) (fun x hx => h.names x (List.mem_filter.1 hx).1) (fun x hx => h.safe x (List.mem_filter.1 hx).1) (Nat.le_trans hl h.count) ?_
  rcases ha : atF d.files n with _ | f
  · rw [take_none ha]; exact h.used
  · have := usedF_take h.rise ha
    have := h.used
    omega
theorem DiskOk.put {d : Disk} (h : DiskOk d) {f : Fil} (hr : rightName f.name = true) (hs : 0 ≤ f.safe ∧ f.safe ≤ (f.data.length : Int)) (hn : ∀ x ∈ d.files, x.name ≠ f.name) (hc : d.files.length < 700) (hu : (usedF d.files : Int) + f.data.length ≤ d.room) : DiskOk { d with files := putF f d.files } := by
  refine h.files (rise_put h.rise hn) (fun x hx => ?_) (fun x hx => ?_) (by rw [putF_length]; omega) (by rw [usedF_put]; omega)
  · rcases mem_putF.1 hx with rfl | hx
    · exact hr
    · exact h.names x hx
  · rcases mem_putF.1 hx with rfl | hx
    · exact hs
    · exact h.safe x hx
/-- the disk behind a step's fuse -/
def stepD (d : Disk) : Disk := if d.fuse = 1 then { d with fuse := 0, down := true } else { d with fuse := if 1 < d.fuse then d.fuse - 1 else d.fuse, steps := d.steps + 1 }
theorem stepD_files (d : Disk) : (stepD d).files = d.files := by unfold stepD; split <;> rfl
theorem stepD_room (d : Disk) : (stepD d).room = d.room := by unfold stepD; split <;> rfl
theorem DiskOk.step {d : Disk} (h : DiskOk d) : DiskOk (stepD d) := by
  have hf := h.fuse
  have hs := h.steps
  unfold stepD
  split
  · exact ⟨h.rise, h.names, h.safe, h.count, h.room, h.used, ⟨by simp, by simp⟩, hs, h.reads⟩
  · refine ⟨h.rise, h.names, h.safe, h.count, h.room, h.used, ?_, ?_, h.reads⟩
    · show 0 ≤ (if 1 < d.fuse then d.fuse - 1 else d.fuse) ∧ (if 1 < d.fuse then d.fuse - 1 else d.fuse) ≤ 9223372036854775807
      split <;> omega
    · show 0 ≤ d.steps + 1
      omega

/-! ## the calls, one by one -/

def opCreate (n : List UInt8) : DOp := ⟨0, n, [], [], 0, 0, []⟩
def opAppend (n b : List UInt8) : DOp := ⟨1, n, [], b, 0, 0, []⟩
def opSync (n : List UInt8) : DOp := ⟨2, n, [], [], 0, 0, []⟩
def opRename (n t : List UInt8) : DOp := ⟨3, n, t, [], 0, 0, []⟩
def opRemove (n : List UInt8) : DOp := ⟨4, n, [], [], 0, 0, []⟩
def opCut (n : List UInt8) (k : Int) : DOp := ⟨5, n, [], [], k, 0, []⟩
def opRead (n : List UInt8) (a k : Int) : DOp := ⟨6, n, [], [], a, k, []⟩
def opSize (n : List UInt8) : DOp := ⟨7, n, [], [], 0, 0, []⟩
def opFuse (n : Int) : DOp := ⟨9, [], [], [], n, 0, []⟩
/-- what every call that names a file looks at first -/
def openE (d : Disk) (n : List UInt8) : Int := if d.down then 3 else if !rightName n then 50 else if (atF d.files n).isNone then 51 else 0
theorem openE_zero {d : Disk} {n : List UInt8} (h : openE d n = 0) : d.down = false ∧ rightName n = true ∧ ∃ f, atF d.files n = some f := by
  unfold openE at h
  rcases hd : d.down
  · rcases hr : rightName n
    · rw [hd, hr] at h; simp at h
    · rcases ha : atF d.files n with _ | f
      · rw [hd, hr, ha] at h; simp at h
      · exact ⟨rfl, rfl, f, rfl⟩
  · rw [hd] at h; simp at h
theorem openE_cases (d : Disk) (n : List UInt8) : (openE d n = 3 ∧ d.down = true) ∨ (openE d n = 50 ∧ d.down = false ∧ rightName n = false) ∨ (openE d n = 51 ∧ d.down = false ∧ rightName n = true ∧ atF d.files n = none) ∨ (openE d n = 0 ∧ d.down = false ∧ rightName n = true ∧ ∃ f, atF d.files n = some f) := by
  unfold openE
  rcases hd : d.down
  · rcases hr : rightName n
    · exact .inr (.inl ⟨by simp, rfl, rfl⟩)
    · rcases ha : atF d.files n with _ | f
      · exact .inr (.inr (.inl ⟨by simp, rfl, rfl, rfl⟩))
      · exact .inr (.inr (.inr ⟨by simp, rfl, rfl, f, rfl⟩))
  · exact .inl ⟨by simp, rfl⟩
theorem doD_barred {d : Disk} {o : DOp} (hk : 0 ≤ o.k ∧ o.k ≤ 7) (hb : barD d o ≠ 0) : doD d o = (d, [], 0, barD d o) := by
  unfold doD
  rw [if_neg (by omega), if_neg (by omega), if_neg (by omega), if_pos hb]
/-- a step that nothing bars -/
theorem doD_step {d : Disk} {o : DOp} (hk : 0 ≤ o.k ∧ o.k ≤ 5) (hb : barD d o = 0) : doD d o = (if d.fuse = 1 then (if o.k = 1 then chgD (stepD d) o else stepD d) else chgD (stepD d) o, [], 0, if d.fuse = 1 then 3 else 0) := by
  unfold doD stepD
  rw [if_neg (by omega), if_neg (by omega), if_neg (by omega), if_neg (by simp [hb]), if_neg (by omega), if_neg (by omega)]
  by_cases hf : d.fuse = 1
  · rw [if_pos hf, if_pos hf, if_pos hf, if_pos hf]
  · rw [if_neg hf, if_neg hf, if_neg hf, if_neg hf]
theorem bar_sync (d : Disk) (n : List UInt8) : barD d (opSync n) = openE d n := by
  unfold barD openE opSync
  cases d.down
  · cases rightName n
    · rfl
    · cases atF d.files n <;> rfl
  · rfl
theorem bar_remove (d : Disk) (n : List UInt8) : barD d (opRemove n) = openE d n := by
  unfold barD openE opRemove
  cases d.down
  · cases rightName n
    · rfl
    · cases atF d.files n <;> rfl
  · rfl
theorem bar_size (d : Disk) (n : List UInt8) : barD d (opSize n) = openE d n := by
  unfold barD openE opSize
  cases d.down
  · cases rightName n
    · rfl
    · cases atF d.files n <;> rfl
  · rfl
theorem bar_cut {d : Disk} {n : List UInt8} {k : Int} : barD d (opCut n k) = if openE d n ≠ 0 then openE d n else match atF d.files n with | none => 0 | some f => if decide (k < 0) || decide ((f.data.length : Int) < k) then 1 else 0 := by
  unfold barD openE opCut
  cases d.down
  · cases rightName n
    · rfl
    · cases atF d.files n <;> rfl
  · rfl
theorem bar_append {d : Disk} {n b : List UInt8} : barD d (opAppend n b) = if openE d n ≠ 0 then openE d n else if decide (d.room - (usedF d.files : Int) < (b.length : Int)) then 54 else 0 := by
  unfold barD openE opAppend
  cases d.down
  · cases rightName n
    · rfl
    · cases atF d.files n
      · rfl
      · simp
  · rfl
theorem bar_create {d : Disk} {n : List UInt8} : barD d (opCreate n) = if openE d n = 0 then 52 else if openE d n ≠ 51 then openE d n else if decide (700 ≤ d.files.length) then 53 else 0 := by
  unfold barD openE opCreate
  cases d.down
  · cases rightName n
    · rfl
    · cases atF d.files n <;> rfl
  · rfl
theorem bar_rename {d : Disk} {n t : List UInt8} : barD d (opRename n t) = if (openE d n = 0 ∨ openE d n = 51) ∧ rightName t = false then 50 else openE d n := by
  unfold barD openE opRename
  cases d.down
  · cases rightName n
    · cases rightName t <;> rfl
    · cases rightName t
      · cases atF d.files n <;> rfl
      · cases atF d.files n <;> rfl
  · rfl

end Go.Proofs.YtlobohpbgghleaaGreatDoor
