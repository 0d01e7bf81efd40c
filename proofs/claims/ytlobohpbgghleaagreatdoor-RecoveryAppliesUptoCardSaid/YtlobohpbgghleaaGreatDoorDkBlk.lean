import Derived.Test.YtlobohpbgghleaaGreatDoorRefDisk
import Derived.Test.YtlobohpbgghleaaGreatDoorFsAppend
import Derived.Test.YtlobohpbgghleaaGreatDoorRowD
namespace Go.Proofs.YtlobohpbgghleaaGreatDoor
open Go.RowKit

/-! ## the document's disk in a call's own blocks: stores, results, the frame of change and Do -/

theorem FilAt.turned {A S : Nat → Prop} {w w' : World} {b o : Nat} {f : Fil} (h : FilAt A w b o f) (hb : A b) (ht : Turned S w w') (hS : ∀ k, A k → ¬ S k) : FilAt A w' b o f := by
  obtain ⟨dv, h1, h2⟩ := h
  exact ⟨dv, fun j u hj => ht.cell (h1 j u hj) (hS b hb), h2.turned ht hS⟩
theorem FilesIn.turned {A S : Nat → Prop} {w w' : World} {v : Value} {fs : List Fil} (h : FilesIn A w v fs) (ht : Turned S w w') (hS : ∀ k, A k → ¬ S k) : FilesIn A w' v fs := by
  obtain ⟨oa, cap, h1, h2, h3, h4⟩ := h
  refine ⟨oa, cap, h1, h2, h3, fun hn => ?_⟩
  obtain ⟨b, off, e, ha, hc⟩ := h4 hn
  exact ⟨b, off, e, ha, fun i f hf => (hc i f hf).turned ha ht hS⟩
theorem FilesIn.mono {A A' : Nat → Prop} {w : World} {v : Value} {fs : List Fil} (h : FilesIn A w v fs) (hA : ∀ k, A k → A' k) : FilesIn A' w v fs := by
  obtain ⟨oa, cap, h1, h2, h3, h4⟩ := h
  refine ⟨oa, cap, h1, h2, h3, fun hn => ?_⟩
  obtain ⟨b, off, e, ha, hc⟩ := h4 hn
  exact ⟨b, off, e, hA b ha, fun i f hf => by obtain ⟨dv, r1, r2⟩ := hc i f hf; exact ⟨dv, r1, r2.mono hA⟩⟩
theorem BRowIn.low {A : Nat → Prop} {w : World} {v : Value} {l : List UInt8} (h : BRowIn A w v l) : BRowIn (fun k => A k ∧ k < w.heap.size) w v l := by
  obtain ⟨oa', cap', e1, e2, e3⟩ := h
  refine ⟨oa', cap', e1, e2, fun hne => ?_⟩
  obtain ⟨b', off', e4, ha, hcell⟩ := e3 hne
  refine ⟨b', off', e4, ⟨ha, ?_⟩, hcell⟩
  obtain ⟨x, hx⟩ := List.exists_mem_of_ne_nil _ hne
  obtain ⟨i, hi⟩ := List.getElem?_of_mem hx
  exact World.block_lt_of_cell? w _ (hcell i x hi)
theorem FilesIn.low {A : Nat → Prop} {w : World} {v : Value} {fs : List Fil} (h : FilesIn A w v fs) : FilesIn (fun k => A k ∧ k < w.heap.size) w v fs := by
  obtain ⟨oa, cap, h1, h2, h3, h4⟩ := h
  refine ⟨oa, cap, h1, h2, h3, fun hn => ?_⟩
  obtain ⟨b, off, e, ha, hc⟩ := h4 hn
  refine ⟨b, off, e, ⟨ha, ?_⟩, fun i f hf => by obtain ⟨dv, r1, r2⟩ := hc i f hf; exact ⟨dv, r1, r2.low⟩⟩
  obtain ⟨x, hx⟩ := List.exists_mem_of_ne_nil _ hn
  obtain ⟨i, hi⟩ := List.getElem?_of_mem hx
  obtain ⟨dv, r1, _⟩ := hc i x hi
  exact World.block_lt_of_cell? w _ (r1 0 _ rfl)
theorem FilesIn.one {A : Nat → Prop} {w : World} {v : Value} {fs : List Fil} (h : FilesIn A w v fs) : v.oneCell' = true := by obtain ⟨_, _, e, _⟩ := h; rw [e]; rfl
theorem BRowIn.one {A : Nat → Prop} {w : World} {v : Value} {l : List UInt8} (h : BRowIn A w v l) : v.oneCell' = true := by obtain ⟨_, _, e, _⟩ := h; rw [e]; rfl

theorem dkCs_one (d : Disk) (fv : Value) (h : fv.oneCell' = true) : (dkCs d fv).all (·.oneCell') = true :=
  Array.all_eq_true_iff_forall_mem.2 (by
    intro v hv
    simp only [dkCs, List.mem_toArray, List.mem_cons, List.not_mem_nil, or_false] at hv
    rcases hv with rfl | rfl | rfl | rfl | rfl | rfl <;> first | rfl | assumption)
theorem DkBlk.row {w : World} {g : Nat} {d d' : Disk} {fv fv' : Value} (h : DkBlk w g d fv) : DkBlk (w.setRow g (dkCs d' fv')) g d' fv' := setRow_heap w g _ _ _ _ h
theorem wpList_store_dk {ops : Array Oper} {rest : List Oper} {o : Oper} {a : Act} {w : World} {Q : Exit → Act → World → Prop} (hgd : o.guard = none) (x y : Operand) (ho : o.op = .store 51 x y)
    (g : Nat) (d d' : Disk) (fv fv' : Value) (hx : a.eval x = .pointer (some ⟨g, 0, none⟩)) (hy : a.eval y = dkV d' fv') (hE : DkBlk w g d fv) (h1 : fv'.oneCell' = true)
    (h : ∀ W, Hid (W = w.setRow g (dkCs d' fv')) → wpList Tryz.prog ops Q rest (a.put o.dst undef) W) : wpList Tryz.prog ops Q (o :: rest) a w :=
  wpList_store_row hgd 51 x y ho g (dkCs d' fv') hx hy 51 (dkCs d fv) hE dkInfo rfl (dkCs_one d' fv' h1) (h _ (Lib.hid rfl))
theorem run_load_dk {w : World} {g : Nat} {d : Disk} {fv : Value} (hE : DkBlk w g d fv) : (loadVar 51 ⟨g, 0, none⟩).run Tryz.prog w = .ok (dkV d fv) w :=
  run_loadVar_row (P := Tryz.prog) w g 51 51 (dkCs d fv) (0, 0) _ hE Tryz.underlying51 rfl dkInfo
theorem results_dk1 {fn : Func} {p : Tmp} (h : fn.results = #[.cell p 51]) (tmps : Array Value) (w : World) (g : Nat) (d : Disk) (fv : Value)
    (hp : tmps.getD p undef = .pointer (some ⟨g, 0, none⟩)) (hE : DkBlk w g d fv) : (results fn tmps).run Tryz.prog w = .ok (dkV d fv) w := by
  have hl := run_load_dk hE
  have hp' : tmps[p]?.getD undef = .pointer (some ⟨g, 0, none⟩) := by simpa using hp
  simp [results, h, hp', asAddr, hl]
theorem results_dk2 {fn : Func} {p q : Tmp} (h : fn.results = #[.cell p 51, .tmp q]) (tmps : Array Value) (w : World) (g : Nat) (d : Disk) (fv x : Value)
    (hp : tmps.getD p undef = .pointer (some ⟨g, 0, none⟩)) (hq : tmps.getD q undef = x) (hE : DkBlk w g d fv) : (results fn tmps).run Tryz.prog w = .ok (.tuple #[dkV d fv, x]) w := by
  have hl := run_load_dk hE
  have hp' : tmps[p]?.getD undef = .pointer (some ⟨g, 0, none⟩) := by simpa using hp
  have hq' : tmps[q]?.getD undef = x := by simpa using hq
  simp [results, h, hp', hq', asAddr, hl]
theorem results_dk4 {fn : Func} {p q r s : Tmp} (h : fn.results = #[.cell p 51, .tmp q, .tmp r, .tmp s]) (tmps : Array Value) (w : World) (g : Nat) (d : Disk) (fv x y z : Value)
    (hp : tmps.getD p undef = .pointer (some ⟨g, 0, none⟩)) (hq : tmps.getD q undef = x) (hr : tmps.getD r undef = y) (hs : tmps.getD s undef = z) (hE : DkBlk w g d fv) : (results fn tmps).run Tryz.prog w = .ok (.tuple #[dkV d fv, x, y, z]) w := by
  have hl := run_load_dk hE
  have hp' : tmps[p]?.getD undef = .pointer (some ⟨g, 0, none⟩) := by simpa using hp
  have hq' : tmps[q]?.getD undef = x := by simpa using hq
  have hr' : tmps[r]?.getD undef = y := by simpa using hr
  have hs' : tmps[s]?.getD undef = z := by simpa using hs
  simp [results, h, hp', hq', hr', hs', asAddr, hl]

theorem below_row {w0 w : World} {B g : Nat} (h : Below B w0 w) (hg : B ≤ g) (cs : Array Value) : Below B w0 (w.setRow g cs) :=
  ⟨h.os, h.tape, h.output, by simpa using h.size, fun k hk => by rw [setRow_other _ _ _ _ (by omega)]; exact h.block k hk⟩
/-- the blocks of change and Do: the disk, the call, the result -/
structure ChW (w : World) (d : Disk) (fv : Value) (o : DOp) (bv kv : Value) (W : World) : Prop where
  dk : DkBlk W w.heap.size d fv
  op : OpBlk W (w.heap.size + 1) o bv kv
  res : ∃ rd rv, DkBlk W (w.heap.size + 1 + 1) rd rv
  below : Below w.heap.size w W
  size : w.heap.size + 3 ≤ W.heap.size
section
variable {w W W' : World} {d d' : Disk} {fv fv' : Value} {o : DOp} {bv kv : Value}
theorem ChW.start (w : World) (d : Disk) (fv : Value) (o : DOp) (bv kv : Value) (rd : Disk) (rv : Value) :
    ChW w d fv o bv kv (((w.alloc (.cells (dkCs d fv) 51)).alloc (.cells (opCs o bv kv) 59)).alloc (.cells (dkCs rd rv) 51)) := by
  have sz : ∀ (w : World) (o : Obj), (w.alloc o).heap.size = w.heap.size + 1 := fun w o => by simp
  have h2 := opBlk_alloc (w.alloc (.cells (dkCs d fv) 51)) o bv kv
  have h3 := dkBlk_alloc ((w.alloc (.cells (dkCs d fv) 51)).alloc (.cells (opCs o bv kv) 59)) rd rv
  rw [sz] at h2
  rw [sz, sz] at h3
  exact ⟨((dkBlk_alloc w d fv).below (below_alloc _ _)).below (below_alloc _ _), h2.below (below_alloc _ _), ⟨rd, rv, h3⟩, Below.next (Below.next (below_alloc _ _) (below_alloc _ _)) (below_alloc _ _), by rw [sz, sz, sz]; omega⟩
theorem ChW.keep (h : ChW w d fv o bv kv W) {B : Nat} (hb : Below B W W') (hB : w.heap.size + 3 ≤ B) : ChW w d fv o bv kv W' := by
  obtain ⟨rd, rv, hr⟩ := h.res
  exact ⟨h.dk.keep hb (by omega), h.op.keep hb (by omega), ⟨rd, rv, hr.keep hb (by omega)⟩, h.below.trans (hb.mono (by omega)), Nat.le_trans h.size hb.size⟩
theorem ChW.next (h : ChW w d fv o bv kv W) (hb : Below W.heap.size W W') : ChW w d fv o bv kv W' := h.keep hb h.size
theorem ChW.set (h : ChW w d fv o bv kv W) (j : Nat) (v : Value) (e : (dkCs d fv).setIfInBounds j v = dkCs d' fv') : ChW w d' fv' o bv kv (W.setCell ⟨w.heap.size, j, none⟩ v) := by
  obtain ⟨rd, rv, hr⟩ := h.res
  exact ⟨h.dk.set j v e, h.op.otherCell (by omega) j v, ⟨rd, rv, hr.otherCell (by omega) j v⟩, h.below.setCell (p := ⟨w.heap.size, j, none⟩) (Nat.le_refl _) v, by simpa [World.setCell] using h.size⟩
theorem ChW.setAll (h : ChW w d fv o bv kv W) (hW : W' = W.setRow w.heap.size (dkCs d' fv')) : ChW w d' fv' o bv kv W' := by
  subst hW
  obtain ⟨rd, rv, hr⟩ := h.res
  exact ⟨h.dk.row, by unfold OpBlk; rw [setRow_other _ _ _ _ (by omega)]; exact h.op, ⟨rd, rv, by unfold DkBlk; rw [setRow_other _ _ _ _ (by omega)]; exact hr⟩, below_row h.below (Nat.le_refl _) _, by simpa using h.size⟩
/-- the result is laid -/
theorem ChW.done (h : ChW w d fv o bv kv W) (hW : W' = W.setRow (w.heap.size + 1 + 1) (dkCs d' fv')) : DkBlk W' (w.heap.size + 1 + 1) d' fv' ∧ Below w.heap.size w W' ∧ Turned (fun k => k = w.heap.size + 1 + 1) W W' := by
  subst hW
  obtain ⟨rd, rv, hr⟩ := h.res
  exact ⟨hr.row, below_row h.below (by omega) _, ⟨rfl, rfl, rfl, by simp, fun k _ hn => setRow_other _ _ _ _ hn⟩⟩
end
/-- the blocks that rows may lie in, of a call that begins with b blocks and lays e - b of its own that turn -/
def Out (A : Nat → Prop) (b e : Nat) (k : Nat) : Prop := A k ∧ (k < b ∨ e ≤ k)
theorem turned_set {b e : Nat} (w : World) (p : Addr) (v : Value) (h1 : b ≤ p.block) (h2 : p.block < e) : Turned (fun k => b ≤ k ∧ k < e) w (w.setCell p v) := Turned.setCell _ _ _ ⟨h1, h2⟩
theorem out_not {A : Nat → Prop} {b e : Nat} : ∀ k, Out A b e k → ¬ (b ≤ k ∧ k < e) := fun k h => by have := h.2; omega

theorem FlBlk.c1 {w : World} {g : Nat} {f : Fil} {dv : Value} (h : FlBlk w g f dv) : w.cell? ⟨g, 1, none⟩ = some dv := h.range 1 _ rfl
theorem FlBlk.c2 {w : World} {g : Nat} {f : Fil} {dv : Value} (h : FlBlk w g f dv) : w.cell? ⟨g, 2, none⟩ = some (.int .i64 f.safe) := h.range 2 _ rfl
theorem FlBlk.free {w : World} {g : Nat} {f : Fil} {dv : Value} (h : FlBlk w g f dv) (j : Nat) : w.frozen? ⟨g, j, none⟩ = false := by unfold FlBlk at h; simp [World.frozen?, h]
theorem FlBlk.set {w : World} {g : Nat} {f f' : Fil} {dv dv' : Value} (h : FlBlk w g f dv) (j : Nat) (v : Value) (e : (flCs f dv).setIfInBounds j v = flCs f' dv') : FlBlk (w.setCell ⟨g, j, none⟩ v) g f' dv' := by
  unfold FlBlk at h ⊢
  rw [← e]
  simp only [World.setCell]
  rw [Array.getElem?_modify]
  simp [h]
theorem flCs_all (f : Fil) (v : Value) (h : v.oneCell' = true) : (flCs f v).all (·.oneCell') = true :=
  Array.all_eq_true_iff_forall_mem.2 (by
    intro u hu
    simp only [flCs, List.mem_toArray, List.mem_cons, List.not_mem_nil, or_false] at hu
    rcases hu with rfl | rfl | rfl <;> first | rfl | assumption)
/-- change, when the file has been taken out: the file, the rest -/
structure ChT (A : Nat → Prop) (w : World) (d : Disk) (fv : Value) (o : DOp) (bv kv : Value) (g : Nat) (f : Fil) (dv : Value) (fs : List Fil) (v : Value) (W : World) : Prop where
  ch : ChW w d fv o bv kv W
  fl : FlBlk W g f dv
  row : FilesIn (Out A w.heap.size (g + 1)) W v fs
  dat : BRowIn (Out A w.heap.size (g + 1)) W dv f.data
  lo : w.heap.size + 1 + 1 + 1 ≤ g
  hi : g < W.heap.size
section
variable {A : Nat → Prop} {w W W' : World} {d : Disk} {fv : Value} {o : DOp} {bv kv : Value} {g : Nat} {f f' : Fil} {dv dv' : Value} {fs fs' : List Fil} {v v' : Value}
theorem ChT.next (h : ChT A w d fv o bv kv g f dv fs v W) (hb : Below W.heap.size W W') : ChT A w d fv o bv kv g f dv fs v W' :=
  ⟨h.ch.next hb, h.fl.below hb, h.row.below hb, h.dat.below hb, h.lo, Nat.lt_of_lt_of_le h.hi hb.size⟩
theorem ChT.set (h : ChT A w d fv o bv kv g f dv fs v W) (j : Nat) (u : Value) (e : (flCs f dv).setIfInBounds j u = flCs f' dv') (hd : BRowIn (Out A w.heap.size (g + 1)) W dv' f'.data) (hW : W' = W.setCell ⟨g, j, none⟩ u) : ChT A w d fv o bv kv g f' dv' fs v W' := by
  subst hW
  have hlo := h.lo
  have ht : Turned (fun k => w.heap.size ≤ k ∧ k < g + 1) W (W.setCell ⟨g, j, none⟩ u) := turned_set _ ⟨g, j, none⟩ u (by show w.heap.size ≤ g; omega) (Nat.lt_succ_self g)
  exact ⟨h.ch.keep (B := g) ((Below.refl _ _).setCell (p := ⟨g, j, none⟩) (Nat.le_refl _) u) hlo, h.fl.set j u e, h.row.turned ht out_not, hd.turned ht out_not, hlo, by simpa [World.setCell] using h.hi⟩
theorem ChT.withRow (h : ChT A w d fv o bv kv g f dv fs v W) (hr : FilesIn (Out A w.heap.size (g + 1)) W v' fs') : ChT A w d fv o bv kv g f dv fs' v' W := ⟨h.ch, h.fl, hr, h.dat, h.lo, h.hi⟩
theorem ChT.new (h : ChT A w d fv o bv kv g f dv fs v W) (hA : ∀ k, w.heap.size ≤ k → A k) : ∀ k, W.heap.size ≤ k → Out A w.heap.size (g + 1) k := fun k hk => ⟨hA k (Nat.le_trans h.ch.below.size hk), .inr (Nat.le_trans h.hi hk)⟩
end
theorem takeF_le (n : List UInt8) (fs : List Fil) : (takeF n fs).length ≤ fs.length := List.length_filter_le _ _
theorem BRowIn.take {A : Nat → Prop} {w : World} {ao : Option Addr} {cap n : Nat} {l : List UInt8} (h : BRowIn A w (.slice ao l.length cap) l) (hn : n ≤ l.length) : BRowIn A w (.slice ao n cap) (l.take n) := by
  obtain ⟨oa, cap', e, h2, h3⟩ := h
  simp only [Value.slice.injEq, true_and] at e
  obtain ⟨rfl, rfl⟩ := e
  have hl : (l.take n).length = n := by rw [List.length_take]; omega
  refine ⟨ao, cap, by rw [hl], by omega, fun hne => ?_⟩
  obtain ⟨b, off, e, ha, hc⟩ := h3 (by rintro rfl; simp at hne)
  refine ⟨b, off, e, ha, fun i x hx => hc i x ?_⟩
  have hi := (List.getElem?_eq_some_iff.1 hx).1
  rw [hl] at hi
  rwa [List.getElem?_take_of_lt hi] at hx

end Go.Proofs.YtlobohpbgghleaaGreatDoor

namespace Go.Proofs.YtlobohpbgghleaaGreatDoor
open Go.RowKit

/-! ## a row of calls of one's own -/

/-- what an append onto a row of type e keeps: every row of another type -/
def KeptT (e : TypeId) (w w' : World) : Prop := ∀ (k : Nat) (cs : Array Value) (t : TypeId) (fr : Nat × Nat), w.heap[k]? = some (.cells cs t fr) → t ≠ e → w'.heap[k]? = w.heap[k]?
theorem DatAt.keptT {e : TypeId} {w w' : World} {v : Value} {l : List UInt8} (h : DatAt w v l) (hk : KeptT e w w') (he : 5 ≠ e) : DatAt w' v l := by
  refine h.kept fun g hg => ?_
  rcases h with ⟨_, ao, rfl⟩ | ⟨g', cap, cur, rfl, h0, h1, _⟩
  · cases ao <;> simp [datBlk] at hg
  · simp only [datBlk, if_neg (show ¬ cap = 0 by omega), Option.some.injEq] at hg
    subst hg
    exact hk _ _ _ _ h1 he
def opZ : Value := .slice none 0 0
abbrev OwnO := OwnD (α := DOp) 59 7 (fun o v => (opCs o v (.slice none 0 0)).toList) (fun o => o.b)
def zeroOp : Value := .agg #[.int .i64 0, .string ByteArray.empty, .string ByteArray.empty, .slice none 0 0, .int .i64 0, .int .i64 0, .slice none 0 0]
theorem infoOp : (Tryz.prog.info? 59).map (fun i => (i.zero, i.size, i.bytes)) = some (some zeroOp, 7, 104) := by kernel_rfl
theorem opCs_one (o : DOp) (v : Value) (h : v.oneCell' = true) : ∀ u ∈ (opCs o v (.slice none 0 0)).toList, u.oneCell' = true := by
  intro u hu
  simp only [opCs, List.mem_cons, List.not_mem_nil, or_false] at hu
  rcases hu with rfl | rfl | rfl | rfl | rfl | rfl | rfl <;> first | rfl | assumption
theorem wpList_appO {ops : Array Oper} {rest : List Oper} {o : Oper} {a : Act} {Q : Exit → Act → World → Prop} {w : World} (news : List (DOp × Value)) {m : Nat} {cells : Array Value} (hgd : o.guard = none) (s y : Operand) (ho : o.op = .call { callee := .builtin .append, args := #[s, y], argTypes := #[103, 103] })
    {B : Nat} {v : Value} {ps : List (DOp × Value)} (hs : a.eval s = v) (hy : a.eval y = .slice (some ⟨w.heap.size, 0, none⟩) m m) (hm : m = news.length) (hcells : cells.toList = news.flatMap fun p => (opCs p.1 p.2 (.slice none 0 0)).toList) (hown : OwnO w B v ps) (hB : B ≤ w.heap.size)
    (hd : ∀ p ∈ news, DatAt w p.2 p.1.b ∧ ∀ g, datBlk p.2 = some g → B ≤ g) (hl : ps.length + m ≤ 1000000000)
    (h : ∀ v' w', OwnO w' B v' (ps ++ news) → Below B w w' → w.heap.size ≤ w'.heap.size → KeptT 59 w w' → wpList Tryz.prog ops Q rest (a.put o.dst v') w') : wpList Tryz.prog ops Q (o :: rest) a (w.alloc (.cells cells 59)) := by
  obtain ⟨i0, hi, hz0, hz1, hz2⟩ := info_parts infoOp
  have hb := below_alloc w (.cells cells 59)
  have hcl : ∀ qs : List (DOp × Value), (qs.flatMap fun p => (opCs p.1 p.2 (.slice none 0 0)).toList).length = qs.length * 7 := fun qs => by
    induction qs with
    | nil => simp
    | cons q qs ih => rw [List.flatMap_cons, List.length_append, ih, List.length_cons]; simp [opCs]; omega
  have hone : ∀ (x : Value) (l : List UInt8), DatAt w x l → x.oneCell' = true := fun x l hx => by
    obtain ⟨_, _, e1, _⟩ := hx.shape
    rw [e1]; rfl
  have hne : (59 : TypeId) ≠ 5 := by decide
  subst hm
  refine wpList_append_own _ hgd s y _ ho B 59 i0 zeroOp 7 104 Tryz.underlying103 hi hz0 hz1 hz2 rfl (by decide) v ps.length _ hs (own_later hown.1 hb) ⟨w.heap.size, 0, none⟩ news.length news.length (news.flatMap fun p => (opCs p.1 p.2 (.slice none 0 0)).toList) hy (hcl news) (fun j u hj => ?_) (fun u hu => ?_) (by unfold maxLen; omega) (by omega) (Nat.le_trans hB hb.size) ?_
  · rw [addr_add, Nat.zero_add, World.cell?_alloc_new, ← hcells] at *
    simpa using hj
  · obtain ⟨p, hp, hu⟩ := List.mem_flatMap.1 hu
    exact opCs_one _ _ (hone _ _ (hd p hp).1) u hu
  · intro v' w' hown' hg _
    have hrow0 := own_later hown.1 hb
    have hb2 := below_of_grown hrow0 (Nat.le_trans hB hb.size) hg
    have hkt : KeptT 59 (w.alloc (.cells cells 59)) w' := fun k cs t fr hk ht => hg.block k (Array.getElem?_eq_some_iff.1 hk).1 fun e1 => by
      rcases hrow0.2 with ⟨rfl, _⟩ | ⟨g, cap', cur', rfl, _, hbb, _⟩
      · cases e1
      · have e2 : k = g := Option.some.inj e1
        subst e2
        rw [hk] at hbb
        simp only [Option.some.injEq, Obj.cells.injEq] at hbb
        exact ht hbb.2.1
    have keep : ∀ (x : Value) (l : List UInt8), DatAt w x l → DatAt w' x l := fun x l hx => (hx.later hb).keptT hkt (by decide)
    refine h v' w' ⟨?_, fun p hp => ?_⟩ ((hb.mono hB).trans hb2) (Nat.le_trans hb.size hg.size) (fun k cs t fr hk ht => ?_)
    · rw [List.length_append, List.flatMap_append]
      exact hown'
    · rcases List.mem_append.1 hp with hp | hp
      · exact ⟨keep _ _ (hown.2 p hp).1, (hown.2 p hp).2⟩
      · exact ⟨keep _ _ (hd p hp).1, (hd p hp).2⟩
    · rw [hkt k cs t fr (by rw [hb.block k (Array.getElem?_eq_some_iff.1 hk).1]; exact hk) ht, hb.block k (Array.getElem?_eq_some_iff.1 hk).1]
/-- calls as they lie in memory -/
def OpsIn (A : Nat → Prop) (w : World) (v : Value) (os : List DOp) : Prop :=
  ∃ oa cap, v = .slice oa os.length cap ∧ os.length ≤ cap ∧ cap ≤ 9223372036854775807 ∧ ∀ (i : Nat) o, os[i]? = some o → ∃ b off bv, oa = some ⟨b, off, none⟩ ∧ A b ∧ w.rangeAt b (off + i * 7) (opCs o bv (.slice none 0 0)).toList ∧ BRowIn A w bv o.b
theorem opCells_at : ∀ (rs : List (DOp × Value)) (i : Nat) (r : DOp × Value), rs[i]? = some r → ∀ (j : Nat) u, (opCs r.1 r.2 (.slice none 0 0))[j]? = some u → (rs.flatMap fun p => (opCs p.1 p.2 (.slice none 0 0)).toList)[i * 7 + j]? = some u
  | [], i, r, h, _, _, _ => by simp at h
  | x :: rs, 0, r, h, j, u, hj => by
    simp at h; subst h
    have hl : j < 7 := by have := (Array.getElem?_eq_some_iff.1 hj).1; simpa [opCs] using this
    rw [List.flatMap_cons, Nat.zero_mul, Nat.zero_add, List.getElem?_append_left (by simpa [opCs] using hl)]
    simpa using hj
  | x :: rs, i + 1, r, h, j, u, hj => by
    have := opCells_at rs i r (by simpa using h) j u hj
    rw [List.flatMap_cons, List.getElem?_append_right (by simp [opCs]; omega)]
    rw [← this]
    congr 1
    simp [opCs]; omega
theorem OwnO.ops {A : Nat → Prop} {w : World} {B : Nat} {v : Value} {ps : List (DOp × Value)} (h : OwnO w B v ps) (hA : ∀ k, B ≤ k → A k) : OpsIn A w v (ps.map (·.1)) := by
  by_cases hn : ps = []
  · subst hn
    rcases h.1.2 with ⟨rfl, _⟩ | ⟨g, cap, cur, rfl, _, _, h1, h2, _⟩
    · exact ⟨none, 0, rfl, Nat.le_refl _, by decide, fun i o hi => by simp at hi⟩
    · exact ⟨_, cap, rfl, h1, by unfold maxLen at h2; omega, fun i o hi => by simp at hi⟩
  · obtain ⟨g, cap, rfl, hB, _, h1, h2, h3⟩ := own_get h.1 (List.length_pos_iff.2 hn)
    refine ⟨_, cap, by rw [List.length_map], by rw [List.length_map]; exact h1, by unfold maxLen at h2; omega, fun i o hi => ?_⟩
    rw [List.getElem?_map] at hi
    obtain ⟨p, hp, rfl⟩ := Option.map_eq_some_iff.1 hi
    exact ⟨g, 0, p.2, rfl, hA g hB, fun j u hj => by rw [Nat.zero_add]; exact h3 _ _ (opCells_at ps i p hp j u (by simpa using hj)), browIn_dat (h.2 p (List.mem_of_getElem? hp)).1 fun g' hg' => hA g' ((h.2 p (List.mem_of_getElem? hp)).2 g' hg')⟩
theorem OpsIn.below {A : Nat → Prop} {w w' : World} {v : Value} {os : List DOp} (h : OpsIn A w v os) (hb : Below w.heap.size w w') : OpsIn A w' v os := by
  obtain ⟨oa, cap, h1, h2, h3, h4⟩ := h
  exact ⟨oa, cap, h1, h2, h3, fun i o hi => by obtain ⟨b, off, bv, e, ha, hr, hv⟩ := h4 i o hi; exact ⟨b, off, bv, e, ha, range_later hr hb, hv.below hb⟩⟩

end Go.Proofs.YtlobohpbgghleaaGreatDoor
