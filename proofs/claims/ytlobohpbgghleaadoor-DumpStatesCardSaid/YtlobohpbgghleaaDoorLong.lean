import Derived.Test.YtlobohpbgghleaaDoorLongPlain
import Derived.Test.YtlobohpbgghleaaDoorRefHex
import Derived.Test.YtlobohpbgghleaaDoorOwn
import Derived.Laws.StructEq
import Derived.Deep.RegionHeld3
namespace Go.Proofs.YtlobohpbgghleaaDoor
open Go.RowKit

/-! ## long numbers in memory -/

def lgCs (b : Bool) (l : List Nat) : Array Value := (Value.bool b :: l.map fun (d : Nat) => Value.int .u64 (d : Int)).toArray
@[reducible] def lgV (b : Bool) (l : List Nat) : Value := .agg (lgCs b l)
def LgBlk (w : World) (g : Nat) (b : Bool) (l : List Nat) : Prop := w.heap[g]? = some (.cells (lgCs b l) 78 (0, 0))
theorem LgBlk.lt {w : World} {g : Nat} {b : Bool} {l : List Nat} (h : LgBlk w g b l) : g < w.heap.size := (Array.getElem?_eq_some_iff.1 h).1
theorem LgBlk.below {w w' : World} {g : Nat} {b : Bool} {l : List Nat} (h : LgBlk w g b l) (hb : Below w.heap.size w w') : LgBlk w' g b l := by unfold LgBlk; rw [hb.block g h.lt]; exact h
theorem LgBlk.cell {w : World} {g : Nat} {b : Bool} {l : List Nat} (h : LgBlk w g b l) (j : Nat) : w.cell? ⟨g, j, none⟩ = (lgCs b l)[j]? := by
  unfold LgBlk at h; simp [World.cell?, h]
theorem LgBlk.dig {w : World} {g : Nat} {b : Bool} {l : List Nat} (h : LgBlk w g b l) {k d : Nat} (hd : l[k]? = some d) : w.cell? ⟨g, 1 + k, none⟩ = some (.int .u64 (d : Int)) := by
  rw [h.cell, lgCs, Nat.add_comm]; simp [hd]
theorem LgBlk.sign {w : World} {g : Nat} {b : Bool} {l : List Nat} (h : LgBlk w g b l) : w.cell? ⟨g, 0, none⟩ = some (.bool b) := by rw [h.cell, lgCs]; rfl
theorem LgBlk.free {w : World} {g : Nat} {b : Bool} {l : List Nat} (h : LgBlk w g b l) (j : Nat) : w.frozen? ⟨g, j, none⟩ = false := by
  unfold LgBlk at h; simp [World.frozen?, h]
theorem LgBlk.put {w : World} {g : Nat} {b : Bool} {l : List Nat} (h : LgBlk w g b l) (k d : Nat) : LgBlk (w.setCell ⟨g, 1 + k, none⟩ (.int .u64 (d : Int))) g b (l.set k d) := by
  unfold LgBlk at h ⊢
  have e : (lgCs b l).setIfInBounds (1 + k) (.int .u64 (d : Int)) = lgCs b (l.set k d) := by
    unfold lgCs
    rw [List.map_set]
    simp [Nat.add_comm 1 k]
  rw [← e]
  simp only [World.setCell]
  rw [Array.getElem?_modify]
  simp [h]
theorem LgBlk.putSign {w : World} {g : Nat} {b : Bool} {l : List Nat} (h : LgBlk w g b l) (b' : Bool) : LgBlk (w.setCell ⟨g, 0, none⟩ (.bool b')) g b' l := by
  unfold LgBlk at h ⊢
  have e : (lgCs b l).setIfInBounds 0 (.bool b') = lgCs b' l := by unfold lgCs; simp
  rw [← e]
  simp only [World.setCell]
  rw [Array.getElem?_modify]
  simp [h]
theorem LgBlk.other {w : World} {g k : Nat} {b : Bool} {l : List Nat} (h : LgBlk w g b l) (hn : g ≠ k) (j : Nat) (v : Value) : LgBlk (w.setCell ⟨k, j, none⟩ v) g b l := by
  unfold LgBlk at h ⊢
  simp only [World.setCell]
  rw [Array.getElem?_modify]
  simp [h, Ne.symm hn]
theorem LgBlk.row {w : World} {g : Nat} {b : Bool} {l : List Nat} (h : LgBlk w g b l) (b' : Bool) (l' : List Nat) : LgBlk (w.setRow g (lgCs b' l')) g b' l' := setRow_heap w g _ _ _ _ h
theorem LgBlk.rowOther {w : World} {g k : Nat} {b : Bool} {l : List Nat} (h : LgBlk w g b l) (hn : g ≠ k) (cs : Array Value) : LgBlk (w.setRow k cs) g b l := by unfold LgBlk; rw [setRow_other _ _ _ _ hn]; exact h
theorem lgBlk_alloc (w : World) (b : Bool) (l : List Nat) : LgBlk (w.alloc (.cells (lgCs b l) 78)) w.heap.size b l := heap_alloc_new w _

theorem lgInfo : (Tryd.prog.info? 78).map (·.size) = some 17 := by kernel_rfl
theorem lgCs_size {b : Bool} {l : List Nat} (h : Digs l) : (lgCs b l).size = 17 := by simp [lgCs, h.1]
theorem lgCs_one (b : Bool) (l : List Nat) : (lgCs b l).all (·.oneCell') = true :=
  Array.all_eq_true_iff_forall_mem.2 (by
    intro v hv
    simp only [lgCs, List.mem_toArray, List.mem_cons, List.mem_map] at hv
    rcases hv with rfl | ⟨_, _, rfl⟩ <;> rfl)
theorem wpList_store_lg {ops : Array Oper} {rest : List Oper} {o : Oper} {a : Act} {w : World} {Q : Exit → Act → World → Prop} (hgd : o.guard = none) (x y : Operand) (ho : o.op = .store 78 x y)
    (g : Nat) (b b' : Bool) (l l' : List Nat) (hx : a.eval x = .pointer (some ⟨g, 0, none⟩)) (hy : a.eval y = lgV b' l') (hE : LgBlk w g b l) (hd : Digs l) (hd' : Digs l')
    (h : wpList Tryd.prog ops Q rest (a.put o.dst undef) (w.setRow g (lgCs b' l'))) : wpList Tryd.prog ops Q (o :: rest) a w :=
  wpList_store_row hgd 78 x y ho g (lgCs b' l') hx hy 78 (lgCs b l) hE (by rw [lgInfo, lgCs_size hd']) (by rw [lgCs_size hd, lgCs_size hd']) (lgCs_one b' l') h

theorem wpList_load_lg {ops : Array Oper} {rest : List Oper} {o : Oper} {a : Act} {w : World} {Q : Exit → Act → World → Prop} (hgd : o.guard = none) (x : Operand) (ho : o.op = .load 78 x)
    (g : Nat) (b : Bool) (l : List Nat) (hx : a.eval x = .pointer (some ⟨g, 0, none⟩)) (hE : LgBlk w g b l) (hd : Digs l)
    (h : wpList Tryd.prog ops Q rest (a.put o.dst (lgV b l)) w) : wpList Tryd.prog ops Q (o :: rest) a w :=
  wpList_load_row hgd 78 x ho g hx 78 (lgCs b l) (0, 0) _ hE Tryd.underlying78 rfl (by rw [lgInfo, lgCs_size hd]) h

theorem results_lg {fn : Func} {p : Tmp} (h : fn.results = #[.cell p 78]) (tmps : Array Value) (w : World) (g : Nat) (b : Bool) (l : List Nat)
    (hp : tmps.getD p undef = .pointer (some ⟨g, 0, none⟩)) (hE : LgBlk w g b l) (hd : Digs l) : (results fn tmps).run Tryd.prog w = .ok (lgV b l) w := by
  have hl := run_loadVar_row (P := Tryd.prog) w g 78 78 (lgCs b l) (0, 0) _ hE Tryd.underlying78 rfl (by rw [lgInfo, lgCs_size hd])
  have hp' : tmps[p]?.getD undef = .pointer (some ⟨g, 0, none⟩) := by simpa using hp
  simp [results, h, hp', asAddr, hl]
theorem results_lg2 {fn : Func} {p q : Tmp} (h : fn.results = #[.cell p 78, .cell q 78]) (tmps : Array Value) (w : World) (g g' : Nat) (b b' : Bool) (l l' : List Nat)
    (hp : tmps.getD p undef = .pointer (some ⟨g, 0, none⟩)) (hq : tmps.getD q undef = .pointer (some ⟨g', 0, none⟩)) (hE : LgBlk w g b l) (hE' : LgBlk w g' b' l') (hd : Digs l) (hd' : Digs l') :
    (results fn tmps).run Tryd.prog w = .ok (.tuple #[lgV b l, lgV b' l']) w := by
  have hl := run_loadVar_row (P := Tryd.prog) w g 78 78 (lgCs b l) (0, 0) _ hE Tryd.underlying78 rfl (by rw [lgInfo, lgCs_size hd])
  have hl' := run_loadVar_row (P := Tryd.prog) w g' 78 78 (lgCs b' l') (0, 0) _ hE' Tryd.underlying78 rfl (by rw [lgInfo, lgCs_size hd'])
  have hp' : tmps[p]?.getD undef = .pointer (some ⟨g, 0, none⟩) := by simpa using hp
  have hq' : tmps[q]?.getD undef = .pointer (some ⟨g', 0, none⟩) := by simpa using hq
  simp [results, h, hp', hq', asAddr, hl, hl']
theorem below_row {a w : World} (h : Below a.heap.size a w) {g : Nat} (hg : a.heap.size ≤ g) (cs : Array Value) : Below a.heap.size a (w.setRow g cs) :=
  ⟨h.os, h.tape, h.output, by simpa using h.size, fun i hi => by rw [setRow_other _ _ _ _ (by omega)]; exact h.block i hi⟩
def lg0 : List Nat := List.replicate 16 0
theorem lg0_digs : Digs lg0 := digs_zero

theorem four_start (w : World) (b1 b2 b3 b4 : Bool) (x y z u : List Nat) (W : World) (hW : W = (((w.alloc (.cells (lgCs b1 x) 78)).alloc (.cells (lgCs b2 y) 78)).alloc (.cells (lgCs b3 z) 78)).alloc (.cells (lgCs b4 u) 78)) :
    LgBlk W w.heap.size b1 x ∧ LgBlk W (w.heap.size + 1) b2 y ∧ LgBlk W (w.heap.size + 1 + 1) b3 z ∧ LgBlk W (w.heap.size + 1 + 1 + 1) b4 u ∧ Below w.heap.size w W := by
  subst hW
  have h1 := lgBlk_alloc w b1 x
  have h2 := lgBlk_alloc (w.alloc (.cells (lgCs b1 x) 78)) b2 y
  have h3 := lgBlk_alloc ((w.alloc (.cells (lgCs b1 x) 78)).alloc (.cells (lgCs b2 y) 78)) b3 z
  have h4 := lgBlk_alloc (((w.alloc (.cells (lgCs b1 x) 78)).alloc (.cells (lgCs b2 y) 78)).alloc (.cells (lgCs b3 z) 78)) b4 u
  have a : ∀ (w : World) (o : Obj), Below w.heap.size w (w.alloc o) := fun w o => (Below.refl _ _).alloc (Nat.le_refl _) _
  simp only [show ∀ (w : World) (o : Obj), (w.alloc o).heap.size = w.heap.size + 1 from fun w o => by simp] at h2 h3 h4
  exact ⟨((h1.below (a _ _)).below (a _ _)).below (a _ _), (h2.below (a _ _)).below (a _ _), h3.below (a _ _), h4, Below.next (Below.next (Below.next (a _ _) (a _ _)) (a _ _)) (a _ _)⟩

set_option maxRecDepth 100000 in
set_option maxHeartbeats 4000000 in
theorem up_any (b1 b2 : Bool) (x y : List Nat) (w : World) (hx : Digs x) (hy : Digs y) (hlt : lval x + lval y < 65536 ^ 16) :
    Calls Tryd.prog 56 #[lgV b1 x, lgV b2 y] w fun e w' => ∃ z, e = .returned (lgV b1 z) ∧ Digs z ∧ lval z = lval x + lval y ∧ Below w.heap.size w w' := by
  have HX := Lib.hid hx
  have HY := Lib.hid hy
  have HLT := Lib.hid hlt
  clear hx hy hlt
  have s1 : (lgCs b1 x)[0]? = some (.bool b1) := rfl
  go_enter Tryd.func56, Tryd.ntmps56
  go_wp2
  clear s1
  go_loopw [6, 7] (fun cv iv wr => ∃ (k c : Nat) (z : List Nat), k ≤ 16 ∧ iv = .int .i64 k ∧ cv = .int .u64 (c : Int) ∧ Hid (UpI x y k z c) ∧ Hid (LgBlk wr w.heap.size b1 x ∧ LgBlk wr (w.heap.size + 1) b2 y ∧ LgBlk wr (w.heap.size + 1 + 1) false lg0 ∧ LgBlk wr (w.heap.size + 1 + 1 + 1) b1 z ∧ Below w.heap.size w wr)) (fun _ iv _ => 16 - (intOf iv).toNat)
  case atStart => exact ⟨0, 0, lg0, by omega, rfl, rfl, Lib.hid (upI_start x y), Lib.hid (four_start w b1 b2 false b1 x y lg0 lg0 _ rfl)⟩
  case round =>
    obtain ⟨k, c, z, hk, rfl, rfl, HI, HW⟩ := hrel
    by_cases hlt : k < 16
    · obtain ⟨a, ha, ha'⟩ := HX.out.at k hlt
      obtain ⟨b, hb, hb'⟩ := HY.out.at k hlt
      have q1 : (k : Int) < 16 := by omega
      have c1 := HW.out.1.dig ha
      have c2 := HW.out.2.1.dig hb
      have c3 := HW.out.2.2.2.1.dig (HI.out.low k (Nat.le_refl _) hlt)
      have f3 := HW.out.2.2.2.1.free (1 + k)
      have hc := HI.out.carry
      have e1 : IntKind.u64.wrap ((a : Int) + (b : Int)) = (a : Int) + b := by rw [IntKind.wrap_u64]; omega
      obtain ⟨s, hs⟩ : ∃ s : Nat, s = a + b + c := ⟨_, rfl⟩
      have e2 : IntKind.u64.wrap ((a : Int) + (b : Int) + (c : Int)) = (s : Int) := by rw [IntKind.wrap_u64]; omega
      have e3 : IntKind.u64.wrap ((s : Int) / 65536) = ((s / 65536 : Nat) : Int) := by rw [IntKind.wrap_u64]; omega
      have HS := Lib.hid (hs ▸ HI.out.step hlt ha hb ha' hb')
      have HP := Lib.hid (show ∀ n, LgBlk ((wr.drewN n).setCell ⟨w.heap.size + 1 + 1 + 1, 1 + k, none⟩ (.int .u64 ((s : Int) % 65536))) (w.heap.size + 1 + 1 + 1) b1 (z.set k (s % 65536)) from fun n => by
        have := LgBlk.put (w := wr.drewN n) HW.out.2.2.2.1 k (s % 65536)
        rw [Int.natCast_emod] at this; exact this)
      clear ha hb ha' hb' hc hs
      go_wp2
      go_quiet (fail)
      go_wp2
      go_roundw
      case rel => exact ⟨k + 1, s / 65536, z.set k (s % 65536), by omega, by go_num, rfl, HS, Lib.hid ⟨LgBlk.other (w := wr.drewN nq) HW.out.1 (by omega) _ _, LgBlk.other (w := wr.drewN nq) HW.out.2.1 (by omega) _ _, LgBlk.other (w := wr.drewN nq) HW.out.2.2.1 (by omega) _ _, HP.out nq, (Below.next HW.out.2.2.2.2 (below_drewN' wr nq)).setCell (p := ⟨w.heap.size + 1 + 1 + 1, 1 + k, none⟩) (by show w.heap.size ≤ w.heap.size + 1 + 1 + 1; omega) _⟩⟩
      case measure => simp [intOf]; omega
    · obtain rfl : k = 16 := by omega
      have HD := Lib.hid HI.out.digs
      have HV := Lib.hid (HI.out.done HX.out HY.out HLT.out)
      have HR := Lib.hid (LgBlk.row HW.out.2.2.1 b1 z)
      have HB := Lib.hid (show Below w.heap.size w (wr.setRow (w.heap.size + 1 + 1) (lgCs b1 z)) from below_row HW.out.2.2.2.2 (by omega) _)
      go_wp2_with (first
        | (with_reducible refine wpList_load_lg rfl (.tmp 5) rfl (w.heap.size + 1 + 1 + 1) b1 z rfl HW.out.2.2.2.1 HD.out ?_)
        | (with_reducible refine wpList_store_lg rfl (.tmp 4) (.tmp 34) rfl (w.heap.size + 1 + 1) false b1 lg0 z rfl rfl HW.out.2.2.1 lg0_digs HD.out ?_))
      exact bodyPost_ret (v := lgV b1 z) (results_lg rfl _ _ (w.heap.size + 1 + 1) b1 z rfl HR.out HD.out) rfl ⟨z, rfl, HD.out, HV.out, HB.out⟩

end Go.Proofs.YtlobohpbgghleaaDoor
