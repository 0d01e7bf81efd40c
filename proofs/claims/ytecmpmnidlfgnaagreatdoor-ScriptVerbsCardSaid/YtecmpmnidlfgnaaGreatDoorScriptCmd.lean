import Derived.Test.YtecmpmnidlfgnaaGreatDoorScriptShape
import Derived.Test.YtecmpmnidlfgnaaGreatDoorRecRow
import Derived.Test.YtecmpmnidlfgnaaGreatDoorRefHex
import Derived.Test.YtecmpmnidlfgnaaGreatDoorHex
import Derived.Deep.RegionHeld3
namespace Go.Proofs.YtecmpmnidlfgnaaGreatDoor
open Go.RowKit

/-! ## commands in memory -/

def cmCs (c : Cmd) (nv rv : Value) : Array Value := #[.string ⟨c.verb.toArray⟩, nv, .int .i64 c.ev.kind, .int .i64 c.ev.order, .int .i64 c.ev.item, .int .i64 c.ev.qty, .int .i64 c.ev.price, .int .i64 c.ev.cur, .int .i64 c.ev.tax, .string ⟨c.ev.who.toArray⟩, .int .i64 c.ev.stamp, .string ⟨c.ev.note.toArray⟩, rv]
@[reducible] def cmV (c : Cmd) (nv rv : Value) : Value := .agg #[.string ⟨c.verb.toArray⟩, nv, .int .i64 c.ev.kind, .int .i64 c.ev.order, .int .i64 c.ev.item, .int .i64 c.ev.qty, .int .i64 c.ev.price, .int .i64 c.ev.cur, .int .i64 c.ev.tax, .string ⟨c.ev.who.toArray⟩, .int .i64 c.ev.stamp, .string ⟨c.ev.note.toArray⟩, rv]
def CmBlk (w : World) (b : Nat) (c : Cmd) (nv rv : Value) : Prop := w.heap[b]? = some (.cells (cmCs c nv rv) 59 (0, 0))
theorem CmBlk.lt {w : World} {b : Nat} {c : Cmd} {nv rv : Value} (h : CmBlk w b c nv rv) : b < w.heap.size := (Array.getElem?_eq_some_iff.1 h).1
theorem CmBlk.below {w w' : World} {b : Nat} {c : Cmd} {nv rv : Value} (h : CmBlk w b c nv rv) (hb : Below w.heap.size w w') : CmBlk w' b c nv rv := by unfold CmBlk; rw [hb.block b h.lt]; exact h
theorem CmBlk.but {w w' : World} {b k : Nat} {c : Cmd} {nv rv : Value} (h : CmBlk w k c nv rv) (hb : But b w w') (hn : k ≠ b) : CmBlk w' k c nv rv := by unfold CmBlk; rw [hb.block k h.lt hn]; exact h
theorem CmBlk.cell {w : World} {b : Nat} {c : Cmd} {nv rv : Value} (h : CmBlk w b c nv rv) (j : Nat) : w.cell? ⟨b, j, none⟩ = (cmCs c nv rv)[j]? := by
  unfold CmBlk at h; simp [World.cell?, h]
theorem CmBlk.free {w : World} {b : Nat} {c : Cmd} {nv rv : Value} (h : CmBlk w b c nv rv) (j : Nat) : w.frozen? ⟨b, j, none⟩ = false := by
  unfold CmBlk at h
  simp [World.frozen?, h]
theorem CmBlk.put {w : World} {b : Nat} {c c' : Cmd} {nv rv nv' rv' : Value} (h : CmBlk w b c nv rv) (j : Nat) (v : Value) (hj : (cmCs c nv rv).setIfInBounds j v = cmCs c' nv' rv') : CmBlk (w.setCell ⟨b, j, none⟩ v) b c' nv' rv' := by
  unfold CmBlk at h ⊢
  rw [← hj]
  simp only [World.setCell]
  rw [Array.getElem?_modify]
  simp [h]
theorem cmBlk_alloc (w : World) (c : Cmd) (nv rv : Value) : CmBlk (w.alloc (.cells (cmCs c nv rv) 59)) w.heap.size c nv rv := heap_alloc_new w _
theorem CmBlk.row {w : World} {g : Nat} {c : Cmd} {nv rv : Value} (h : CmBlk w g c nv rv) (c' : Cmd) (nv' rv' : Value) : CmBlk (w.setRow g (cmCs c' nv' rv')) g c' nv' rv' := setRow_heap w g _ _ _ _ h
theorem CmBlk.rowOther {w : World} {g k : Nat} {c : Cmd} {nv rv : Value} (h : CmBlk w k c nv rv) (cs : Array Value) (hn : k ≠ g) : CmBlk (w.setRow g cs) k c nv rv := by unfold CmBlk; rw [setRow_other _ _ _ _ hn]; exact h

/-- the cells of its event -/
def EvCells (w : World) (b o : Nat) (e : Ev) : Prop :=
  w.cell? ⟨b, o, none⟩ = some (.int .i64 e.kind) ∧ w.cell? ⟨b, o + 1, none⟩ = some (.int .i64 e.order) ∧ w.cell? ⟨b, o + 2, none⟩ = some (.int .i64 e.item) ∧ w.cell? ⟨b, o + 3, none⟩ = some (.int .i64 e.qty) ∧ w.cell? ⟨b, o + 4, none⟩ = some (.int .i64 e.price) ∧
  w.cell? ⟨b, o + 5, none⟩ = some (.int .i64 e.cur) ∧ w.cell? ⟨b, o + 6, none⟩ = some (.int .i64 e.tax) ∧ w.cell? ⟨b, o + 7, none⟩ = some (.string ⟨e.who.toArray⟩) ∧ w.cell? ⟨b, o + 8, none⟩ = some (.int .i64 e.stamp) ∧ w.cell? ⟨b, o + 9, none⟩ = some (.string ⟨e.note.toArray⟩)
theorem CmBlk.evs {w : World} {b : Nat} {c : Cmd} {nv rv : Value} (h : CmBlk w b c nv rv) : EvCells w b 2 c.ev :=
  ⟨h.cell 2, h.cell 3, h.cell 4, h.cell 5, h.cell 6, h.cell 7, h.cell 8, h.cell 9, h.cell 10, h.cell 11⟩

theorem cmInfo : (Tryz.prog.info? 59).map (·.size) = some 13 := by kernel_rfl
theorem cmCs_one (c : Cmd) (nv rv : Value) (h1 : nv.oneCell' = true) (h2 : rv.oneCell' = true) : (cmCs c nv rv).all (·.oneCell') = true :=
  Array.all_eq_true_iff_forall_mem.2 (by
    intro v hv
    simp only [cmCs, List.mem_toArray, List.mem_cons, List.not_mem_nil, or_false] at hv
    rcases hv with rfl | rfl | rfl | rfl | rfl | rfl | rfl | rfl | rfl | rfl | rfl | rfl | rfl <;> first | rfl | assumption)

theorem wpList_store_cm {ops : Array Oper} {rest : List Oper} {o : Oper} {a : Act} {w : World} {Q : Exit → Act → World → Prop} (hgd : o.guard = none) (x y : Operand) (ho : o.op = .store 59 x y)
    (g : Nat) (c c' : Cmd) (nv rv nv' rv' : Value) (h1 : nv'.oneCell' = true) (h2 : rv'.oneCell' = true) (hx : a.eval x = .pointer (some ⟨g, 0, none⟩)) (hy : a.eval y = cmV c' nv' rv') (hE : CmBlk w g c nv rv)
    (h : wpList Tryz.prog ops Q rest (a.put o.dst undef) (w.setRow g (cmCs c' nv' rv'))) : wpList Tryz.prog ops Q (o :: rest) a w :=
  wpList_store_row hgd 59 x y ho g (cmCs c' nv' rv') hx hy 59 (cmCs c nv rv) hE cmInfo rfl (cmCs_one c' nv' rv' h1 h2) h

theorem wpList_load_cm {ops : Array Oper} {rest : List Oper} {o : Oper} {a : Act} {w : World} {Q : Exit → Act → World → Prop} (hgd : o.guard = none) (x : Operand) (ho : o.op = .load 59 x)
    (g : Nat) (c : Cmd) (nv rv : Value) (hx : a.eval x = .pointer (some ⟨g, 0, none⟩)) (hE : CmBlk w g c nv rv)
    (h : wpList Tryz.prog ops Q rest (a.put o.dst (cmV c nv rv)) w) : wpList Tryz.prog ops Q (o :: rest) a w :=
  wpList_load_row hgd 59 x ho g hx 59 (cmCs c nv rv) (0, 0) _ hE Tryz.underlying59 rfl cmInfo h

theorem results_cm {fn : Func} {p q : Tmp} (h : fn.results = #[.cell p 59, .tmp q]) (tmps : Array Value) (w : World) (g : Nat) (c : Cmd) (nv rv : Value) (x : Value)
    (hp : tmps.getD p undef = .pointer (some ⟨g, 0, none⟩)) (hq : tmps.getD q undef = x) (hE : CmBlk w g c nv rv) : (results fn tmps).run Tryz.prog w = .ok (.tuple #[cmV c nv rv, x]) w := by
  have hl := run_loadVar_row (P := Tryz.prog) w g 59 59 (cmCs c nv rv) (0, 0) _ hE Tryz.underlying59 rfl cmInfo
  have hp' : tmps[p]?.getD undef = .pointer (some ⟨g, 0, none⟩) := by simpa using hp
  have hq' : tmps[q]?.getD undef = x := by simpa using hq
  simp [results, h, hp', hq', asAddr, hl]
  rfl

/-! ## its slices -/

theorem EvOk.mono' {N M : Nat} {e : Ev} (h : EvOk N e) (hm : N ≤ M) : EvOk M e :=
  ⟨h.kind, h.order, h.item, h.qty, h.price, h.cur, h.tax, h.stamp, Nat.le_trans h.who hm, Nat.le_trans h.note hm⟩

structure CmOk (N : Nat) (c : Cmd) : Prop where
  verb : c.verb.length ≤ N
  nums : c.nums.length ≤ N
  i64 : ∀ n ∈ c.nums, I64 n
  ev : EvOk N c.ev
  raw : c.raw.length ≤ N

def CmSl (w : World) (c : Cmd) (nv rv : Value) : Prop := IntRow .i64 w nv c.nums ∧ BRow w rv c.raw
theorem CmSl.below {w w' : World} {c : Cmd} {nv rv : Value} (h : CmSl w c nv rv) (hb : Below w.heap.size w w') : CmSl w' c nv rv := ⟨h.1.below hb, h.2.below hb⟩
theorem IntRow.one {k : IntKind} {w : World} {v : Value} {zs : List Int} (h : IntRow k w v zs) : v.oneCell' = true := by obtain ⟨_, _, rfl, _⟩ := h; rfl
theorem BRow.one {w : World} {v : Value} {l : List UInt8} (h : BRow w v l) : v.oneCell' = true := by obtain ⟨_, _, rfl, _⟩ := h; rfl
theorem IntRow.at {k : IntKind} {w : World} {v : Value} {zs : List Int} (h : IntRow k w v zs) : ∃ oa cap, v = .slice oa zs.length cap ∧ zs.length ≤ cap ∧ cap ≤ maxLen := by
  obtain ⟨oa, cap, h1, h2, h3, _⟩ := h; exact ⟨oa, cap, h1, h2, h3⟩
theorem BRow.at {w : World} {v : Value} {l : List UInt8} (h : BRow w v l) : ∃ oa cap, v = .slice oa l.length cap ∧ l.length ≤ cap := by
  obtain ⟨oa, cap, h1, h2, _⟩ := h; exact ⟨oa, cap, h1, h2⟩
/-- where the numbers lie, if there are any -/
theorem IntRow.cells {k : IntKind} {w : World} {oa : Option Addr} {n cap : Nat} {zs : List Int} (h : IntRow k w (.slice oa n cap) zs) (hn : zs ≠ []) : ∃ b off, oa = some ⟨b, off, none⟩ ∧ ∀ (i : Nat) x, zs[i]? = some x → w.cell? ⟨b, off + i, none⟩ = some (.int k x) := by
  obtain ⟨oa', cap', h1, _, _, _, h5⟩ := h
  simp only [Value.slice.injEq] at h1
  obtain ⟨rfl, _, rfl⟩ := h1
  exact h5 hn
theorem intRow_nil {w : World} (h : (0:Nat) ≤ 0) : IntRow .i64 w (.slice none 0 0) [] := ⟨none, 0, rfl, h, by decide, by simp, fun h => absurd rfl h⟩
theorem bRow_nil {w : World} : BRow w (.slice none 0 0) [] := ⟨none, 0, rfl, Nat.le_refl _, fun h => absurd rfl h⟩

theorem wf_i64 {n : Int} (h : I64 n) : (Lit.int .i64 n).wf = true := by
  unfold I64 at h
  simpa [Lit.wf, show IntKind.i64.min = -9223372036854775808 from by decide] using h

theorem brow_own {w : World} {B : Nat} {v : Value} {l : List UInt8} (h : w.ownsRow B 5 1 v l.length (Lib.byteCells l)) : BRow w v l := by
  by_cases hn : l = []
  · subst hn
    obtain ⟨oa, cap, rfl, h1, _⟩ := own_shape h
    exact ⟨oa, cap, rfl, h1, fun h => absurd rfl h⟩
  · obtain ⟨g, cap, rfl, _, _, h1, _, h3⟩ := own_get h (List.length_pos_iff.2 hn)
    exact ⟨_, cap, rfl, h1, fun _ => ⟨g, 0, rfl, fun i x hi => by rw [Nat.zero_add]; exact h3 i _ (by rw [Lib.byteCells, List.getElem?_map, hi]; rfl)⟩⟩

def intCells (ns : List Int) : List Value := ns.map fun n => .int .i64 n
theorem intRow_own {w : World} {B : Nat} {v : Value} {ns : List Int} (h : w.ownsRow B 3 1 v ns.length (intCells ns)) (hi : ∀ n ∈ ns, I64 n) : IntRow .i64 w v ns := by
  by_cases hn : ns = []
  · subst hn
    obtain ⟨oa, cap, rfl, h1, h2⟩ := own_shape h
    exact ⟨oa, cap, rfl, h1, h2, by simp, fun h => absurd rfl h⟩
  · obtain ⟨g, cap, rfl, _, _, h1, h2, h3⟩ := own_get h (List.length_pos_iff.2 hn)
    exact ⟨_, cap, rfl, h1, h2, fun x hx => wf_i64 (hi x hx), fun _ => ⟨g, 0, rfl, fun i x hx => by rw [Nat.zero_add]; exact h3 i _ (by simp [intCells, hx])⟩⟩

/-! ## the numbers' text -/

theorem numTail_take {ns : List Int} {k : Nat} {x : Int} (h : ns.take (k + 1) = ns.take k ++ [x]) : numTail (ns.take (k + 1)) = numTail (ns.take k) ++ (32 :: Lib.itoa x) := by
  rw [h]; simp [numTail, blanked]
theorem numTail_len (ns : List Int) (h : ∀ n ∈ ns, I64 n) : (numTail ns).length ≤ ns.length * 21 := by
  induction ns with
  | nil => simp [numTail, blanked]
  | cons n ns ih =>
    have h1 := itoa_le n (h n (by simp)).1 (h n (by simp)).2
    have h2 := ih fun m hm => h m (List.mem_cons_of_mem _ hm)
    have : numTail (n :: ns) = 32 :: (Lib.itoa n ++ numTail ns) := by simp [numTail, blanked]
    rw [this]; simp; omega
theorem dumpWords_len {v : Int} {e : Ev} : (dumpWords v e).1.length ≤ 2000 := by
  unfold dumpWords
  split
  · rename_i h; exact wordsOf_short h
  · simp

/-! ## which case -/

theorem cmdLine_100 {c : Cmd} (h : shapeV c.verb = 6 ∨ countOk (shapeV c.verb) c.nums.length = false) : cmdLine c = ([], 100) := by unfold cmdLine; rw [if_pos h]
theorem cmdLine_32 {c : Cmd} (h6 : ¬ (shapeV c.verb = 6 ∨ countOk (shapeV c.verb) c.nums.length = false)) (h : (shapeV c.verb ≠ 4 ∧ c.ev ≠ evNone) ∨ (shapeV c.verb ≠ 5 ∧ c.raw ≠ [])) : cmdLine c = ([], 32) := by unfold cmdLine; rw [if_neg h6, if_pos h]
theorem cmdLine_main {c : Cmd} (h6 : ¬ (shapeV c.verb = 6 ∨ countOk (shapeV c.verb) c.nums.length = false)) (h : ¬ ((shapeV c.verb ≠ 4 ∧ c.ev ≠ evNone) ∨ (shapeV c.verb ≠ 5 ∧ c.raw ≠ []))) :
    cmdLine c = if shapeV c.verb = 4 then
    (if (dumpWords (c.nums.headD 0) c.ev).2 ≠ 0 then ([], (dumpWords (c.nums.headD 0) c.ev).2) else (c.verb ++ numTail c.nums ++ 32 :: (dumpWords (c.nums.headD 0) c.ev).1, 0))
  else if shapeV c.verb = 5 then (if c.raw = [] then ([], 101) else (c.verb ++ numTail c.nums ++ 32 :: hexOf c.raw, 0))
  else (c.verb ++ numTail c.nums, 0) := by unfold cmdLine; rw [if_neg h6, if_neg h]

theorem shape4 {v : List UInt8} : shapeV v = 4 ↔ v = vAppend := by
  constructor
  · intro h
    rcases shape_cases v with ⟨_, e⟩ | ⟨_, e⟩ | ⟨_, e⟩ | ⟨_, e⟩ | ⟨h, _⟩ | ⟨_, e⟩ | ⟨_, _, _, _, _, _, e⟩
    all_goals first | exact h | omega
  · rintro rfl; decide
theorem shape5 {v : List UInt8} : shapeV v = 5 ↔ v = vPut := by
  constructor
  · intro h
    rcases shape_cases v with ⟨_, e⟩ | ⟨_, e⟩ | ⟨_, e⟩ | ⟨_, e⟩ | ⟨_, e⟩ | ⟨h, _⟩ | ⟨_, _, _, _, _, _, e⟩
    all_goals first | exact h | omega
  · rintro rfl; decide

end Go.Proofs.YtecmpmnidlfgnaaGreatDoor
