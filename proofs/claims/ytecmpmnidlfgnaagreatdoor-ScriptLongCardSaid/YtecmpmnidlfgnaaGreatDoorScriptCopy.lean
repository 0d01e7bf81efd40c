import Derived.Test.YtecmpmnidlfgnaaGreatDoorScriptNums
import Derived.Test.YtecmpmnidlfgnaaGreatDoorFields
import Derived.Deep.QuietTactic
import Derived.BigQuiet
import Derived.Laws.AppendOwnNone
namespace Go.Proofs.YtecmpmnidlfgnaaGreatDoor
open Go.RowKit

/-! ## the reference's Same, at one command in two places -/

theorem conv_nil (w : World) (oa : Option Addr) (cap : Nat) : (convert 57 9 (.slice oa 0 cap)).run Tryz.prog w = .ok (.string ⟨#[]⟩) w := by
  cases oa with
  | none => kernel_rfl
  | some ad => kernel_rfl
theorem conv_brow {w : World} {oa : Option Addr} {cap : Nat} {l : List UInt8} (h : BRow w (.slice oa l.length cap) l) : (convert 57 9 (.slice oa l.length cap)).run Tryz.prog w = .ok (.string ⟨l.toArray⟩) w := by
  by_cases hn : l = []
  · subst hn; exact conv_nil w oa cap
  · obtain ⟨oa', cap', h1, _, h3⟩ := h
    simp only [Value.slice.injEq] at h1
    obtain ⟨rfl, _, rfl⟩ := h1
    obtain ⟨b, off, rfl, hc⟩ := h3 hn
    exact conv_cells w b off l cap hc

set_option maxRecDepth 100000 in
set_option maxHeartbeats 8000000 in
theorem sameCmd_any (c : Cmd) (nv1 rv1 nv2 rv2 : Value) (w : World) (h1 : CmSl w c nv1 rv1) (h2 : CmSl w c nv2 rv2) :
    Calls Tryz.prog 31 #[cmV c nv1 rv1, cmV c nv2 rv2] w fun x w' => x = .returned (.bool true) ∧ Below w.heap.size w w' := by
  obtain ⟨oa1, cap1, rfl, hl1, hm1⟩ := h1.1.at
  obtain ⟨ob1, cb1, rfl, hr1⟩ := h1.2.at
  obtain ⟨oa2, cap2, rfl, hl2, hm2⟩ := h2.1.at
  obtain ⟨ob2, cb2, rfl, hr2⟩ := h2.2.at
  unfold maxLen at hm1 hm2
  have hA := (show Below w.heap.size w (w.alloc (.cells (cmCs c (.slice oa1 c.nums.length cap1) (.slice ob1 c.raw.length cb1)) 59)) from (Below.refl _ _).alloc (Nat.le_refl _) _)
  have hCA := cmBlk_alloc w c (.slice oa1 c.nums.length cap1) (.slice ob1 c.raw.length cb1)
  have hsz : (w.alloc (.cells (cmCs c (.slice oa1 c.nums.length cap1) (.slice ob1 c.raw.length cb1)) 59)).heap.size = w.heap.size + 1 := by simp
  have hB := (show Below (w.alloc (.cells (cmCs c (.slice oa1 c.nums.length cap1) (.slice ob1 c.raw.length cb1)) 59)).heap.size _ ((w.alloc (.cells (cmCs c (.slice oa1 c.nums.length cap1) (.slice ob1 c.raw.length cb1)) 59)).alloc (.cells (cmCs c (.slice oa2 c.nums.length cap2) (.slice ob2 c.raw.length cb2)) 59)) from (Below.refl _ _).alloc (Nat.le_refl _) _)
  have hCB := cmBlk_alloc (w.alloc (.cells (cmCs c (.slice oa1 c.nums.length cap1) (.slice ob1 c.raw.length cb1)) 59)) c (.slice oa2 c.nums.length cap2) (.slice ob2 c.raw.length cb2)
  rw [hsz] at hCB
  have HB0 := Lib.hid (Below.next hA hB)
  have HC := Lib.hid (hCA.below hB)
  have HD := Lib.hid hCB
  have HS1 := Lib.hid (h1.below HB0.out)
  have HS2 := Lib.hid (h2.below HB0.out)
  unfold cmCs at HB0 HC HD HS1 HS2
  clear h1 h2 hA hCA hsz hB hCB
  go_enter Tryz.func31, Tryz.ntmps31
  have q : (c.verb != c.verb) = false := by simp
  have heq : ∀ w : World, (binOp .neq 24 (.agg #[.int .i64 c.ev.kind, .int .i64 c.ev.order, .int .i64 c.ev.item, .int .i64 c.ev.qty, .int .i64 c.ev.price, .int .i64 c.ev.cur, .int .i64 c.ev.tax, .string ⟨c.ev.who.toArray⟩, .int .i64 c.ev.stamp, .string ⟨c.ev.note.toArray⟩]) (.agg #[.int .i64 c.ev.kind, .int .i64 c.ev.order, .int .i64 c.ev.item, .int .i64 c.ev.qty, .int .i64 c.ev.price, .int .i64 c.ev.cur, .int .i64 c.ev.tax, .string ⟨c.ev.who.toArray⟩, .int .i64 c.ev.stamp, .string ⟨c.ev.note.toArray⟩])).run Tryz.prog w = .ok (.bool false) w := fun w => by
    have h := run_evNeq c.ev c.ev w
    rw [(evSame_iff _ _).2 rfl] at h
    exact h
  have hcv1 := conv_brow HS1.out.2
  have hcv2 := conv_brow HS2.out.2
  obtain ⟨f0, f1, f2, f3, f4, f5, f6, f7, f8, f9⟩ := HC.out.evs
  obtain ⟨g0, g1, g2, g3, g4, g5, g6, g7, g8, g9⟩ := HD.out.evs
  have c0 := HC.out.cell 0
  have c1 := HC.out.cell 1
  have c12 := HC.out.cell 12
  have d0 := HD.out.cell 0
  have d1 := HD.out.cell 1
  have d12 := HD.out.cell 12
  simp only [cmCs, List.getElem?_toArray, List.getElem?_cons_zero, List.getElem?_cons_succ] at c0 c1 c12 d0 d1 d12
  go_wp2_with (first | rw [heq] | rw [hcv1] | rw [hcv2])
  clear hcv1 hcv2 f0 f1 f2 f3 f4 f5 f6 f7 f8 f9 g0 g1 g2 g3 g4 g5 g6 g7 g8 g9 c0 c1 c12 d0 d1 d12 heq q
  generalize (w.alloc (.cells #[.string ⟨c.verb.toArray⟩, .slice oa1 c.nums.length cap1, .int .i64 c.ev.kind, .int .i64 c.ev.order, .int .i64 c.ev.item, .int .i64 c.ev.qty, .int .i64 c.ev.price, .int .i64 c.ev.cur, .int .i64 c.ev.tax, .string ⟨c.ev.who.toArray⟩, .int .i64 c.ev.stamp, .string ⟨c.ev.note.toArray⟩, .slice ob1 c.raw.length cb1] 59)).alloc (.cells #[.string ⟨c.verb.toArray⟩, .slice oa2 c.nums.length cap2, .int .i64 c.ev.kind, .int .i64 c.ev.order, .int .i64 c.ev.item, .int .i64 c.ev.qty, .int .i64 c.ev.price, .int .i64 c.ev.cur, .int .i64 c.ev.tax, .string ⟨c.ev.who.toArray⟩, .int .i64 c.ev.stamp, .string ⟨c.ev.note.toArray⟩, .slice ob2 c.raw.length cb2] 59) = w0 at *
  go_loopw [39] (fun iv wr => ∃ k : Nat, k ≤ c.nums.length ∧ iv = .int .i64 k ∧ Below w0.heap.size w0 wr) (fun iv _ => c.nums.length - (intOf iv).toNat)
  case atStart => exact ⟨0, Nat.zero_le _, rfl, Below.refl _ _⟩
  case round =>
    obtain ⟨k, hk, rfl, hb⟩ := hrel
    have HB := Lib.hid hb
    clear hb
    by_cases hlt : k < c.nums.length
    · obtain ⟨x, hx, _, _⟩ := nth c.nums k hlt
      have hne : c.nums ≠ [] := by intro h; rw [h] at hlt; simp at hlt
      obtain ⟨b1, o1, rfl, hcs1⟩ := HS1.out.1.cells hne
      obtain ⟨b2, o2, rfl, hcs2⟩ := HS2.out.1.cells hne
      have e1 := cell_later HB.out (hcs1 k x hx)
      have e2 := cell_later HB.out (hcs2 k x hx)
      have c1 : wr.cell? ⟨w.heap.size, 1, none⟩ = some (.slice (some ⟨b1, o1, none⟩) c.nums.length cap1) := cell_later HB.out (HC.out.cell 1)
      have d1 : wr.cell? ⟨w.heap.size + 1, 1, none⟩ = some (.slice (some ⟨b2, o2, none⟩) c.nums.length cap2) := cell_later HB.out (HD.out.cell 1)
      have q1 : (k : Int) < (c.nums.length : Int) := by omega
      have t1 : (x != x) = false := by simp
      clear hx hne hcs1 hcs2
      go_wp2
      go_quiet (fail)
      go_wp2
      go_roundw
      case rel => exact ⟨k + 1, by omega, by go_num, Below.next HB.out (below_drewN' _ _)⟩
      case measure => simp [intOf]; omega
    · obtain rfl : k = c.nums.length := by omega
      go_wp2
      go_ret
      exact ⟨rfl, Below.next HB0.out HB.out⟩

end Go.Proofs.YtecmpmnidlfgnaaGreatDoor

namespace Go.Proofs.YtecmpmnidlfgnaaGreatDoor
open Go.RowKit

/-! ## rows of commands, and the reference's Copy -/

def NilOk (v : Value) : Prop := ∀ n c, v = .slice none n c → c = 0
def CmIn (w : World) (c : Cmd) (nv rv : Value) : Prop := CmSl w c nv rv ∧ NilOk nv ∧ NilOk rv
theorem CmIn.below {w w' : World} {c : Cmd} {nv rv : Value} (h : CmIn w c nv rv) (hb : Below w.heap.size w w') : CmIn w' c nv rv := ⟨h.1.below hb, h.2⟩
def CmdRow (w : World) (v : Value) (cs : List Cmd) : Prop :=
  ∃ oa cap, v = .slice oa cs.length cap ∧ cs.length ≤ cap ∧ cap ≤ 9223372036854775807 ∧
    (cs ≠ [] → ∃ b off, oa = some ⟨b, off, none⟩ ∧ ∀ (i : Nat) c, cs[i]? = some c → ∃ nv rv, CmIn w c nv rv ∧ ∀ (j : Nat) u, (cmCs c nv rv)[j]? = some u → w.cell? ⟨b, off + i * 13 + j, none⟩ = some u)
theorem CmdRow.below {w w' : World} {v : Value} {cs : List Cmd} (h : CmdRow w v cs) (hb : Below w.heap.size w w') : CmdRow w' v cs := by
  obtain ⟨oa, cap, h1, h2, h3, h4⟩ := h
  refine ⟨oa, cap, h1, h2, h3, fun hn => ?_⟩
  obtain ⟨b, off, h5, h6⟩ := h4 hn
  refine ⟨b, off, h5, fun i c hi => ?_⟩
  obtain ⟨nv, rv, h7, h8⟩ := h6 i c hi
  exact ⟨nv, rv, h7.below hb, fun j u hj => cell_later hb (h8 j u hj)⟩

/-- a command and its two slices -/
abbrev CmX := Cmd × Value × Value
def cmCells (xs : List CmX) : List Value := xs.flatMap fun x => (cmCs x.1 x.2.1 x.2.2).toList
theorem cmCells_length (xs : List CmX) : (cmCells xs).length = xs.length * 13 := by
  induction xs with
  | nil => rfl
  | cons x xs ih =>
    rw [cmCells, List.flatMap_cons, List.length_append]
    have : (cmCells xs).length = (List.flatMap (fun x => (cmCs x.1 x.2.1 x.2.2).toList) xs).length := rfl
    rw [← this, ih, show (cmCs x.1 x.2.1 x.2.2).toList.length = 13 from rfl, List.length_cons]
    omega
theorem cmCells_snoc (xs : List CmX) (x : CmX) : cmCells xs ++ (cmCs x.1 x.2.1 x.2.2).toList = cmCells (xs ++ [x]) := by simp [cmCells]
theorem cmCells_at : ∀ (xs : List CmX) (i : Nat) (x : CmX), xs[i]? = some x → ∀ (j : Nat) u, (cmCs x.1 x.2.1 x.2.2)[j]? = some u → (cmCells xs)[i * 13 + j]? = some u
  | [], i, x, h => by simp at h
  | y :: ys, 0, x, h => by
    simp at h; subst h
    intro j u hj
    rw [cmCells, List.flatMap_cons, List.getElem?_append_left (by have := (Array.getElem?_eq_some_iff.1 hj).1; simpa using this)]
    simpa using hj
  | y :: ys, i + 1, x, h => by
    intro j u hj
    have ih := cmCells_at ys i x (by simpa using h) j u hj
    rw [cmCells, List.flatMap_cons, List.getElem?_append_right (by rw [show (cmCs y.1 y.2.1 y.2.2).toList.length = 13 from rfl]; omega), show (cmCs y.1 y.2.1 y.2.2).toList.length = 13 from rfl, show (i + 1) * 13 + j - 13 = i * 13 + j by omega]
    exact ih

/-- its slices are the call's own -/
def ElOwn (w : World) (B : Nat) (x : CmX) : Prop :=
  w.ownsRow B 3 1 x.2.1 x.1.nums.length (intCells x.1.nums) ∧ w.ownsRow B 5 1 x.2.2 x.1.raw.length (Lib.byteCells x.1.raw)
theorem nilOk_own {w : World} {B size n : Nat} {e : TypeId} {v : Value} {xs : List Value} (h : w.ownsRow B e size v n xs) : NilOk v := by
  intro m c hv
  rcases h.2 with ⟨rfl, _⟩ | ⟨g, cap, cur, rfl, _⟩
  · simp only [Value.slice.injEq] at hv; exact hv.2.2.symm
  · cases hv
theorem ElOwn.sl {w : World} {B : Nat} {x : CmX} (h : ElOwn w B x) (hi : ∀ n ∈ x.1.nums, I64 n) : CmIn w x.1 x.2.1 x.2.2 := ⟨⟨intRow_own h.1 hi, brow_own h.2⟩, nilOk_own h.1, nilOk_own h.2⟩

/-- two rows of unlike types lie in two blocks -/
theorem own_ne {w : World} {B B' size size' n n' : Nat} {e e' : TypeId} {v v' : Value} {xs xs' : List Value} (h : w.ownsRow B e size v n xs) (h' : w.ownsRow B' e' size' v' n' xs') (he : e ≠ e') {k : Nat} (hk : v.ownBlock = some k) : v'.ownBlock ≠ some k := by
  intro hk'
  rcases h.2 with ⟨rfl, _⟩ | ⟨g, cap, cur, rfl, _, hg, _⟩
  · cases hk
  rcases h'.2 with ⟨rfl, _⟩ | ⟨g', cap', cur', rfl, _, hg', _⟩
  · cases hk'
  have e1 : g = k := Option.some.inj hk
  have e2 : g' = k := Option.some.inj hk'
  subst e1; subst e2
  rw [hg] at hg'
  injection hg' with hg'
  injection hg' with _ h2
  exact he h2
theorem own_grown {w w' : World} {B size n : Nat} {e : TypeId} {v : Value} {xs : List Value} {row : Option Nat} (h : w.ownsRow B e size v n xs) (hg : w.grownBy w' row) (hr : ∀ k, v.ownBlock = some k → row ≠ some k) : w'.ownsRow B e size v n xs := by
  refine ⟨h.1, ?_⟩
  rcases h.2 with hn | ⟨g', cap, cur, rfl, hb1, hg', rest⟩
  · exact .inl hn
  · exact .inr ⟨g', cap, cur, rfl, hb1, by rw [hg.block g' (Array.getElem?_eq_some_iff.1 hg').1 (fun e => hr g' rfl e.symm)]; exact hg', rest⟩

theorem cmdRow_own {w : World} {B : Nat} {v : Value} {xs : List CmX} (h : w.ownsRow B 59 13 v xs.length (cmCells xs)) (he : ∀ x ∈ xs, CmIn w x.1 x.2.1 x.2.2) : CmdRow w v (xs.map (·.1)) := by
  by_cases hn : xs = []
  · subst hn
    rcases h.2 with ⟨rfl, _⟩ | ⟨g, cap, cur, rfl, _, _, h1, h2, _⟩
    · exact ⟨none, 0, rfl, Nat.le_refl _, by decide, fun h => absurd rfl h⟩
    · exact ⟨_, cap, rfl, h1, by unfold maxLen at h2; omega, fun h => absurd rfl h⟩
  · obtain ⟨g, cap, rfl, _, _, h1, h2, h3⟩ := own_get h (List.length_pos_iff.2 hn)
    refine ⟨_, cap, by rw [List.length_map], by rw [List.length_map]; exact h1, by unfold maxLen at h2; omega, fun _ => ⟨g, 0, rfl, fun i c hi => ?_⟩⟩
    rw [List.getElem?_map] at hi
    cases hx : xs[i]? with
    | none => rw [hx] at hi; cases hi
    | some x =>
      rw [hx] at hi
      obtain rfl : x.1 = c := by simpa using hi
      exact ⟨x.2.1, x.2.2, he x (List.mem_of_getElem? hx), fun j u hj => by rw [Nat.zero_add]; exact h3 _ _ (cmCells_at xs i x hx j u hj)⟩

/-! ### a command's load, anywhere -/

theorem run_loadVar_cmAt (w : World) (g o : Nat) (c : Cmd) (nv rv : Value) (hc : ∀ (j : Nat) u, (cmCs c nv rv)[j]? = some u → w.cell? ⟨g, o + j, none⟩ = some u) :
    (loadVar 59 ⟨g, o, none⟩).run Tryz.prog w = .ok (.agg (cmCs c nv rv)) w := by
  have hl : (loadCells ⟨g, o, none⟩ (cmCs c nv rv).toList.length).run Tryz.prog w = .ok (cmCs c nv rv).toList.toArray w :=
    run_loadCells_list (P := Tryz.prog) w ⟨g, o, none⟩ (cmCs c nv rv).toList (fun j v hv => by
      have hadd : (⟨g, o, none⟩ : Addr).add j = ⟨g, o + j, none⟩ := by unfold Addr.add; split <;> simp_all
      rw [hadd]
      exact hc j v (by simpa using hv))
  have hi := cmInfo
  cases hq : Tryz.prog.info? 59 with
  | none => simp [hq] at hi
  | some i =>
    have hs : i.size = (cmCs c nv rv).size := by rw [hq] at hi; exact Option.some.inj hi
    have hagg : (isAgg 59).run Tryz.prog w = .ok true w := by
      unfold isAgg
      rw [Sem.run_bind, run_underlying Tryz.underlying59 w]
      rfl
    simp only [Array.length_toList, Array.toArray_toList] at hl
    simp [loadVar, Sem.run_bind, hagg, sizeOf, typeInfo, hq, hs, hl]
theorem wpList_load_cmAt {ops : Array Oper} {rest : List Oper} {o : Oper} {a : Act} {w : World} {Q : Exit → Act → World → Prop} (hgd : o.guard = none) (x : Operand) (ho : o.op = .load 59 x)
    (g off : Nat) (c : Cmd) (nv rv : Value) (hx : a.eval x = .pointer (some ⟨g, off, none⟩)) (hc : ∀ (j : Nat) u, (cmCs c nv rv)[j]? = some u → w.cell? ⟨g, off + j, none⟩ = some u)
    (h : wpList Tryz.prog ops Q rest (a.put o.dst (cmV c nv rv)) w) : wpList Tryz.prog ops Q (o :: rest) a w :=
  wpList_plain hgd fun _ hK => by
    unfold Oper.wp execOp
    simp only [ho, hx, Instr.loadAt, Instr.sureAddr, Sem.run_bind, Sem.run_pure, Result.andThen_ok, run_loadVar_cmAt w g off c nv rv hc]
    exact hK _ _ h

/-! ### copies of numbers and of bytes -/

theorem infoByteC : (Tryz.prog.info? 5).map (fun i => (i.zero, i.size, i.bytes)) = some (some (.int .u8 0), 1, 1) := by kernel_rfl
theorem IntRow.addr {w : World} {v : Value} {zs : List Int} (h : IntRow .i64 w v zs) (hn : NilOk v) : (v = .slice none 0 0 ∧ zs = []) ∨ ∃ ad c, v = .slice (some ad) zs.length c ∧ ∀ j u, (intCells zs)[j]? = some u → w.cell? (ad.add j) = some u := by
  obtain ⟨oa, cap, rfl, h1, h2, _, h3⟩ := h
  by_cases hz : zs = []
  · subst hz
    cases oa with
    | none => rw [hn _ _ rfl]; exact .inl ⟨rfl, rfl⟩
    | some ad => exact .inr ⟨ad, cap, rfl, fun j u hj => by simp [intCells] at hj⟩
  · obtain ⟨b, off, rfl, h4⟩ := h3 hz
    refine .inr ⟨_, cap, rfl, fun j u hj => ?_⟩
    rw [intCells, List.getElem?_map] at hj
    cases hx : zs[j]? with
    | none => rw [hx] at hj; cases hj
    | some x => rw [hx] at hj; simp at hj; subst hj; rw [addr_add]; exact h4 j x hx
theorem BRow.addr {w : World} {v : Value} {l : List UInt8} (h : BRow w v l) (hn : NilOk v) : (v = .slice none 0 0 ∧ l = []) ∨ ∃ ad c, v = .slice (some ad) l.length c ∧ ∀ j u, (Lib.byteCells l)[j]? = some u → w.cell? (ad.add j) = some u := by
  obtain ⟨oa, cap, rfl, h1, h3⟩ := h
  by_cases hz : l = []
  · subst hz
    cases oa with
    | none => rw [hn _ _ rfl]; exact .inl ⟨rfl, rfl⟩
    | some ad => exact .inr ⟨ad, cap, rfl, fun j u hj => by simp [Lib.byteCells] at hj⟩
  · obtain ⟨b, off, rfl, h4⟩ := h3 hz
    refine .inr ⟨_, cap, rfl, fun j u hj => ?_⟩
    rw [Lib.byteCells, List.getElem?_map] at hj
    cases hx : l[j]? with
    | none => rw [hx] at hj; cases hj
    | some x => rw [hx] at hj; simp at hj; subst hj; rw [addr_add]; exact h4 j x hx

theorem wpList_copyInts {w : World} {ops : Array Oper} {rest : List Oper} {o : Oper} {a : Act} {Q : Exit → Act → World → Prop} (hgd : o.guard = none) (s x : Operand)
    (ho : o.op = .call { callee := .builtin .append, args := #[s, x], argTypes := #[56, 56] })
    (base : Nat) (v v2 : Value) (zs : List Int) (hs : a.eval s = v) (hown : w.ownsRow base 3 1 v 0 []) (hx : a.eval x = v2) (hr : IntRow .i64 w v2 zs) (hno : NilOk v2) (hn : zs.length ≤ 2097152) (hbase : base ≤ w.heap.size)
    (h : ∀ v' w', w'.ownsRow base 3 1 v' zs.length (intCells zs) → w.grownBy w' v.ownBlock → wpList Tryz.prog ops Q rest (a.put o.dst v') w') : wpList Tryz.prog ops Q (o :: rest) a w := by
  obtain ⟨i0, hi, hz0, hz1, hz2⟩ := info_parts infoInt
  rcases hr.addr hno with ⟨rfl, rfl⟩ | ⟨ad, c, rfl, hc⟩
  · refine wpList_append_own_none hgd s x _ ho base 3 i0 1 Tryz.underlying56 hi v 0 [] hs hown hx (h v w hown ⟨rfl, rfl, rfl, Nat.le_refl _, fun _ _ _ => rfl⟩)
  · refine wpList_append_own w hgd s x _ ho base 3 i0 (.int .i64 0) 1 8 Tryz.underlying56 hi hz0 hz1 hz2 rfl (by decide) v 0 [] hs hown ad zs.length c (intCells zs) hx (by simp [intCells]) hc (fun u hu => by obtain ⟨_, _, rfl⟩ := List.mem_map.1 hu; rfl) (by unfold maxLen; omega) (by omega) hbase ?_
    intro v' w' h1 h2 _
    rw [Nat.zero_add, List.nil_append] at h1
    exact h v' w' h1 h2
theorem wpList_copyBytes {w : World} {ops : Array Oper} {rest : List Oper} {o : Oper} {a : Act} {Q : Exit → Act → World → Prop} (hgd : o.guard = none) (s x : Operand)
    (ho : o.op = .call { callee := .builtin .append, args := #[s, x], argTypes := #[57, 57] })
    (base : Nat) (v v2 : Value) (l : List UInt8) (hs : a.eval s = v) (hown : w.ownsRow base 5 1 v 0 []) (hx : a.eval x = v2) (hr : BRow w v2 l) (hno : NilOk v2) (hn : l.length ≤ 2097152) (hbase : base ≤ w.heap.size)
    (h : ∀ v' w', w'.ownsRow base 5 1 v' l.length (Lib.byteCells l) → w.grownBy w' v.ownBlock → wpList Tryz.prog ops Q rest (a.put o.dst v') w') : wpList Tryz.prog ops Q (o :: rest) a w := by
  obtain ⟨i0, hi, hz0, hz1, hz2⟩ := info_parts infoByteC
  rcases hr.addr hno with ⟨rfl, rfl⟩ | ⟨ad, c, rfl, hc⟩
  · refine wpList_append_own_none hgd s x _ ho base 5 i0 1 Tryz.underlying57 hi v 0 [] hs hown hx (h v w hown ⟨rfl, rfl, rfl, Nat.le_refl _, fun _ _ _ => rfl⟩)
  · refine wpList_append_own w hgd s x _ ho base 5 i0 (.int .u8 0) 1 1 Tryz.underlying57 hi hz0 hz1 hz2 rfl (by decide) v 0 [] hs hown ad l.length c (Lib.byteCells l) hx (by rw [Lib.byteCells_length, Nat.mul_one]) hc (fun u hu => by obtain ⟨_, _, rfl⟩ := List.mem_map.1 hu; rfl) (by unfold maxLen; omega) (by omega) hbase ?_
    intro v' w' h1 h2 _
    rw [Nat.zero_add, List.nil_append] at h1
    exact h v' w' h1 h2

/-! ### the walk -/

def zeroCm : Value := .agg #[.string ByteArray.empty, .slice none 0 0, .int .i64 0, .int .i64 0, .int .i64 0, .int .i64 0, .int .i64 0, .int .i64 0, .int .i64 0, .string ByteArray.empty, .int .i64 0, .string ByteArray.empty, .slice none 0 0]
theorem infoCm : (Tryz.prog.info? 59).map (fun i => (i.zero, i.size, i.bytes)) = some (some zeroCm, 13, 160) := by kernel_rfl

def CopyPost (cs : List Cmd) (w : World) (x : Ending) (w' : World) : Prop :=
  ∃ v xs, x = .returned v ∧ xs.map (·.1) = cs ∧ w'.ownsRow w.heap.size 59 13 v xs.length (cmCells xs) ∧ (∀ x ∈ xs, ElOwn w' w.heap.size x) ∧ Below w.heap.size w w'

set_option maxRecDepth 100000 in
set_option maxHeartbeats 8000000 in
theorem copyCmds_any (cs : List Cmd) (v : Value) (w : World) (hv : CmdRow w v cs) (hn : cs.length ≤ 1048576) (hok : ∀ c ∈ cs, CmOk 1048576 c) :
    Calls Tryz.prog 28 #[v] w (CopyPost cs w) := by
  obtain ⟨oa, cap, rfl, hl1, hl2, hcs⟩ := hv
  obtain ⟨i0, hi, hz0, hz1, hz2⟩ := info_parts infoCm
  have HCS := Lib.hid hcs
  have HOK := Lib.hid hok
  clear hcs hok
  go_enter Tryz.func28, Tryz.ntmps28
  go_wp2
  go_loopw [3, 9] (fun ov iv wr => ∃ (k : Nat) (xs : List CmX), k ≤ cs.length ∧ iv = .int .i64 k ∧ xs.length = k ∧ Hid (xs.map (·.1) = cs.take k) ∧ wr.ownsRow w.heap.size 59 13 ov xs.length (cmCells xs) ∧ (∀ x ∈ xs, ElOwn wr w.heap.size x) ∧ Below w.heap.size w wr) (fun _ iv _ => cs.length - (intOf iv).toNat)
  case atStart => exact ⟨0, [], Nat.zero_le _, rfl, rfl, Lib.hid (by simp), own_emptyS w _ _, by simp, (Below.refl _ _).alloc (Nat.le_refl _) _⟩
  case round =>
    obtain ⟨k, xs, hk, rfl, hxl, HX, hO, hE, hB⟩ := hrel
    have HO := Lib.hid hO
    have HE := Lib.hid hE
    have HB := Lib.hid hB
    have hszB := hB.size
    have hxk : xs.length ≤ k := by omega
    have HXL := Lib.hid hxl
    clear hO hE hB hxl
    by_cases hlt : k < cs.length
    · obtain ⟨c, hc, htk, hmem⟩ := nth cs k hlt
      have hne : cs ≠ [] := by intro h; rw [h] at hlt; simp at hlt
      obtain ⟨b, off, rfl, hcells⟩ := HCS.out hne
      obtain ⟨nv, rv, hin, hcell⟩ := hcells k c hc
      have hco := HOK.out c hmem
      have hcn := hco.nums
      have hcr := hco.raw
      have HIN := Lib.hid (hin.below HB.out)
      have HCELL := Lib.hid (show ∀ (j : Nat) u, (cmCs c nv rv)[j]? = some u → wr.cell? ⟨b, off + k * 13 + j, none⟩ = some u from fun j u hj => cell_later HB.out (hcell j u hj))
      have HTK := Lib.hid htk
      have q1 : (k : Int) < (cs.length : Int) := by omega
      clear hc htk hmem hne hcells hin hcell hco
      obtain ⟨on, cn, rfl, hn1, _⟩ := HIN.out.1.1.at
      obtain ⟨orr, cr, rfl, hr1⟩ := HIN.out.1.2.at
      -- the command's own block
      have hA := (show Below wr.heap.size wr (wr.alloc (.cells #[.string ⟨c.verb.toArray⟩, .slice on c.nums.length cn, .int .i64 c.ev.kind, .int .i64 c.ev.order, .int .i64 c.ev.item, .int .i64 c.ev.qty, .int .i64 c.ev.price, .int .i64 c.ev.cur, .int .i64 c.ev.tax, .string ⟨c.ev.who.toArray⟩, .int .i64 c.ev.stamp, .string ⟨c.ev.note.toArray⟩, .slice orr c.raw.length cr] 59)) from (Below.refl _ _).alloc (Nat.le_refl _) _)
      have HCa := Lib.hid (show CmBlk (wr.alloc (.cells #[.string ⟨c.verb.toArray⟩, .slice on c.nums.length cn, .int .i64 c.ev.kind, .int .i64 c.ev.order, .int .i64 c.ev.item, .int .i64 c.ev.qty, .int .i64 c.ev.price, .int .i64 c.ev.cur, .int .i64 c.ev.tax, .string ⟨c.ev.who.toArray⟩, .int .i64 c.ev.stamp, .string ⟨c.ev.note.toArray⟩, .slice orr c.raw.length cr] 59)) wr.heap.size c (.slice on c.nums.length cn) (.slice orr c.raw.length cr) from heap_alloc_new wr _)
      have HBa := Lib.hid hA
      have HINa := Lib.hid (HIN.out.below hA)
      have HCEa := Lib.hid (show ∀ (j : Nat) u, (cmCs c (.slice on c.nums.length cn) (.slice orr c.raw.length cr))[j]? = some u → (wr.alloc (.cells #[.string ⟨c.verb.toArray⟩, .slice on c.nums.length cn, .int .i64 c.ev.kind, .int .i64 c.ev.order, .int .i64 c.ev.item, .int .i64 c.ev.qty, .int .i64 c.ev.price, .int .i64 c.ev.cur, .int .i64 c.ev.tax, .string ⟨c.ev.who.toArray⟩, .int .i64 c.ev.stamp, .string ⟨c.ev.note.toArray⟩, .slice orr c.raw.length cr] 59)).cell? ⟨b, off + k * 13 + j, none⟩ = some u from fun j u hj => cell_later hA (HCELL.out j u hj))
      have hsza : (wr.alloc (.cells #[.string ⟨c.verb.toArray⟩, .slice on c.nums.length cn, .int .i64 c.ev.kind, .int .i64 c.ev.order, .int .i64 c.ev.item, .int .i64 c.ev.qty, .int .i64 c.ev.price, .int .i64 c.ev.cur, .int .i64 c.ev.tax, .string ⟨c.ev.who.toArray⟩, .int .i64 c.ev.stamp, .string ⟨c.ev.note.toArray⟩, .slice orr c.raw.length cr] 59)).heap.size = wr.heap.size + 1 := by simp
      clear hA
      have c1 := HCEa.out 1 _ rfl
      have HM1 := own_emptyS (wr.alloc (.cells #[.string ⟨c.verb.toArray⟩, .slice on c.nums.length cn, .int .i64 c.ev.kind, .int .i64 c.ev.order, .int .i64 c.ev.item, .int .i64 c.ev.qty, .int .i64 c.ev.price, .int .i64 c.ev.cur, .int .i64 c.ev.tax, .string ⟨c.ev.who.toArray⟩, .int .i64 c.ev.stamp, .string ⟨c.ev.note.toArray⟩, .slice orr c.raw.length cr] 59)) 3 1
      rw [hsza] at HM1
      have HME := Lib.hid HM1
      have hAE := (show Below (wr.alloc (.cells #[.string ⟨c.verb.toArray⟩, .slice on c.nums.length cn, .int .i64 c.ev.kind, .int .i64 c.ev.order, .int .i64 c.ev.item, .int .i64 c.ev.qty, .int .i64 c.ev.price, .int .i64 c.ev.cur, .int .i64 c.ev.tax, .string ⟨c.ev.who.toArray⟩, .int .i64 c.ev.stamp, .string ⟨c.ev.note.toArray⟩, .slice orr c.raw.length cr] 59)).heap.size (wr.alloc (.cells #[.string ⟨c.verb.toArray⟩, .slice on c.nums.length cn, .int .i64 c.ev.kind, .int .i64 c.ev.order, .int .i64 c.ev.item, .int .i64 c.ev.qty, .int .i64 c.ev.price, .int .i64 c.ev.cur, .int .i64 c.ev.tax, .string ⟨c.ev.who.toArray⟩, .int .i64 c.ev.stamp, .string ⟨c.ev.note.toArray⟩, .slice orr c.raw.length cr] 59)) ((wr.alloc (.cells #[.string ⟨c.verb.toArray⟩, .slice on c.nums.length cn, .int .i64 c.ev.kind, .int .i64 c.ev.order, .int .i64 c.ev.item, .int .i64 c.ev.qty, .int .i64 c.ev.price, .int .i64 c.ev.cur, .int .i64 c.ev.tax, .string ⟨c.ev.who.toArray⟩, .int .i64 c.ev.stamp, .string ⟨c.ev.note.toArray⟩, .slice orr c.raw.length cr] 59)).alloc (.cells #[] 3)) from (Below.refl _ _).alloc (Nat.le_refl _) _)
      have HBE := Lib.hid hAE
      have c1' := cell_later hAE c1
      have HINe := Lib.hid (HINa.out.below hAE)
      clear HM1 c1 hAE
      go_wp2_with (first
        | (with_reducible refine wpList_load_cmAt rfl (.tmp 14) rfl b (off + k * 13) c (.slice on c.nums.length cn) (.slice orr c.raw.length cr) rfl HCELL.out ?_)
        | (at_builtin; refine wpList_copyInts rfl _ _ rfl (wr.heap.size + 1) _ _ c.nums rfl HME.out rfl HINe.out.1.1 HINe.out.2.1 (by omega) (by simp) ?_))
      intro v1 w1 hown1 hgrow1
      have hb1 : Below (wr.alloc (.cells #[.string ⟨c.verb.toArray⟩, .slice on c.nums.length cn, .int .i64 c.ev.kind, .int .i64 c.ev.order, .int .i64 c.ev.item, .int .i64 c.ev.qty, .int .i64 c.ev.price, .int .i64 c.ev.cur, .int .i64 c.ev.tax, .string ⟨c.ev.who.toArray⟩, .int .i64 c.ev.stamp, .string ⟨c.ev.note.toArray⟩, .slice orr c.raw.length cr] 59)).heap.size (wr.alloc (.cells #[.string ⟨c.verb.toArray⟩, .slice on c.nums.length cn, .int .i64 c.ev.kind, .int .i64 c.ev.order, .int .i64 c.ev.item, .int .i64 c.ev.qty, .int .i64 c.ev.price, .int .i64 c.ev.cur, .int .i64 c.ev.tax, .string ⟨c.ev.who.toArray⟩, .int .i64 c.ev.stamp, .string ⟨c.ev.note.toArray⟩, .slice orr c.raw.length cr] 59)) w1 := HBE.out.grown hgrow1 HBE.out.size (fun k e => by have := (HME.out.lt k e).1; omega)
      obtain ⟨o1, cc1, rfl, _, _⟩ := own_shape hown1
      have HN1 := Lib.hid hown1
      have HC1 := Lib.hid (HCa.out.below hb1)
      have hr1' := Below.next HBa.out hb1
      have hW1 := But.set (But.refl wr.heap.size w1) 1 (.slice o1 c.nums.length cc1)
      have hR2 : Below wr.heap.size wr (w1.setCell ⟨wr.heap.size, 1, none⟩ (.slice o1 c.nums.length cc1)) := But.below hr1' hW1 (Nat.le_refl _)
      have hsz2 : (w1.setCell ⟨wr.heap.size, 1, none⟩ (.slice o1 c.nums.length cc1)).heap.size = w1.heap.size := by simp
      have hsz1 := hr1'.size
      have hsz1' := hb1.size
      have HC2 := Lib.hid (show CmBlk (w1.setCell ⟨wr.heap.size, 1, none⟩ (.slice o1 c.nums.length cc1)) wr.heap.size c (.slice o1 c.nums.length cc1) (.slice orr c.raw.length cr) from HC1.out.put 1 _ rfl)
      have HN2 := Lib.hid (own_but' HN1.out hW1 (fun e => by have := (HN1.out.lt _ e).1; omega))
      have HIN2 := HIN.out.below hR2
      have d1 : w1.cell? ⟨wr.heap.size, 1, none⟩ = some (.slice on c.nums.length cn) := HC1.out.cell 1
      have e1 : w1.frozen? ⟨wr.heap.size, 1, none⟩ = false := HC1.out.free 1
      have hAE2 := (show Below (w1.setCell ⟨wr.heap.size, 1, none⟩ (.slice o1 c.nums.length cc1)).heap.size (w1.setCell ⟨wr.heap.size, 1, none⟩ (.slice o1 c.nums.length cc1)) ((w1.setCell ⟨wr.heap.size, 1, none⟩ (.slice o1 c.nums.length cc1)).alloc (.cells #[] 5)) from (Below.refl _ _).alloc (Nat.le_refl _) _)
      have HBE2 := Lib.hid hAE2
      have HINe2 := Lib.hid (HIN2.below hAE2)
      have HM2 := own_emptyS (w1.setCell ⟨wr.heap.size, 1, none⟩ (.slice o1 c.nums.length cc1)) 5 1
      rw [hsz2] at HM2
      have HME2 := Lib.hid HM2
      have c12 := cell_later hAE2 (cell_later hR2 (HCELL.out 12 _ rfl))
      have HR2 := Lib.hid hR2
      clear hown1 hgrow1 hb1 hr1' hW1 hR2 hsz2 HIN2 hAE2 HM2 c1' HINe HBE HME
      go_wp2_with (at_builtin; refine wpList_copyBytes rfl _ _ rfl w1.heap.size _ _ c.raw rfl HME2.out rfl HINe2.out.1.2 HINe2.out.2.2 (by omega) (by simp) ?_)
      intro v3 w3 hown3 hgrow3
      have hb3 : Below (w1.setCell ⟨wr.heap.size, 1, none⟩ (.slice o1 c.nums.length cc1)).heap.size (w1.setCell ⟨wr.heap.size, 1, none⟩ (.slice o1 c.nums.length cc1)) w3 := HBE2.out.grown hgrow3 HBE2.out.size (fun k e => by have := (HME2.out.lt k e).1; simp; omega)
      obtain ⟨o3, cc3, rfl, _, _⟩ := own_shape hown3
      have HN3 := Lib.hid (own_later HN2.out hb3)
      have HR3 := Lib.hid hown3
      have HC3 := Lib.hid (HC2.out.below hb3)
      have hr3 := Below.next HR2.out hb3
      have hW3 := But.set (But.refl wr.heap.size w3) 12 (.slice o3 c.raw.length cc3)
      have hR4 : Below wr.heap.size wr (w3.setCell ⟨wr.heap.size, 12, none⟩ (.slice o3 c.raw.length cc3)) := But.below hr3 hW3 (Nat.le_refl _)
      have hs4 : (w3.setCell ⟨wr.heap.size, 12, none⟩ (.slice o3 c.raw.length cc3)).heap.size = w3.heap.size := by simp
      have hsz3 := hr3.size
      have HC4 := Lib.hid (show CmBlk (w3.setCell ⟨wr.heap.size, 12, none⟩ (.slice o3 c.raw.length cc3)) wr.heap.size c (.slice o1 c.nums.length cc1) (.slice o3 c.raw.length cc3) from HC3.out.put 12 _ rfl)
      have HN4 := Lib.hid (own_but' HN3.out hW3 (fun e => by have := (HN3.out.lt _ e).1; omega))
      have HR4 := Lib.hid (own_but' HR3.out hW3 (fun e => by have := (HR3.out.lt _ e).1; omega))
      have HO4 := Lib.hid (own_later HO.out hR4)
      have HE4 := Lib.hid (show ∀ x ∈ xs, ElOwn (w3.setCell ⟨wr.heap.size, 12, none⟩ (.slice o3 c.raw.length cc3)) w.heap.size x from fun x hx => ⟨own_later (HE.out x hx).1 hR4, own_later (HE.out x hx).2 hR4⟩)
      have HB4 := Lib.hid (Below.next HB.out hR4)
      have d12 : w3.cell? ⟨wr.heap.size, 12, none⟩ = some (.slice orr c.raw.length cr) := HC3.out.cell 12
      have e12 : w3.frozen? ⟨wr.heap.size, 12, none⟩ = false := HC3.out.free 12
      have hAT := (show Below (w3.setCell ⟨wr.heap.size, 12, none⟩ (.slice o3 c.raw.length cc3)).heap.size (w3.setCell ⟨wr.heap.size, 12, none⟩ (.slice o3 c.raw.length cc3)) ((w3.setCell ⟨wr.heap.size, 12, none⟩ (.slice o3 c.raw.length cc3)).alloc (.cells #[.string ⟨c.verb.toArray⟩, .slice o1 c.nums.length cc1, .int .i64 c.ev.kind, .int .i64 c.ev.order, .int .i64 c.ev.item, .int .i64 c.ev.qty, .int .i64 c.ev.price, .int .i64 c.ev.cur, .int .i64 c.ev.tax, .string ⟨c.ev.who.toArray⟩, .int .i64 c.ev.stamp, .string ⟨c.ev.note.toArray⟩, .slice o3 c.raw.length cc3] 59)) from (Below.refl _ _).alloc (Nat.le_refl _) _)
      have HO5 := Lib.hid (own_later HO4.out hAT)
      have HN5 := Lib.hid (own_later HN4.out hAT)
      have HR5 := Lib.hid (own_later HR4.out hAT)
      have HE5 := Lib.hid (show ∀ x ∈ xs, ElOwn ((w3.setCell ⟨wr.heap.size, 12, none⟩ (.slice o3 c.raw.length cc3)).alloc (.cells #[.string ⟨c.verb.toArray⟩, .slice o1 c.nums.length cc1, .int .i64 c.ev.kind, .int .i64 c.ev.order, .int .i64 c.ev.item, .int .i64 c.ev.qty, .int .i64 c.ev.price, .int .i64 c.ev.cur, .int .i64 c.ev.tax, .string ⟨c.ev.who.toArray⟩, .int .i64 c.ev.stamp, .string ⟨c.ev.note.toArray⟩, .slice o3 c.raw.length cc3] 59)) w.heap.size x from fun x hx => ⟨own_later (HE4.out x hx).1 hAT, own_later (HE4.out x hx).2 hAT⟩)
      have HB5 := Lib.hid (Below.next HB4.out hAT)
      have hc5 : ∀ (j : Nat) u, (cmCs c (.slice o1 c.nums.length cc1) (.slice o3 c.raw.length cc3))[j]? = some u → ((w3.setCell ⟨wr.heap.size, 12, none⟩ (.slice o3 c.raw.length cc3)).alloc (.cells #[.string ⟨c.verb.toArray⟩, .slice o1 c.nums.length cc1, .int .i64 c.ev.kind, .int .i64 c.ev.order, .int .i64 c.ev.item, .int .i64 c.ev.qty, .int .i64 c.ev.price, .int .i64 c.ev.cur, .int .i64 c.ev.tax, .string ⟨c.ev.who.toArray⟩, .int .i64 c.ev.stamp, .string ⟨c.ev.note.toArray⟩, .slice o3 c.raw.length cc3] 59)).cell? ⟨(w3.setCell ⟨wr.heap.size, 12, none⟩ (.slice o3 c.raw.length cc3)).heap.size, j, none⟩ = some u := fun j u hj => by
        rw [CmBlk.cell (show CmBlk ((w3.setCell ⟨wr.heap.size, 12, none⟩ (.slice o3 c.raw.length cc3)).alloc (.cells #[.string ⟨c.verb.toArray⟩, .slice o1 c.nums.length cc1, .int .i64 c.ev.kind, .int .i64 c.ev.order, .int .i64 c.ev.item, .int .i64 c.ev.qty, .int .i64 c.ev.price, .int .i64 c.ev.cur, .int .i64 c.ev.tax, .string ⟨c.ev.who.toArray⟩, .int .i64 c.ev.stamp, .string ⟨c.ev.note.toArray⟩, .slice o3 c.raw.length cc3] 59)) (w3.setCell ⟨wr.heap.size, 12, none⟩ (.slice o3 c.raw.length cc3)).heap.size c (.slice o1 c.nums.length cc1) (.slice o3 c.raw.length cc3) from heap_alloc_new _ _)]; exact hj
      clear hown3 hgrow3 hb3 hr3 hW3 hR4 hAT d1 e1 c12 HBE2 HINe2 HME2
      go_wp2_with (first
        | (with_reducible refine wpList_load_cm rfl (.tmp 5) rfl wr.heap.size c (.slice o1 c.nums.length cc1) (.slice o3 c.raw.length cc3) rfl HC4.out ?_)
        | (at_builtin; refine wpList_append_own _ rfl _ _ 60 rfl w.heap.size 59 i0 zeroCm 13 160 Tryz.underlying60 hi hz0 hz1 hz2 rfl (by decide) _ _ _ rfl HO5.out _ 1 1 (cmCs c (.slice o1 c.nums.length cc1) (.slice o3 c.raw.length cc3)).toList rfl rfl ?c1 ?c2 ?c3 ?c4 ?c5 ?_))
      case c1 =>
        intro j u hj
        have := hc5 j u (by simpa using hj)
        rw [addr_add, Nat.zero_add]
        first | exact this | (rw [hs4] at this; exact this)
      case c2 => intro u hu; exact Array.all_eq_true_iff_forall_mem.1 (cmCs_one c (.slice o1 c.nums.length cc1) (.slice o3 c.raw.length cc3) rfl rfl) u (by simpa using hu)
      case c3 => unfold maxLen; omega
      case c4 => omega
      case c5 => exact HB5.out.size
      intro v' w6 hown6 hgrow6 _
      have hB6 : Below w.heap.size w w6 := HB5.out.grown hgrow6 HB5.out.size (fun k e => (HO5.out.lt k e).1)
      have hN6 : ElOwn w6 w.heap.size (c, (.slice o1 c.nums.length cc1), (.slice o3 c.raw.length cc3)) := ⟨own_mono (own_grown HN5.out hgrow6 (fun k hk => own_ne HN5.out HO5.out (by decide) hk)) (by omega), own_mono (own_grown HR5.out hgrow6 (fun k hk => own_ne HR5.out HO5.out (by decide) hk)) (by omega)⟩
      have hE6 : ∀ x ∈ xs, ElOwn w6 w.heap.size x := fun x hx => ⟨own_grown (HE5.out x hx).1 hgrow6 (fun k hk => own_ne (HE5.out x hx).1 HO5.out (by decide) hk), own_grown (HE5.out x hx).2 hgrow6 (fun k hk => own_ne (HE5.out x hx).2 HO5.out (by decide) hk)⟩
      have HX6 := Lib.hid (show (xs ++ [((c, (.slice o1 c.nums.length cc1), (.slice o3 c.raw.length cc3)) : CmX)]).map (·.1) = cs.take (k + 1) by rw [List.map_append, HX.out, HTK.out]; rfl)
      have HO6 := Lib.hid hown6
      have HE6 := Lib.hid (show ∀ x ∈ xs ++ [((c, (.slice o1 c.nums.length cc1), (.slice o3 c.raw.length cc3)) : CmX)], ElOwn w6 w.heap.size x from fun x hx => by
        rcases List.mem_append.1 hx with hx | hx
        · exact hE6 x hx
        · rw [List.mem_singleton.1 hx]; exact hN6)
      have HB6 := Lib.hid hB6
      clear hown6 hgrow6 hB6 hN6 hE6 hc5
      go_wp2
      go_roundw
      case rel => exact ⟨k + 1, xs ++ [(c, (.slice o1 c.nums.length cc1), (.slice o3 c.raw.length cc3))], by omega, by go_num, by have := HXL.out; simp; omega, HX6, by rw [← cmCells_snoc]; simpa using HO6.out, HE6.out, HB6.out⟩
      case measure => simp [intOf]; omega
    · obtain rfl : k = cs.length := by omega
      have hfin := Lib.hid (show xs.map (·.1) = cs by rw [HX.out, List.take_length])
      go_wp2
      go_ret
      exact ⟨_, xs, rfl, hfin.out, HO.out, HE.out, HB.out⟩

end Go.Proofs.YtecmpmnidlfgnaaGreatDoor
