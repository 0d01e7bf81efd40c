import Derived.Test.YtlobohpbgghleaaGreatDoorTk
namespace Go.Proofs.YtlobohpbgghleaaGreatDoor
open Go.RowKit

/-! ## bytes appended to a row of the call's own -/

/-- a row of bytes of one's own, from block B on -/
def OwnB (w : World) (B : Nat) (v : Value) (bs : List UInt8) : Prop := w.ownsRow B 5 1 v bs.length (Lib.byteCells bs)
theorem OwnB.brow {w : World} {B : Nat} {v : Value} {bs : List UInt8} (h : OwnB w B v bs) : BRow w v bs := brow_own h
theorem OwnB.later {w w' : World} {B : Nat} {v : Value} {bs : List UInt8} (h : OwnB w B v bs) (hb : Below w.heap.size w w') : OwnB w' B v bs := own_later h hb
theorem OwnB.mono {w : World} {B B' : Nat} {v : Value} {bs : List UInt8} (h : OwnB w B v bs) (hB : B' ≤ B) : OwnB w B' v bs := by
  refine ⟨h.1, ?_⟩
  rcases h.2 with hn | ⟨g, cap, cur, h1, h2, rest⟩
  · exact .inl hn
  · exact .inr ⟨g, cap, cur, h1, by omega, rest⟩
theorem OwnB.nil (w : World) (B : Nat) : OwnB w B (.slice none 0 0) [] := ⟨rfl, .inl ⟨rfl, rfl⟩⟩

theorem below_of_grown {B : Nat} {w w' : World} {v : Value} {e : TypeId} {size n : Nat} {xs : List Value} (h : w.ownsRow B e size v n xs) (hB : B ≤ w.heap.size) (hg : w.grownBy w' v.ownBlock) : Below B w w' :=
  ⟨hg.os, hg.tape, hg.output, hg.size, fun k hk => hg.block k (Nat.lt_of_lt_of_le hk hB) fun e => by have := (h.lt k e.symm).1; omega⟩

theorem run_appB {B : Nat} {w : World} {v x : Value} {bs m : List UInt8} (hown : OwnB w B v bs) (hB : B ≤ w.heap.size) (hx : BRow w x m) (hl : bs.length + m.length ≤ 140737488355328) (ty : TypeId) :
    ∃ v' w', (Builtin.append_ #[47, 47] ty #[v, x]).run Tryz.prog w = .ok v' w' ∧ OwnB w' B v' (bs ++ m) ∧ Below B w w' := by
  obtain ⟨i0, hi, hz0, hz1, hz2⟩ := info_parts infoByteB
  obtain ⟨oa, xc, rfl, hxl, hxc⟩ := hx
  have key : ∀ a : Addr, oa = some a → (∀ j u, (Lib.byteCells m)[j]? = some u → w.cell? (a.add j) = some u) →
      ∃ v' w', (Builtin.append_ #[47, 47] ty #[v, .slice oa m.length xc]).run Tryz.prog w = .ok v' w' ∧ OwnB w' B v' (bs ++ m) ∧ Below B w w' := by
    rintro a rfl hc
    obtain ⟨v', w', h1, h2, h3, _⟩ := run_append_own (P := Tryz.prog) w B 47 ty 5 i0 (.int .u8 0) 1 1 Tryz.underlying47 hi hz0 hz1 hz2 rfl (by decide) v bs.length _ hown a m.length xc (Lib.byteCells m) (by simp [Lib.byteCells]) hc (fun u hu => by obtain ⟨_, _, rfl⟩ := List.mem_map.1 hu; rfl) (by unfold maxLen; omega) (by omega) hB
    exact ⟨v', w', h1, by unfold OwnB; rw [List.length_append, show Lib.byteCells (bs ++ m) = Lib.byteCells bs ++ Lib.byteCells m by simp [Lib.byteCells]]; exact h2, below_of_grown hown hB h3⟩
  by_cases hm : m = []
  · subst hm
    rcases oa with _ | a
    · obtain ⟨ao, cap, rfl, hc, _⟩ := own_shape hown
      refine ⟨.slice ao bs.length cap, w, ?_, by simpa using hown, Below.refl _ _⟩
      rcases ao with _ | ao <;> simp [Builtin.append_, run_underlying Tryz.underlying47, sizeOf, typeInfo, hi, Builtin.lenOf, Builtin.firstCells, hc, storeCells]
    · exact key a rfl (fun j u hj => by simp [Lib.byteCells] at hj)
  · obtain ⟨b, off, rfl, hc⟩ := hxc hm
    refine key _ rfl fun j u hj => ?_
    rw [addr_add]
    rw [Lib.byteCells, List.getElem?_map] at hj
    obtain ⟨y, hy, rfl⟩ := Option.map_eq_some_iff.1 hj
    exact hc j y hy

section
variable {ops : Array Oper} {rest : List Oper} {o : Oper} {a : Act} {Q : Exit → Act → World → Prop}
/-- 'append(b, x...)' at the operation -/
theorem wpList_appB {w : World} (hgd : o.guard = none) (s y : Operand) (ho : o.op = .call { callee := .builtin .append, args := #[s, y], argTypes := #[47, 47] }) {B : Nat} {v x : Value} {bs m : List UInt8}
    (hs : a.eval s = v) (hy : a.eval y = x) (hown : OwnB w B v bs) (hB : B ≤ w.heap.size) (hx : BRow w x m) (hl : bs.length + m.length ≤ 140737488355328)
    (h : ∀ v' w', OwnB w' B v' (bs ++ m) → Below B w w' → wpList Tryz.prog ops Q rest (a.put o.dst v') w') : wpList Tryz.prog ops Q (o :: rest) a w := by
  refine wpList_plain hgd fun K hK => ?_
  obtain ⟨v', w', hr, h1, h2⟩ := run_appB hown hB hx hl o.type
  unfold Oper.wp
  simp [execOp, ho, resolve, invoke, builtin, hs, hy, hr, Result.andThen]
  exact hK _ _ (h v' w' h1 h2)
theorem wp_appB {w : World} {K : Act → World → Prop} (s y : Operand) (ho : o.op = .call { callee := .builtin .append, args := #[s, y], argTypes := #[47, 47] }) {B : Nat} {v x : Value} {bs m : List UInt8}
    (hs : a.eval s = v) (hy : a.eval y = x) (hown : OwnB w B v bs) (hB : B ≤ w.heap.size) (hx : BRow w x m) (hl : bs.length + m.length ≤ 140737488355328)
    (h : ∀ v' w', OwnB w' B v' (bs ++ m) → Below B w w' → K (a.put o.dst v') w') : o.wp Tryz.prog a w K Q := by
  obtain ⟨v', w', hr, h1, h2⟩ := run_appB hown hB hx hl o.type
  unfold Oper.wp execOp
  simp only [ho, resolve, invoke, builtin, Sem.run_bind, Sem.run_pure, Result.andThen_ok, List.map_toArray, List.map_cons, List.map_nil, hs, hy, hr]
  exact h v' w' h1 h2
/-- 'append(b, c)' at the operation -/
theorem wpList_app1 {w : World} (hgd : o.guard = none) (s y : Operand) (ho : o.op = .call { callee := .builtin .append, args := #[s, y], argTypes := #[47, 47] }) {B : Nat} {v : Value} {bs : List UInt8} {cv : Int} (c : UInt8)
    (hs : a.eval s = v) (hy : a.eval y = .slice (some ⟨w.heap.size, 0, none⟩) 1 1) (hown : OwnB w B v bs) (hB : B ≤ w.heap.size) (hc : cv = (c.toNat : Int)) (hl : bs.length + 1 ≤ 140737488355328)
    (h : ∀ v' w', OwnB w' B v' (bs ++ [c]) → Below B w w' → w.heap.size ≤ w'.heap.size → wpList Tryz.prog ops Q rest (a.put o.dst v') w') : wpList Tryz.prog ops Q (o :: rest) a (w.alloc (.cells #[.int .u8 cv] 5)) := by
  have hb := below_alloc w (.cells #[.int .u8 cv] 5)
  refine wpList_appB hgd s y ho hs hy (own_later hown hb) (Nat.le_trans hB hb.size) (m := [c]) ⟨_, 1, rfl, Nat.le_refl _, fun _ => ⟨w.heap.size, 0, rfl, fun i x hi => ?_⟩⟩ (by simpa using hl) fun v' w' h1 h2 => h v' w' h1 ((hb.mono hB).trans h2) (Nat.le_trans hb.size h2.size)
  rw [World.cell?_alloc_new]
  match i, hi with
  | 0, hi => simp at hi; subst hi; simp [hc]
end

end Go.Proofs.YtlobohpbgghleaaGreatDoor
