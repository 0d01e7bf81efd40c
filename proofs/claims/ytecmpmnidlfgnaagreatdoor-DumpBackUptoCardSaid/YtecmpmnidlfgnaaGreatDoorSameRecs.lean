import Derived.Test.YtecmpmnidlfgnaaGreatDoorRecRow
import Derived.Laws.AppendOwnNone
import Derived.Deep.QuietTactic
namespace Go.Proofs.YtecmpmnidlfgnaaGreatDoor
open Go.RowKit

/-! ## a copy of records: 'append([]Record{}, rs...)' -/

theorem recCells_get {rs : List Rec} {j : Nat} {u : Value} (h : (recCells rs)[j]? = some u) : ∃ r, rs[j / 11]? = some r ∧ (rcCs r)[j % 11]? = some u := by
  have hl := getElem?_lt h
  rw [recCells_length] at hl
  have hi : j / 11 < rs.length := by omega
  refine ⟨rs[j / 11], List.getElem?_eq_getElem hi, ?_⟩
  have hj : j % 11 < (rcCs rs[j / 11]).size := Nat.mod_lt _ (by decide)
  have := recCells_at rs (j / 11) rs[j / 11] (List.getElem?_eq_getElem hi) (j % 11) _ (Array.getElem?_eq_getElem hj)
  rw [show j / 11 * 11 + j % 11 = j by omega, h] at this
  rw [Array.getElem?_eq_getElem hj]
  exact this.symm

theorem RecRow.addr {w : World} {v : Value} {rs : List Rec} (h : RecRow w v rs) : (v = .slice none 0 0 ∧ rs = []) ∨ ∃ ad c, v = .slice (some ad) rs.length c ∧ ∀ j u, (recCells rs)[j]? = some u → w.cell? (ad.add j) = some u := by
  obtain ⟨oa, cap, rfl, h0, h1, h2, h3⟩ := h
  by_cases hn : rs = []
  · subst hn
    cases oa with
    | none => rw [h0 rfl]; exact .inl ⟨rfl, rfl⟩
    | some ad => exact .inr ⟨ad, cap, rfl, fun j u hj => by simp [recCells] at hj⟩
  · obtain ⟨b, off, rfl, h4⟩ := h3 hn
    refine .inr ⟨_, cap, rfl, fun j u hj => ?_⟩
    obtain ⟨r, hr, hu⟩ := recCells_get hj
    rw [addr_add]
    have := h4 _ r hr _ u hu
    rw [Nat.add_assoc, show j / 11 * 11 + j % 11 = j by omega] at this
    exact this

theorem recCells_one' (rs : List Rec) : ∀ u ∈ recCells rs, u.oneCell' = true := by
  intro u hu
  unfold recCells at hu
  obtain ⟨r, _, hr⟩ := List.mem_flatMap.1 hu
  exact Array.all_eq_true_iff_forall_mem.1 (rcCs_one r) u (by simpa using hr)

theorem wpList_copyRecs {w : World} {ops : Array Oper} {rest : List Oper} {o : Oper} {a : Act} {Q : Exit → Act → World → Prop} (hgd : o.guard = none) (s x : Operand)
    (ho : o.op = .call { callee := .builtin .append, args := #[s, x], argTypes := #[45, 45] })
    (base : Nat) (v v2 : Value) (rs : List Rec) (hs : a.eval s = v) (hown : w.ownsRow base 37 11 v 0 []) (hx : a.eval x = v2) (hr : RecRow w v2 rs) (hn : rs.length ≤ 2097152) (hbase : base ≤ w.heap.size)
    (h : ∀ v' w', w'.ownsRow base 37 11 v' rs.length (recCells rs) → w.grownBy w' v.ownBlock → wpList Tryz.prog ops Q rest (a.put o.dst v') w') : wpList Tryz.prog ops Q (o :: rest) a w := by
  obtain ⟨i0, hi, hz0, hz1, hz2⟩ := info_parts infoRec
  rcases hr.addr with ⟨rfl, rfl⟩ | ⟨ad, c, rfl, hc⟩
  · refine wpList_append_own_none hgd s x _ ho base 37 i0 11 Tryz.underlying45 hi v 0 [] hs hown hx (h v w hown ⟨rfl, rfl, rfl, Nat.le_refl _, fun _ _ _ => rfl⟩)
  · refine wpList_append_own w hgd s x _ ho base 37 i0 zeroRec 11 104 Tryz.underlying45 hi hz0 hz1 hz2 rfl (by decide) v 0 [] hs hown ad rs.length c (recCells rs) hx (recCells_length rs) hc (recCells_one' rs) (by unfold maxLen; omega) (by omega) hbase ?_
    intro v' w' h1 h2 _
    rw [Nat.zero_add, List.nil_append] at h1
    exact h v' w' h1 h2

end Go.Proofs.YtecmpmnidlfgnaaGreatDoor

namespace Go.Proofs.YtecmpmnidlfgnaaGreatDoor
open Go.RowKit

/-! ## the reference's SameRecords, at equal lists -/

set_option maxRecDepth 100000 in
set_option maxHeartbeats 4000000 in
theorem sameRecs_any (rs : List Rec) (v1 v2 : Value) (w : World) (h1 : RecRow w v1 rs) (h2 : RecRow w v2 rs) :
    Calls Tryz.prog 23 #[v1, v2] w fun x w' => x = .returned (.bool true) ∧ Below w.heap.size w w' := by
  rcases h1.shape with ⟨rfl, oa, cap, rfl⟩ | ⟨b1, off1, cap1, rfl, hl1, hc1, hcs1⟩
  · obtain ⟨oa2, cap2, rfl, _⟩ := h2
    go_enter Tryz.func23, Tryz.ntmps23
    go_wp2
    refine wp_loop_rounds 1 ?_
    rw [rounds_succ]
    go_wp2
    go_ret
    exact ⟨rfl, Below.refl _ _⟩
  rcases h2.shape with ⟨rfl, oa, cap, rfl⟩ | ⟨b2, off2, cap2, rfl, hl2, hc2, hcs2⟩
  · go_enter Tryz.func23, Tryz.ntmps23
    go_wp2
    refine wp_loop_rounds 1 ?_
    rw [rounds_succ]
    go_wp2
    go_ret
    exact ⟨rfl, Below.refl _ _⟩
  have HC1 := Lib.hid hcs1
  have HC2 := Lib.hid hcs2
  clear h1 h2 hcs1 hcs2
  go_enter Tryz.func23, Tryz.ntmps23
  go_wp2
  go_loopw [13] (fun iv wr => ∃ k : Nat, k ≤ rs.length ∧ iv = .int .i64 k ∧ Below w.heap.size w wr) (fun iv _ => rs.length - (intOf iv).toNat)
  case atStart => exact ⟨0, Nat.zero_le _, rfl, Below.refl _ _⟩
  case round =>
    obtain ⟨k, hk, rfl, hb⟩ := hrel
    have HB := Lib.hid hb
    clear hb
    by_cases hlt : k < rs.length
    · obtain ⟨r, hr, _, _⟩ := nth rs k hlt
      have HR := Lib.hid hr
      have q1 : (k : Int) < (rs.length : Int) := by omega
      clear hr
      have g1 : ∀ (j : Nat) u, (rcCs r)[j]? = some u → wr.cell? ⟨b1, off1 + k * 11 + j, none⟩ = some u := fun j u hj => cell_later HB.out (HC1.out k r HR.out j u hj)
      have g2 : ∀ (j : Nat) u, (rcCs r)[j]? = some u → wr.cell? ⟨b2, off2 + k * 11 + j, none⟩ = some u := fun j u hj => cell_later HB.out (HC2.out k r HR.out j u hj)
      have c0 : wr.cell? ⟨b1, off1 + k * 11, none⟩ = some (.int .i64 r.1) := g1 0 _ rfl
      have c1 : wr.cell? ⟨b1, off1 + k * 11 + 1, none⟩ = some (.int .i64 r.2.kind) := g1 1 _ rfl
      have c2 : wr.cell? ⟨b1, off1 + k * 11 + 2, none⟩ = some (.int .i64 r.2.order) := g1 2 _ rfl
      have c3 : wr.cell? ⟨b1, off1 + k * 11 + 3, none⟩ = some (.int .i64 r.2.item) := g1 3 _ rfl
      have c4 : wr.cell? ⟨b1, off1 + k * 11 + 4, none⟩ = some (.int .i64 r.2.qty) := g1 4 _ rfl
      have c5 : wr.cell? ⟨b1, off1 + k * 11 + 5, none⟩ = some (.int .i64 r.2.price) := g1 5 _ rfl
      have c6 : wr.cell? ⟨b1, off1 + k * 11 + 6, none⟩ = some (.int .i64 r.2.cur) := g1 6 _ rfl
      have c7 : wr.cell? ⟨b1, off1 + k * 11 + 7, none⟩ = some (.int .i64 r.2.tax) := g1 7 _ rfl
      have c8 : wr.cell? ⟨b1, off1 + k * 11 + 8, none⟩ = some (.string ⟨r.2.who.toArray⟩) := g1 8 _ rfl
      have c9 : wr.cell? ⟨b1, off1 + k * 11 + 9, none⟩ = some (.int .i64 r.2.stamp) := g1 9 _ rfl
      have c10 : wr.cell? ⟨b1, off1 + k * 11 + 10, none⟩ = some (.string ⟨r.2.note.toArray⟩) := g1 10 _ rfl
      have d0 : wr.cell? ⟨b2, off2 + k * 11, none⟩ = some (.int .i64 r.1) := g2 0 _ rfl
      have d1 : wr.cell? ⟨b2, off2 + k * 11 + 1, none⟩ = some (.int .i64 r.2.kind) := g2 1 _ rfl
      have d2 : wr.cell? ⟨b2, off2 + k * 11 + 2, none⟩ = some (.int .i64 r.2.order) := g2 2 _ rfl
      have d3 : wr.cell? ⟨b2, off2 + k * 11 + 3, none⟩ = some (.int .i64 r.2.item) := g2 3 _ rfl
      have d4 : wr.cell? ⟨b2, off2 + k * 11 + 4, none⟩ = some (.int .i64 r.2.qty) := g2 4 _ rfl
      have d5 : wr.cell? ⟨b2, off2 + k * 11 + 5, none⟩ = some (.int .i64 r.2.price) := g2 5 _ rfl
      have d6 : wr.cell? ⟨b2, off2 + k * 11 + 6, none⟩ = some (.int .i64 r.2.cur) := g2 6 _ rfl
      have d7 : wr.cell? ⟨b2, off2 + k * 11 + 7, none⟩ = some (.int .i64 r.2.tax) := g2 7 _ rfl
      have d8 : wr.cell? ⟨b2, off2 + k * 11 + 8, none⟩ = some (.string ⟨r.2.who.toArray⟩) := g2 8 _ rfl
      have d9 : wr.cell? ⟨b2, off2 + k * 11 + 9, none⟩ = some (.int .i64 r.2.stamp) := g2 9 _ rfl
      have d10 : wr.cell? ⟨b2, off2 + k * 11 + 10, none⟩ = some (.string ⟨r.2.note.toArray⟩) := g2 10 _ rfl
      have heq : ∀ w : World, (binOp .neq 37 (.agg #[.int .i64 r.1, .int .i64 r.2.kind, .int .i64 r.2.order, .int .i64 r.2.item, .int .i64 r.2.qty, .int .i64 r.2.price, .int .i64 r.2.cur, .int .i64 r.2.tax, .string ⟨r.2.who.toArray⟩, .int .i64 r.2.stamp, .string ⟨r.2.note.toArray⟩]) (.agg #[.int .i64 r.1, .int .i64 r.2.kind, .int .i64 r.2.order, .int .i64 r.2.item, .int .i64 r.2.qty, .int .i64 r.2.price, .int .i64 r.2.cur, .int .i64 r.2.tax, .string ⟨r.2.who.toArray⟩, .int .i64 r.2.stamp, .string ⟨r.2.note.toArray⟩])).run Tryz.prog w = .ok (.bool false) w := fun w => by
        have h := run_rcNeq r r w
        rw [(recSame_iff _ _).2 rfl] at h
        exact h
      clear g1 g2
      go_wp2
      go_quiet (fail)
      go_wp2
      go_roundw
      case rel => exact ⟨k + 1, by omega, by go_num, Below.next HB.out (below_drewN' _ _)⟩
      case measure => simp [intOf]; omega
    · obtain rfl : k = rs.length := by omega
      go_wp2
      go_ret
      exact ⟨rfl, HB.out⟩

end Go.Proofs.YtecmpmnidlfgnaaGreatDoor
