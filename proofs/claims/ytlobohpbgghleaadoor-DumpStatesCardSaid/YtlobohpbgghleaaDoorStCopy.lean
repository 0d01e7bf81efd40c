import Derived.Test.YtlobohpbgghleaaDoorState
import Derived.Test.YtlobohpbgghleaaDoorCellV
import Derived.Laws.AppendOwn
import Derived.Laws.OwnMore
import Derived.Laws.MakeOwn
import Derived.Deep.QuietTactic
import Derived.BigQuiet
namespace Go.Proofs.YtlobohpbgghleaaDoor
open Go.RowKit

/-! ## a copy of a state -/

def lnCells (ls : List Ln) : List Value := ls.flatMap fun l => (lnCs l).toList
theorem lnCells_length (ls : List Ln) : (lnCells ls).length = ls.length * 4 := by
  unfold lnCells
  induction ls with
  | nil => rfl
  | cons r rs ih => rw [List.flatMap_cons, List.length_append, ih, List.length_cons]; simp [lnCs]; omega
theorem lnCells_at : ∀ (rs : List Ln) (i : Nat) (r : Ln), rs[i]? = some r → ∀ (j : Nat) u, (lnCs r)[j]? = some u → (lnCells rs)[i * 4 + j]? = some u
  | [], i, r, h, _, _, _ => by simp at h
  | x :: rs, 0, r, h, j, u, hj => by
    simp at h; subst h
    have hl : j < 4 := by have := (Array.getElem?_eq_some_iff.1 hj).1; simpa [lnCs] using this
    unfold lnCells
    rw [List.flatMap_cons, Nat.zero_mul, Nat.zero_add, List.getElem?_append_left (by simpa [lnCs] using hl)]
    simpa using hj
  | x :: rs, i + 1, r, h, j, u, hj => by
    have := lnCells_at rs i r (by simpa using h) j u hj
    unfold lnCells at this ⊢
    rw [List.flatMap_cons, List.getElem?_append_right (by simp [lnCs]; omega)]
    rw [← this]
    congr 1
    simp [lnCs]; omega
theorem lnCells_snoc (a : List Ln) (l : Ln) : lnCells (a ++ [l]) = lnCells a ++ (lnCs l).toList := by simp [lnCells]
theorem lnRow_own {w : World} {B : Nat} {v : Value} {rs : List Ln} (h : w.ownsRow B 40 4 v rs.length (lnCells rs)) : LnRow w v rs := by
  by_cases hn : rs = []
  · subst hn
    rcases h.2 with ⟨rfl, _⟩ | ⟨g, cap, cur, rfl, _, _, h1, h2, _⟩
    · exact ⟨none, 0, rfl, Nat.le_refl _, by decide, fun h => absurd rfl h⟩
    · exact ⟨_, cap, rfl, h1, by unfold maxLen at h2; omega, fun h => absurd rfl h⟩
  · obtain ⟨g, cap, rfl, _, _, h1, h2, h3⟩ := own_get h (List.length_pos_iff.2 hn)
    exact ⟨_, cap, rfl, h1, by unfold maxLen at h2; omega, fun _ => ⟨g, 0, rfl, fun i r hi j u hj => by rw [Nat.zero_add]; exact h3 _ _ (lnCells_at rs i r hi j u hj)⟩⟩
def zeroLn : Value := .agg #[.int .i64 0, .int .i64 0, .int .i64 0, .int .i64 0]
theorem infoLn : (Tryd.prog.info? 40).map (fun i => (i.zero, i.size, i.bytes)) = some (some zeroLn, 4, 32) := by kernel_rfl
theorem own_fresh (w : World) (e size : Nat) (B : Nat) (hB : B ≤ w.heap.size) : (w.alloc (.cells #[] e)).ownsRow B e size (.slice (some ⟨w.heap.size, 0, none⟩) 0 0) 0 [] :=
  ⟨by simp, .inr ⟨w.heap.size, 0, #[], rfl, hB, heap_alloc_new w _, Nat.le_refl _, by decide, by simp, by simp⟩⟩
theorem StBlk.grown {w w' : World} {g : Nat} {s : St} {lv : Value} {row : Option Nat} (h : StBlk w g s lv) (hg : w.grownBy w' row) (hn : some g ≠ row) : StBlk w' g s lv := by unfold StBlk; rw [hg.block g h.lt hn]; exact h
theorem StBlk.free {w : World} {g : Nat} {s : St} {lv : Value} (h : StBlk w g s lv) (j : Nat) : w.frozen? ⟨g, j, none⟩ = false := by unfold StBlk at h; simp [World.frozen?, h]
theorem StBlk.other {w : World} {g k : Nat} {s : St} {lv : Value} (h : StBlk w g s lv) (hn : g ≠ k) (j : Nat) (v : Value) : StBlk (w.setCell ⟨k, j, none⟩ v) g s lv := by
  unfold StBlk at h ⊢
  simp only [World.setCell]
  rw [Array.getElem?_modify]
  simp [h, Ne.symm hn]
theorem StBlk.putLines {w : World} {g : Nat} {s : St} {lv : Value} (h : StBlk w g s lv) (lv' : Value) : StBlk (w.setCell ⟨g, 5, none⟩ lv') g s lv' := by
  unfold StBlk at h ⊢
  have e : (stCs s lv).setIfInBounds 5 lv' = stCs s lv' := rfl
  rw [← e]
  simp only [World.setCell]
  rw [Array.getElem?_modify]
  simp [h]
theorem StBlk.row {w : World} {g : Nat} {s s0 : St} {lv lv0 : Value} (h : StBlk w g s0 lv0) : StBlk (w.setRow g (stCs s lv)) g s lv := setRow_heap w g _ _ _ _ h
theorem own_set {w : World} {B size n k j : Nat} {e : TypeId} {v u : Value} {xs : List Value} (h : w.ownsRow B e size v n xs) (hk : k < B) : (w.setCell ⟨k, j, none⟩ u).ownsRow B e size v n xs := by
  refine ⟨h.1, ?_⟩
  rcases h.2 with hn | ⟨g, cap, cur, rfl, hb1, hg, rest⟩
  · exact .inl hn
  · refine .inr ⟨g, cap, cur, rfl, hb1, ?_, rest⟩
    simp only [World.setCell]
    rw [Array.getElem?_modify]
    simp [hg, show k ≠ g by omega]
theorem stCs_one (s : St) (lv : Value) (h : lv.oneCell' = true) : (stCs s lv).all (·.oneCell') = true :=
  Array.all_eq_true_iff_forall_mem.2 (by
    intro v hv
    simp only [stCs, List.mem_toArray, List.mem_cons, List.not_mem_nil, or_false] at hv
    rcases hv with rfl | rfl | rfl | rfl | rfl | rfl | rfl | rfl | rfl | rfl | rfl | rfl <;> first | rfl | assumption)
theorem wpList_store_st {ops : Array Oper} {rest : List Oper} {o : Oper} {a : Act} {w : World} {Q : Exit → Act → World → Prop} (hgd : o.guard = none) (x y : Operand) (ho : o.op = .store 25 x y)
    (g : Nat) (s s' : St) (lv lv' : Value) (hx : a.eval x = .pointer (some ⟨g, 0, none⟩)) (hy : a.eval y = stV s' lv') (hE : StBlk w g s lv) (h1 : lv'.oneCell' = true)
    (h : wpList Tryd.prog ops Q rest (a.put o.dst undef) (w.setRow g (stCs s' lv'))) : wpList Tryd.prog ops Q (o :: rest) a w :=
  wpList_store_row hgd 25 x y ho g (stCs s' lv') hx hy 25 (stCs s lv) hE stInfo rfl (stCs_one s' lv' h1) h
theorem results_st {fn : Func} {p : Tmp} (h : fn.results = #[.cell p 25]) (tmps : Array Value) (w : World) (g : Nat) (s : St) (lv : Value)
    (hp : tmps.getD p undef = .pointer (some ⟨g, 0, none⟩)) (hE : StBlk w g s lv) : (results fn tmps).run Tryd.prog w = .ok (stV s lv) w := by
  have hl := run_loadVar_row (P := Tryd.prog) w g 25 25 (stCs s lv) (0, 0) _ hE Tryd.underlying25 rfl stInfo
  have hp' : tmps[p]?.getD undef = .pointer (some ⟨g, 0, none⟩) := by simpa using hp
  simp [results, h, hp', asAddr, hl]
  rfl
def stNone : St := ⟨0, 0, 0, 0, 0, [], 0, 0, 0, 0, 0, []⟩

structure CopyW (w : World) (s : St) (lv : Value) (k : Nat) (ov : Value) (wr : World) : Prop where
  src : StBlk wr w.heap.size s lv
  res : StBlk wr (w.heap.size + 1) stNone (.slice none 0 0)
  mine : StBlk wr (w.heap.size + 1 + 1) s ov
  own : wr.ownsRow (w.heap.size + 1 + 1 + 1) 40 4 ov k (lnCells (s.lines.take k))
  below : Below w.heap.size w wr
  size : w.heap.size + 1 + 1 + 1 ≤ wr.heap.size
theorem CopyW.keep {w : World} {s : St} {lv : Value} {k : Nat} {ov : Value} {wr wr' : World} (h : CopyW w s lv k ov wr) (hb : Below wr.heap.size wr wr') : CopyW w s lv k ov wr' :=
  ⟨h.src.below hb, h.res.below hb, h.mine.below hb, own_later h.own hb, Below.next h.below hb, Nat.le_trans h.size hb.size⟩
theorem copyW_start (w : World) (s : St) (lv : Value) : CopyW w s lv 0 (.slice (some ⟨w.heap.size + 1 + 1 + 1, 0, none⟩) 0 0)
    ((((w.alloc (.cells (stCs s lv) 25)).alloc (.cells (stCs stNone (.slice none 0 0)) 25)).alloc (.cells (stCs s (.slice (some ⟨w.heap.size + 1 + 1 + 1, 0, none⟩) 0 0)) 25)).alloc (.cells #[] 40)) := by
  have a : ∀ (w : World) (o : Obj), Below w.heap.size w (w.alloc o) := fun w o => (Below.refl _ _).alloc (Nat.le_refl _) _
  have sz : ∀ (w : World) (o : Obj), (w.alloc o).heap.size = w.heap.size + 1 := fun w o => by simp
  have h1 := stBlk_alloc w s lv
  have h2 := stBlk_alloc (w.alloc (.cells (stCs s lv) 25)) stNone (.slice none 0 0)
  have h3 := stBlk_alloc ((w.alloc (.cells (stCs s lv) 25)).alloc (.cells (stCs stNone (.slice none 0 0)) 25)) s (.slice (some ⟨w.heap.size + 1 + 1 + 1, 0, none⟩) 0 0)
  have h4 := own_fresh (((w.alloc (.cells (stCs s lv) 25)).alloc (.cells (stCs stNone (.slice none 0 0)) 25)).alloc (.cells (stCs s (.slice (some ⟨w.heap.size + 1 + 1 + 1, 0, none⟩) 0 0)) 25)) 40 4 (w.heap.size + 1 + 1 + 1) (by rw [sz, sz, sz]; omega)
  simp only [sz] at h2 h3 h4
  exact ⟨((h1.below (a _ _)).below (a _ _)).below (a _ _), (h2.below (a _ _)).below (a _ _), h3.below (a _ _), h4, Below.next (Below.next (Below.next (a _ _) (a _ _)) (a _ _)) (a _ _), by rw [sz, sz, sz, sz]; omega⟩

set_option maxRecDepth 100000 in
set_option maxHeartbeats 8000000 in
theorem stCopy_any (s : St) (lv : Value) (w : World) (hr : LnRow w lv s.lines) (hn : s.lines.length ≤ 4398046511104) :
    Calls Tryd.prog 6 #[stV s lv] w fun e w' => ∃ lv', e = .returned (stV s lv') ∧ LnRow w' lv' s.lines ∧ Below w.heap.size w w' := by
  obtain ⟨i0, hi, hz0, hz1, hz2⟩ := info_parts infoLn
  obtain ⟨oa, cap, rfl, hl1, hl2, hcs⟩ := hr.shape
  have HC := Lib.hid hcs
  clear hr hcs
  have HS := Lib.hid (copyW_start w s (.slice oa s.lines.length cap))
  go_enter Tryd.func6, Tryd.ntmps6
  go_wp2
  go_loopw [11] (fun iv wr => ∃ (k : Nat) (ov : Value), k ≤ s.lines.length ∧ iv = .int .i64 k ∧ Hid (CopyW w s (.slice oa s.lines.length cap) k ov wr)) (fun iv _ => s.lines.length - (intOf iv).toNat)
  case atStart => exact ⟨0, _, Nat.zero_le _, rfl, HS⟩
  case round =>
    clear HS
    obtain ⟨k, ov, hk, rfl, HW⟩ := hrel
    by_cases hlt : k < s.lines.length
    · obtain ⟨l, hl, htk, _⟩ := nth s.lines k hlt
      have q1 : (k : Int) < (s.lines.length : Int) := by omega
      obtain ⟨b, off, rfl, hcell⟩ := HC.out k l hl
      have HTK := Lib.hid htk
      have HCE := Lib.hid (range_later hcell (Below.next HW.out.below (below_drewN' wr 1)))
      have HCN := Lib.hid (show ∀ W : World, Below w.heap.size w W → W.rangeAt b (off + k * 4) (lnCs l).toList from fun W h => range_later hcell h)
      clear hl htk hcell
      go_wp2
      refine wp_region_held_drew (S := fun w' => StBlk w' w.heap.size s (.slice (some ⟨b, off, none⟩) s.lines.length cap) ∧ w'.rangeAt b (off + k * 4) (lnCs l).toList) (by kernel_rfl) ⟨HW.out.src, HCE.out⟩ (fun hHeld => ?_)
      refine tk 0 rfl ?v_0_1 ?hy_0_1 ?r_0_1
      case hy_0_1 => intro w hSw; have k5 := hSw.1.cell 5; simp only [stCs] at k5; go_simp; try with_reducible rfl
      simp only [pA, pB, pC, pD]
      refine tk 2 rfl ?v_2_2 ?hy_2_2 ?r_2_2
      case hy_2_2 => intro w hSw; have k5 := hSw.1.cell 5; simp only [stCs] at k5; go_simp; try with_reducible rfl
      simp only [pA, pB, pC, pD]
      refine tk 3 rfl ?v_3_3 ?hy_3_3 ?r_3_3
      case hy_3_3 => intro w hSw; have k5 := hSw.1.cell 5; simp only [stCs] at k5; go_simp; try with_reducible rfl
      simp only [pA, pB, pC, pD]
      refine tk 4 rfl ?v_4_4 ?hy_4_4 ?r_4_4
      case hy_4_4 => intro w hSw; have k5 := hSw.1.cell 5; simp only [stCs] at k5; go_simp; try with_reducible rfl
      simp only [pA, pB, pC, pD]
      refine tk 5 rfl ?v_5_5 ?hy_5_5 ?r_5_5
      case hy_5_5 => intro w hSw; have k5 := hSw.1.cell 5; simp only [stCs] at k5; go_simp; try with_reducible rfl
      simp only [pA, pB, pC, pD]
      refine wpAnyH_take (i := 6) (oi := ⟨_, _, _, _, _, _⟩) (v := lnV l) rfl (by kernel_rfl) (by kernel_rfl) (by kernel_rfl) (fun _ _ _ h => h) (yieldsIf_load_mid (by kernel_rfl) 40 (.tmp 19) rfl b (off + k * 4) rfl (lnCs l).toList _ (fun w' h => h.2) Tryd.underlying40 rfl (by rw [lnInfo]; rfl)) (by assumption) ?_
      simp only [pA, pB, pC, pD]
      have HW1 := Lib.hid (show CopyW w s (.slice (some ⟨b, off, none⟩) s.lines.length cap) k ov wr.drew from HW.out.keep (below_drewN' wr 1))
      clear HW HCE
      generalize wr.drew = W0 at *
      have c5 : W0.cell? ⟨w.heap.size + 1 + 1, 5, none⟩ = some ov := HW1.out.mine.cell 5
      refine wpAnyH_ready (rs := [1, 7]) (by kernel_rfl) (by simp) ?_
      have HWA := Lib.hid (HW1.out.keep (show Below W0.heap.size W0 (W0.alloc (.cells (lnCs l) 40)) from (Below.refl _ _).alloc (Nat.le_refl _) _))
      refine AllReadyH.cons rfl (fun K hK => ?_) (AllReadyH.cons rfl (fun K hK => ?_) AllReadyH.nil)
      · go_simp
        refine hK.out _ _ hHeld (fun hHeld => ?_)
        clear hK K
        refine wpAnyH_ready (rs := [7]) (by kernel_rfl) (by simp) ?_
        refine AllReadyH.cons rfl (fun K hK => ?_) AllReadyH.nil
        go_simp
        refine hK.out _ _ ⟨HWA.out.src, HCN.out _ HWA.out.below⟩ (fun hHeld => ?_)
        clear hK K
        -- both orders: the element's own block lies, the slice is read
        refine wpAnyH_ready (rs := [8]) (by kernel_rfl) (by simp) ?_
        refine AllReadyH.cons rfl (fun K hK => ?_) AllReadyH.nil
        rw [if_pos (by kernel_rfl)]
        refine wp_append_own _ (.tmp 15) (.tmp 21) 23 rfl (w.heap.size + 1 + 1 + 1) 40 i0 zeroLn 4 32 Tryd.underlying23 hi hz0 hz1 hz2 rfl (by decide) ov k _ rfl HWA.out.own ⟨W0.heap.size, 0, none⟩ 1 1 (lnCs l).toList rfl rfl (fun j u hj => ?c1) (fun u hu => ?c2) (by unfold maxLen; omega) (by omega) (Nat.le_trans (by omega) HWA.out.size) ?_
        case c1 =>
          rw [addr_add, Nat.zero_add, World.cell?_alloc_new]
          simpa [lnCs] using hj
        case c2 => simp [lnCs] at hu; rcases hu with rfl | rfl | rfl | rfl <;> rfl
        intro v' W2 hown hgrow _
        have hnb : ∀ g, g < w.heap.size + 1 + 1 + 1 → some g ≠ ov.ownBlock := fun g hg e => by
          have := (HWA.out.own.lt g e.symm).1; omega
        have HW2 := Lib.hid (show StBlk W2 w.heap.size s (.slice (some ⟨b, off, none⟩) s.lines.length cap) ∧ StBlk W2 (w.heap.size + 1) stNone (.slice none 0 0) ∧ StBlk W2 (w.heap.size + 1 + 1) s ov ∧ Below w.heap.size w W2 ∧ w.heap.size + 1 + 1 + 1 ≤ W2.heap.size from
          ⟨HWA.out.src.grown hgrow (hnb _ (by omega)), HWA.out.res.grown hgrow (hnb _ (by omega)), HWA.out.mine.grown hgrow (hnb _ (by omega)), HWA.out.below.grown hgrow HWA.out.below.size (fun g e => by have := (HWA.out.own.lt g e).1; omega), Nat.le_trans HWA.out.size hgrow.size⟩)
        have HO2 := Lib.hid hown
        clear hown hgrow
        refine hK.out _ _ ⟨HW2.out.1, HCN.out W2 HW2.out.2.2.2.1⟩ (fun hHeld => ?_)
        clear hK K
        refine wpAnyH_take (i := 9) (oi := ⟨_, _, _, _, _, _⟩) (v := .pointer (some ⟨w.heap.size + 1 + 1, 5, none⟩)) rfl (by kernel_rfl) (by kernel_rfl) (by kernel_rfl) (fun _ _ _ h => h) (Or.inl ⟨by kernel_rfl, fun w hSw => by go_simp; try with_reducible rfl⟩) (by assumption) ?_
        simp only [Act.put, List.setIfInBounds_toArray]
        refine wpAnyH_ready (rs := [10]) (by kernel_rfl) (by simp) ?_
        refine AllReadyH.cons rfl (fun K hK => ?_) AllReadyH.nil
        rw [if_pos (by kernel_rfl)]
        have h1v : v'.oneCell' = true := by obtain ⟨_, _, h, _, _⟩ := own_shape HO2.out; rw [h]; rfl
        refine wp_store_cell 23 (.tmp 23) (.tmp 22) rfl (w.heap.size + 1 + 1) 5 v' ov (by kernel_rfl) h1v rfl rfl (HW2.out.2.2.1.cell 5) (HW2.out.2.2.1.free 5) ?_
        have HW3 := Lib.hid (show CopyW w s (.slice (some ⟨b, off, none⟩) s.lines.length cap) (k + 1) v' (W2.setCell ⟨w.heap.size + 1 + 1, 5, none⟩ v') from
          ⟨HW2.out.1.other (by omega) _ _, HW2.out.2.1.other (by omega) _ _, HW2.out.2.2.1.putLines v', own_set (by rw [HTK.out, lnCells_snoc]; exact HO2.out) (by omega), HW2.out.2.2.2.1.setCell (p := ⟨w.heap.size + 1 + 1, 5, none⟩) (by simp only; omega) _, by simpa using HW2.out.2.2.2.2⟩)
        refine hK.out _ _ ⟨HW3.out.src, HCN.out _ HW3.out.below⟩ (fun hHeld => ?_)
        clear hK K
        refine wpAnyH_done (by kernel_rfl) ?_ _
        clear hHeld HW2 HO2 h1v hnb HWA
        generalize W2.setCell ⟨w.heap.size + 1 + 1, 5, none⟩ v' = W3 at *
        go_wp2
        go_roundw
        case rel => exact ⟨k + 1, v', by omega, by go_num, HW3⟩
        case measure => first | (simp [intOf]; done) | (simp [intOf]; omega)
      · go_simp
        refine hK.out _ _ ⟨HWA.out.src, HCN.out _ HWA.out.below⟩ (fun hHeld => ?_)
        clear hK K
        have c5' : (W0.alloc (.cells #[.int .i64 l.item, .int .i64 l.price, .int .i64 l.qty, .int .i64 l.shipped] 40)).cell? ⟨w.heap.size + 1 + 1, 5, none⟩ = some ov := HWA.out.mine.cell 5
        refine wpAnyH_ready (rs := [1]) (by kernel_rfl) (by simp) ?_
        refine AllReadyH.cons rfl (fun K hK => ?_) AllReadyH.nil
        go_simp
        refine hK.out _ _ ⟨HWA.out.src, HCN.out _ HWA.out.below⟩ (fun hHeld => ?_)
        clear hK K
        -- both orders: the element's own block lies, the slice is read
        refine wpAnyH_ready (rs := [8]) (by kernel_rfl) (by simp) ?_
        refine AllReadyH.cons rfl (fun K hK => ?_) AllReadyH.nil
        rw [if_pos (by kernel_rfl)]
        refine wp_append_own _ (.tmp 15) (.tmp 21) 23 rfl (w.heap.size + 1 + 1 + 1) 40 i0 zeroLn 4 32 Tryd.underlying23 hi hz0 hz1 hz2 rfl (by decide) ov k _ rfl HWA.out.own ⟨W0.heap.size, 0, none⟩ 1 1 (lnCs l).toList rfl rfl (fun j u hj => ?c1) (fun u hu => ?c2) (by unfold maxLen; omega) (by omega) (Nat.le_trans (by omega) HWA.out.size) ?_
        case c1 =>
          rw [addr_add, Nat.zero_add, World.cell?_alloc_new]
          simpa [lnCs] using hj
        case c2 => simp [lnCs] at hu; rcases hu with rfl | rfl | rfl | rfl <;> rfl
        intro v' W2 hown hgrow _
        have hnb : ∀ g, g < w.heap.size + 1 + 1 + 1 → some g ≠ ov.ownBlock := fun g hg e => by
          have := (HWA.out.own.lt g e.symm).1; omega
        have HW2 := Lib.hid (show StBlk W2 w.heap.size s (.slice (some ⟨b, off, none⟩) s.lines.length cap) ∧ StBlk W2 (w.heap.size + 1) stNone (.slice none 0 0) ∧ StBlk W2 (w.heap.size + 1 + 1) s ov ∧ Below w.heap.size w W2 ∧ w.heap.size + 1 + 1 + 1 ≤ W2.heap.size from
          ⟨HWA.out.src.grown hgrow (hnb _ (by omega)), HWA.out.res.grown hgrow (hnb _ (by omega)), HWA.out.mine.grown hgrow (hnb _ (by omega)), HWA.out.below.grown hgrow HWA.out.below.size (fun g e => by have := (HWA.out.own.lt g e).1; omega), Nat.le_trans HWA.out.size hgrow.size⟩)
        have HO2 := Lib.hid hown
        clear hown hgrow
        refine hK.out _ _ ⟨HW2.out.1, HCN.out W2 HW2.out.2.2.2.1⟩ (fun hHeld => ?_)
        clear hK K
        refine wpAnyH_take (i := 9) (oi := ⟨_, _, _, _, _, _⟩) (v := .pointer (some ⟨w.heap.size + 1 + 1, 5, none⟩)) rfl (by kernel_rfl) (by kernel_rfl) (by kernel_rfl) (fun _ _ _ h => h) (Or.inl ⟨by kernel_rfl, fun w hSw => by go_simp; try with_reducible rfl⟩) (by assumption) ?_
        simp only [Act.put, List.setIfInBounds_toArray]
        refine wpAnyH_ready (rs := [10]) (by kernel_rfl) (by simp) ?_
        refine AllReadyH.cons rfl (fun K hK => ?_) AllReadyH.nil
        rw [if_pos (by kernel_rfl)]
        have h1v : v'.oneCell' = true := by obtain ⟨_, _, h, _, _⟩ := own_shape HO2.out; rw [h]; rfl
        refine wp_store_cell 23 (.tmp 23) (.tmp 22) rfl (w.heap.size + 1 + 1) 5 v' ov (by kernel_rfl) h1v rfl rfl (HW2.out.2.2.1.cell 5) (HW2.out.2.2.1.free 5) ?_
        have HW3 := Lib.hid (show CopyW w s (.slice (some ⟨b, off, none⟩) s.lines.length cap) (k + 1) v' (W2.setCell ⟨w.heap.size + 1 + 1, 5, none⟩ v') from
          ⟨HW2.out.1.other (by omega) _ _, HW2.out.2.1.other (by omega) _ _, HW2.out.2.2.1.putLines v', own_set (by rw [HTK.out, lnCells_snoc]; exact HO2.out) (by omega), HW2.out.2.2.2.1.setCell (p := ⟨w.heap.size + 1 + 1, 5, none⟩) (by simp only; omega) _, by simpa using HW2.out.2.2.2.2⟩)
        refine hK.out _ _ ⟨HW3.out.src, HCN.out _ HW3.out.below⟩ (fun hHeld => ?_)
        clear hK K
        refine wpAnyH_done (by kernel_rfl) ?_ _
        clear hHeld HW2 HO2 h1v hnb HWA
        generalize W2.setCell ⟨w.heap.size + 1 + 1, 5, none⟩ v' = W3 at *
        go_wp2
        go_roundw
        case rel => exact ⟨k + 1, v', by omega, by go_num, HW3⟩
        case measure => first | (simp [intOf]; done) | (simp [intOf]; omega)
    · obtain rfl : k = s.lines.length := by omega
      have HOW := Lib.hid (show wr.ownsRow (w.heap.size + 1 + 1 + 1) 40 4 ov s.lines.length (lnCells s.lines) by have := HW.out.own; rwa [List.take_length] at this)
      have h1v : ov.oneCell' = true := by obtain ⟨_, _, h, _, _⟩ := own_shape HW.out.own; rw [h]; rfl
      have hob : ov.ownBlock ≠ some (w.heap.size + 1) := fun e => by have := (HW.out.own.lt _ e).1; omega
      have HRW := Lib.hid (show StBlk (wr.setRow (w.heap.size + 1) (stCs s ov)) (w.heap.size + 1) s ov ∧ LnRow (wr.setRow (w.heap.size + 1) (stCs s ov)) ov s.lines ∧ Below w.heap.size w (wr.setRow (w.heap.size + 1) (stCs s ov)) from ⟨HW.out.res.row, by
          refine lnRow_own (B := w.heap.size + 1 + 1 + 1) ?_
          have h := HOW.out
          refine ⟨h.1, ?_⟩
          rcases h.2 with hn | ⟨g', cap', cur, rfl, hb1, hg', rest⟩
          · exact .inl hn
          · exact .inr ⟨g', cap', cur, rfl, hb1, by rw [setRow_other _ _ _ _ (fun e => hob (by rw [← e]; rfl))]; exact hg', rest⟩,
        ⟨HW.out.below.os, HW.out.below.tape, HW.out.below.output, by simpa using HW.out.below.size, fun i hi => by rw [setRow_other _ _ _ _ (by omega)]; exact HW.out.below.block i hi⟩⟩)
      go_wp2_with (first
        | (with_reducible refine wpList_load_st rfl (.tmp 3) rfl (w.heap.size + 1 + 1) s ov rfl HW.out.mine ?_)
        | (with_reducible refine wpList_store_st rfl (.tmp 2) (.tmp 25) rfl (w.heap.size + 1) stNone s (.slice none 0 0) ov rfl rfl HW.out.res h1v ?_))
      exact bodyPost_ret (v := stV s ov) (results_st rfl _ _ (w.heap.size + 1) s ov rfl HRW.out.1) rfl ⟨ov, rfl, HRW.out.2.1, HRW.out.2.2⟩

end Go.Proofs.YtlobohpbgghleaaDoor
