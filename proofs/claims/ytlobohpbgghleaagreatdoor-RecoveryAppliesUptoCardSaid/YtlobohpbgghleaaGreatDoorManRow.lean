import Derived.Test.YtlobohpbgghleaaGreatDoorHeader
namespace Go.Proofs.YtlobohpbgghleaaGreatDoor
open Go.RowKit

/-! ## a manifest in memory -/

def sgCs (g : Sg) : Array Value := #[.int .i64 g.num, .int .i64 g.first, .int .i64 g.count, .int .i64 g.foot]
@[reducible] def sgV (g : Sg) : Value := .agg #[.int .i64 g.num, .int .i64 g.first, .int .i64 g.count, .int .i64 g.foot]
def SgRow (w : World) (v : Value) (l : List Sg) : Prop :=
  ∃ oa cap, v = .slice oa l.length cap ∧ l.length ≤ cap ∧ cap ≤ 9223372036854775807 ∧ ∀ (i : Nat) g, l[i]? = some g → ∃ b off, oa = some ⟨b, off, none⟩ ∧ w.rangeAt b (off + i * 4) (sgCs g).toList
theorem SgRow.below {w w' : World} {v : Value} {l : List Sg} (h : SgRow w v l) (hb : Below w.heap.size w w') : SgRow w' v l := by
  obtain ⟨oa, cap, h1, h2, h3, h4⟩ := h
  exact ⟨oa, cap, h1, h2, h3, fun i g hg => by obtain ⟨b, off, e, hc⟩ := h4 i g hg; exact ⟨b, off, e, range_later hc hb⟩⟩
theorem sgInfo : (Tryz.prog.info? 46).map (·.size) = some 4 := by kernel_rfl
theorem wpList_load_sg {ops : Array Oper} {rest : List Oper} {o : Oper} {a : Act} {w : World} {Q : Exit → Act → World → Prop} (hgd : o.guard = none) (x : Operand) (ho : o.op = .load 46 x)
    (b off : Nat) (g : Sg) (hx : a.eval x = .pointer (some ⟨b, off, none⟩)) (hE : w.rangeAt b off (sgCs g).toList)
    (h : wpList Tryz.prog ops Q rest (a.put o.dst (sgV g)) w) : wpList Tryz.prog ops Q (o :: rest) a w :=
  wpList_load_mid hgd 46 x ho b off hx (sgCs g).toList _ hE Tryz.underlying46 rfl sgInfo h

def mnCs (m : Man) (sv : Value) : Array Value := #[.int .i64 m.gen, .int .i64 m.next, .int .i64 m.floor, .int .i64 m.snap, .int .i64 m.snapSeq, sv]
@[reducible] def mnV (m : Man) (sv : Value) : Value := .agg #[.int .i64 m.gen, .int .i64 m.next, .int .i64 m.floor, .int .i64 m.snap, .int .i64 m.snapSeq, sv]
def MnBlk (w : World) (g : Nat) (m : Man) (sv : Value) : Prop := w.heap[g]? = some (.cells (mnCs m sv) 31 (0, 0))
theorem MnBlk.lt {w : World} {g : Nat} {m : Man} {sv : Value} (h : MnBlk w g m sv) : g < w.heap.size := (Array.getElem?_eq_some_iff.1 h).1
theorem MnBlk.below {w w' : World} {g : Nat} {m : Man} {sv : Value} (h : MnBlk w g m sv) (hb : Below w.heap.size w w') : MnBlk w' g m sv := by
  unfold MnBlk at *; rw [hb.block g (Array.getElem?_eq_some_iff.1 h).1]; exact h
theorem MnBlk.keep {w w' : World} {g B : Nat} {m : Man} {sv : Value} (h : MnBlk w g m sv) (hb : Below B w w') (hB : g < B) : MnBlk w' g m sv := by
  unfold MnBlk at *; rw [hb.block g hB]; exact h
theorem MnBlk.cell {w : World} {g : Nat} {m : Man} {sv : Value} (h : MnBlk w g m sv) (j : Nat) : w.cell? ⟨g, j, none⟩ = (mnCs m sv)[j]? := by
  unfold MnBlk at h; simp [World.cell?, h]
theorem MnBlk.c0 {w : World} {g : Nat} {m : Man} {sv : Value} (h : MnBlk w g m sv) : w.cell? ⟨g, 0, none⟩ = some (.int .i64 m.gen) := h.cell 0
theorem MnBlk.c1 {w : World} {g : Nat} {m : Man} {sv : Value} (h : MnBlk w g m sv) : w.cell? ⟨g, 1, none⟩ = some (.int .i64 m.next) := h.cell 1
theorem MnBlk.c2 {w : World} {g : Nat} {m : Man} {sv : Value} (h : MnBlk w g m sv) : w.cell? ⟨g, 2, none⟩ = some (.int .i64 m.floor) := h.cell 2
theorem MnBlk.c3 {w : World} {g : Nat} {m : Man} {sv : Value} (h : MnBlk w g m sv) : w.cell? ⟨g, 3, none⟩ = some (.int .i64 m.snap) := h.cell 3
theorem MnBlk.c4 {w : World} {g : Nat} {m : Man} {sv : Value} (h : MnBlk w g m sv) : w.cell? ⟨g, 4, none⟩ = some (.int .i64 m.snapSeq) := h.cell 4
theorem MnBlk.c5 {w : World} {g : Nat} {m : Man} {sv : Value} (h : MnBlk w g m sv) : w.cell? ⟨g, 5, none⟩ = some sv := h.cell 5
theorem mnBlk_alloc (w : World) (m : Man) (sv : Value) : MnBlk (w.alloc (.cells (mnCs m sv) 31)) w.heap.size m sv := heap_alloc_new w _
theorem mnInfo : (Tryz.prog.info? 31).map (·.size) = some 6 := by kernel_rfl
theorem wpList_load_mn {ops : Array Oper} {rest : List Oper} {o : Oper} {a : Act} {w : World} {Q : Exit → Act → World → Prop} (hgd : o.guard = none) (x : Operand) (ho : o.op = .load 31 x)
    (g : Nat) (m : Man) (sv : Value) (hx : a.eval x = .pointer (some ⟨g, 0, none⟩)) (hE : MnBlk w g m sv)
    (h : wpList Tryz.prog ops Q rest (a.put o.dst (mnV m sv)) w) : wpList Tryz.prog ops Q (o :: rest) a w :=
  wpList_load_row hgd 31 x ho g hx 31 (mnCs m sv) (0, 0) _ hE Tryz.underlying31 rfl mnInfo h

/-! ## chains, one link at a time -/

theorem chain_b1 {nx first num : Int} {g : Sg} {r : List Sg} (h : (g.first != first) = true) : chainOk nx first num (g :: r) = false := by
  have : ¬ g.first = first := by simpa using h
  simp [chainOk, this]
theorem chain_b2 {nx first num : Int} {g : Sg} {r : List Sg} (h : ¬ num < g.num) : chainOk nx first num (g :: r) = false := by simp [chainOk, h]
theorem chain_b3 {nx first num : Int} {g : Sg} {r : List Sg} (h : ¬ g.num < nx) : chainOk nx first num (g :: r) = false := by simp [chainOk, h]
theorem chain_end {nx first num : Int} {g : Sg} (h1 : g.first = first) (h2 : num < g.num) (h3 : g.num < nx) : chainOk nx first num [g] = (decide (g.count = 0) && decide (g.foot = 0) && decide (first ≤ 1099511627777)) := by
  simp [chainOk, h1, h2, h3]
theorem chain_b4 {nx first num : Int} {g x : Sg} {r : List Sg} (h : ¬ (1 ≤ g.count ∧ g.count ≤ 512)) : chainOk nx first num (g :: x :: r) = false := by
  rw [chainOk]
  have : (decide (1 ≤ g.count) && decide (g.count ≤ 512)) = false := by simp; omega
  simp only [List.isEmpty_cons, Bool.false_eq_true, if_false, this, Bool.false_and, Bool.and_false]
theorem chain_b5 {nx first num : Int} {g x : Sg} {r : List Sg} (h : ¬ (1 ≤ g.foot ∧ g.foot ≤ 1099511627776)) : chainOk nx first num (g :: x :: r) = false := by
  rw [chainOk]
  have : (decide (1 ≤ g.foot) && decide (g.foot ≤ 1099511627776)) = false := by simp; omega
  simp only [List.isEmpty_cons, Bool.false_eq_true, if_false, Bool.and_assoc]
  rw [← Bool.and_assoc (decide (1 ≤ g.foot)), this]
  simp
theorem chain_go {nx first num : Int} {g x : Sg} {r : List Sg} (h1 : g.first = first) (h2 : num < g.num) (h3 : g.num < nx) (h4 : 1 ≤ g.count ∧ g.count ≤ 512) (h5 : 1 ≤ g.foot ∧ g.foot ≤ 1099511627776) :
    chainOk nx first num (g :: x :: r) = chainOk nx (first + g.count) g.num (x :: r) := by
  rw [chainOk]
  simp [h1, h2, h3, h4.1, h4.2, h5.1, h5.2]
theorem drop_cons {α : Type} {l : List α} {k : Nat} {x : α} (h : l[k]? = some x) : l.drop k = x :: l.drop (k + 1) := by
  obtain ⟨h1, h2⟩ := List.getElem?_eq_some_iff.1 h
  rw [List.drop_eq_getElem_cons h1, h2]

theorem within_any (x lo hi : Int) (w : World) : Calls Tryz.prog 89 #[.int .i64 x, .int .i64 lo, .int .i64 hi] w fun e w' => e = .returned (.bool (decide (lo ≤ x) && decide (x ≤ hi))) ∧ w = w' := by
  rcases h1 : decide (lo ≤ x)
  · go_enter Tryz.func89, Tryz.ntmps89
    go_wp2
    go_ret
    exact ⟨rfl, rfl⟩
  rcases h2 : decide (x ≤ hi)
  all_goals
    go_enter Tryz.func89, Tryz.ntmps89
    go_wp2
    go_ret
    exact ⟨rfl, rfl⟩

end Go.Proofs.YtlobohpbgghleaaGreatDoor

namespace Go.Proofs.YtlobohpbgghleaaGreatDoor
open Go.RowKit

/-! ## the program's chain -/

set_option maxRecDepth 100000 in
set_option maxHeartbeats 4000000 in
theorem chained_any (m : Man) (sv : Value) (w : World) (hr : SgRow w sv m.segs) (hf0 : 0 ≤ m.floor) (hf1 : m.floor ≤ 1099511627776) (hn : m.segs.length ≤ 256) :
    Calls Tryz.prog 90 #[mnV m sv] w fun e w' => e = .returned (.bool (chainOk m.next (m.floor + 1) 0 m.segs)) ∧ Below w.heap.size w w' := by
  obtain ⟨oa, cap, rfl, hl1, hl2, hc⟩ := hr
  have HC := Lib.hid hc
  have HM0 := Lib.hid (mnBlk_alloc w m (.slice oa m.segs.length cap))
  have hfl : IntKind.i64.wrap (m.floor + 1) = m.floor + 1 := by rw [IntKind.wrap_i64]; omega
  clear hc
  go_enter Tryz.func90, Tryz.ntmps90
  go_wp2
  go_loopw [3, 4, 13] (fun fv nv iv wr => ∃ (k : Nat) (first num : Int), k ≤ m.segs.length ∧ iv = .int .i64 k ∧ fv = .int .i64 first ∧ nv = .int .i64 num ∧ 1 ≤ first ∧ first ≤ 1099511627777 + 512 * (k : Int) ∧ MnBlk wr w.heap.size m (.slice oa m.segs.length cap) ∧
    Hid (chainOk m.next (m.floor + 1) 0 m.segs = chainOk m.next first num (m.segs.drop k)) ∧ Below w.heap.size w wr) (fun _ _ iv _ => m.segs.length - (intOf iv).toNat)
  case atStart => exact ⟨0, m.floor + 1, 0, Nat.zero_le _, rfl, rfl, rfl, by omega, by omega, HM0.out, Lib.hid rfl, below_alloc _ _⟩
  case round =>
    clear HM0 hfl
    obtain ⟨k, first, num, hk, rfl, rfl, rfl, hp1, hp2, hmn, HE, hb⟩ := hrel
    have HM := Lib.hid hmn
    have HB := Lib.hid hb
    clear hmn hb
    by_cases hlt : k < m.segs.length
    · obtain ⟨g, hg, _, _⟩ := nth m.segs k hlt
      obtain ⟨b, off, rfl, hcell⟩ := HC.out k g hg
      have q1 : (k : Int) < (m.segs.length : Int) := by omega
      have HCE := Lib.hid (range_later hcell HB.out)
      have HD := Lib.hid (drop_cons hg)
      have c1 := HM.out.c1
      have c5 := HM.out.c5
      have c1' := (HM.out.below (below_alloc wr (.cells (sgCs g) 46))).c1
      have c5' := (HM.out.below (below_alloc wr (.cells (sgCs g) 46))).c5
      simp only [sgCs] at c1' c5'
      have HB1 := Lib.hid (fun o => Below.next HB.out (below_alloc wr o))
      clear hg hcell
      rcases e1 : (g.first != first) with _ | _
      case true =>
        have HR := Lib.hid (show chainOk m.next (m.floor + 1) 0 m.segs = false by rw [HE.out, HD.out, chain_b1 e1])
        go_wp2_with (with_reducible refine wpList_load_sg rfl (.tmp 16) rfl b (off + k * 4) g rfl HCE.out ?_)
        go_ret
        exact ⟨by rw [HR.out]; rfl, HB1.out _⟩
      have e1' : g.first = first := by simpa using e1
      by_cases e2 : num < g.num
      case neg =>
        have HR := Lib.hid (show chainOk m.next (m.floor + 1) 0 m.segs = false by rw [HE.out, HD.out, chain_b2 e2])
        have t2 : decide (g.num ≤ num) = true := by simp; omega
        clear e2 e1'
        go_wp2_with (with_reducible refine wpList_load_sg rfl (.tmp 16) rfl b (off + k * 4) g rfl HCE.out ?_)
        go_ret
        exact ⟨by rw [HR.out]; rfl, HB1.out _⟩
      have t2 : decide (g.num ≤ num) = false := by simp; omega
      by_cases e3 : g.num < m.next
      case neg =>
        have HR := Lib.hid (show chainOk m.next (m.floor + 1) 0 m.segs = false by rw [HE.out, HD.out, chain_b3 e3])
        have t3 : decide (m.next ≤ g.num) = true := by simp; omega
        clear e2 e1' e3
        go_wp2_with (with_reducible refine wpList_load_sg rfl (.tmp 16) rfl b (off + k * 4) g rfl HCE.out ?_)
        go_ret
        exact ⟨by rw [HR.out]; rfl, HB1.out _⟩
      have t3 : decide (m.next ≤ g.num) = false := by simp; omega
      have HO := Lib.hid (show g.first = first ∧ num < g.num ∧ g.num < m.next from ⟨e1', e2, e3⟩)
      clear e2 e1' e3
      by_cases hlast : k + 1 = m.segs.length
      · have HR := Lib.hid (show chainOk m.next (m.floor + 1) 0 m.segs = (decide (g.count = 0) && decide (g.foot = 0) && decide (first ≤ 1099511627777)) by
          rw [HE.out, HD.out, List.drop_of_length_le (by omega), chain_end HO.out.1 HO.out.2.1 HO.out.2.2])
        have t4 : ((k : Int) == (m.segs.length : Int) - 1) = true := by simp; omega
        rcases u1 : (g.count == 0) with _ | _
        · have HR2 := Lib.hid (show chainOk m.next (m.floor + 1) 0 m.segs = false by rw [HR.out]; simp at u1 ⊢; simp [u1])
          clear HR
          go_wp2_with (with_reducible refine wpList_load_sg rfl (.tmp 16) rfl b (off + k * 4) g rfl HCE.out ?_)
          go_ret
          exact ⟨by rw [HR2.out]; rfl, HB1.out _⟩
        rcases u2 : (g.foot == 0) with _ | _
        · have HR2 := Lib.hid (show chainOk m.next (m.floor + 1) 0 m.segs = false by rw [HR.out]; simp at u2 ⊢; simp [u2])
          clear HR
          go_wp2_with (with_reducible refine wpList_load_sg rfl (.tmp 16) rfl b (off + k * 4) g rfl HCE.out ?_)
          go_ret
          exact ⟨by rw [HR2.out]; rfl, HB1.out _⟩
        rcases u3 : decide (first ≤ 1099511627777)
        all_goals
          have HR2 := Lib.hid (show chainOk m.next (m.floor + 1) 0 m.segs = decide (first ≤ 1099511627777) by rw [HR.out]; simp at u1 u2; simp [u1, u2])
          rw [u3] at HR2
          clear HR
          go_wp2_with (with_reducible refine wpList_load_sg rfl (.tmp 16) rfl b (off + k * 4) g rfl HCE.out ?_)
          go_ret
          exact ⟨by rw [HR2.out]; rfl, HB1.out _⟩
      · obtain ⟨x, hx, _, _⟩ := nth m.segs (k + 1) (by omega)
        have HD2 := Lib.hid (drop_cons hx)
        have t4 : ((k : Int) == (m.segs.length : Int) - 1) = false := by simp; omega
        clear hx
        by_cases e4 : 1 ≤ g.count ∧ g.count ≤ 512
        case neg =>
          have HR := Lib.hid (show chainOk m.next (m.floor + 1) 0 m.segs = false by rw [HE.out, HD.out, HD2.out, chain_b4 e4])
          have HT := Lib.hid (show (decide (1 ≤ g.count) && decide (g.count ≤ 512)) = false by simp; omega)
          clear e4
          go_wp2_with (first | (with_reducible refine wpList_load_sg rfl (.tmp 16) rfl b (off + k * 4) g rfl HCE.out ?_) | (go_at_call 89; refine (within_any _ _ _ _).mono ?_; rw [HT.out]; rintro e w1 ⟨rfl, rfl⟩))
          go_ret
          exact ⟨by rw [HR.out]; rfl, HB1.out _⟩
        have HT := Lib.hid (show (decide (1 ≤ g.count) && decide (g.count ≤ 512)) = true by simp; omega)
        by_cases e5 : 1 ≤ g.foot ∧ g.foot ≤ 1099511627776
        case neg =>
          have HR := Lib.hid (show chainOk m.next (m.floor + 1) 0 m.segs = false by rw [HE.out, HD.out, HD2.out, chain_b5 e5])
          have HT2 := Lib.hid (show (decide (1 ≤ g.foot) && decide (g.foot ≤ 1099511627776)) = false by simp; omega)
          clear e4 e5
          go_wp2_with (first | (with_reducible refine wpList_load_sg rfl (.tmp 16) rfl b (off + k * 4) g rfl HCE.out ?_) | (go_at_call 89; refine (within_any _ _ _ _).mono ?_; (first | rw [HT.out] | rw [HT2.out]); rintro e w1 ⟨rfl, rfl⟩))
          go_ret
          exact ⟨by rw [HR.out]; rfl, HB1.out _⟩
        have HT2 := Lib.hid (show (decide (1 ≤ g.foot) && decide (g.foot ≤ 1099511627776)) = true by simp; omega)
        have HR := Lib.hid (show chainOk m.next (m.floor + 1) 0 m.segs = chainOk m.next (first + g.count) g.num (m.segs.drop (k + 1)) by rw [HE.out, HD.out, HD2.out, chain_go HO.out.1 HO.out.2.1 HO.out.2.2 e4 e5])
        have hw : IntKind.i64.wrap (first + g.count) = first + g.count := by rw [IntKind.wrap_i64]; omega
        have hq : 1 ≤ first + g.count ∧ first + g.count ≤ 1099511627777 + 512 * ((k + 1 : Nat) : Int) := by omega
        have HQ := Lib.hid hq
        have HMA := Lib.hid (fun o => HM.out.below (below_alloc wr o))
        clear e4 e5 hq
        go_wp2_with (first | (with_reducible refine wpList_load_sg rfl (.tmp 16) rfl b (off + k * 4) g rfl HCE.out ?_) | (go_at_call 89; refine (within_any _ _ _ _).mono ?_; (first | rw [HT.out] | rw [HT2.out]); rintro e w1 ⟨rfl, rfl⟩))
        go_roundw
        case rel => exact ⟨k + 1, first + g.count, g.num, by omega, by go_num, rfl, rfl, HQ.out.1, HQ.out.2, HMA.out _, HR, HB1.out _⟩
        case measure => simp [intOf]; omega
    · obtain rfl : k = m.segs.length := by omega
      have HR := Lib.hid (show chainOk m.next (m.floor + 1) 0 m.segs = false by rw [HE.out, List.drop_of_length_le (Nat.le_refl _)]; rfl)
      go_wp2
      go_ret
      exact ⟨by rw [HR.out]; rfl, HB.out⟩

end Go.Proofs.YtlobohpbgghleaaGreatDoor

namespace Go.Proofs.YtlobohpbgghleaaGreatDoor
open Go.RowKit

/-! ## the program's Valid -/

def W2 (x lo hi : Int) : Bool := decide (lo ≤ x) && decide (x ≤ hi)
theorem manOk_eq (m : Man) : manOk m = (W2 m.gen 1 1099511627776 && W2 m.next 2 1000000 && W2 m.snapSeq 0 1099511627776 && W2 m.floor 0 m.snapSeq && W2 m.snap 0 (m.next - 1) && ((m.snap == 0) == (m.snapSeq == 0)) && decide (m.segs.length ≤ 256) && chainOk m.next (m.floor + 1) 0 m.segs) := by
  have e : decide (m.snap < m.next) = decide (m.snap ≤ m.next - 1) := by
    rw [decide_eq_decide]; omega
  have e1 : decide (m.snap = 0) = (m.snap == 0) := by by_cases h : m.snap = 0 <;> simp [h]
  have e2 : decide (m.snapSeq = 0) = (m.snapSeq == 0) := by by_cases h : m.snapSeq = 0 <;> simp [h]
  unfold manOk W2
  rw [e, e1, e2]
  simp only [Bool.and_assoc]
theorem withinW_any (x lo hi : Int) (w : World) : Calls Tryz.prog 89 #[.int .i64 x, .int .i64 lo, .int .i64 hi] w fun e w' => e = .returned (.bool (W2 x lo hi)) ∧ w = w' := within_any x lo hi w

set_option maxRecDepth 100000 in
set_option maxHeartbeats 4000000 in
theorem manValid_any (m : Man) (sv : Value) (w : World) (hr : SgRow w sv m.segs) :
    Calls Tryz.prog 57 #[mnV m sv] w fun e w' => e = .returned (.bool (manOk m)) ∧ Below w.heap.size w w' := by
  have HR := Lib.hid (hr.below (below_alloc w (.cells (mnCs m sv) 31)))
  have HB := Lib.hid (below_alloc w (.cells (mnCs m sv) 31))
  have hm := mnBlk_alloc w m sv
  have c0 := hm.c0
  have c1 := hm.c1
  have c2 := hm.c2
  have c3 := hm.c3
  have c4 := hm.c4
  have c5 := hm.c5
  simp only [mnCs] at c0 c1 c2 c3 c4 c5
  obtain ⟨oa, cap, rfl, _, _, hcc⟩ := hr
  clear hcc hm
  rcases h1 : W2 m.gen 1 1099511627776
  · have HO := Lib.hid (show manOk m = false by rw [manOk_eq, h1]; rfl)
    go_enter Tryz.func57, Tryz.ntmps57
    go_wp2_with (go_at_call 89; refine (withinW_any _ _ _ _).mono ?_; rw [h1]; rintro e w1 ⟨rfl, rfl⟩)
    go_ret
    exact ⟨by rw [HO.out]; rfl, HB.out⟩
  rcases h2 : W2 m.next 2 1000000
  · have HO := Lib.hid (show manOk m = false by rw [manOk_eq, h1, h2]; rfl)
    go_enter Tryz.func57, Tryz.ntmps57
    go_wp2_with (go_at_call 89; refine (withinW_any _ _ _ _).mono ?_; (first | rw [h1] | rw [h2]); rintro e w1 ⟨rfl, rfl⟩)
    go_ret
    exact ⟨by rw [HO.out]; rfl, HB.out⟩
  rcases h3 : W2 m.snapSeq 0 1099511627776
  · have HO := Lib.hid (show manOk m = false by rw [manOk_eq, h1, h2, h3]; rfl)
    go_enter Tryz.func57, Tryz.ntmps57
    go_wp2_with (go_at_call 89; refine (withinW_any _ _ _ _).mono ?_; (first | rw [h1] | rw [h2] | rw [h3]); rintro e w1 ⟨rfl, rfl⟩)
    go_ret
    exact ⟨by rw [HO.out]; rfl, HB.out⟩
  rcases h4 : W2 m.floor 0 m.snapSeq
  · have HO := Lib.hid (show manOk m = false by rw [manOk_eq, h1, h2, h3, h4]; rfl)
    go_enter Tryz.func57, Tryz.ntmps57
    go_wp2_with (go_at_call 89; refine (withinW_any _ _ _ _).mono ?_; (first | rw [h1] | rw [h2] | rw [h3] | rw [h4]); rintro e w1 ⟨rfl, rfl⟩)
    go_ret
    exact ⟨by rw [HO.out]; rfl, HB.out⟩
  have hB : 2 ≤ m.next ∧ m.next ≤ 1000000 ∧ 0 ≤ m.floor ∧ m.floor ≤ 1099511627776 := by
    simp only [W2, Bool.and_eq_true, decide_eq_true_eq] at h2 h3 h4; omega
  have hw : IntKind.i64.wrap (m.next - 1) = m.next - 1 := by rw [IntKind.wrap_i64]; omega
  rcases h5 : W2 m.snap 0 (m.next - 1)
  · have HO := Lib.hid (show manOk m = false by rw [manOk_eq, h1, h2, h3, h4, h5]; rfl)
    go_enter Tryz.func57, Tryz.ntmps57
    go_wp2_with (go_at_call 89; refine (withinW_any _ _ _ _).mono ?_; (first | rw [h1] | rw [h2] | rw [h3] | rw [h4] | rw [h5]); rintro e w1 ⟨rfl, rfl⟩)
    go_ret
    exact ⟨by rw [HO.out]; rfl, HB.out⟩
  rcases h6 : ((m.snap == 0) == (m.snapSeq == 0))
  · have HO := Lib.hid (show manOk m = false by rw [manOk_eq, h1, h2, h3, h4, h5, h6]; rfl)
    go_enter Tryz.func57, Tryz.ntmps57
    go_wp2_with (go_at_call 89; refine (withinW_any _ _ _ _).mono ?_; (first | rw [h1] | rw [h2] | rw [h3] | rw [h4] | rw [h5]); rintro e w1 ⟨rfl, rfl⟩)
    go_ret
    exact ⟨by rw [HO.out]; rfl, HB.out⟩
  by_cases h7 : m.segs.length ≤ 256
  case neg =>
    have HO := Lib.hid (show manOk m = false by rw [manOk_eq, h1, h2, h3, h4, h5, h6, decide_eq_false h7]; rfl)
    have t7 : decide ((m.segs.length : Int) ≤ 256) = false := by simp; omega
    clear h7
    go_enter Tryz.func57, Tryz.ntmps57
    go_wp2_with (go_at_call 89; refine (withinW_any _ _ _ _).mono ?_; (first | rw [h1] | rw [h2] | rw [h3] | rw [h4] | rw [h5]); rintro e w1 ⟨rfl, rfl⟩)
    go_ret
    exact ⟨by rw [HO.out]; rfl, HB.out⟩
  have HO := Lib.hid (show manOk m = chainOk m.next (m.floor + 1) 0 m.segs by rw [manOk_eq, h1, h2, h3, h4, h5, h6, decide_eq_true h7]; rfl)
  have t7 : decide ((m.segs.length : Int) ≤ 256) = true := by simp; omega
  have HCH := Lib.hid (chained_any m _ _ HR.out hB.2.2.1 hB.2.2.2 h7)
  clear h7 hB
  go_enter Tryz.func57, Tryz.ntmps57
  go_wp2_with (first | (go_at_call 89; refine (withinW_any _ _ _ _).mono ?_; (first | rw [h1] | rw [h2] | rw [h3] | rw [h4] | rw [h5]); rintro e w1 ⟨rfl, rfl⟩) | (go_at_call 90; refine HCH.out.mono ?_; rintro e w1 ⟨rfl, hb1⟩))
  go_ret
  exact ⟨by rw [HO.out]; rfl, Below.next HB.out hb1⟩

end Go.Proofs.YtlobohpbgghleaaGreatDoor
