import Derived.Test.YtlobohpbgghleaaGreatDoorManRow
namespace Go.Proofs.YtlobohpbgghleaaGreatDoor
open Go.RowKit

/-! ## the document's Valid -/

/-- the numbers ahead of the list -/
def headOk (m : Man) : Bool := W2 m.gen 1 1099511627776 && W2 m.next 2 1000000 && W2 m.snapSeq 0 1099511627776 && W2 m.floor 0 m.snapSeq && W2 m.snap 0 (m.next - 1) && ((m.snap == 0) == (m.snapSeq == 0)) && decide (m.segs.length ≤ 256)
theorem eq0T {x : Int} (h : x = 0) : (x == 0) = true := by rw [h]; rfl
theorem eq0F {x : Int} (h : x ≠ 0) : (x == 0) = false := beq_eq_false_iff_ne.2 h
theorem ne0T {x : Int} (h : x ≠ 0) : (x != 0) = true := by unfold bne; rw [eq0F h]; rfl
theorem ne0F {x : Int} (h : x = 0) : (x != 0) = false := by unfold bne; rw [eq0T h]; rfl
theorem manOk_head (m : Man) : manOk m = (headOk m && chainOk m.next (m.floor + 1) 0 m.segs) := by rw [manOk_eq]; rfl
theorem head_no {m : Man} (h : headOk m = false) : manOk m = false := by rw [manOk_head, h]; rfl

set_option maxRecDepth 100000 in
set_option maxHeartbeats 8000000 in
theorem refValid_head (m : Man) (oa : Option Addr) (cap : Nat) (w : World) (h : headOk m = false ∨ m.segs.length < 1) :
    Calls Tryz.prog 55 #[mnV m (.slice oa m.segs.length cap)] w fun e w' => e = .returned (.bool false) ∧ Below w.heap.size w w' := by
  have hm := mnBlk_alloc w m (.slice oa m.segs.length cap)
  have c0 := hm.c0
  have c1 := hm.c1
  have c2 := hm.c2
  have c3 := hm.c3
  have c4 := hm.c4
  have c5 := hm.c5
  simp only [mnCs] at c0 c1 c2 c3 c4 c5
  clear hm
  have key : m.gen < 1 ∨ 1099511627776 < m.gen ∨ m.next < 2 ∨ 1000000 < m.next ∨ m.snapSeq < 0 ∨ 1099511627776 < m.snapSeq ∨ m.floor < 0 ∨ m.snapSeq < m.floor ∨ m.snap < 0 ∨ m.next ≤ m.snap ∨ (m.snap = 0 ∧ m.snapSeq ≠ 0) ∨ (m.snap ≠ 0 ∧ m.snapSeq = 0) ∨ 256 < m.segs.length ∨ m.segs.length < 1 := by
    refine Classical.byContradiction fun hk => ?_
    have hb : ((m.snap == 0) == (m.snapSeq == 0)) = true := by
      by_cases g1 : m.snap = 0
      · by_cases g2 : m.snapSeq = 0
        · rw [eq0T g1, eq0T g2]; rfl
        · exfalso; omega
      · by_cases g2 : m.snapSeq = 0
        · exfalso; omega
        · rw [eq0F g1, eq0F g2]; rfl
    have hT : headOk m = true := by
      unfold headOk W2
      rw [hb]
      simp
      omega
    rcases h with h | h
    · rw [hT] at h; cases h
    · omega
  rcases h1 : decide (m.gen < 1)
  case true =>
    clear key h
    go_enter Tryz.func55, Tryz.ntmps55
    go_wp2
    go_ret
    exact ⟨rfl, below_alloc _ _⟩
  rcases h2 : decide (1099511627776 < m.gen)
  case true =>
    clear key h
    go_enter Tryz.func55, Tryz.ntmps55
    go_wp2
    go_ret
    exact ⟨rfl, below_alloc _ _⟩
  rcases h3 : decide (m.next < 2)
  case true =>
    clear key h
    go_enter Tryz.func55, Tryz.ntmps55
    go_wp2
    go_ret
    exact ⟨rfl, below_alloc _ _⟩
  rcases h4 : decide (1000000 < m.next)
  case true =>
    clear key h
    go_enter Tryz.func55, Tryz.ntmps55
    go_wp2
    go_ret
    exact ⟨rfl, below_alloc _ _⟩
  rcases h5 : decide (m.snapSeq < 0)
  case true =>
    clear key h
    go_enter Tryz.func55, Tryz.ntmps55
    go_wp2
    go_ret
    exact ⟨rfl, below_alloc _ _⟩
  rcases h6 : decide (1099511627776 < m.snapSeq)
  case true =>
    clear key h
    go_enter Tryz.func55, Tryz.ntmps55
    go_wp2
    go_ret
    exact ⟨rfl, below_alloc _ _⟩
  rcases h7 : decide (m.floor < 0)
  case true =>
    clear key h
    go_enter Tryz.func55, Tryz.ntmps55
    go_wp2
    go_ret
    exact ⟨rfl, below_alloc _ _⟩
  rcases h8 : decide (m.snapSeq < m.floor)
  case true =>
    clear key h
    go_enter Tryz.func55, Tryz.ntmps55
    go_wp2
    go_ret
    exact ⟨rfl, below_alloc _ _⟩
  rcases h9 : decide (m.snap < 0)
  case true =>
    clear key h
    go_enter Tryz.func55, Tryz.ntmps55
    go_wp2
    go_ret
    exact ⟨rfl, below_alloc _ _⟩
  rcases h10 : decide (m.next ≤ m.snap)
  case true =>
    clear key h
    go_enter Tryz.func55, Tryz.ntmps55
    go_wp2
    go_ret
    exact ⟨rfl, below_alloc _ _⟩
  simp only [decide_eq_false_iff_not] at h1 h2 h3 h4 h5 h6 h7 h8 h9 h10
  have key2 : (m.snap = 0 ∧ m.snapSeq ≠ 0) ∨ (m.snap ≠ 0 ∧ m.snapSeq = 0) ∨ (((m.snap = 0 ∧ m.snapSeq = 0) ∨ (m.snap ≠ 0 ∧ m.snapSeq ≠ 0)) ∧ (256 < m.segs.length ∨ m.segs.length < 1)) := by omega
  have t1 : decide (m.gen < 1) = false := by simpa using h1
  have t2 : decide (1099511627776 < m.gen) = false := by simpa using h2
  have t3 : decide (m.next < 2) = false := by simpa using h3
  have t4 : decide (1000000 < m.next) = false := by simpa using h4
  have t5 : decide (m.snapSeq < 0) = false := by simpa using h5
  have t6 : decide (1099511627776 < m.snapSeq) = false := by simpa using h6
  have t7 : decide (m.floor < 0) = false := by simpa using h7
  have t8 : decide (m.snapSeq < m.floor) = false := by simpa using h8
  have t9 : decide (m.snap < 0) = false := by simpa using h9
  have t10 : decide (m.next ≤ m.snap) = false := by simpa using h10
  clear key h h1 h2 h3 h4 h5 h6 h7 h8 h9 h10
  rcases key2 with ⟨g1, g2⟩ | ⟨g1, g2⟩ | ⟨hg, hl⟩
  · have u1 : (m.snap == 0) = true := by simpa using g1
    have u2 : (m.snapSeq != 0) = true := by simpa using g2
    clear g1 g2
    go_enter Tryz.func55, Tryz.ntmps55
    go_wp2
    go_ret
    exact ⟨rfl, below_alloc _ _⟩
  · have u1 : (m.snap == 0) = false := by simpa using g1
    have u2 : (m.snap != 0) = true := by simpa using g1
    have u3 : (m.snapSeq == 0) = true := by simpa using g2
    clear g1 g2
    go_enter Tryz.func55, Tryz.ntmps55
    go_wp2
    go_ret
    exact ⟨rfl, below_alloc _ _⟩
  · rcases hg with ⟨g1, g2⟩ | ⟨g1, g2⟩
    · have u1 : (m.snap == 0) = true := by simpa using g1
      have u2 : (m.snap != 0) = false := by simpa using g1
      have u3 : (m.snapSeq != 0) = false := by simpa using g2
      rcases hl with hl | hl
      · have v1 : decide ((m.segs.length : Int) < 1) = false := by simp; omega
        have v0 : ¬ m.segs.length = 0 := by omega
        have v2 : decide (256 < (m.segs.length : Int)) = true := by simp; omega
        clear g1 g2 hl
        go_enter Tryz.func55, Tryz.ntmps55
        go_wp2
        go_ret
        exact ⟨rfl, below_alloc _ _⟩
      · have v1 : decide ((m.segs.length : Int) < 1) = true := by simp; omega
        have v0 : m.segs.length = 0 := by omega
        clear g1 g2 hl
        go_enter Tryz.func55, Tryz.ntmps55
        go_wp2
        go_ret
        exact ⟨rfl, below_alloc _ _⟩
    · have u1 : (m.snap == 0) = false := by simpa using g1
      have u2 : (m.snap != 0) = true := by simpa using g1
      have u3 : (m.snapSeq == 0) = false := by simpa using g2
      rcases hl with hl | hl
      · have v1 : decide ((m.segs.length : Int) < 1) = false := by simp; omega
        have v0 : ¬ m.segs.length = 0 := by omega
        have v2 : decide (256 < (m.segs.length : Int)) = true := by simp; omega
        clear g1 g2 hl
        go_enter Tryz.func55, Tryz.ntmps55
        go_wp2
        go_ret
        exact ⟨rfl, below_alloc _ _⟩
      · have v1 : decide ((m.segs.length : Int) < 1) = true := by simp; omega
        have v0 : m.segs.length = 0 := by omega
        clear g1 g2 hl
        go_enter Tryz.func55, Tryz.ntmps55
        go_wp2
        go_ret
        exact ⟨rfl, below_alloc _ _⟩

end Go.Proofs.YtlobohpbgghleaaGreatDoor

namespace Go.Proofs.YtlobohpbgghleaaGreatDoor
open Go.RowKit

set_option maxRecDepth 100000 in
set_option maxHeartbeats 8000000 in
theorem refValid_chain0 (m : Man) (sv : Value) (w : World) (hr : SgRow w sv m.segs) (h : headOk m = true) (hl : 1 ≤ m.segs.length) (g1 : m.snap = 0) (g2 : m.snapSeq = 0) :
    Calls Tryz.prog 55 #[mnV m sv] w fun e w' => e = .returned (.bool (chainOk m.next (m.floor + 1) 0 m.segs)) ∧ Below w.heap.size w w' := by
  have hF : (1 ≤ m.gen ∧ m.gen ≤ 1099511627776) ∧ (2 ≤ m.next ∧ m.next ≤ 1000000) ∧ (0 ≤ m.snapSeq ∧ m.snapSeq ≤ 1099511627776) ∧ (0 ≤ m.floor ∧ m.floor ≤ m.snapSeq) ∧ (0 ≤ m.snap ∧ m.snap ≤ m.next - 1) ∧ m.segs.length ≤ 256 := by
    simp only [headOk, W2, Bool.and_eq_true, decide_eq_true_eq] at h
    obtain ⟨⟨⟨⟨⟨⟨a, b⟩, c⟩, d⟩, e⟩, _⟩, g⟩ := h
    exact ⟨a, b, c, d, e, g⟩
  obtain ⟨oa, cap, rfl, hl1, hl2, hc⟩ := hr
  have HC := Lib.hid hc
  have hm := mnBlk_alloc w m (.slice oa m.segs.length cap)
  have HM0 := Lib.hid hm
  have c0 := hm.c0
  have c1 := hm.c1
  have c2 := hm.c2
  have c3 := hm.c3
  have c4 := hm.c4
  have c5 := hm.c5
  simp only [mnCs] at c0 c1 c2 c3 c4 c5
  have t1 : decide (m.gen < 1) = false := by simp; omega
  have t2 : decide (1099511627776 < m.gen) = false := by simp; omega
  have t3 : decide (m.next < 2) = false := by simp; omega
  have t4 : decide (1000000 < m.next) = false := by simp; omega
  have t5 : decide (m.snapSeq < 0) = false := by simp; omega
  have t6 : decide (1099511627776 < m.snapSeq) = false := by simp; omega
  have t7 : decide (m.floor < 0) = false := by simp; omega
  have t8 : decide (m.snapSeq < m.floor) = false := by simp; omega
  have t9 : decide (m.snap < 0) = false := by simp; omega
  have t10 : decide (m.next ≤ m.snap) = false := by simp; omega
  have v1 : decide ((m.segs.length : Int) < 1) = false := by simp; omega
  have v0 : ¬ m.segs.length = 0 := by omega
  have v2 : decide (256 < (m.segs.length : Int)) = false := by simp; omega
  have hfl : IntKind.i64.wrap (m.floor + 1) = m.floor + 1 := by rw [IntKind.wrap_i64]; omega
  have hfb : 0 ≤ m.floor ∧ m.floor ≤ 1099511627776 := by omega
  have hnx : 2 ≤ m.next ∧ m.next ≤ 1000000 := hF.2.1
  have hln := hF.2.2.2.2.2
  clear hc hm h hF
  have u1 := eq0T g1
  have u2 := ne0F g1
  have u3 := eq0T g2
  have u4 := ne0F g2
  clear g1 g2
  go_enter Tryz.func55, Tryz.ntmps55
  go_wp2
  clear c0 c1 c2 c3 c4 c5 t1 t2 t3 t4 t5 t6 t7 t8 t9 t10 u1 u2 u3 u4 v1 v2 hfl
  go_loopw [4, 5, 92] (fun fv _ iv wr => ∃ (k : Nat) (first num : Int), k < m.segs.length ∧ iv = .int .i64 k ∧ fv = .int .i64 first ∧ 1 ≤ first ∧ first ≤ 1099511627777 + 512 * (k : Int) ∧ 0 ≤ num ∧ (k = 0 → num = 0) ∧ (∀ i, k = i + 1 → ∃ p, m.segs[i]? = some p ∧ p.num = num ∧ 1 ≤ num) ∧
    MnBlk wr w.heap.size m (.slice oa m.segs.length cap) ∧ Hid (chainOk m.next (m.floor + 1) 0 m.segs = chainOk m.next first num (m.segs.drop k)) ∧ Below w.heap.size w wr) (fun _ _ iv _ => m.segs.length - (intOf iv).toNat)
  case atStart => exact ⟨0, m.floor + 1, 0, by omega, rfl, rfl, by omega, by omega, by omega, fun _ => rfl, fun i hi => by omega, HM0.out, Lib.hid rfl, below_alloc _ _⟩
  case round =>
    clear HM0
    obtain ⟨k, first, num, hk, rfl, rfl, hp1, hp2, hp3, hnz, hprev, hmn, HE, hb⟩ := hrel
    have HM := Lib.hid hmn
    have HB := Lib.hid hb
    clear hmn hb
    by_cases hlt : k < m.segs.length
    · rcases k with _ | j
      · obtain ⟨g, hg, _, _⟩ := nth m.segs 0 hlt
        obtain ⟨b, off, rfl, hcell⟩ := HC.out 0 g hg
        have q1 : ((0 : Nat) : Int) < (m.segs.length : Int) := by omega
        have HCE := Lib.hid (range_later hcell HB.out)
        have HD := Lib.hid (drop_cons hg)
        have HSG := Lib.hid hg
        have c1 := HM.out.c1
        have c5 := HM.out.c5
        have HBA := Lib.hid (Below.next (below_alloc wr (.cells (sgCs g) 46)) (below_drewN' _ 1))
        have c1' := (HM.out.below (below_alloc wr (.cells (sgCs g) 46))).c1
        have c5' := (HM.out.below (below_alloc wr (.cells (sgCs g) 46))).c5
        simp only [sgCs] at c1' c5'
        have HB2 := Lib.hid (fun o n => Below.next HB.out (Below.next (below_alloc wr o) (below_drewN' _ n)))
        clear hg hcell hprev
        by_cases e1 : g.num < 1
        case pos =>
          have HR := Lib.hid (show chainOk m.next (m.floor + 1) 0 m.segs = false by rw [HE.out, HD.out, chain_b2 (show ¬ num < g.num by omega)])
          have t11 : decide (g.num < 1) = true := by simpa using e1
          clear e1 HE HD
          go_wp2_with (with_reducible refine wpList_load_sg rfl (.tmp 98) rfl b (off + 0 * 4) g rfl HCE.out ?_)
          go_quiet (fail)
          go_wp2
          go_ret
          exact ⟨by rw [HR.out]; rfl, HB2.out _ _⟩
        have t11 : decide (g.num < 1) = false := by simpa using e1
        by_cases e2 : g.num < m.next
        case neg =>
          have HR := Lib.hid (show chainOk m.next (m.floor + 1) 0 m.segs = false by rw [HE.out, HD.out, chain_b3 e2])
          have t12 : decide (m.next ≤ g.num) = true := by simp; omega
          clear e1 e2 HE HD
          go_wp2_with (with_reducible refine wpList_load_sg rfl (.tmp 98) rfl b (off + 0 * 4) g rfl HCE.out ?_)
          go_quiet (fail)
          go_wp2
          go_ret
          exact ⟨by rw [HR.out]; rfl, HB2.out _ _⟩
        have t12 : decide (m.next ≤ g.num) = false := by simp; omega
        have e3 : num < g.num := by have := hnz rfl; omega
        rcases e4 : (g.first != first) with _ | _
        case true =>
          have HR := Lib.hid (show chainOk m.next (m.floor + 1) 0 m.segs = false by rw [HE.out, HD.out, chain_b1 e4])
          clear e1 e2 e3 HE HD
          go_wp2_with (with_reducible refine wpList_load_sg rfl (.tmp 98) rfl b (off + 0 * 4) g rfl HCE.out ?_)
          go_quiet (fail)
          go_wp2
          go_ret
          exact ⟨by rw [HR.out]; rfl, HB2.out _ _⟩
        have e4' : g.first = first := by simpa using e4
        have HO := Lib.hid (show g.first = first ∧ num < g.num ∧ g.num < m.next from ⟨e4', e3, e2⟩)
        have hfd : decide (g.first ≤ 1099511627777) = decide (first ≤ 1099511627777) := by rw [e4']
        clear e1 e2 e3 e4'
        by_cases hlast : 0 + 1 = m.segs.length
        · have HR := Lib.hid (show chainOk m.next (m.floor + 1) 0 m.segs = (decide (g.count = 0) && decide (g.foot = 0) && decide (first ≤ 1099511627777)) by
            rw [HE.out, HD.out, List.drop_of_length_le (by omega), chain_end HO.out.1 HO.out.2.1 HO.out.2.2])
          have t4 : ((0 : Int) == (m.segs.length : Int) - 1) = true := by rw [beq_iff_eq]; omega
          clear HE HD hlast
          rcases u1 : (g.count == 0) with _ | _
          case false =>
            have HR2 := Lib.hid (show chainOk m.next (m.floor + 1) 0 m.segs = false by rw [HR.out]; simp at u1 ⊢; simp [u1])
            clear HR hfd
            go_wp2_with (with_reducible refine wpList_load_sg rfl (.tmp 98) rfl b (off + 0 * 4) g rfl HCE.out ?_)
            go_quiet (fail)
            go_wp2
            go_ret
            exact ⟨by rw [HR2.out]; rfl, HB2.out _ _⟩
          rcases u2 : (g.foot == 0) with _ | _
          case false =>
            have HR2 := Lib.hid (show chainOk m.next (m.floor + 1) 0 m.segs = false by rw [HR.out]; simp at u2 ⊢; simp [u2])
            clear HR hfd
            go_wp2_with (with_reducible refine wpList_load_sg rfl (.tmp 98) rfl b (off + 0 * 4) g rfl HCE.out ?_)
            go_quiet (fail)
            go_wp2
            go_ret
            exact ⟨by rw [HR2.out]; rfl, HB2.out _ _⟩
          have HR2 := Lib.hid (show chainOk m.next (m.floor + 1) 0 m.segs = decide (first ≤ 1099511627777) by rw [HR.out]; simp at u1 u2; simp [u1, u2])
          clear HR
          rcases u3 : decide (first ≤ 1099511627777)
          all_goals
            rw [u3] at HR2 hfd
            clear u3
            go_wp2_with (with_reducible refine wpList_load_sg rfl (.tmp 98) rfl b (off + 0 * 4) g rfl HCE.out ?_)
            go_quiet (fail)
            go_wp2
            go_ret
            exact ⟨by rw [HR2.out]; rfl, HB2.out _ _⟩
        · obtain ⟨x, hx, _, _⟩ := nth m.segs (0 + 1) (by omega)
          have HD2 := Lib.hid (drop_cons hx)
          have t4 : ((0 : Int) == (m.segs.length : Int) - 1) = false := by rw [beq_eq_false_iff_ne]; omega
          clear hx hfd
          by_cases f1 : g.count < 1
          case pos =>
            have HR := Lib.hid (show chainOk m.next (m.floor + 1) 0 m.segs = false by rw [HE.out, HD.out, HD2.out, chain_b4 (by omega)])
            have s1 : decide (g.count < 1) = true := by simpa using f1
            clear f1 HE HD HD2
            go_wp2_with (with_reducible refine wpList_load_sg rfl (.tmp 98) rfl b (off + 0 * 4) g rfl HCE.out ?_)
            go_quiet (fail)
            go_wp2
            go_ret
            exact ⟨by rw [HR.out]; rfl, HB2.out _ _⟩
          have s1 : decide (g.count < 1) = false := by simpa using f1
          by_cases f2 : 512 < g.count
          case pos =>
            have HR := Lib.hid (show chainOk m.next (m.floor + 1) 0 m.segs = false by rw [HE.out, HD.out, HD2.out, chain_b4 (by omega)])
            have s2 : decide (512 < g.count) = true := by simpa using f2
            clear f1 f2 HE HD HD2
            go_wp2_with (with_reducible refine wpList_load_sg rfl (.tmp 98) rfl b (off + 0 * 4) g rfl HCE.out ?_)
            go_quiet (fail)
            go_wp2
            go_ret
            exact ⟨by rw [HR.out]; rfl, HB2.out _ _⟩
          have s2 : decide (512 < g.count) = false := by simpa using f2
          by_cases f3 : g.foot < 1
          case pos =>
            have HR := Lib.hid (show chainOk m.next (m.floor + 1) 0 m.segs = false by rw [HE.out, HD.out, HD2.out, chain_b5 (by omega)])
            have s3 : decide (g.foot < 1) = true := by simpa using f3
            clear f1 f2 f3 HE HD HD2
            go_wp2_with (with_reducible refine wpList_load_sg rfl (.tmp 98) rfl b (off + 0 * 4) g rfl HCE.out ?_)
            go_quiet (fail)
            go_wp2
            go_ret
            exact ⟨by rw [HR.out]; rfl, HB2.out _ _⟩
          have s3 : decide (g.foot < 1) = false := by simpa using f3
          by_cases f4 : 1099511627776 < g.foot
          case pos =>
            have HR := Lib.hid (show chainOk m.next (m.floor + 1) 0 m.segs = false by rw [HE.out, HD.out, HD2.out, chain_b5 (by omega)])
            have s4 : decide (1099511627776 < g.foot) = true := by simpa using f4
            clear f1 f2 f3 f4 HE HD HD2
            go_wp2_with (with_reducible refine wpList_load_sg rfl (.tmp 98) rfl b (off + 0 * 4) g rfl HCE.out ?_)
            go_quiet (fail)
            go_wp2
            go_ret
            exact ⟨by rw [HR.out]; rfl, HB2.out _ _⟩
          have s4 : decide (1099511627776 < g.foot) = false := by simpa using f4
          have HR := Lib.hid (show chainOk m.next (m.floor + 1) 0 m.segs = chainOk m.next (first + g.count) g.num (m.segs.drop (0 + 1)) by rw [HE.out, HD.out, HD2.out, chain_go HO.out.1 HO.out.2.1 HO.out.2.2 (by omega) (by omega)])
          have hw : IntKind.i64.wrap (first + g.count) = first + g.count := by rw [IntKind.wrap_i64]; omega
          have HQ := Lib.hid (show 1 ≤ first + g.count ∧ first + g.count ≤ 1099511627777 + 512 * ((0 + 1 : Nat) : Int) ∧ 1 ≤ g.num by have := t11; simp at this; omega)
          have HMA := Lib.hid (fun o n => (HM.out.below (below_alloc wr o)).below (below_drewN' _ n))
          have HGP := Lib.hid (show ∀ i, 0 + 1 = i + 1 → ∃ p, m.segs[i]? = some p ∧ p.num = g.num ∧ 1 ≤ g.num from fun i hi => ⟨g, by rw [show i = 0 by omega]; exact HSG.out, rfl, HQ.out.2.2⟩)
          clear f1 f2 f3 f4 HE HD HD2 HSG
          go_wp2_with (with_reducible refine wpList_load_sg rfl (.tmp 98) rfl b (off + 0 * 4) g rfl HCE.out ?_)
          go_quiet (fail)
          go_wp2
          go_roundw
          case rel => exact ⟨0 + 1, first + g.count, g.num, by omega, by go_num, rfl, HQ.out.1, HQ.out.2.1, by have := HQ.out.2.2; omega, fun h => by omega, HGP.out, HMA.out _ _, HR, HB2.out _ _⟩
          case measure => simp [intOf]; omega
      · obtain ⟨g, hg, _, _⟩ := nth m.segs (j + 1) hlt
        obtain ⟨b, off, rfl, hcell⟩ := HC.out (j + 1) g hg
        have q1 : (((j + 1) : Nat) : Int) < (m.segs.length : Int) := by omega
        have q1' : (j : Int) + 1 < (m.segs.length : Int) := by omega
        have q2' : (j : Int) < (m.segs.length : Int) := by omega
        have q4' : IntKind.i64.wrap (j : Int) = (j : Int) := by rw [IntKind.wrap_i64]; omega
        have HCE := Lib.hid (range_later hcell HB.out)
        have HD := Lib.hid (drop_cons hg)
        have HSG := Lib.hid hg
        have c1 := HM.out.c1
        have c5 := HM.out.c5
        have HBA := Lib.hid (Below.next (below_alloc wr (.cells (sgCs g) 46)) (below_drewN' _ 1))
        have c1' := (HM.out.below (below_alloc wr (.cells (sgCs g) 46))).c1
        have c5' := (HM.out.below (below_alloc wr (.cells (sgCs g) 46))).c5
        obtain ⟨p, hp, hpn, hp1⟩ := hprev j rfl
        obtain ⟨b', off', hbo, hcp⟩ := HC.out j p hp
        simp only [Option.some.injEq, Addr.mk.injEq, and_true] at hbo
        obtain ⟨rfl, rfl⟩ := hbo
        have cp : (wr.alloc (.cells (sgCs g) 46)).cell? ⟨b, off + j * 4, none⟩ = some (.int .i64 p.num) := cell_later (below_alloc wr _) (cell_later HB.out (hcp 0 _ rfl))
        clear hp hcp
        simp only [sgCs] at c1' c5' cp
        have HB2 := Lib.hid (fun o n => Below.next HB.out (Below.next (below_alloc wr o) (below_drewN' _ n)))
        clear hg hcell hprev
        have t13 : decide ((0 : Int) < (j : Int) + 1) = true := by rw [decide_eq_true_eq]; omega
        by_cases e1 : g.num < 1
        case pos =>
          have HR := Lib.hid (show chainOk m.next (m.floor + 1) 0 m.segs = false by rw [HE.out, HD.out, chain_b2 (show ¬ num < g.num by omega)])
          have t11 : decide (g.num < 1) = true := by simpa using e1
          clear e1 HE HD
          go_wp2_with (with_reducible refine wpList_load_sg rfl (.tmp 98) rfl b (off + (j + 1) * 4) g rfl HCE.out ?_)
          go_quiet (fail)
          go_wp2
          go_ret
          exact ⟨by rw [HR.out]; rfl, HB2.out _ _⟩
        have t11 : decide (g.num < 1) = false := by simpa using e1
        by_cases e2 : g.num < m.next
        case neg =>
          have HR := Lib.hid (show chainOk m.next (m.floor + 1) 0 m.segs = false by rw [HE.out, HD.out, chain_b3 e2])
          have t12 : decide (m.next ≤ g.num) = true := by simp; omega
          clear e1 e2 HE HD
          go_wp2_with (with_reducible refine wpList_load_sg rfl (.tmp 98) rfl b (off + (j + 1) * 4) g rfl HCE.out ?_)
          go_quiet (fail)
          go_wp2
          go_ret
          exact ⟨by rw [HR.out]; rfl, HB2.out _ _⟩
        have t12 : decide (m.next ≤ g.num) = false := by simp; omega
        by_cases e3 : num < g.num
        case neg =>
          have HR := Lib.hid (show chainOk m.next (m.floor + 1) 0 m.segs = false by rw [HE.out, HD.out, chain_b2 e3])
          have t14 : decide (g.num ≤ num) = true := by simp; omega
          clear e1 e2 e3 HE HD
          go_wp2_with (with_reducible refine wpList_load_sg rfl (.tmp 98) rfl b (off + (j + 1) * 4) g rfl HCE.out ?_)
          go_quiet (fail)
          go_wp2
          go_ret
          exact ⟨by rw [HR.out]; rfl, HB2.out _ _⟩
        have t14 : decide (g.num ≤ num) = false := by simp; omega
        rcases e4 : (g.first != first) with _ | _
        case true =>
          have HR := Lib.hid (show chainOk m.next (m.floor + 1) 0 m.segs = false by rw [HE.out, HD.out, chain_b1 e4])
          clear e1 e2 e3 HE HD
          go_wp2_with (with_reducible refine wpList_load_sg rfl (.tmp 98) rfl b (off + (j + 1) * 4) g rfl HCE.out ?_)
          go_quiet (fail)
          go_wp2
          go_ret
          exact ⟨by rw [HR.out]; rfl, HB2.out _ _⟩
        have e4' : g.first = first := by simpa using e4
        have HO := Lib.hid (show g.first = first ∧ num < g.num ∧ g.num < m.next from ⟨e4', e3, e2⟩)
        have hfd : decide (g.first ≤ 1099511627777) = decide (first ≤ 1099511627777) := by rw [e4']
        clear e1 e2 e3 e4'
        by_cases hlast : (j + 1) + 1 = m.segs.length
        · have HR := Lib.hid (show chainOk m.next (m.floor + 1) 0 m.segs = (decide (g.count = 0) && decide (g.foot = 0) && decide (first ≤ 1099511627777)) by
            rw [HE.out, HD.out, List.drop_of_length_le (by omega), chain_end HO.out.1 HO.out.2.1 HO.out.2.2])
          have t4 : (((j : Int) + 1) == (m.segs.length : Int) - 1) = true := by rw [beq_iff_eq]; omega
          clear HE HD hlast
          rcases u1 : (g.count == 0) with _ | _
          case false =>
            have HR2 := Lib.hid (show chainOk m.next (m.floor + 1) 0 m.segs = false by rw [HR.out]; simp at u1 ⊢; simp [u1])
            clear HR hfd
            go_wp2_with (with_reducible refine wpList_load_sg rfl (.tmp 98) rfl b (off + (j + 1) * 4) g rfl HCE.out ?_)
            go_quiet (fail)
            go_wp2
            go_ret
            exact ⟨by rw [HR2.out]; rfl, HB2.out _ _⟩
          rcases u2 : (g.foot == 0) with _ | _
          case false =>
            have HR2 := Lib.hid (show chainOk m.next (m.floor + 1) 0 m.segs = false by rw [HR.out]; simp at u2 ⊢; simp [u2])
            clear HR hfd
            go_wp2_with (with_reducible refine wpList_load_sg rfl (.tmp 98) rfl b (off + (j + 1) * 4) g rfl HCE.out ?_)
            go_quiet (fail)
            go_wp2
            go_ret
            exact ⟨by rw [HR2.out]; rfl, HB2.out _ _⟩
          have HR2 := Lib.hid (show chainOk m.next (m.floor + 1) 0 m.segs = decide (first ≤ 1099511627777) by rw [HR.out]; simp at u1 u2; simp [u1, u2])
          clear HR
          rcases u3 : decide (first ≤ 1099511627777)
          all_goals
            rw [u3] at HR2 hfd
            clear u3
            go_wp2_with (with_reducible refine wpList_load_sg rfl (.tmp 98) rfl b (off + (j + 1) * 4) g rfl HCE.out ?_)
            go_quiet (fail)
            go_wp2
            go_ret
            exact ⟨by rw [HR2.out]; rfl, HB2.out _ _⟩
        · obtain ⟨x, hx, _, _⟩ := nth m.segs ((j + 1) + 1) (by omega)
          have HD2 := Lib.hid (drop_cons hx)
          have t4 : (((j : Int) + 1) == (m.segs.length : Int) - 1) = false := by rw [beq_eq_false_iff_ne]; omega
          clear hx hfd
          by_cases f1 : g.count < 1
          case pos =>
            have HR := Lib.hid (show chainOk m.next (m.floor + 1) 0 m.segs = false by rw [HE.out, HD.out, HD2.out, chain_b4 (by omega)])
            have s1 : decide (g.count < 1) = true := by simpa using f1
            clear f1 HE HD HD2
            go_wp2_with (with_reducible refine wpList_load_sg rfl (.tmp 98) rfl b (off + (j + 1) * 4) g rfl HCE.out ?_)
            go_quiet (fail)
            go_wp2
            go_ret
            exact ⟨by rw [HR.out]; rfl, HB2.out _ _⟩
          have s1 : decide (g.count < 1) = false := by simpa using f1
          by_cases f2 : 512 < g.count
          case pos =>
            have HR := Lib.hid (show chainOk m.next (m.floor + 1) 0 m.segs = false by rw [HE.out, HD.out, HD2.out, chain_b4 (by omega)])
            have s2 : decide (512 < g.count) = true := by simpa using f2
            clear f1 f2 HE HD HD2
            go_wp2_with (with_reducible refine wpList_load_sg rfl (.tmp 98) rfl b (off + (j + 1) * 4) g rfl HCE.out ?_)
            go_quiet (fail)
            go_wp2
            go_ret
            exact ⟨by rw [HR.out]; rfl, HB2.out _ _⟩
          have s2 : decide (512 < g.count) = false := by simpa using f2
          by_cases f3 : g.foot < 1
          case pos =>
            have HR := Lib.hid (show chainOk m.next (m.floor + 1) 0 m.segs = false by rw [HE.out, HD.out, HD2.out, chain_b5 (by omega)])
            have s3 : decide (g.foot < 1) = true := by simpa using f3
            clear f1 f2 f3 HE HD HD2
            go_wp2_with (with_reducible refine wpList_load_sg rfl (.tmp 98) rfl b (off + (j + 1) * 4) g rfl HCE.out ?_)
            go_quiet (fail)
            go_wp2
            go_ret
            exact ⟨by rw [HR.out]; rfl, HB2.out _ _⟩
          have s3 : decide (g.foot < 1) = false := by simpa using f3
          by_cases f4 : 1099511627776 < g.foot
          case pos =>
            have HR := Lib.hid (show chainOk m.next (m.floor + 1) 0 m.segs = false by rw [HE.out, HD.out, HD2.out, chain_b5 (by omega)])
            have s4 : decide (1099511627776 < g.foot) = true := by simpa using f4
            clear f1 f2 f3 f4 HE HD HD2
            go_wp2_with (with_reducible refine wpList_load_sg rfl (.tmp 98) rfl b (off + (j + 1) * 4) g rfl HCE.out ?_)
            go_quiet (fail)
            go_wp2
            go_ret
            exact ⟨by rw [HR.out]; rfl, HB2.out _ _⟩
          have s4 : decide (1099511627776 < g.foot) = false := by simpa using f4
          have HR := Lib.hid (show chainOk m.next (m.floor + 1) 0 m.segs = chainOk m.next (first + g.count) g.num (m.segs.drop ((j + 1) + 1)) by rw [HE.out, HD.out, HD2.out, chain_go HO.out.1 HO.out.2.1 HO.out.2.2 (by omega) (by omega)])
          have hw : IntKind.i64.wrap (first + g.count) = first + g.count := by rw [IntKind.wrap_i64]; omega
          have HQ := Lib.hid (show 1 ≤ first + g.count ∧ first + g.count ≤ 1099511627777 + 512 * (((j + 1) + 1 : Nat) : Int) ∧ 1 ≤ g.num by have := t11; simp at this; omega)
          have HMA := Lib.hid (fun o n => (HM.out.below (below_alloc wr o)).below (below_drewN' _ n))
          have HGP := Lib.hid (show ∀ i, (j + 1) + 1 = i + 1 → ∃ p, m.segs[i]? = some p ∧ p.num = g.num ∧ 1 ≤ g.num from fun i hi => ⟨g, by rw [show i = (j + 1) by omega]; exact HSG.out, rfl, HQ.out.2.2⟩)
          clear f1 f2 f3 f4 HE HD HD2 HSG
          go_wp2_with (with_reducible refine wpList_load_sg rfl (.tmp 98) rfl b (off + (j + 1) * 4) g rfl HCE.out ?_)
          go_quiet (fail)
          go_wp2
          go_roundw
          case rel => exact ⟨(j + 1) + 1, first + g.count, g.num, by omega, by go_num, rfl, HQ.out.1, HQ.out.2.1, by have := HQ.out.2.2; omega, fun h => by omega, HGP.out, HMA.out _ _, HR, HB2.out _ _⟩
          case measure => simp [intOf]; omega
    · exact absurd hk hlt

end Go.Proofs.YtlobohpbgghleaaGreatDoor

namespace Go.Proofs.YtlobohpbgghleaaGreatDoor
open Go.RowKit

set_option maxRecDepth 100000 in
set_option maxHeartbeats 8000000 in
theorem refValid_chain1 (m : Man) (sv : Value) (w : World) (hr : SgRow w sv m.segs) (h : headOk m = true) (hl : 1 ≤ m.segs.length) (g1 : m.snap ≠ 0) (g2 : m.snapSeq ≠ 0) :
    Calls Tryz.prog 55 #[mnV m sv] w fun e w' => e = .returned (.bool (chainOk m.next (m.floor + 1) 0 m.segs)) ∧ Below w.heap.size w w' := by
  have hF : (1 ≤ m.gen ∧ m.gen ≤ 1099511627776) ∧ (2 ≤ m.next ∧ m.next ≤ 1000000) ∧ (0 ≤ m.snapSeq ∧ m.snapSeq ≤ 1099511627776) ∧ (0 ≤ m.floor ∧ m.floor ≤ m.snapSeq) ∧ (0 ≤ m.snap ∧ m.snap ≤ m.next - 1) ∧ m.segs.length ≤ 256 := by
    simp only [headOk, W2, Bool.and_eq_true, decide_eq_true_eq] at h
    obtain ⟨⟨⟨⟨⟨⟨a, b⟩, c⟩, d⟩, e⟩, _⟩, g⟩ := h
    exact ⟨a, b, c, d, e, g⟩
  obtain ⟨oa, cap, rfl, hl1, hl2, hc⟩ := hr
  have HC := Lib.hid hc
  have hm := mnBlk_alloc w m (.slice oa m.segs.length cap)
  have HM0 := Lib.hid hm
  have c0 := hm.c0
  have c1 := hm.c1
  have c2 := hm.c2
  have c3 := hm.c3
  have c4 := hm.c4
  have c5 := hm.c5
  simp only [mnCs] at c0 c1 c2 c3 c4 c5
  have t1 : decide (m.gen < 1) = false := by simp; omega
  have t2 : decide (1099511627776 < m.gen) = false := by simp; omega
  have t3 : decide (m.next < 2) = false := by simp; omega
  have t4 : decide (1000000 < m.next) = false := by simp; omega
  have t5 : decide (m.snapSeq < 0) = false := by simp; omega
  have t6 : decide (1099511627776 < m.snapSeq) = false := by simp; omega
  have t7 : decide (m.floor < 0) = false := by simp; omega
  have t8 : decide (m.snapSeq < m.floor) = false := by simp; omega
  have t9 : decide (m.snap < 0) = false := by simp; omega
  have t10 : decide (m.next ≤ m.snap) = false := by simp; omega
  have v1 : decide ((m.segs.length : Int) < 1) = false := by simp; omega
  have v0 : ¬ m.segs.length = 0 := by omega
  have v2 : decide (256 < (m.segs.length : Int)) = false := by simp; omega
  have hfl : IntKind.i64.wrap (m.floor + 1) = m.floor + 1 := by rw [IntKind.wrap_i64]; omega
  have hfb : 0 ≤ m.floor ∧ m.floor ≤ 1099511627776 := by omega
  have hnx : 2 ≤ m.next ∧ m.next ≤ 1000000 := hF.2.1
  have hln := hF.2.2.2.2.2
  clear hc hm h hF
  have u1 := eq0F g1
  have u2 := ne0T g1
  have u3 := eq0F g2
  have u4 := ne0T g2
  clear g1 g2
  go_enter Tryz.func55, Tryz.ntmps55
  go_wp2
  clear c0 c1 c2 c3 c4 c5 t1 t2 t3 t4 t5 t6 t7 t8 t9 t10 u1 u2 u3 u4 v1 v2 hfl
  go_loopw [4, 5, 92] (fun fv _ iv wr => ∃ (k : Nat) (first num : Int), k < m.segs.length ∧ iv = .int .i64 k ∧ fv = .int .i64 first ∧ 1 ≤ first ∧ first ≤ 1099511627777 + 512 * (k : Int) ∧ 0 ≤ num ∧ (k = 0 → num = 0) ∧ (∀ i, k = i + 1 → ∃ p, m.segs[i]? = some p ∧ p.num = num ∧ 1 ≤ num) ∧
    MnBlk wr w.heap.size m (.slice oa m.segs.length cap) ∧ Hid (chainOk m.next (m.floor + 1) 0 m.segs = chainOk m.next first num (m.segs.drop k)) ∧ Below w.heap.size w wr) (fun _ _ iv _ => m.segs.length - (intOf iv).toNat)
  case atStart => exact ⟨0, m.floor + 1, 0, by omega, rfl, rfl, by omega, by omega, by omega, fun _ => rfl, fun i hi => by omega, HM0.out, Lib.hid rfl, below_alloc _ _⟩
  case round =>
    clear HM0
    obtain ⟨k, first, num, hk, rfl, rfl, hp1, hp2, hp3, hnz, hprev, hmn, HE, hb⟩ := hrel
    have HM := Lib.hid hmn
    have HB := Lib.hid hb
    clear hmn hb
    by_cases hlt : k < m.segs.length
    · rcases k with _ | j
      · obtain ⟨g, hg, _, _⟩ := nth m.segs 0 hlt
        obtain ⟨b, off, rfl, hcell⟩ := HC.out 0 g hg
        have q1 : ((0 : Nat) : Int) < (m.segs.length : Int) := by omega
        have HCE := Lib.hid (range_later hcell HB.out)
        have HD := Lib.hid (drop_cons hg)
        have HSG := Lib.hid hg
        have c1 := HM.out.c1
        have c5 := HM.out.c5
        have HBA := Lib.hid (Below.next (below_alloc wr (.cells (sgCs g) 46)) (below_drewN' _ 1))
        have c1' := (HM.out.below (below_alloc wr (.cells (sgCs g) 46))).c1
        have c5' := (HM.out.below (below_alloc wr (.cells (sgCs g) 46))).c5
        simp only [sgCs] at c1' c5'
        have HB2 := Lib.hid (fun o n => Below.next HB.out (Below.next (below_alloc wr o) (below_drewN' _ n)))
        clear hg hcell hprev
        by_cases e1 : g.num < 1
        case pos =>
          have HR := Lib.hid (show chainOk m.next (m.floor + 1) 0 m.segs = false by rw [HE.out, HD.out, chain_b2 (show ¬ num < g.num by omega)])
          have t11 : decide (g.num < 1) = true := by simpa using e1
          clear e1 HE HD
          go_wp2_with (with_reducible refine wpList_load_sg rfl (.tmp 98) rfl b (off + 0 * 4) g rfl HCE.out ?_)
          go_quiet (fail)
          go_wp2
          go_ret
          exact ⟨by rw [HR.out]; rfl, HB2.out _ _⟩
        have t11 : decide (g.num < 1) = false := by simpa using e1
        by_cases e2 : g.num < m.next
        case neg =>
          have HR := Lib.hid (show chainOk m.next (m.floor + 1) 0 m.segs = false by rw [HE.out, HD.out, chain_b3 e2])
          have t12 : decide (m.next ≤ g.num) = true := by simp; omega
          clear e1 e2 HE HD
          go_wp2_with (with_reducible refine wpList_load_sg rfl (.tmp 98) rfl b (off + 0 * 4) g rfl HCE.out ?_)
          go_quiet (fail)
          go_wp2
          go_ret
          exact ⟨by rw [HR.out]; rfl, HB2.out _ _⟩
        have t12 : decide (m.next ≤ g.num) = false := by simp; omega
        have e3 : num < g.num := by have := hnz rfl; omega
        rcases e4 : (g.first != first) with _ | _
        case true =>
          have HR := Lib.hid (show chainOk m.next (m.floor + 1) 0 m.segs = false by rw [HE.out, HD.out, chain_b1 e4])
          clear e1 e2 e3 HE HD
          go_wp2_with (with_reducible refine wpList_load_sg rfl (.tmp 98) rfl b (off + 0 * 4) g rfl HCE.out ?_)
          go_quiet (fail)
          go_wp2
          go_ret
          exact ⟨by rw [HR.out]; rfl, HB2.out _ _⟩
        have e4' : g.first = first := by simpa using e4
        have HO := Lib.hid (show g.first = first ∧ num < g.num ∧ g.num < m.next from ⟨e4', e3, e2⟩)
        have hfd : decide (g.first ≤ 1099511627777) = decide (first ≤ 1099511627777) := by rw [e4']
        clear e1 e2 e3 e4'
        by_cases hlast : 0 + 1 = m.segs.length
        · have HR := Lib.hid (show chainOk m.next (m.floor + 1) 0 m.segs = (decide (g.count = 0) && decide (g.foot = 0) && decide (first ≤ 1099511627777)) by
            rw [HE.out, HD.out, List.drop_of_length_le (by omega), chain_end HO.out.1 HO.out.2.1 HO.out.2.2])
          have t4 : ((0 : Int) == (m.segs.length : Int) - 1) = true := by rw [beq_iff_eq]; omega
          clear HE HD hlast
          rcases u1 : (g.count == 0) with _ | _
          case false =>
            have HR2 := Lib.hid (show chainOk m.next (m.floor + 1) 0 m.segs = false by rw [HR.out]; simp at u1 ⊢; simp [u1])
            clear HR hfd
            go_wp2_with (with_reducible refine wpList_load_sg rfl (.tmp 98) rfl b (off + 0 * 4) g rfl HCE.out ?_)
            go_quiet (fail)
            go_wp2
            go_ret
            exact ⟨by rw [HR2.out]; rfl, HB2.out _ _⟩
          rcases u2 : (g.foot == 0) with _ | _
          case false =>
            have HR2 := Lib.hid (show chainOk m.next (m.floor + 1) 0 m.segs = false by rw [HR.out]; simp at u2 ⊢; simp [u2])
            clear HR hfd
            go_wp2_with (with_reducible refine wpList_load_sg rfl (.tmp 98) rfl b (off + 0 * 4) g rfl HCE.out ?_)
            go_quiet (fail)
            go_wp2
            go_ret
            exact ⟨by rw [HR2.out]; rfl, HB2.out _ _⟩
          have HR2 := Lib.hid (show chainOk m.next (m.floor + 1) 0 m.segs = decide (first ≤ 1099511627777) by rw [HR.out]; simp at u1 u2; simp [u1, u2])
          clear HR
          rcases u3 : decide (first ≤ 1099511627777)
          all_goals
            rw [u3] at HR2 hfd
            clear u3
            go_wp2_with (with_reducible refine wpList_load_sg rfl (.tmp 98) rfl b (off + 0 * 4) g rfl HCE.out ?_)
            go_quiet (fail)
            go_wp2
            go_ret
            exact ⟨by rw [HR2.out]; rfl, HB2.out _ _⟩
        · obtain ⟨x, hx, _, _⟩ := nth m.segs (0 + 1) (by omega)
          have HD2 := Lib.hid (drop_cons hx)
          have t4 : ((0 : Int) == (m.segs.length : Int) - 1) = false := by rw [beq_eq_false_iff_ne]; omega
          clear hx hfd
          by_cases f1 : g.count < 1
          case pos =>
            have HR := Lib.hid (show chainOk m.next (m.floor + 1) 0 m.segs = false by rw [HE.out, HD.out, HD2.out, chain_b4 (by omega)])
            have s1 : decide (g.count < 1) = true := by simpa using f1
            clear f1 HE HD HD2
            go_wp2_with (with_reducible refine wpList_load_sg rfl (.tmp 98) rfl b (off + 0 * 4) g rfl HCE.out ?_)
            go_quiet (fail)
            go_wp2
            go_ret
            exact ⟨by rw [HR.out]; rfl, HB2.out _ _⟩
          have s1 : decide (g.count < 1) = false := by simpa using f1
          by_cases f2 : 512 < g.count
          case pos =>
            have HR := Lib.hid (show chainOk m.next (m.floor + 1) 0 m.segs = false by rw [HE.out, HD.out, HD2.out, chain_b4 (by omega)])
            have s2 : decide (512 < g.count) = true := by simpa using f2
            clear f1 f2 HE HD HD2
            go_wp2_with (with_reducible refine wpList_load_sg rfl (.tmp 98) rfl b (off + 0 * 4) g rfl HCE.out ?_)
            go_quiet (fail)
            go_wp2
            go_ret
            exact ⟨by rw [HR.out]; rfl, HB2.out _ _⟩
          have s2 : decide (512 < g.count) = false := by simpa using f2
          by_cases f3 : g.foot < 1
          case pos =>
            have HR := Lib.hid (show chainOk m.next (m.floor + 1) 0 m.segs = false by rw [HE.out, HD.out, HD2.out, chain_b5 (by omega)])
            have s3 : decide (g.foot < 1) = true := by simpa using f3
            clear f1 f2 f3 HE HD HD2
            go_wp2_with (with_reducible refine wpList_load_sg rfl (.tmp 98) rfl b (off + 0 * 4) g rfl HCE.out ?_)
            go_quiet (fail)
            go_wp2
            go_ret
            exact ⟨by rw [HR.out]; rfl, HB2.out _ _⟩
          have s3 : decide (g.foot < 1) = false := by simpa using f3
          by_cases f4 : 1099511627776 < g.foot
          case pos =>
            have HR := Lib.hid (show chainOk m.next (m.floor + 1) 0 m.segs = false by rw [HE.out, HD.out, HD2.out, chain_b5 (by omega)])
            have s4 : decide (1099511627776 < g.foot) = true := by simpa using f4
            clear f1 f2 f3 f4 HE HD HD2
            go_wp2_with (with_reducible refine wpList_load_sg rfl (.tmp 98) rfl b (off + 0 * 4) g rfl HCE.out ?_)
            go_quiet (fail)
            go_wp2
            go_ret
            exact ⟨by rw [HR.out]; rfl, HB2.out _ _⟩
          have s4 : decide (1099511627776 < g.foot) = false := by simpa using f4
          have HR := Lib.hid (show chainOk m.next (m.floor + 1) 0 m.segs = chainOk m.next (first + g.count) g.num (m.segs.drop (0 + 1)) by rw [HE.out, HD.out, HD2.out, chain_go HO.out.1 HO.out.2.1 HO.out.2.2 (by omega) (by omega)])
          have hw : IntKind.i64.wrap (first + g.count) = first + g.count := by rw [IntKind.wrap_i64]; omega
          have HQ := Lib.hid (show 1 ≤ first + g.count ∧ first + g.count ≤ 1099511627777 + 512 * ((0 + 1 : Nat) : Int) ∧ 1 ≤ g.num by have := t11; simp at this; omega)
          have HMA := Lib.hid (fun o n => (HM.out.below (below_alloc wr o)).below (below_drewN' _ n))
          have HGP := Lib.hid (show ∀ i, 0 + 1 = i + 1 → ∃ p, m.segs[i]? = some p ∧ p.num = g.num ∧ 1 ≤ g.num from fun i hi => ⟨g, by rw [show i = 0 by omega]; exact HSG.out, rfl, HQ.out.2.2⟩)
          clear f1 f2 f3 f4 HE HD HD2 HSG
          go_wp2_with (with_reducible refine wpList_load_sg rfl (.tmp 98) rfl b (off + 0 * 4) g rfl HCE.out ?_)
          go_quiet (fail)
          go_wp2
          go_roundw
          case rel => exact ⟨0 + 1, first + g.count, g.num, by omega, by go_num, rfl, HQ.out.1, HQ.out.2.1, by have := HQ.out.2.2; omega, fun h => by omega, HGP.out, HMA.out _ _, HR, HB2.out _ _⟩
          case measure => simp [intOf]; omega
      · obtain ⟨g, hg, _, _⟩ := nth m.segs (j + 1) hlt
        obtain ⟨b, off, rfl, hcell⟩ := HC.out (j + 1) g hg
        have q1 : (((j + 1) : Nat) : Int) < (m.segs.length : Int) := by omega
        have q1' : (j : Int) + 1 < (m.segs.length : Int) := by omega
        have q2' : (j : Int) < (m.segs.length : Int) := by omega
        have q4' : IntKind.i64.wrap (j : Int) = (j : Int) := by rw [IntKind.wrap_i64]; omega
        have HCE := Lib.hid (range_later hcell HB.out)
        have HD := Lib.hid (drop_cons hg)
        have HSG := Lib.hid hg
        have c1 := HM.out.c1
        have c5 := HM.out.c5
        have HBA := Lib.hid (Below.next (below_alloc wr (.cells (sgCs g) 46)) (below_drewN' _ 1))
        have c1' := (HM.out.below (below_alloc wr (.cells (sgCs g) 46))).c1
        have c5' := (HM.out.below (below_alloc wr (.cells (sgCs g) 46))).c5
        obtain ⟨p, hp, hpn, hp1⟩ := hprev j rfl
        obtain ⟨b', off', hbo, hcp⟩ := HC.out j p hp
        simp only [Option.some.injEq, Addr.mk.injEq, and_true] at hbo
        obtain ⟨rfl, rfl⟩ := hbo
        have cp : (wr.alloc (.cells (sgCs g) 46)).cell? ⟨b, off + j * 4, none⟩ = some (.int .i64 p.num) := cell_later (below_alloc wr _) (cell_later HB.out (hcp 0 _ rfl))
        clear hp hcp
        simp only [sgCs] at c1' c5' cp
        have HB2 := Lib.hid (fun o n => Below.next HB.out (Below.next (below_alloc wr o) (below_drewN' _ n)))
        clear hg hcell hprev
        have t13 : decide ((0 : Int) < (j : Int) + 1) = true := by rw [decide_eq_true_eq]; omega
        by_cases e1 : g.num < 1
        case pos =>
          have HR := Lib.hid (show chainOk m.next (m.floor + 1) 0 m.segs = false by rw [HE.out, HD.out, chain_b2 (show ¬ num < g.num by omega)])
          have t11 : decide (g.num < 1) = true := by simpa using e1
          clear e1 HE HD
          go_wp2_with (with_reducible refine wpList_load_sg rfl (.tmp 98) rfl b (off + (j + 1) * 4) g rfl HCE.out ?_)
          go_quiet (fail)
          go_wp2
          go_ret
          exact ⟨by rw [HR.out]; rfl, HB2.out _ _⟩
        have t11 : decide (g.num < 1) = false := by simpa using e1
        by_cases e2 : g.num < m.next
        case neg =>
          have HR := Lib.hid (show chainOk m.next (m.floor + 1) 0 m.segs = false by rw [HE.out, HD.out, chain_b3 e2])
          have t12 : decide (m.next ≤ g.num) = true := by simp; omega
          clear e1 e2 HE HD
          go_wp2_with (with_reducible refine wpList_load_sg rfl (.tmp 98) rfl b (off + (j + 1) * 4) g rfl HCE.out ?_)
          go_quiet (fail)
          go_wp2
          go_ret
          exact ⟨by rw [HR.out]; rfl, HB2.out _ _⟩
        have t12 : decide (m.next ≤ g.num) = false := by simp; omega
        by_cases e3 : num < g.num
        case neg =>
          have HR := Lib.hid (show chainOk m.next (m.floor + 1) 0 m.segs = false by rw [HE.out, HD.out, chain_b2 e3])
          have t14 : decide (g.num ≤ num) = true := by simp; omega
          clear e1 e2 e3 HE HD
          go_wp2_with (with_reducible refine wpList_load_sg rfl (.tmp 98) rfl b (off + (j + 1) * 4) g rfl HCE.out ?_)
          go_quiet (fail)
          go_wp2
          go_ret
          exact ⟨by rw [HR.out]; rfl, HB2.out _ _⟩
        have t14 : decide (g.num ≤ num) = false := by simp; omega
        rcases e4 : (g.first != first) with _ | _
        case true =>
          have HR := Lib.hid (show chainOk m.next (m.floor + 1) 0 m.segs = false by rw [HE.out, HD.out, chain_b1 e4])
          clear e1 e2 e3 HE HD
          go_wp2_with (with_reducible refine wpList_load_sg rfl (.tmp 98) rfl b (off + (j + 1) * 4) g rfl HCE.out ?_)
          go_quiet (fail)
          go_wp2
          go_ret
          exact ⟨by rw [HR.out]; rfl, HB2.out _ _⟩
        have e4' : g.first = first := by simpa using e4
        have HO := Lib.hid (show g.first = first ∧ num < g.num ∧ g.num < m.next from ⟨e4', e3, e2⟩)
        have hfd : decide (g.first ≤ 1099511627777) = decide (first ≤ 1099511627777) := by rw [e4']
        clear e1 e2 e3 e4'
        by_cases hlast : (j + 1) + 1 = m.segs.length
        · have HR := Lib.hid (show chainOk m.next (m.floor + 1) 0 m.segs = (decide (g.count = 0) && decide (g.foot = 0) && decide (first ≤ 1099511627777)) by
            rw [HE.out, HD.out, List.drop_of_length_le (by omega), chain_end HO.out.1 HO.out.2.1 HO.out.2.2])
          have t4 : (((j : Int) + 1) == (m.segs.length : Int) - 1) = true := by rw [beq_iff_eq]; omega
          clear HE HD hlast
          rcases u1 : (g.count == 0) with _ | _
          case false =>
            have HR2 := Lib.hid (show chainOk m.next (m.floor + 1) 0 m.segs = false by rw [HR.out]; simp at u1 ⊢; simp [u1])
            clear HR hfd
            go_wp2_with (with_reducible refine wpList_load_sg rfl (.tmp 98) rfl b (off + (j + 1) * 4) g rfl HCE.out ?_)
            go_quiet (fail)
            go_wp2
            go_ret
            exact ⟨by rw [HR2.out]; rfl, HB2.out _ _⟩
          rcases u2 : (g.foot == 0) with _ | _
          case false =>
            have HR2 := Lib.hid (show chainOk m.next (m.floor + 1) 0 m.segs = false by rw [HR.out]; simp at u2 ⊢; simp [u2])
            clear HR hfd
            go_wp2_with (with_reducible refine wpList_load_sg rfl (.tmp 98) rfl b (off + (j + 1) * 4) g rfl HCE.out ?_)
            go_quiet (fail)
            go_wp2
            go_ret
            exact ⟨by rw [HR2.out]; rfl, HB2.out _ _⟩
          have HR2 := Lib.hid (show chainOk m.next (m.floor + 1) 0 m.segs = decide (first ≤ 1099511627777) by rw [HR.out]; simp at u1 u2; simp [u1, u2])
          clear HR
          rcases u3 : decide (first ≤ 1099511627777)
          all_goals
            rw [u3] at HR2 hfd
            clear u3
            go_wp2_with (with_reducible refine wpList_load_sg rfl (.tmp 98) rfl b (off + (j + 1) * 4) g rfl HCE.out ?_)
            go_quiet (fail)
            go_wp2
            go_ret
            exact ⟨by rw [HR2.out]; rfl, HB2.out _ _⟩
        · obtain ⟨x, hx, _, _⟩ := nth m.segs ((j + 1) + 1) (by omega)
          have HD2 := Lib.hid (drop_cons hx)
          have t4 : (((j : Int) + 1) == (m.segs.length : Int) - 1) = false := by rw [beq_eq_false_iff_ne]; omega
          clear hx hfd
          by_cases f1 : g.count < 1
          case pos =>
            have HR := Lib.hid (show chainOk m.next (m.floor + 1) 0 m.segs = false by rw [HE.out, HD.out, HD2.out, chain_b4 (by omega)])
            have s1 : decide (g.count < 1) = true := by simpa using f1
            clear f1 HE HD HD2
            go_wp2_with (with_reducible refine wpList_load_sg rfl (.tmp 98) rfl b (off + (j + 1) * 4) g rfl HCE.out ?_)
            go_quiet (fail)
            go_wp2
            go_ret
            exact ⟨by rw [HR.out]; rfl, HB2.out _ _⟩
          have s1 : decide (g.count < 1) = false := by simpa using f1
          by_cases f2 : 512 < g.count
          case pos =>
            have HR := Lib.hid (show chainOk m.next (m.floor + 1) 0 m.segs = false by rw [HE.out, HD.out, HD2.out, chain_b4 (by omega)])
            have s2 : decide (512 < g.count) = true := by simpa using f2
            clear f1 f2 HE HD HD2
            go_wp2_with (with_reducible refine wpList_load_sg rfl (.tmp 98) rfl b (off + (j + 1) * 4) g rfl HCE.out ?_)
            go_quiet (fail)
            go_wp2
            go_ret
            exact ⟨by rw [HR.out]; rfl, HB2.out _ _⟩
          have s2 : decide (512 < g.count) = false := by simpa using f2
          by_cases f3 : g.foot < 1
          case pos =>
            have HR := Lib.hid (show chainOk m.next (m.floor + 1) 0 m.segs = false by rw [HE.out, HD.out, HD2.out, chain_b5 (by omega)])
            have s3 : decide (g.foot < 1) = true := by simpa using f3
            clear f1 f2 f3 HE HD HD2
            go_wp2_with (with_reducible refine wpList_load_sg rfl (.tmp 98) rfl b (off + (j + 1) * 4) g rfl HCE.out ?_)
            go_quiet (fail)
            go_wp2
            go_ret
            exact ⟨by rw [HR.out]; rfl, HB2.out _ _⟩
          have s3 : decide (g.foot < 1) = false := by simpa using f3
          by_cases f4 : 1099511627776 < g.foot
          case pos =>
            have HR := Lib.hid (show chainOk m.next (m.floor + 1) 0 m.segs = false by rw [HE.out, HD.out, HD2.out, chain_b5 (by omega)])
            have s4 : decide (1099511627776 < g.foot) = true := by simpa using f4
            clear f1 f2 f3 f4 HE HD HD2
            go_wp2_with (with_reducible refine wpList_load_sg rfl (.tmp 98) rfl b (off + (j + 1) * 4) g rfl HCE.out ?_)
            go_quiet (fail)
            go_wp2
            go_ret
            exact ⟨by rw [HR.out]; rfl, HB2.out _ _⟩
          have s4 : decide (1099511627776 < g.foot) = false := by simpa using f4
          have HR := Lib.hid (show chainOk m.next (m.floor + 1) 0 m.segs = chainOk m.next (first + g.count) g.num (m.segs.drop ((j + 1) + 1)) by rw [HE.out, HD.out, HD2.out, chain_go HO.out.1 HO.out.2.1 HO.out.2.2 (by omega) (by omega)])
          have hw : IntKind.i64.wrap (first + g.count) = first + g.count := by rw [IntKind.wrap_i64]; omega
          have HQ := Lib.hid (show 1 ≤ first + g.count ∧ first + g.count ≤ 1099511627777 + 512 * (((j + 1) + 1 : Nat) : Int) ∧ 1 ≤ g.num by have := t11; simp at this; omega)
          have HMA := Lib.hid (fun o n => (HM.out.below (below_alloc wr o)).below (below_drewN' _ n))
          have HGP := Lib.hid (show ∀ i, (j + 1) + 1 = i + 1 → ∃ p, m.segs[i]? = some p ∧ p.num = g.num ∧ 1 ≤ g.num from fun i hi => ⟨g, by rw [show i = (j + 1) by omega]; exact HSG.out, rfl, HQ.out.2.2⟩)
          clear f1 f2 f3 f4 HE HD HD2 HSG
          go_wp2_with (with_reducible refine wpList_load_sg rfl (.tmp 98) rfl b (off + (j + 1) * 4) g rfl HCE.out ?_)
          go_quiet (fail)
          go_wp2
          go_roundw
          case rel => exact ⟨(j + 1) + 1, first + g.count, g.num, by omega, by go_num, rfl, HQ.out.1, HQ.out.2.1, by have := HQ.out.2.2; omega, fun h => by omega, HGP.out, HMA.out _ _, HR, HB2.out _ _⟩
          case measure => simp [intOf]; omega
    · exact absurd hk hlt

end Go.Proofs.YtlobohpbgghleaaGreatDoor
