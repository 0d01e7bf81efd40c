import Derived.Test.YtkapjnlhkchpiaaDoorFaultCode
namespace Go.Proofs.YtkapjnlhkchpiaaDoor
open Go.RowKit

theorem codeOf_new {w : World} {ads : List Addr} (hS : Sents w ads) : CodeOf ads ⟨w.heap.size, 0, none⟩ 1 := by
  refine .inr ⟨fun i hi => ?_, rfl⟩
  have hl := getElem?_lt hi
  rw [hS.len] at hl
  obtain ⟨g, hg, -⟩ := nth sntG i hl
  obtain ⟨t, ht, -⟩ := nth sntT i hl
  obtain ⟨_, _, c, t', hb⟩ := hS.all i g t _ hg ht hi
  have := lt_of_block hb
  simp at this

set_option maxHeartbeats 2000000 in
theorem faultCodes_known (v : Value) (ss : List (List UInt8)) (op own : List UInt8) (p e : Int) (i : Nat) (w : World) (ads : List Addr) (hS : Sents w ads) (hr : StrRow w v ss) (hi : sIdx e = some i) :
    Calls Tryd.prog 7 #[v, .string ⟨op.toArray⟩, .string ⟨own.toArray⟩, .int .i64 p, .int .i64 e] w fun x w' => x = .returned (.bool true) ∧ Below w.heap.size w w' := by
  obtain ⟨oa, cap, rfl, hcap, hmax, -, hrow⟩ := hr
  unfold maxLen at hmax
  obtain ⟨ae, hae, hve, ce, tye, hbe⟩ := sentV_some hS hi
  have HS := Lib.hid hS
  have HR := Lib.hid hrow
  have HE := Lib.hid hbe
  have hcode : Hid (CodeOf ads ae e) := Lib.hid (.inl ⟨i, hi, hae⟩)
  have HI := Lib.hid hi
  clear hS hrow hbe hae hi
  have hk : knownB e = true := by rw [knownB, HI.out]; rfl
  go_enter Tryd.func7, Tryd.ntmps7
  go_wp2_with fail
  refine (head01_any _ ads HS.out).mono ?_
  rintro x w' ⟨rfl, rfl⟩
  go_wp2_with fail
  refine (Code_nil _).mono ?_
  rintro x w' ⟨rfl, rfl⟩
  go_wp2_with fail
  refine (errNew_any own _).mono ?_
  rintro x w1 ⟨rfl, hw1⟩
  have HB1 : Hid (Below w.heap.size w w1) := Lib.hid (by rw [hw1]; exact (Below.refl _ _).alloc (Nat.le_refl _) _)
  have hblk : Hid (w1.heap[w.heap.size]? = some (.cells #[.string ⟨own.toArray⟩] 61 (0, 0))) := Lib.hid (by rw [hw1]; exact heap_alloc_new w _)
  clear hw1
  go_wp2_with fail
  refine (Code_chain ⟨w.heap.size, 0, none⟩ 1 _ ads (HS.out.below HB1.out) (codeOf_new HS.out) _ _ hblk.out _ [] rfl).mono ?_
  rintro x w' ⟨rfl, rfl⟩
  go_wp2_with fail
  refine (New_some op p e i _ ads (HS.out.below HB1.out) HI.out).mono ?_
  rintro x w2 ⟨v2, rfl, hc2, hb2⟩
  rw [hve] at hc2
  have HC2 := Lib.hid hc2
  have HB2 := Lib.hid (Below.next HB1.out hb2)
  clear hc2 hb2
  go_wp2
  obtain ⟨wo, rfl⟩ : ∃ wo : World, wo = w2 := ⟨_, rfl⟩
  go_loopg [11, 12] ss.length (fun k ev iv wr => ∃ gs, iv = .int .i64 ((k : Int) - 1) ∧ k ≤ ss.length ∧ ErrChain wr (.iface 59 (.pointer (some ae))) ev gs ∧ Below w.heap.size w wr)
  case atStart => exact ⟨_, rfl, Nat.le_refl _, HC2.out, HB2.out⟩
  case round =>
    obtain ⟨gs, rfl, hk1, hch, hb⟩ := hrel
    have HB := Lib.hid hb
    have HCh := Lib.hid hch
    clear hb hch
    cases gk with
    | zero =>
      go_wp2_with fail
      refine (Known_any e _).mono ?_
      rw [hk]
      rintro x w4 ⟨rfl, hb4⟩
      have HB4 := Lib.hid (Below.next HB.out hb4)
      have HCh4 := Lib.hid (HCh.out.below hb4)
      clear hb4
      go_wp2_with fail
      refine (Code_chain ae e _ ads (HS.out.below HB4.out) hcode.out _ _ (by rw [HB4.out.block _ (lt_of_block HE.out)]; exact HE.out) _ _ HCh4.out).mono ?_
      rintro x w' ⟨rfl, rfl⟩
      go_wp2_with fail
      refine (Sentinel_any e _ ads (HS.out.below HB4.out)).mono ?_
      rw [hve]
      rintro x w' ⟨rfl, rfl⟩
      go_wp2_with fail
      refine (Code_chain ae e _ ads (HS.out.below HB4.out) hcode.out _ _ (by rw [HB4.out.block _ (lt_of_block HE.out)]; exact HE.out) _ [] rfl).mono ?_
      rintro x w' ⟨rfl, rfl⟩
      go_wp2
      go_ret
      exact ⟨by simp, HB4.out⟩
    | succ k =>
      obtain ⟨s, hs, -⟩ := nth ss k (by omega)
      obtain ⟨b, off, rfl, hc⟩ := HR.out (by rintro rfl; simp at hk1)
      have hcl := cell_later HB.out (hc k s hs)
      clear hs hc
      go_wp2_with fail
      refine (Wrap_some s _ _ _ _ _ HCh.out).mono ?_
      rintro x w4 ⟨v4, rfl, hc4, hb4⟩
      have HC4 := Lib.hid hc4
      have HB4 := Lib.hid hb4
      clear hc4 hb4
      go_wp2
      go_roundg k
      case measure => omega
      case rel => exact ⟨_, by go_num, by omega, HC4.out, Below.next HB.out HB4.out⟩

set_option maxHeartbeats 2000000 in
theorem faultCodes_unknown (v : Value) (ss : List (List UInt8)) (op own : List UInt8) (p e : Int) (w : World) (ads : List Addr) (hS : Sents w ads) (hr : StrRow w v ss) (hi : sIdx e = none) :
    Calls Tryd.prog 7 #[v, .string ⟨op.toArray⟩, .string ⟨own.toArray⟩, .int .i64 p, .int .i64 e] w fun x w' => x = .returned (.bool true) ∧ Below w.heap.size w w' := by
  obtain ⟨oa, cap, rfl, hcap, hmax, -, hrow⟩ := hr
  unfold maxLen at hmax
  have hve := sentV_none (ads := ads) hi
  have HS := Lib.hid hS
  have HR := Lib.hid hrow
  have HI := Lib.hid hi
  clear hS hrow hi
  have hk : knownB e = false := by rw [knownB, HI.out]; rfl
  go_enter Tryd.func7, Tryd.ntmps7
  go_wp2_with fail
  refine (head01_any _ ads HS.out).mono ?_
  rintro x w' ⟨rfl, rfl⟩
  go_wp2_with fail
  refine (Code_nil _).mono ?_
  rintro x w' ⟨rfl, rfl⟩
  go_wp2_with fail
  refine (errNew_any own _).mono ?_
  rintro x w1 ⟨rfl, hw1⟩
  have HB1 : Hid (Below w.heap.size w w1) := Lib.hid (by rw [hw1]; exact (Below.refl _ _).alloc (Nat.le_refl _) _)
  have hblk : Hid (w1.heap[w.heap.size]? = some (.cells #[.string ⟨own.toArray⟩] 61 (0, 0))) := Lib.hid (by rw [hw1]; exact heap_alloc_new w _)
  clear hw1
  go_wp2_with fail
  refine (Code_chain ⟨w.heap.size, 0, none⟩ 1 _ ads (HS.out.below HB1.out) (codeOf_new HS.out) _ _ hblk.out _ [] rfl).mono ?_
  rintro x w' ⟨rfl, rfl⟩
  go_wp2_with fail
  refine (New_none op p e _ ads (HS.out.below HB1.out) HI.out).mono ?_
  rintro x w' ⟨rfl, rfl⟩
  go_wp2
  obtain ⟨wo, rfl⟩ : ∃ wo : World, wo = w1 := ⟨_, rfl⟩
  go_loopg [11, 12] ss.length (fun k ev iv wr => ev = .nilIface ∧ iv = .int .i64 ((k : Int) - 1) ∧ k ≤ ss.length ∧ Below w.heap.size w wr)
  case atStart => exact ⟨rfl, rfl, Nat.le_refl _, HB1.out⟩
  case round =>
    obtain ⟨rfl, rfl, hk1, hb⟩ := hrel
    have HB := Lib.hid hb
    clear hb
    cases gk with
    | zero =>
      go_wp2_with fail
      refine (Known_any e _).mono ?_
      rw [hk]
      rintro x w4 ⟨rfl, hb4⟩
      have HB4 := Lib.hid (Below.next HB.out hb4)
      clear hb4
      go_wp2_with fail
      refine (Code_nil _).mono ?_
      rintro x w' ⟨rfl, rfl⟩
      go_wp2_with fail
      refine (Sentinel_any e _ ads (HS.out.below HB4.out)).mono ?_
      rw [hve]
      rintro x w' ⟨rfl, rfl⟩
      go_wp2_with fail
      refine (Code_nil _).mono ?_
      rintro x w' ⟨rfl, rfl⟩
      go_wp2
      go_ret
      exact ⟨rfl, HB4.out⟩
    | succ k =>
      obtain ⟨s, hs, -⟩ := nth ss k (by omega)
      obtain ⟨b, off, rfl, hc⟩ := HR.out (by rintro rfl; simp at hk1)
      have hcl := cell_later HB.out (hc k s hs)
      clear hs hc
      go_wp2_with fail
      refine (Wrap_nil s _).mono ?_
      rintro x w' ⟨rfl, rfl⟩
      go_wp2
      go_roundg k
      case measure => omega
      case rel => exact ⟨rfl, by go_num, by omega, HB.out⟩

theorem faultCodes_walk (v : Value) (ss : List (List UInt8)) (op own : List UInt8) (p e : Int) (w : World) (hr : StrRow w v ss) (_ : op.length ≤ reachBytes) (_ : own.length ≤ reachBytes) (_ : (Lit.int .i64 p).wf = true) (_ : (Lit.int .i64 e).wf = true) (hL : laidMetH Tryd.prog Rows.faultCodesRow.laid w) :
    Calls Tryd.prog 7 #[v, .string ⟨op.toArray⟩, .string ⟨own.toArray⟩, .int .i64 p, .int .i64 e] w fun x w' => x = .returned (.bool true) ∧ Below w.heap.size w w' := by
  obtain ⟨ads, hS⟩ := sents_of_met (l := Rows.faultCodesRow.laid) hL (by kernel_rfl) sntTypes (by kernel_rfl)
  cases hi : sIdx e with
  | none => exact faultCodes_unknown v ss op own p e w ads hS hr hi
  | some i => exact faultCodes_known v ss op own p e i w ads hS hr hi

end Go.Proofs.YtkapjnlhkchpiaaDoor
