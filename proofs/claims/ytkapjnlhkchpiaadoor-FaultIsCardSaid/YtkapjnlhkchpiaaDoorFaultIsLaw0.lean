import Derived.Test.YtkapjnlhkchpiaaDoorErrIs
import Derived.Deep.RegionWith
namespace Go.Proofs.YtkapjnlhkchpiaaDoor
open Go.RowKit

theorem sent_same {w : World} {ads : List Addr} (hS : Sents w ads) {e f : Int} {i j : Nat} (hi : sIdx e = some i) (hj : sIdx f = some j) {a b : Addr} (ha : ads[i]? = some a) (hb : ads[j]? = some b) :
    decide (a = b) = (e == f) := by
  have h1 := (sIdx_lt e i hi).2
  have h2 := (sIdx_lt f j hj).2
  by_cases h : e = f
  · subst h
    rw [hi] at hj
    obtain rfl := Option.some.inj hj
    rw [ha] at hb
    simp [Option.some.inj hb]
  · have hab : a ≠ b := by
      rintro rfl
      apply h
      have hl := getElem?_lt ha
      have hl2 := getElem?_lt hb
      rw [List.getElem?_eq_getElem hl] at ha
      rw [List.getElem?_eq_getElem hl2] at hb
      have : i = j := (List.getElem_inj hS.nodup).1 ((Option.some.inj ha).trans (Option.some.inj hb).symm)
      subst this
      rw [h1] at h2
      exact Option.some.inj h2
    simp [hab, h]

set_option maxHeartbeats 2000000 in
theorem faultIs_known (v : Value) (ss : List (List UInt8)) (op : List UInt8) (p e f : Int) (i : Nat) (w : World) (ads : List Addr) (hS : Sents w ads) (hr : StrRow w v ss) (hi : sIdx e = some i) :
    Calls Tryd.prog 3 #[v, .string ⟨op.toArray⟩, .int .i64 p, .int .i64 e, .int .i64 f] w fun x w' => x = .returned (.bool true) ∧ Below w.heap.size w w' := by
  obtain ⟨oa, cap, rfl, hcap, hmax, -, hrow⟩ := hr
  unfold maxLen at hmax
  obtain ⟨t60, ht60, hv60, c60, ty60, hb60⟩ := sentV_some hS (e := 60) (i := 22) rfl
  obtain ⟨ae, hae, hve, ce, tye, hbe⟩ := sentV_some hS hi
  have HS := Lib.hid hS
  have HR := Lib.hid hrow
  have H60 := Lib.hid hb60
  have HE := Lib.hid hbe
  clear hS hrow hb60 hbe
  have hk : knownB e = true := by rw [knownB, hi]; rfl
  go_enter Tryd.func3, Tryd.ntmps3
  go_wp2_with fail
  refine (New_some [120] 1 60 22 _ ads HS.out rfl).mono ?_
  rintro x w1 ⟨v1, rfl, hc1, hb1⟩
  rw [hv60] at hc1
  have HC1 := Lib.hid hc1
  have HB1 := Lib.hid hb1
  clear hc1 hb1
  go_wp2_with fail
  refine (Sentinel_any 60 _ ads (HS.out.below HB1.out)).mono ?_
  rw [hv60]
  rintro x w' ⟨rfl, rfl⟩
  go_wp2_with fail
  refine (Is_chain t60 t60 true _ c60 c60 ty60 ty60 (by simp) (by rw [HB1.out.block _ (lt_of_block H60.out)]; exact H60.out) (by rw [HB1.out.block _ (lt_of_block H60.out)]; exact H60.out) v1 _ HC1.out).mono ?_
  rintro x w' ⟨rfl, rfl⟩
  go_wp2_with fail
  refine (Sentinel_any 60 _ ads (HS.out.below HB1.out)).mono ?_
  rw [hv60]
  rintro x w' ⟨rfl, rfl⟩
  go_wp2_with fail
  refine (New_some op p e i _ ads (HS.out.below HB1.out) hi).mono ?_
  rintro x w2 ⟨v2, rfl, hc2, hb2⟩
  rw [hve] at hc2
  obtain ⟨t2, x2, rfl⟩ := hc2.iface
  have HC2 := Lib.hid hc2
  have HB2 := Lib.hid (Below.next HB1.out hb2)
  clear hc2 hb2
  go_wp2
  go_region_with (go_at_call 11; refine (Known_any e _).mono ?_; rw [hk]; rintro x w3 ⟨rfl, hb3⟩)
  have HB3 := Lib.hid (Below.next HB2.out (Below.next ((Below.refl _ _).drew) hb3))
  have HC3 := Lib.hid (HC2.out.below (Below.next ((Below.refl _ _).drew) hb3))
  clear hb3
  go_wp2
  obtain ⟨wo, rfl⟩ : ∃ wo : World, wo = w3 := ⟨_, rfl⟩
  go_loopg [11, 12] ss.length (fun k ev iv wr => ∃ gs, iv = .int .i64 ((k : Int) - 1) ∧ k ≤ ss.length ∧ ErrChain wr (.iface 59 (.pointer (some ae))) ev gs ∧ Below w.heap.size w wr)
  case atStart => exact ⟨_, rfl, Nat.le_refl _, HC3.out, HB3.out⟩
  case round =>
    obtain ⟨gs, rfl, hk1, hch, hb⟩ := hrel
    have HB := Lib.hid hb
    have HCh := Lib.hid hch
    clear hb hch
    cases gk with
    | zero =>
      go_wp2_with fail
      refine (Known_any e _).mono ?_
      rw [hk]
      rintro x w4 ⟨rfl, hb4⟩
      have HB4 := Lib.hid (Below.next HB.out hb4)
      have HCh4 := Lib.hid (HCh.out.below hb4)
      clear hb4
      go_wp2_with fail
      refine (Sentinel_any f _ ads (HS.out.below HB4.out)).mono ?_
      cases hf : sIdx f with
      | none =>
        rw [sentV_none hf]
        rintro x w' ⟨rfl, rfl⟩
        clear hf
        go_wp2
        go_ret
        exact ⟨rfl, HB4.out⟩
      | some j =>
        obtain ⟨af, haf, hvf, cf, tyf, hbf⟩ := sentV_some HS.out hf
        have hef := Lib.hid (sent_same HS.out hi hf hae haf)
        rw [hvf]
        have HF := Lib.hid hbf
        clear hf haf hvf hbf
        rintro x w' ⟨rfl, rfl⟩
        go_wp2_with fail
        refine (Is_chain ae af (e == f) _ ce cf tye tyf hef.out.symm (by rw [HB4.out.block _ (lt_of_block HE.out)]; exact HE.out) (by rw [HB4.out.block _ (lt_of_block HF.out)]; exact HF.out) _ _ HCh4.out).mono ?_
        rintro x w' ⟨rfl, rfl⟩
        go_wp2
        go_ret
        exact ⟨by simp, HB4.out⟩
    | succ k =>
      obtain ⟨s, hs, -⟩ := nth ss k (by omega)
      obtain ⟨b, off, rfl, hc⟩ := HR.out (by rintro rfl; simp at hk1)
      have hcl := cell_later HB.out (hc k s hs)
      clear hs hc
      go_wp2_with fail
      refine (Wrap_some s _ _ _ _ _ HCh.out).mono ?_
      rintro x w4 ⟨v4, rfl, hc4, hb4⟩
      have HC4 := Lib.hid hc4
      have HB4 := Lib.hid hb4
      clear hc4 hb4
      go_wp2
      go_roundg k
      case measure => omega
      case rel => exact ⟨_, by go_num, by omega, HC4.out, Below.next HB.out HB4.out⟩

set_option maxHeartbeats 2000000 in
theorem faultIs_unknown (v : Value) (ss : List (List UInt8)) (op : List UInt8) (p e f : Int) (w : World) (ads : List Addr) (hS : Sents w ads) (hr : StrRow w v ss) (hi : sIdx e = none) :
    Calls Tryd.prog 3 #[v, .string ⟨op.toArray⟩, .int .i64 p, .int .i64 e, .int .i64 f] w fun x w' => x = .returned (.bool true) ∧ Below w.heap.size w w' := by
  obtain ⟨oa, cap, rfl, hcap, hmax, -, hrow⟩ := hr
  unfold maxLen at hmax
  obtain ⟨t60, ht60, hv60, c60, ty60, hb60⟩ := sentV_some hS (e := 60) (i := 22) rfl
  have HS := Lib.hid hS
  have HR := Lib.hid hrow
  have H60 := Lib.hid hb60
  clear hS hrow hb60
  have hk : knownB e = false := by rw [knownB, hi]; rfl
  go_enter Tryd.func3, Tryd.ntmps3
  go_wp2_with fail
  refine (New_some [120] 1 60 22 _ ads HS.out rfl).mono ?_
  rintro x w1 ⟨v1, rfl, hc1, hb1⟩
  rw [hv60] at hc1
  have HC1 := Lib.hid hc1
  have HB1 := Lib.hid hb1
  clear hc1 hb1
  go_wp2_with fail
  refine (Sentinel_any 60 _ ads (HS.out.below HB1.out)).mono ?_
  rw [hv60]
  rintro x w' ⟨rfl, rfl⟩
  go_wp2_with fail
  refine (Is_chain t60 t60 true _ c60 c60 ty60 ty60 (by simp) (by rw [HB1.out.block _ (lt_of_block H60.out)]; exact H60.out) (by rw [HB1.out.block _ (lt_of_block H60.out)]; exact H60.out) v1 _ HC1.out).mono ?_
  rintro x w' ⟨rfl, rfl⟩
  go_wp2_with fail
  refine (Sentinel_any 60 _ ads (HS.out.below HB1.out)).mono ?_
  rw [hv60]
  rintro x w' ⟨rfl, rfl⟩
  go_wp2_with fail
  refine (New_none op p e _ ads (HS.out.below HB1.out) hi).mono ?_
  rintro x w' ⟨rfl, rfl⟩
  clear hi
  go_wp2
  go_region_with (go_at_call 11; refine (Known_any e _).mono ?_; rw [hk]; rintro x w3 ⟨rfl, hb3⟩)
  have HB3 := Lib.hid (Below.next HB1.out (Below.next ((Below.refl _ _).drew) hb3))
  clear hb3
  go_wp2
  obtain ⟨wo, rfl⟩ : ∃ wo : World, wo = w3 := ⟨_, rfl⟩
  go_loopg [11, 12] ss.length (fun k ev iv wr => ev = .nilIface ∧ iv = .int .i64 ((k : Int) - 1) ∧ k ≤ ss.length ∧ Below w.heap.size w wr)
  case atStart => exact ⟨rfl, rfl, Nat.le_refl _, HB3.out⟩
  case round =>
    obtain ⟨rfl, rfl, hk1, hb⟩ := hrel
    have HB := Lib.hid hb
    clear hb
    cases gk with
    | zero =>
      go_wp2_with fail
      refine (Known_any e _).mono ?_
      rw [hk]
      rintro x w4 ⟨rfl, hb4⟩
      have HB4 := Lib.hid (Below.next HB.out hb4)
      clear hb4
      go_wp2
      go_ret
      exact ⟨rfl, HB4.out⟩
    | succ k =>
      obtain ⟨s, hs, -⟩ := nth ss k (by omega)
      obtain ⟨b, off, rfl, hc⟩ := HR.out (by rintro rfl; simp at hk1)
      have hcl := cell_later HB.out (hc k s hs)
      clear hs hc
      go_wp2_with fail
      refine (Wrap_nil s _).mono ?_
      rintro x w' ⟨rfl, rfl⟩
      go_wp2
      go_roundg k
      case measure => omega
      case rel => exact ⟨rfl, by go_num, by omega, HB.out⟩

theorem faultIs_walk (v : Value) (ss : List (List UInt8)) (op : List UInt8) (p e f : Int) (w : World) (hr : StrRow w v ss) (_ : op.length ≤ reachBytes) (_ : (Lit.int .i64 p).wf = true) (_ : (Lit.int .i64 e).wf = true) (_ : (Lit.int .i64 f).wf = true) (hL : laidMetH Tryd.prog Rows.faultIsRow.laid w) :
    Calls Tryd.prog 3 #[v, .string ⟨op.toArray⟩, .int .i64 p, .int .i64 e, .int .i64 f] w fun x w' => x = .returned (.bool true) ∧ Below w.heap.size w w' := by
  obtain ⟨ads, hS⟩ := sents_of_met (l := Rows.faultIsRow.laid) hL (by kernel_rfl) sntTypes (by kernel_rfl)
  cases hi : sIdx e with
  | none => exact faultIs_unknown v ss op p e f w ads hS hr hi
  | some i => exact faultIs_known v ss op p e f i w ads hS hr hi

end Go.Proofs.YtkapjnlhkchpiaaDoor
