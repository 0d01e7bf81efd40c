import Derived.Test.YtkapjnlhkchpiaaDoorFaultPath2
import Derived.Test.YtkapjnlhkchpiaaDoorOpenBy
import Derived.Deep.RegionWith
import GoSem.ClaimJoined
namespace Go.Proofs.YtkapjnlhkchpiaaDoor
open Go.RowKit

set_option maxRecDepth 100000 in
theorem open_sl_string {H : Type} {enc : TypeId × Value → H} {W : World} {base : Nat} {v : Value} {d : DataW H} {p : List MemPlace}
    (hok : Value.okWide Tryd.prog W .any base 22 v) (h : DataW.Trod enc Tryd.prog W 0 (fun _ => true) true 22 v d p) (hz : (d.weights Tryd.prog 22).all (· ≤ reachBytes) = true) :
    ∃ xs, Row 1 16 RStr W v xs :=
  open_slice_by (opens_slice Tryd.underlying22 (by kernel_rfl) (by kernel_rfl) (by decide) (opens_str Tryd.underlying9)) Tryd.underlying22 hok h hz

theorem strrow_of_row {w : World} {v : Value} {ss : List (List UInt8)} (h : Row 1 16 RStr w v ss) : StrRow w v ss ∧ ss.length * 16 ≤ reachBytes ∧ ∀ s ∈ ss, s.length ≤ reachBytes := by
  obtain ⟨oa, cap, h1, h2, h3, h4, h5⟩ := h
  have hs : ∀ s ∈ ss, s.length ≤ reachBytes := fun s hs => by
    obtain ⟨b, off, _, hc⟩ := h5 (List.ne_nil_of_mem hs)
    obtain ⟨i, hi, rfl⟩ := List.mem_iff_getElem.1 hs
    obtain ⟨cs, _, _, _, hl⟩ := hc i _ (List.getElem?_eq_getElem hi)
    exact hl
  refine ⟨⟨oa, cap, h1, h2, h3, fun s hm => Nat.le_trans (hs s hm) (by decide), fun hn => ?_⟩, by have := h2; omega, hs⟩
  obtain ⟨b, off, e, hc⟩ := h5 hn
  refine ⟨b, off, e, fun i s hi => ?_⟩
  obtain ⟨cs, hl, hcell, rfl, _⟩ := hc i s hi
  simpa using hcell 0 _ rfl

theorem rowError : ((List.range Tryd.prog.types.size).all fun t => !Tryd.prog.rowNamed t [101, 114, 114, 111, 114] || t == 25) = true := by kernel_rfl
theorem handleError : typeHandle Tryd.prog 25 = .pointer (some ⟨46, 25, none⟩) := by kernel_rfl

theorem etype_of_met {W : World} (h : handlesMet Tryd.prog [("errors.errorType", Rows.laid_errors_errorType)] W) : EType W := by
  have h := h _ (List.mem_singleton.2 rfl)
  have hf : (Rows.laid_errors_errorType : DataW Unit).funcsIn? = none := by kernel_rfl
  simp only [hf] at h
  obtain ⟨name, u, ty, h1, h2, h3, h4, h5⟩ := h
  have hn : (Rows.laid_errors_errorType : DataW Unit).handleName? = some [101, 114, 114, 111, 114] := by kernel_rfl
  obtain rfl := Option.some.inj (hn.symm.trans h1)
  have hu : (Tryd.prog.cutTypes.find? (·.1 == "internal/reflectlite.rtype")).map (·.2) = some 63 := by kernel_rfl
  obtain rfl := Option.some.inj (hu.symm.trans h2)
  have ht := List.all_eq_true.1 rowError ty (List.mem_range.2 h3)
  rw [h4] at ht
  obtain rfl : ty = 25 := by simpa using ht
  rw [handleError] at h5
  have hg : Tryd.prog.globalNamed "errors.errorType" = some 42 := by kernel_rfl
  have := World.var?_cell hg h5 0
  simpa [EType] using this

/-- what a chain of faults tells, from the outside to the inside -/
def chainOf (ss : List (List UInt8)) (op : List UInt8) (p : Int) : List (List UInt8 × Int) := ss.map (fun s => (s, -1)) ++ [(op, p)]
theorem chainOf_ops (ss : List (List UInt8)) (op : List UInt8) (p : Int) : (chainOf ss op p).map (·.1) = ss ++ [op] := by simp [chainOf, Function.comp_def]
theorem chainOf_len (ss : List (List UInt8)) (op : List UInt8) (p : Int) : (chainOf ss op p).length = ss.length + 1 := by simp [chainOf]

set_option maxHeartbeats 2000000 in
theorem faultPaths_known (v : Value) (ss : List (List UInt8)) (op : List UInt8) (p e : Int) (i : Nat) (w : World) (ads : List Addr) (hS : Sents w ads) (hE : EType w) (hr : StrRow w v ss) (hz : ss.length * 16 ≤ reachBytes) (hzs : ∀ s ∈ ss ++ [op], s.length ≤ reachBytes) (hi : sIdx e = some i) :
    Calls Tryd.prog 4 #[v, .string ⟨op.toArray⟩, .int .i64 p, .int .i64 e] w fun x w' => x = .returned (.bool true) ∧ Below w.heap.size w w' := by
  obtain ⟨oa, cap, rfl, hcap, hmax, -, hrow⟩ := hr
  unfold maxLen at hmax
  unfold reachBytes at hz hzs
  obtain ⟨t60, ht60, hv60, c60, ty60, hb60⟩ := sentV_some hS (e := 60) (i := 22) rfl
  obtain ⟨ae, hae, hve, ce, tye, hbe⟩ := sentV_some hS hi
  have HS := Lib.hid hS
  have HE := Lib.hid hE
  have HR := Lib.hid hrow
  have HZ := Lib.hid hzs
  have HI := Lib.hid hi
  have hk : knownB e = true := by rw [knownB, hi]; rfl
  clear hS hE hrow hb60 hbe hzs hi
  go_enter Tryd.func4, Tryd.ntmps4
  go_wp2_with fail
  refine (New_some [121] 1 60 22 _ ads HS.out rfl).mono ?_
  rintro x w1 ⟨v1, rfl, hc1, hb1⟩
  rw [hv60] at hc1
  have HC1 := Lib.hid hc1
  have HB1 := Lib.hid hb1
  clear hc1 hb1
  go_wp2_with fail
  refine (Path_chain t60 _ v1 _ HC1.out (EType.below HE.out HB1.out) (by decide)).mono ?_
  rintro x w2 ⟨r1, rfl, hown1, hb2⟩
  obtain ⟨g1, cp1, rfl, -, -, hcp1, hcp1', hcell1⟩ := own_get hown1 (by decide)
  have c1 : w2.cell? ⟨g1, 0, none⟩ = some (.string ⟨[121].toArray⟩) := hcell1 0 _ rfl
  unfold maxLen at hcp1'
  simp only [List.length_cons, List.length_nil] at hcp1
  have HB2 := Lib.hid (Below.next HB1.out hb2)
  clear hb2 hown1 hcell1
  go_wp2_with fail
  refine (New_some op p e i _ ads (HS.out.below HB2.out) HI.out).mono ?_
  rintro x w3 ⟨v2, rfl, hc2, hb3⟩
  rw [hve] at hc2
  obtain ⟨t2, x2, rfl⟩ := hc2.iface
  have HC2 := Lib.hid hc2
  have HB3 := Lib.hid (Below.next HB2.out hb3)
  clear hc2 hb3 c1
  go_wp2
  obtain ⟨wo, rfl⟩ : ∃ wo : World, wo = w3 := ⟨_, rfl⟩
  go_loopg [10, 11] ss.length (fun k ev iv wr => iv = .int .i64 ((k : Int) - 1) ∧ k ≤ ss.length ∧ ErrChain wr (.iface 59 (.pointer (some ae))) ev (chainOf (ss.drop k) op p) ∧ Below w.heap.size w wr)
  case atStart => exact ⟨rfl, Nat.le_refl _, by simpa [chainOf] using HC2.out, HB3.out⟩
  case round =>
    obtain ⟨rfl, hk1, hch, hb⟩ := hrel
    have HB := Lib.hid hb
    have HCh := Lib.hid hch
    clear hb hch
    cases gk with
    | zero =>
      rw [List.drop_zero] at HCh
      obtain ⟨wa, rfl⟩ : ∃ wa : World, wa = wr := ⟨_, rfl⟩
      go_wp2_with fail
      refine (Path_chain ae _ _ _ HCh.out (EType.below HE.out HB.out) (by rw [chainOf_len]; omega)).mono ?_
      rintro x w4 ⟨r, rfl, hown, hb4⟩
      rw [chainOf_len, chainOf_ops] at hown
      obtain ⟨g, cp, rfl, hg1, hg2, hcp, hcp', hcell⟩ := own_get hown (by omega)
      unfold maxLen at hcp'
      have clast : w4.cell? ⟨g, ss.length, none⟩ = some (.string ⟨op.toArray⟩) := hcell _ _ (strs_get (by simp))
      have HOwn := Lib.hid hown
      have HB4 := Lib.hid hb4
      clear hown hb4 hcell
      go_wp2_with fail
      refine (Known_any e _).mono ?_
      rw [hk]
      rintro x w5 ⟨rfl, hb5⟩
      have cl5 := cell_later hb5 clast
      have HB5 : Hid (Below wa.heap.size wa w5) := Lib.hid (Below.next HB4.out hb5)
      have HO5 := Lib.hid (own_later HOwn.out hb5)
      clear hb5 clast
      go_wp2
      clear cl5
      obtain ⟨wo5, rfl⟩ : ∃ wo : World, wo = w5 := ⟨_, rfl⟩
      go_loopg [69] ss.length (fun k iv wx => ∃ j : Nat, j + k = ss.length ∧ iv = .int .i64 j ∧ Below wo5.heap.size wo5 wx)
      case atStart => exact ⟨0, by omega, rfl, Below.refl _ _⟩
      case round =>
        obtain ⟨j, hjk, rfl, hbx⟩ := hrel
        have HX := Lib.hid hbx
        clear hbx
        cases gk with
        | zero =>
          obtain rfl : j = ss.length := by omega
          clear hjk
          go_wp2
          obtain ⟨wo6, rfl⟩ : ∃ wo : World, wo = wr := ⟨_, rfl⟩
          go_loopg [84] (ss.length + 1) (fun k iv wy => ∃ (j : Nat) (xs' : List Value), j + k = ss.length + 1 ∧ iv = .int .i64 j ∧ wy.ownsRow wa.heap.size 9 1 (.slice (some ⟨g, 0, none⟩) (ss.length + 1) cp) (ss.length + 1) xs' ∧ (∀ i, j ≤ i → xs'[i]? = (strs (ss ++ [op]))[i]?) ∧ Below wa.heap.size wa wy)
          case atStart => exact ⟨0, _, by omega, rfl, own_later HO5.out HX.out, fun _ _ => rfl, Below.next HB5.out HX.out⟩
          case round =>
            obtain ⟨j, xs', hjk, rfl, hown6, hxs, hby⟩ := hrel
            have HO6 := Lib.hid hown6
            have HXS := Lib.hid hxs
            have HY := Lib.hid hby
            clear hown6 hxs hby
            cases gk with
            | zero =>
              obtain rfl : j = ss.length + 1 := by omega
              clear hjk
              go_wp2_with fail
              refine (Path_chain ae _ _ _ (HCh.out.below HY.out) (EType.below HE.out (Below.next HB.out HY.out)) (by rw [chainOf_len]; omega)).mono ?_
              rintro x w7 ⟨r7, rfl, hown7, hb7⟩
              rw [chainOf_len, chainOf_ops] at hown7
              obtain ⟨g7, cp7, rfl, -, -, hcp7, hcp7', hcell7⟩ := own_get hown7 (by omega)
              unfold maxLen at hcp7'
              have c7 : w7.cell? ⟨g7, ss.length, none⟩ = some (.string ⟨op.toArray⟩) := hcell7 _ _ (strs_get (by simp))
              have HB7 := Lib.hid (Below.next HB.out (Below.next HY.out hb7))
              clear hb7 hown7 hcell7
              go_wp2_with fail
              refine (Sentinel_any e _ ads (HS.out.below HB7.out)).mono ?_
              rw [hve]
              rintro x w' ⟨rfl, rfl⟩
              go_wp2_with fail
              refine (Path_chain ae _ _ [] rfl (EType.below HE.out HB7.out) (by simp)).mono ?_
              rintro x w8 ⟨r8, rfl, hown8, hb8⟩
              obtain ⟨oa8, cp8, rfl, -, -⟩ := own_shape hown8
              have HB8 := Lib.hid (Below.next HB7.out hb8)
              clear hown8 hb8
              go_wp2
              go_ret
              exact ⟨by simp, HB8.out⟩
            | succ k =>
              obtain ⟨s, hs, -, hsm⟩ := nth (ss ++ [op]) j (by simp; omega)
              have hsl := HZ.out s hsm
              have cb := HO6.out.cellAt j (by omega)
              rw [HXS.out j (Nat.le_refl _), strs_get hs] at cb
              have fr := HO6.out.frozenAt j
              have e1 := str_plus s [35] _ rfl (by simp; omega)
              clear hs hsm
              go_wp2
              go_roundg k
              case measure => omega
              case rel => exact ⟨j + 1, xs'.set j (.string ⟨(s ++ [35]).toArray⟩), by omega, by go_num, (HO6.out.stored j _).1, fun i hi => by rw [List.getElem?_set_ne (by omega)]; exact HXS.out i (by omega), HY.out.setCell (p := ⟨g, j, none⟩) hg1 _⟩
        | succ k =>
          obtain ⟨s, hs, -⟩ := nth ss j (by omega)
          obtain ⟨b, off, rfl, hc⟩ := HR.out (by rintro rfl; simp at hjk)
          have ca := cell_later (Below.next HB.out (Below.next HB5.out HX.out)) (hc j s hs)
          have cb := (own_later HO5.out HX.out).cellAt j (by omega)
          rw [strs_get (s := s) (by rw [List.getElem?_append_left (by omega)]; exact hs)] at cb
          clear hs hc
          go_wp2
          go_region
          go_wp2
          go_roundg k
          case measure => omega
          case rel => exact ⟨j + 1, by omega, by go_num, Below.next HX.out ((Below.refl _ _).drew)⟩
    | succ k =>
      obtain ⟨s, hs, -⟩ := nth ss k (by omega)
      have hdrop := Lib.hid (List.drop_eq_getElem_cons (i := k) (l := ss) (by omega))
      have hsk := Lib.hid hs
      obtain ⟨b, off, rfl, hc⟩ := HR.out (by rintro rfl; simp at hk1)
      have hcl := cell_later HB.out (hc k s hs)
      clear hs hc
      go_wp2_with fail
      refine (Wrap_some s _ _ _ _ _ HCh.out).mono ?_
      rintro x w4 ⟨v4, rfl, hc4, hb4⟩
      have HC4 := Lib.hid hc4
      have HB4 := Lib.hid hb4
      clear hc4 hb4
      go_wp2
      go_roundg k
      case measure => omega
      case rel =>
        refine ⟨by go_num, by omega, ?_, Below.next HB.out HB4.out⟩
        have h1 := hdrop.out
        have h2 := hsk.out
        rw [List.getElem?_eq_getElem (by omega)] at h2
        rw [Option.some.inj h2] at h1
        rw [h1]
        exact HC4.out

set_option maxHeartbeats 2000000 in
theorem faultPaths_unknown (v : Value) (ss : List (List UInt8)) (op : List UInt8) (p e : Int) (w : World) (ads : List Addr) (hS : Sents w ads) (hE : EType w) (hr : StrRow w v ss) (hi : sIdx e = none) :
    Calls Tryd.prog 4 #[v, .string ⟨op.toArray⟩, .int .i64 p, .int .i64 e] w fun x w' => x = .returned (.bool true) ∧ Below w.heap.size w w' := by
  obtain ⟨oa, cap, rfl, hcap, hmax, -, hrow⟩ := hr
  unfold maxLen at hmax
  obtain ⟨t60, ht60, hv60, c60, ty60, hb60⟩ := sentV_some hS (e := 60) (i := 22) rfl
  have HS := Lib.hid hS
  have HE := Lib.hid hE
  have HR := Lib.hid hrow
  have HI := Lib.hid hi
  have hk : knownB e = false := by rw [knownB, hi]; rfl
  clear hS hE hrow hb60 hi
  go_enter Tryd.func4, Tryd.ntmps4
  go_wp2_with fail
  refine (New_some [121] 1 60 22 _ ads HS.out rfl).mono ?_
  rintro x w1 ⟨v1, rfl, hc1, hb1⟩
  rw [hv60] at hc1
  have HC1 := Lib.hid hc1
  have HB1 := Lib.hid hb1
  clear hc1 hb1
  go_wp2_with fail
  refine (Path_chain t60 _ v1 _ HC1.out (EType.below HE.out HB1.out) (by decide)).mono ?_
  rintro x w2 ⟨r1, rfl, hown1, hb2⟩
  obtain ⟨g1, cp1, rfl, -, -, hcp1, hcp1', hcell1⟩ := own_get hown1 (by decide)
  have c1 : w2.cell? ⟨g1, 0, none⟩ = some (.string ⟨[121].toArray⟩) := hcell1 0 _ rfl
  unfold maxLen at hcp1'
  simp only [List.length_cons, List.length_nil] at hcp1
  have HB2 := Lib.hid (Below.next HB1.out hb2)
  clear hb2 hown1 hcell1
  go_wp2_with fail
  refine (New_none op p e _ ads (HS.out.below HB2.out) HI.out).mono ?_
  rintro x w' ⟨rfl, rfl⟩
  clear c1
  go_wp2
  obtain ⟨wo, rfl⟩ : ∃ wo : World, wo = w2 := ⟨_, rfl⟩
  go_loopg [10, 11] ss.length (fun k ev iv wr => ev = .nilIface ∧ iv = .int .i64 ((k : Int) - 1) ∧ k ≤ ss.length ∧ Below w.heap.size w wr)
  case atStart => exact ⟨rfl, rfl, Nat.le_refl _, HB2.out⟩
  case round =>
    obtain ⟨rfl, rfl, hk1, hb⟩ := hrel
    have HB := Lib.hid hb
    clear hb
    cases gk with
    | zero =>
      go_wp2_with fail
      refine (Path_nil _).mono ?_
      rintro x w' ⟨rfl, rfl⟩
      go_wp2_with fail
      refine (Known_any e _).mono ?_
      rw [hk]
      rintro x w5 ⟨rfl, hb5⟩
      have HB5 := Lib.hid (Below.next HB.out hb5)
      clear hb5
      go_wp2
      go_ret
      exact ⟨by simp, HB5.out⟩
    | succ k =>
      obtain ⟨s, hs, -⟩ := nth ss k (by omega)
      obtain ⟨b, off, rfl, hc⟩ := HR.out (by rintro rfl; simp at hk1)
      have hcl := cell_later HB.out (hc k s hs)
      clear hs hc
      go_wp2_with fail
      refine (Wrap_nil s _).mono ?_
      rintro x w' ⟨rfl, rfl⟩
      go_wp2
      go_roundg k
      case measure => omega
      case rel => exact ⟨rfl, by go_num, by omega, HB.out⟩

theorem faultPaths_walk (v : Value) (ss : List (List UInt8)) (op : List UInt8) (p e : Int) (w : World) (hr : Row 1 16 RStr w v ss) (ho : op.length ≤ reachBytes) (_ : (Lit.int .i64 p).wf = true) (_ : (Lit.int .i64 e).wf = true) (hL : laidMetH Tryd.prog Rows.faultPathsRow.laid w) :
    Calls Tryd.prog 4 #[v, .string ⟨op.toArray⟩, .int .i64 p, .int .i64 e] w fun x w' => x = .returned (.bool true) ∧ Below w.heap.size w w' := by
  have hL2 : laidMet Tryd.prog (Rows.faultPathsRow.laid.filter fun x => x.2.handleName?.isNone) w ∧ handlesMet Tryd.prog [("errors.errorType", Rows.laid_errors_errorType)] w := hL
  obtain ⟨ads, hS⟩ := sents_of_met (l := Rows.faultPathsRow.laid.filter fun x => x.2.handleName?.isNone) hL2.1 (by kernel_rfl) sntTypes (by kernel_rfl)
  have hE := etype_of_met hL2.2
  obtain ⟨h1, h2, h3⟩ := strrow_of_row hr
  cases hi : sIdx e with
  | none => exact faultPaths_unknown v ss op p e w ads hS hE h1 hi
  | some i => exact faultPaths_known v ss op p e i w ads hS hE h1 h2 (fun s hs => by
      rcases List.mem_append.1 hs with h | h
      · exact h3 s h
      · obtain rfl : s = op := by simpa using h
        exact ho) hi

end Go.Proofs.YtkapjnlhkchpiaaDoor
