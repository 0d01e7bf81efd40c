import Derived.Test.YtecmpmnidlfgnaaGreatDoorHead24
import Derived.Test.YtecmpmnidlfgnaaGreatDoorRead
import Derived.Test.YtecmpmnidlfgnaaGreatDoorSameRecs
import Derived.Test.YtecmpmnidlfgnaaGreatDoorDumpOpen
import Derived.Test.YtecmpmnidlfgnaaGreatDoorOpen
namespace Go.Proofs.YtecmpmnidlfgnaaGreatDoor
open Go.RowKit Go.ChangeShapes Go.WideShapes

theorem textOf_pair {rs : List Rec} (h : (textOf rs).2 = 0) : textOf rs = ((textOf rs).1, 0) := Prod.ext rfl h

set_option maxRecDepth 100000 in
set_option maxHeartbeats 16000000 in
theorem dumpBack_walk0 (v : Int) (e : Ev) (rs : List Rec) (vr : Value) (s : List UInt8) (w : World) (hL : LibV w) (he : EvOk 2097152 e) (hv : RecRow w vr rs) (hn : rs.length ≤ 1048576) (hok : ∀ r ∈ rs, RecOk 2097152 r) (hs : s.length ≤ 1048576) :
    Calls Tryz.prog 6 #[.int .i64 v, evV e, vr, .string ⟨s.toArray⟩] w fun x w' => x = .returned (.bool true) ∧ Below w.heap.size w w' := by
  have HL := Lib.hid hL
  have HEO := Lib.hid he
  have HOK := Lib.hid hok
  have HB0 := Lib.hid (show Below w.heap.size w (w.alloc (.cells (evCs e) 24)) from (Below.refl _ _).alloc (Nat.le_refl _) _)
  have HE0 := Lib.hid (show EvBlk (w.alloc (.cells (evCs e) 24)) w.heap.size e from heap_alloc_new w _)
  have HV0 := Lib.hid (hv.below HB0.out)
  unfold evCs at HB0 HE0 HV0
  clear hL he hv hok
  go_enter Tryz.func6, Tryz.ntmps6
  go_wp2_with fail
  generalize w.alloc (.cells #[.int .i64 e.kind, .int .i64 e.order, .int .i64 e.item, .int .i64 e.qty, .int .i64 e.price, .int .i64 e.cur, .int .i64 e.tax, .string ⟨e.who.toArray⟩, .int .i64 e.stamp, .string ⟨e.note.toArray⟩] 24) = w0 at *
  have HL0 := Lib.hid (HL.out.below HB0.out)
  refine (head24_any _ HL0.out HL0.out.lt).mono ?_
  rintro x w1 ⟨rfl, hb1⟩
  have HB1 := Lib.hid (Below.next HB0.out hb1)
  have HE1 := Lib.hid (HE0.out.below hb1)
  have HV1 := Lib.hid (HV0.out.below hb1)
  clear hb1 HB0 HE0 HV0 HL0
  go_wp2_with (with_reducible refine wpList_load_ev rfl (.tmp 5) rfl w.heap.size e rfl HE1.out ?_)
  refine (dumpWords_any v e _ HEO.out (HL.out.below HB1.out)).mono ?_
  rintro x w2 ⟨rfl, hb2⟩
  have HB2 := Lib.hid (Below.next HB1.out hb2)
  have HE2 := Lib.hid (HE1.out.below hb2)
  have HV2 := Lib.hid (HV1.out.below hb2)
  clear hb2 HB1 HE1 HV1
  by_cases hc : evCheck v e = 0
  case' pos =>
    rw [words_good hc]
    have HC := Lib.hid hc
    clear hc
    go_wp2_with (with_reducible refine wpList_load_ev rfl (.tmp 5) rfl w.heap.size e rfl HE2.out ?_)
    refine (schemaCheck_any v e _ HEO.out).mono ?_
    rintro x w3 ⟨rfl, hb3⟩
    rw [HC.out]
    have HB3 := Lib.hid (Below.next HB2.out hb3)
    have HE3 := Lib.hid (HE2.out.below hb3)
    have HV3 := Lib.hid (HV2.out.below hb3)
    have HL3 := Lib.hid (HL.out.below HB3.out)
    have HW := Lib.hid (event_there HC.out)
    have hwl := wordsOf_short HC.out
    obtain ⟨W, hW⟩ : ∃ W, W = wordsOf e := ⟨_, rfl⟩
    rw [← hW] at HW hwl ⊢
    clear hb3 HB2 HE2 HV2 hW
    go_wp2_with fail
    refine (dumpEvent_any v W _ HL3.out (by omega) HL3.out.lt).mono ?_
    rintro x w4 ⟨rfl, hb4⟩
    rw [HW.out]
    have hb5 := Below.next hb4 (show Below w4.heap.size w4 (w4.alloc (.cells (evCs e) 24)) from (Below.refl _ _).alloc (Nat.le_refl _) _)
    have HBA := Lib.hid (Below.next HB3.out hb5)
    have HEA := Lib.hid (HE3.out.below hb5)
    have HVA := Lib.hid (HV3.out.below hb5)
    have HFA := Lib.hid (show EvBlk (w4.alloc (.cells (evCs e) 24)) w4.heap.size e from heap_alloc_new w4 _)
    unfold evCs at HBA HEA HVA HFA
    clear hb4 hb5 HB3 HE3 HV3 HL3 HW
    obtain ⟨a0, a1, a2, a3, a4, a5, a6, a7, a8, a9⟩ := HEA.out.at'
    obtain ⟨b0, b1, b2, b3, b4, b5, b6, b7, b8, b9⟩ := HFA.out.at'
    have heq := run_evNeq e e (w4.alloc (.cells #[.int .i64 e.kind, .int .i64 e.order, .int .i64 e.item, .int .i64 e.qty, .int .i64 e.price, .int .i64 e.cur, .int .i64 e.tax, .string ⟨e.who.toArray⟩, .int .i64 e.stamp, .string ⟨e.note.toArray⟩] 24))
    rw [(evSame_iff _ _).2 rfl] at heq
    unfold evV at heq
    simp only [Bool.not_true] at heq
    have hszA : (w4.alloc (.cells #[.int .i64 e.kind, .int .i64 e.order, .int .i64 e.item, .int .i64 e.qty, .int .i64 e.price, .int .i64 e.cur, .int .i64 e.tax, .string ⟨e.who.toArray⟩, .int .i64 e.stamp, .string ⟨e.note.toArray⟩] 24)).heap.size = w4.heap.size + 1 := by simp
    have HME0 := own_emptyR (w4.alloc (.cells #[.int .i64 e.kind, .int .i64 e.order, .int .i64 e.item, .int .i64 e.qty, .int .i64 e.price, .int .i64 e.cur, .int .i64 e.tax, .string ⟨e.who.toArray⟩, .int .i64 e.stamp, .string ⟨e.note.toArray⟩] 24))
    rw [hszA] at HME0
    have HME := Lib.hid HME0
    clear HME0
    have HbE := Lib.hid (show Below (w4.alloc (.cells #[.int .i64 e.kind, .int .i64 e.order, .int .i64 e.item, .int .i64 e.qty, .int .i64 e.price, .int .i64 e.cur, .int .i64 e.tax, .string ⟨e.who.toArray⟩, .int .i64 e.stamp, .string ⟨e.note.toArray⟩] 24)).heap.size (w4.alloc (.cells #[.int .i64 e.kind, .int .i64 e.order, .int .i64 e.item, .int .i64 e.qty, .int .i64 e.price, .int .i64 e.cur, .int .i64 e.tax, .string ⟨e.who.toArray⟩, .int .i64 e.stamp, .string ⟨e.note.toArray⟩] 24)) ((w4.alloc (.cells #[.int .i64 e.kind, .int .i64 e.order, .int .i64 e.item, .int .i64 e.qty, .int .i64 e.price, .int .i64 e.cur, .int .i64 e.tax, .string ⟨e.who.toArray⟩, .int .i64 e.stamp, .string ⟨e.note.toArray⟩] 24)).alloc (.cells #[] 37)) from (Below.refl _ _).alloc (Nat.le_refl _) _)
    have HVE := Lib.hid (HVA.out.below HbE.out)
    go_wp2_with (first | (at_builtin; refine wpList_copyRecs rfl _ _ rfl (w4.heap.size + 1) _ _ rs rfl HME.out rfl HVE.out (by omega) (by have := HbE.out.size; omega) ?_) | rw [heq])
    intro vm wC hown hgrow
    have hbC : Below (w4.alloc (.cells #[.int .i64 e.kind, .int .i64 e.order, .int .i64 e.item, .int .i64 e.qty, .int .i64 e.price, .int .i64 e.cur, .int .i64 e.tax, .string ⟨e.who.toArray⟩, .int .i64 e.stamp, .string ⟨e.note.toArray⟩] 24)).heap.size (w4.alloc (.cells #[.int .i64 e.kind, .int .i64 e.order, .int .i64 e.item, .int .i64 e.qty, .int .i64 e.price, .int .i64 e.cur, .int .i64 e.tax, .string ⟨e.who.toArray⟩, .int .i64 e.stamp, .string ⟨e.note.toArray⟩] 24)) wC := HbE.out.grown hgrow HbE.out.size (fun k e => by have := (HME.out.lt k e).1; omega)
    have HBC := Lib.hid (Below.next HBA.out hbC)
    have HVC := Lib.hid (HVA.out.below hbC)
    have HMC := Lib.hid (recRow_own hown)
    clear a0 a1 a2 a3 a4 a5 a6 a7 a8 a9 b0 b1 b2 b3 b4 b5 b6 b7 b8 b9 heq hown hgrow hbC HVA HVE HbE HME HBA
  case' neg =>
    rw [words_bad hc]
    go_wp2_with (with_reducible refine wpList_load_ev rfl (.tmp 5) rfl w.heap.size e rfl HE2.out ?_)
    refine (schemaCheck_any v e _ HEO.out).mono ?_
    rintro x wA ⟨rfl, hb3⟩
    have HBA := Lib.hid (Below.next HB2.out hb3)
    have HVA := Lib.hid (HV2.out.below hb3)
    have t1 : (evCheck v e != evCheck v e) = false := by simp
    have t2 : (evCheck v e == 0) = false := by rw [beq_eq_false_iff_ne]; exact hc
    clear hb3 HB2 HE2 HV2 hc
    have HME := Lib.hid (own_emptyR wA)
    have HbE := Lib.hid (show Below wA.heap.size wA (wA.alloc (.cells #[] 37)) from (Below.refl _ _).alloc (Nat.le_refl _) _)
    have HVE := Lib.hid (HVA.out.below HbE.out)
    go_wp2_with (at_builtin; refine wpList_copyRecs rfl _ _ rfl wA.heap.size _ _ rs rfl HME.out rfl HVE.out (by omega) HbE.out.size ?_)
    intro vm wC hown hgrow
    have hbC : Below wA.heap.size wA wC := HbE.out.grown hgrow HbE.out.size (fun k e => (HME.out.lt k e).1)
    have HBC := Lib.hid (Below.next HBA.out hbC)
    have HVC := Lib.hid (HVA.out.below hbC)
    have HMC := Lib.hid (recRow_own hown)
    clear hown hgrow hbC HVA HVE HbE HME HBA
  all_goals
    go_wp2_with fail
    refine (dumpText_any rs _ _ HMC.out (by omega) HOK.out (HL.out.below HBC.out)).mono ?_
    rintro x wG ⟨rfl, hbG⟩
    have HBG := Lib.hid (Below.next HBC.out hbG)
    have HVD := Lib.hid (HVC.out.below hbG)
    clear hbG HBC HVC HMC
    by_cases ht : (textOf rs).2 = 0
    case' pos =>
      have HR := Lib.hid (read_there rs 1 ht)
      have htl := text_short rs ht
      have HS := Lib.hid (text_split rs ht)
      rw [textOf_pair ht]
      obtain ⟨T, hT⟩ : ∃ T, T = (textOf rs).1 := ⟨_, rfl⟩
      rw [← hT] at HR htl HS ⊢
      have HLD := Lib.hid (HL.out.below HBG.out)
      clear ht hT
      go_wp2_with fail
      refine (dumpRead_gen T _ (by omega) (fun x hx => by have := HS.out x hx; omega) HLD.out HLD.out.lt).mono ?_
      rintro x wF ⟨vb, rfl, hob, hbF⟩
      rw [show readOf T = (rs, 0, 0) from HR.out] at hob ⊢
      have HBF := Lib.hid (Below.next HBG.out hbF)
      have HVF := Lib.hid (HVD.out.below hbF)
      have HMF := Lib.hid (recRow_own hob)
      clear hob hbF HBG HVD HR HS
      go_wp2_with (go_at_call 23; (with_reducible refine (sameRecs_any rs _ _ _ HMF.out HVF.out).mono ?_); rintro x wG ⟨rfl, hbG⟩; have HBG := Lib.hid (Below.next HBF.out hbG); clear hbG)
      clear HBF HVF HMF
    case' neg =>
      have t3 : ((textOf rs).2 == 0) = false := by rw [beq_eq_false_iff_ne]; exact ht
      clear ht HVD
      go_wp2_with fail
  all_goals
    have HLG := Lib.hid (HL.out.below HBG.out)
    refine (dumpRead_any s _ (by omega) HLG.out HLG.out.lt).mono ?_
    rintro x wH ⟨vx, rfl, hox, hbH⟩
    have HBH := Lib.hid (Below.next HBG.out hbH)
    clear hbH HBG HLG
    obtain ⟨X, hX⟩ : ∃ X, X = readOf s := ⟨_, rfl⟩
    rw [← hX] at hox ⊢
    obtain ⟨L, n, c⟩ := X
    simp only at hox ⊢
    have hll : L.length ≤ 1048577 := by
      have h1 := lines_length (splitOn 10 s) 1
      have h2 := splitOn_length 10 s
      have h3 : (linesOf 1 (splitOn 10 s)).1 = L := congrArg Prod.fst hX.symm
      rw [h3] at h1
      omega
    obtain ⟨oa, cap, rfl, _, _⟩ := own_shape hox
    by_cases hz : c = 0
    · subst hz
      obtain ⟨e1, rfl⟩ := read_back hX.symm
      have HT := Lib.hid e1
      have HM := Lib.hid (recRow_own hox)
      have HO := Lib.hid (show ∀ r ∈ L, RecOk 2097152 r from fun r hr => recOk_line (text_ok L (by rw [e1]) r hr))
      have t4 : (s == s) = true := by simp
      clear e1 hX hox
      go_wp2_with fail
      refine (dumpText_any L _ _ HM.out (by omega) HO.out (HL.out.below HBH.out)).mono ?_
      rintro x wI ⟨rfl, hbI⟩
      rw [HT.out]
      have HBI := Lib.hid (Below.next HBH.out hbI)
      clear hbI
      go_wp2
      go_ret
      exact ⟨rfl, HBI.out⟩
    · have hb := lines_bad (splitOn 10 s) 1 (by decide) (by rw [show linesOf 1 (splitOn 10 s) = (L, n, c) from hX.symm]; exact hz)
      rw [show linesOf 1 (splitOn 10 s) = (L, n, c) from hX.symm] at hb
      obtain ⟨rfl, hn0⟩ := hb
      have t5 : (c != 0) = true := by rw [bne_iff_ne]; exact hz
      have t6 : decide (0 < n) = true := by simpa using hn0
      clear hX hox hz
      go_wp2
      go_ret
      exact ⟨rfl, HBH.out⟩

theorem dumpBack_walk (a0 : Int) (v1 : Value) (a1 : Ev) (v2 : Value) (a2 : List Rec) (a3 : List UInt8) (w : World) (_ : (Lit.int .i64 a0).wf = true) (h1 : RdEv w v1 a1) (h2 : RdRecs w v2 a2) (h3 : a3.length ≤ 1048576) (hL : laidMetH Tryz.prog Rows.dumpBackUptoRow.laid w) (hS : w.ShapedOpen Tryz.prog) :
    Calls Tryz.prog 6 #[.int .i64 a0, v1, v2, .string ⟨a3.toArray⟩] w fun x w' => x = .returned (.bool true) ∧ Below w.heap.size w w' := by
  obtain ⟨rfl, he⟩ := h1
  exact dumpBack_walk0 a0 a1 a2 v2 a3 w (libV_of rfl hL hS) (he.mono (by decide)) h2.1 h2.2.1 (fun r hr => (h2.2.2 r hr).mono (by decide)) h3

end Go.Proofs.YtecmpmnidlfgnaaGreatDoor
