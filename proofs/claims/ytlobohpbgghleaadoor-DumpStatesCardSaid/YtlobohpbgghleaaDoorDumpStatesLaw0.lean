import Derived.Test.YtlobohpbgghleaaDoorStLineS
import Derived.Test.YtlobohpbgghleaaDoorStLineR
import Derived.Test.YtlobohpbgghleaaDoorStCopy
import Derived.Test.YtlobohpbgghleaaDoorStSame
import Derived.Test.YtlobohpbgghleaaDoorStOpen
namespace Go.Proofs.YtlobohpbgghleaaDoor
open Go.RowKit Go.ChangeShapes Go.WideShapes

/-- the state of order 7 that every seat prints in the head -/
def st7 : St := ⟨7, 0, 0, 0, 0, [], 0, 0, 0, 0, 0, []⟩
theorem st7_said : stateT st7 = ([111, 114, 100, 101, 114, 32, 55, 32, 110, 111, 110, 101], 0) := by kernel_rfl

set_option maxRecDepth 100000 in
set_option maxHeartbeats 4000000 in
theorem dumpStates_walk0 (s t : St) (lv lv' : Value) (w : World) (hr : LnRow w lv s.lines) (hr' : LnRow w lv' t.lines) (hs : s.lines.length ≤ 4398046511104) (ht : t.lines.length ≤ 4398046511104) (hsw : s.who.length ≤ 281474976710656) (htw : t.who.length ≤ 281474976710656) (hP : PowTab w) :
    Calls Tryd.prog 3 #[stV s lv, stV t lv'] w fun x w' => x = .returned (.bool true) ∧ Below w.heap.size w w' := by
  have HP := Lib.hid hP
  have HR := Lib.hid hr
  have HR' := Lib.hid hr'
  have HS := Lib.hid hs
  have HT := Lib.hid ht
  have HSW := Lib.hid hsw
  have HTW := Lib.hid htw
  have H0 := Lib.hid (two_start w s t lv lv')
  clear hP hr hr' hs ht hsw htw
  go_enter Tryd.func3, Tryd.ntmps3
  go_wp2_with fail
  simp only [stCs] at H0
  generalize (w.alloc (.cells #[.int .i64 s.order, .int .i64 s.status, .int .i64 s.prior, .int .i64 s.cur, .int .i64 s.tax, lv, .int .i64 s.paid, .int .i64 s.refunded, .int .i64 s.events, .int .i64 s.refused, .int .i64 s.stamp, .string ⟨s.who.toArray⟩] 25)).alloc (.cells #[.int .i64 t.order, .int .i64 t.status, .int .i64 t.prior, .int .i64 t.cur, .int .i64 t.tax, lv', .int .i64 t.paid, .int .i64 t.refunded, .int .i64 t.events, .int .i64 t.refused, .int .i64 t.stamp, .string ⟨t.who.toArray⟩] 25) = w0 at *
  have HB0 := Lib.hid H0.out.2.2
  refine (dumpState_any st7 (.slice none 0 0) _ ⟨none, 0, rfl, Nat.le_refl _, by decide, fun h => absurd rfl h⟩ (by decide) (HP.out.below HB0.out)).mono ?_
  rw [st7_said]
  rintro x w1 ⟨rfl, hb1⟩
  have HB1 := Lib.hid (Below.next HB0.out hb1)
  have HE1 := Lib.hid (H0.out.1.below hb1)
  have HF1 := Lib.hid (H0.out.2.1.below hb1)
  clear hb1 HB0 H0
  go_wp2_with (with_reducible refine wpList_load_st rfl (.tmp 2) rfl w.heap.size s lv rfl HE1.out ?_)
  refine (refState_any s lv _ (HR.out.below HB1.out) HSW.out).mono ?_
  rintro x w2 ⟨rfl, hb2⟩
  have HB2 := Lib.hid (Below.next HB1.out hb2)
  have HE2 := Lib.hid (HE1.out.below hb2)
  have HF2 := Lib.hid (HF1.out.below hb2)
  clear hb2 HB1 HE1 HF1
  go_wp2_with (with_reducible refine wpList_load_st rfl (.tmp 2) rfl w.heap.size s lv rfl HE2.out ?_)
  refine (stCopy_any s lv _ (HR.out.below HB2.out) HS.out).mono ?_
  rintro x w3 ⟨lc, rfl, hlc, hb3⟩
  have HB3 := Lib.hid (Below.next HB2.out hb3)
  have HE3 := Lib.hid (HE2.out.below hb3)
  have HF3 := Lib.hid (HF2.out.below hb3)
  have HLC := Lib.hid hlc
  clear hb3 HB2 HE2 HF2 hlc
  go_wp2_with fail
  refine (dumpState_any s lc _ HLC.out HSW.out (HP.out.below HB3.out)).mono ?_
  rintro x w4 ⟨rfl, hb4⟩
  have HB4 := Lib.hid (Below.next HB3.out hb4)
  have HE4 := Lib.hid (HE3.out.below hb4)
  have HF4 := Lib.hid (HF3.out.below hb4)
  clear hb4 HB3 HE3 HF3 HLC
  obtain ⟨D, hD⟩ : ∃ D, D = stateT s := ⟨_, rfl⟩
  rw [← hD]
  have HD := Lib.hid hD
  clear hD
  have t1 : (D.1 != D.1) = false := by simp
  have t2 : (D.2 != D.2) = false := by simp
  go_wp2_with (with_reducible refine wpList_load_st rfl (.tmp 3) rfl (w.heap.size + 1) t lv' rfl HF4.out ?_)
  refine (stCopy_any t lv' _ (HR'.out.below HB4.out) HT.out).mono ?_
  rintro x w5 ⟨ld, rfl, hld, hb5⟩
  have HB5 := Lib.hid (Below.next HB4.out hb5)
  have HE5 := Lib.hid (HE4.out.below hb5)
  have HF5 := Lib.hid (HF4.out.below hb5)
  have HLD := Lib.hid hld
  clear hb5 HB4 HE4 HF4 hld t1 t2
  go_wp2_with fail
  refine (dumpState_any t ld _ HLD.out HTW.out (HP.out.below HB5.out)).mono ?_
  rintro x w6 ⟨rfl, hb6⟩
  have HB6 := Lib.hid (Below.next HB5.out hb6)
  have HE6 := Lib.hid (HE5.out.below hb6)
  have HF6 := Lib.hid (HF5.out.below hb6)
  clear hb6 HB5 HE5 HF5 HLD
  obtain ⟨E, hE⟩ : ∃ E, E = stateT t := ⟨_, rfl⟩
  rw [← hE]
  have HE := Lib.hid hE
  clear hE
  by_cases hc : D.2 = 0
  · by_cases hd : E.2 = 0
    · have hv : validB s = true := by
        have h := HD.out
        unfold stateT at h
        by_cases hv : validB s = true
        · exact hv
        · rw [if_neg hv] at h; rw [h] at hc; exact absurd hc (by decide)
      have hv' : validB t = true := by
        have h := HE.out
        unfold stateT at h
        by_cases hv : validB t = true
        · exact hv
        · rw [if_neg hv] at h; rw [h] at hd; exact absurd hd (by decide)
      have hDs : D.1 = stateOf s := by have h := HD.out; unfold stateT at h; rw [if_pos hv] at h; rw [h]
      have hEs : E.1 = stateOf t := by have h := HE.out; unfold stateT at h; rw [if_pos hv'] at h; rw [h]
      have HQ := Lib.hid (show D.1 = E.1 ↔ s = t from ⟨fun h => state_inj hv hv' (by rw [← hDs, ← hEs]; exact h), fun h => by rw [hDs, hEs, h]⟩)
      have t1 : (D.2 != 0) = false := by rw [hc]; rfl
      have t2 : (E.2 != 0) = false := by rw [hd]; rfl
      obtain ⟨q, hq⟩ : ∃ q, q = (D.1 == E.1) := ⟨_, rfl⟩
      have hq' := hq.symm
      have HQ' := Lib.hid hq
      clear hv hv' hDs hEs hc hd hq
      go_wp2_with (first
        | (with_reducible refine wpList_load_st rfl (.tmp 2) rfl w.heap.size s lv rfl HE6.out ?_)
        | (with_reducible refine wpList_load_st rfl (.tmp 3) rfl (w.heap.size + 1) t lv' rfl HF6.out ?_))
      refine (stSame_any s t lv lv' _ (HR.out.below HB6.out) (HR'.out.below HB6.out)).mono ?_
      rintro x w7 ⟨b, rfl, hb, hb7⟩
      have HB7 := Lib.hid (Below.next HB6.out hb7)
      have e : q = b := by
        have h := HQ'.out
        rw [Bool.eq_iff_iff, hb, h, beq_iff_eq]
        exact HQ.out
      subst e
      have t3 : (q == q) = true := by simp
      clear hb hb7 HQ HQ' HB6 HE6 HF6 HD HE
      go_wp2_with fail
      go_ret
      exact ⟨rfl, HB7.out⟩
    · have t1 : (D.2 != 0) = false := by rw [hc]; rfl
      have t2 : (E.2 != 0) = true := by rw [bne_iff_ne]; exact hd
      clear hc hd
      go_wp2_with fail
      go_ret
      exact ⟨rfl, HB6.out⟩
  · have t1 : (D.2 != 0) = true := by rw [bne_iff_ne]; exact hc
    clear hc
    go_wp2_with fail
    go_ret
    exact ⟨rfl, HB6.out⟩

theorem dumpStates_walk (v0 : Value) (a0 : St) (v1 : Value) (a1 : St) (w : World) (h0 : RdSt w v0 a0) (h1 : RdSt w v1 a1) (hL : laidMetH Tryd.prog Rows.dumpStatesRow.laid w) (_ : w.ShapedOpen Tryd.prog) :
    Calls Tryd.prog 3 #[v0, v1] w fun x w' => x = .returned (.bool true) ∧ Below w.heap.size w w' := by
  obtain ⟨lv, rfl, hr, hn, hw⟩ := h0
  obtain ⟨lv', rfl, hr', hn', hw'⟩ := h1
  exact dumpStates_walk0 a0 a1 lv lv' w hr hr' hn hn' hw hw' (pow_of rfl hL)

end Go.Proofs.YtlobohpbgghleaaDoor
