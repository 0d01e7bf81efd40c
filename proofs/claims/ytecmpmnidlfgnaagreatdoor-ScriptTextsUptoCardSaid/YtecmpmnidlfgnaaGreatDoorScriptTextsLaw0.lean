import Derived.Test.YtecmpmnidlfgnaaGreatDoorScriptHead
import Derived.Test.YtecmpmnidlfgnaaGreatDoorScriptParse
import Derived.Test.YtecmpmnidlfgnaaGreatDoorScriptSameAll
import Derived.Test.YtecmpmnidlfgnaaGreatDoorScriptOpen
import Derived.Test.YtecmpmnidlfgnaaGreatDoorOpen
namespace Go.Proofs.YtecmpmnidlfgnaaGreatDoor
open Go.RowKit Go.ChangeShapes Go.WideShapes

/-! ## ScriptTexts -/

theorem parse_i64 (s : List UInt8) : ∀ c ∈ (parseOf s).1, ∀ n ∈ c.nums, I64 n := by
  by_cases h : (parseOf s).2.2 = 0
  · exact (parse_back h).2.2
  · rw [parse_bad h]; simp
theorem cmdRow_els {w : World} {B B' : Nat} {v : Value} {xs : List CmX} {cs : List Cmd} (h : w.ownsRow B 59 13 v xs.length (cmCells xs)) (he : ∀ x ∈ xs, ElOwn w B' x) (hx : xs.map (·.1) = cs) (hi : ∀ c ∈ cs, ∀ n ∈ c.nums, I64 n) : CmdRow w v cs := by
  rw [← hx]
  exact cmdRow_own h fun x hm => (he x hm).sl (hi x.1 (by rw [← hx]; exact List.mem_map.2 ⟨x, hm, rfl⟩))

set_option maxRecDepth 100000 in
set_option maxHeartbeats 8000000 in
theorem scriptTexts_walk0 (cs : List Cmd) (v : Value) (s : List UInt8) (w : World) (hL : LibV w) (hs : s.length ≤ 1048576) (hv : CmdRow w v cs) (hn : cs.length ≤ 1048576) (hok : ∀ c ∈ cs, CmOk 1048576 c) :
    Calls Tryz.prog 8 #[v, .string ⟨s.toArray⟩] w fun x w' => x = .returned (.bool true) ∧ Below w.heap.size w w' := by
  have HL := Lib.hid hL
  have HV0 := Lib.hid hv
  have HOK := Lib.hid hok
  clear hL hv hok
  go_enter Tryz.func8, Tryz.ntmps8
  go_wp2_with fail
  refine (head25_any _ HL.out).mono ?_
  rintro x w1 ⟨rfl, hb1⟩
  have HB1 := Lib.hid hb1
  have HV1 := Lib.hid (HV0.out.below hb1)
  clear hb1 HV0
  go_wp2_with fail
  refine (copyCmds_any cs v _ HV1.out hn HOK.out).mono ?_
  rintro x w2 ⟨vc, xs, rfl, hxs, hown, hel, hb2⟩
  have HM2 := Lib.hid (cmdRow_els hown hel hxs (fun c hc => (HOK.out c hc).i64))
  have HB2 := Lib.hid (Below.next HB1.out hb2)
  have HV2 := Lib.hid (HV1.out.below hb2)
  clear hxs hown hel hb2 HB1 HV1
  go_wp2_with fail
  refine (printR_any cs v _ HV2.out HOK.out).mono ?_
  rintro x w3 ⟨rfl, hb3⟩
  have HB3 := Lib.hid (Below.next HB2.out hb3)
  have HV3 := Lib.hid (HV2.out.below hb3)
  have HM3 := Lib.hid (HM2.out.below hb3)
  clear hb3 HB2 HV2 HM2
  go_wp2_with fail
  refine (printS_any cs vc _ HM3.out HOK.out (HL.out.below HB3.out)).mono ?_
  rintro x w4 ⟨rfl, hb4⟩
  have HB4 := Lib.hid (Below.next HB3.out hb4)
  have HV4 := Lib.hid (HV3.out.below hb4)
  have HM4 := Lib.hid (HM3.out.below hb4)
  clear hb4 HB3 HV3 HM3
  obtain ⟨P, hP⟩ : ∃ P, P = printOf cs := ⟨_, rfl⟩
  rw [← hP]
  clear hP
  obtain ⟨p1, p2, p3⟩ := P
  have t1 : (p1 != p1) = false := by simp
  have t2 : (p2 != p2) = false := by simp
  have t3 : (p3 != p3) = false := by simp
  go_wp2_with (go_at_call 36; (with_reducible refine (sameAll_any cs vc v _ HM4.out HV4.out).mono ?_); rintro x w5 ⟨rfl, hb5⟩; have HB5 := Lib.hid (Below.next HB4.out hb5); clear hb5)
  clear HV4 HM4 HB4 t1 t2 t3
  refine (parseR_any s _ hs).mono ?_
  rintro x w6 ⟨vx, xs, rfl, hxs, hown, hel, hb6⟩
  have HI := Lib.hid (parse_i64 s)
  have HX6 := Lib.hid (cmdRow_els hown hel hxs HI.out)
  have HB6 := Lib.hid (Below.next HB5.out hb6)
  clear hxs hown hel hb6 HB5
  go_wp2_with fail
  refine (parseS_any s _ hs (HL.out.below HB6.out)).mono ?_
  rintro x w7 ⟨vy, ys, rfl, hys, hown, hel, hb7⟩
  have HY7 := Lib.hid (cmdRow_els hown hel hys HI.out)
  have HX7 := Lib.hid (HX6.out.below hb7)
  have HB7 := Lib.hid (Below.next HB6.out hb7)
  clear hys hown hel hb7 HX6 HB6 HI
  obtain ⟨R, hR⟩ : ∃ R, R = parseOf s := ⟨_, rfl⟩
  rw [← hR] at HX7 HY7 ⊢
  clear hR
  obtain ⟨r1, r2, r3⟩ := R
  simp only at HX7 HY7 ⊢
  have t1 : (r2 == r2) = true := by simp
  have t2 : (r3 == r3) = true := by simp
  go_wp2_with (go_at_call 36; (with_reducible refine (sameAll_any r1 vx vy _ HX7.out HY7.out).mono ?_); rintro x w8 ⟨rfl, hb8⟩; have HB8 := Lib.hid (Below.next HB7.out hb8); clear hb8)
  go_ret
  exact ⟨rfl, HB8.out⟩

theorem scriptTexts_walk (v0 : Value) (a0 : List Cmd) (a1 : List UInt8) (w : World) (h0 : RdCmds w v0 a0) (h1 : a1.length ≤ 1048576) (hL : laidMetH Tryz.prog Rows.scriptTextsUptoRow.laid w) (hS : w.ShapedOpen Tryz.prog) :
    Calls Tryz.prog 8 #[v0, .string ⟨a1.toArray⟩] w fun x w' => x = .returned (.bool true) ∧ Below w.heap.size w w' :=
  scriptTexts_walk0 a0 v0 a1 w (libV_of rfl hL hS) h1 h0.1 h0.2.1 h0.2.2

end Go.Proofs.YtecmpmnidlfgnaaGreatDoor
