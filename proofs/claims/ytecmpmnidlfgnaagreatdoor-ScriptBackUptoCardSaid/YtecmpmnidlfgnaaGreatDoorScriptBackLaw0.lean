import Derived.Test.YtecmpmnidlfgnaaGreatDoorScriptHead
import Derived.Test.YtecmpmnidlfgnaaGreatDoorScriptParse
import Derived.Test.YtecmpmnidlfgnaaGreatDoorScriptSameAll
import Derived.Test.YtecmpmnidlfgnaaGreatDoorScriptOpen
import Derived.Test.YtecmpmnidlfgnaaGreatDoorOpen
namespace Go.Proofs.YtecmpmnidlfgnaaGreatDoor
open Go.RowKit Go.ChangeShapes Go.WideShapes

/-! ## ScriptBack -/

theorem parse_i64' (s : List UInt8) : ∀ c ∈ (parseOf s).1, ∀ n ∈ c.nums, I64 n := by
  by_cases h : (parseOf s).2.2 = 0
  · exact (parse_back h).2.2
  · rw [parse_bad h]; simp
theorem cmdRow_els' {w : World} {B B' : Nat} {v : Value} {xs : List CmX} {cs : List Cmd} (h : w.ownsRow B 59 13 v xs.length (cmCells xs)) (he : ∀ x ∈ xs, ElOwn w B' x) (hx : xs.map (·.1) = cs) (hi : ∀ c ∈ cs, ∀ n ∈ c.nums, I64 n) : CmdRow w v cs := by
  rw [← hx]
  exact cmdRow_own h fun x hm => (he x hm).sl (hi x.1 (by rw [← hx]; exact List.mem_map.2 ⟨x, hm, rfl⟩))

theorem print_err {cs : List Cmd} (h : (printOf cs).2.2 ≠ 0) : (printOf cs).1 = [] ∧ 1 ≤ (printOf cs).2.1 ∧ (printOf cs).2.1 ≤ (cs.length : Int) := by
  obtain ⟨h1, h2, h3⟩ := printC_bad cs 0 0 h
  unfold printOf
  exact ⟨h1, by simp at h2; omega, by simp at h3; omega⟩

/-- what is printed, of commands that are read: their lines are short -/
theorem cmdOk_line {c : Cmd} (hi : ∀ n ∈ c.nums, I64 n) (h : (cmdLine c).2 = 0) (hl : (cmdLine c).1.length ≤ 65536) : CmOk 1048576 c := by
  obtain ⟨v, ns, e, raw⟩ := c
  have hz : I64 0 := ⟨by decide, by decide⟩
  have hev0 : EvOk 1048576 evNone := ⟨hz, hz, hz, hz, hz, hz, hz, hz, Nat.zero_le _, Nat.zero_le _⟩
  unfold cmdLine at h hl
  simp only at h hl hi
  split at h
  · simp at h
  rename_i h1
  rw [if_neg h1] at hl
  split at h
  · simp at h
  rename_i h2
  rw [if_neg h2] at hl
  have h6 : shapeV v ≠ 6 := fun x => h1 (.inl x)
  have hc : countOk (shapeV v) ns.length = true := by simpa using fun x => h1 (.inr x)
  have hvl := verb_len h6
  have hnl : ns.length ≤ 64 := by
    have h7 := shape_le v
    generalize shapeV v = m at *
    match m, h7 with
    | 0, _ => simp [countOk] at hc; simp [hc]
    | 1, _ => simp [countOk] at hc; omega
    | 2, _ => simp [countOk] at hc; omega
    | 3, _ => simp [countOk] at hc; omega
    | 4, _ => simp [countOk] at hc; omega
    | 5, _ => simp [countOk] at hc; simp [hc]
    | 6, _ => exact absurd rfl h6
  split at h
  · rename_i h4
    rw [if_pos h4] at hl
    split at h
    · rename_i hb; exact absurd h hb
    rename_i hb
    have hb : (dumpWords (ns.headD 0) e).2 = 0 := Classical.byContradiction hb
    have hck : evCheck (ns.headD 0) e = 0 := by
      unfold dumpWords at hb
      split at hb
      · assumption
      · exact hb
    have hraw : raw = [] := Classical.byContradiction fun x => h2 (.inr ⟨by omega, x⟩)
    subst hraw
    exact ⟨by simp only; omega, by simp only; omega, hi, (evOk_check hck).mono' (by decide), by simp⟩
  rename_i h4
  rw [if_neg h4] at hl
  have he : e = evNone := Classical.byContradiction fun x => h2 (.inl ⟨h4, x⟩)
  subst he
  split at h
  · rename_i h5
    rw [if_pos h5] at hl
    split at h
    · simp at h
    rename_i hr
    rw [if_neg hr] at hl
    simp [hexOf_length] at hl
    exact ⟨by simp only; omega, by simp only; omega, hi, hev0, by simp only; omega⟩
  · rename_i h5
    have hraw : raw = [] := Classical.byContradiction fun x => h2 (.inr ⟨h5, x⟩)
    subst hraw
    exact ⟨by simp only; omega, by simp only; omega, hi, hev0, by simp⟩

theorem print_lines : ∀ (cs : List Cmd) (i n : Nat), (printC i n cs).2.2 = 0 → ∀ c ∈ cs, (cmdLine c).2 = 0 ∧ (cmdLine c).1.length ≤ 65536
  | [], _, _, _, c, hc => by cases hc
  | d :: cs, i, n, h, c, hc => by
    rw [printC] at h
    split at h
    · simp at h
    split at h
    · rename_i hb; exact absurd h hb
    split at h
    · simp at h
    rename_i h1 h2 h3
    split at h
    · rename_i hb; exact absurd h hb
    rename_i h4
    rcases List.mem_cons.1 hc with rfl | hc
    · exact ⟨Classical.byContradiction h2, by omega⟩
    · exact print_lines cs _ _ (Classical.byContradiction h4) c hc

set_option maxRecDepth 100000 in
set_option maxHeartbeats 8000000 in
theorem scriptBack_walk0 (cs : List Cmd) (v : Value) (s : List UInt8) (w : World) (hL : LibV w) (hs : s.length ≤ 1048576) (hv : CmdRow w v cs) (hn : cs.length ≤ 1048576) (hok : ∀ c ∈ cs, CmOk 1048576 c) :
    Calls Tryz.prog 9 #[v, .string ⟨s.toArray⟩] w fun x w' => x = .returned (.bool true) ∧ Below w.heap.size w w' := by
  have HL := Lib.hid hL
  have HV0 := Lib.hid hv
  have HOK := Lib.hid hok
  have hv2 := hv
  obtain ⟨ova, ovc, rfl, _⟩ := hv2
  clear hL hv hok
  go_enter Tryz.func9, Tryz.ntmps9
  go_wp2_with fail
  refine (head25_any _ HL.out).mono ?_
  rintro x w1 ⟨rfl, hb1⟩
  have HB1 := Lib.hid hb1
  have HV1 := Lib.hid (HV0.out.below hb1)
  clear hb1 HV0
  go_wp2_with fail
  refine (copyCmds_any cs _ _ HV1.out hn HOK.out).mono ?_
  rintro x w2 ⟨vc, xs, rfl, hxs, hown, hel, hb2⟩
  have HM2 := Lib.hid (cmdRow_els' hown hel hxs (fun c hc => (HOK.out c hc).i64))
  have HB2 := Lib.hid (Below.next HB1.out hb2)
  have HV2 := Lib.hid (HV1.out.below hb2)
  clear hxs hown hel hb2 HB1 HV1
  go_wp2_with fail
  refine (printS_any cs vc _ HM2.out HOK.out (HL.out.below HB2.out)).mono ?_
  rintro x w4 ⟨rfl, hb4⟩
  have HB4 := Lib.hid (Below.next HB2.out hb4)
  have HV4 := Lib.hid (HV2.out.below hb4)
  clear hb4 HB2 HV2 HM2
  by_cases hp : (printOf cs).2.2 = 0
  case' pos =>
    obtain ⟨q1, q2, q3⟩ := print_there (fun c hc => (HOK.out c hc).i64) hp
    have HPT := Lib.hid q1
    rw [show printOf cs = ((printOf cs).1, 0, 0) from Prod.ext rfl (Prod.ext q2 hp)]
    obtain ⟨T, hT⟩ : ∃ T, T = (printOf cs).1 := ⟨_, rfl⟩
    simp only
    rw [← hT] at HPT q3 ⊢
    clear hT hp q1 q2
    go_wp2_with fail
    refine (parseS_any T _ (by omega) (HL.out.below HB4.out)).mono ?_
    rintro x w6 ⟨vx, xs, rfl, hxs, hown, hel, hb6⟩
    rw [HPT.out] at hxs ⊢
    have HX6 := Lib.hid (cmdRow_els' hown hel hxs (fun c hc => (HOK.out c hc).i64))
    have HV6 := Lib.hid (HV4.out.below hb6)
    have HB6 := Lib.hid (Below.next HB4.out hb6)
    clear hxs hown hel hb6 HB4 HV4 HPT
    go_wp2_with (go_at_call 36; (with_reducible refine (sameAll_any cs vx (.slice ova cs.length ovc) _ HX6.out HV6.out).mono ?_); rintro x w7 ⟨rfl, hb7⟩; have HB7 := Lib.hid (Below.next HB6.out hb7); clear hb7)
    clear HX6 HV6 HB6
  case' neg =>
    obtain ⟨q1, q2, q3⟩ := print_err hp
    have HB7 := HB4
    obtain ⟨P, hP⟩ : ∃ P, P = printOf cs := ⟨_, rfl⟩
    rw [← hP] at hp q1 q2 q3 ⊢
    clear hP
    obtain ⟨p1, p2, p3⟩ := P
    simp only at hp q1 q2 q3 ⊢
    subst q1
    have t1 : (p3 == 0) = false := by rw [beq_eq_false_iff_ne]; exact hp
    have t2 : ¬ p2 < 1 := by omega
    have t3 : ¬ (cs.length : Int) < p2 := by omega
    clear hp q2 q3 HV4 HB4
    go_wp2_with fail
  all_goals
    have HL7 := Lib.hid (HL.out.below HB7.out)
    refine (parseS_any s _ hs HL7.out).mono ?_
    rintro x w8 ⟨vy, ys, rfl, hys, hown, hel, hb8⟩
    have HY8 := Lib.hid (cmdRow_els' hown hel hys (parse_i64' s))
    have HB8 := Lib.hid (Below.next HB7.out hb8)
    obtain ⟨oy, cy, rfl, _, _⟩ := own_shape hown
    have hyl : ys.length = (parseOf s).1.length := by rw [← hys, List.length_map]
    clear hys hown hel hb8
    by_cases hz : (parseOf s).2.2 = 0
    · obtain ⟨e1, _, e3⟩ := parse_back hz
      have HPR := Lib.hid e1
      have HOKS := Lib.hid (show ∀ c ∈ (parseOf s).1, CmOk 1048576 c from fun c hc => by
        have := print_lines _ 0 0 (show (printC 0 0 (parseOf s).1).2.2 = 0 from congrArg (fun x => x.2.2) e1) c hc
        exact cmdOk_line (e3 c hc) this.1 this.2)
      obtain ⟨R, hR⟩ : ∃ R, R = parseOf s := ⟨_, rfl⟩
      rw [← hR] at HPR HOKS hz HY8 hyl ⊢
      clear hR e1 e3
      obtain ⟨r1, r2, r3⟩ := R
      simp only at HPR HOKS hz HY8 hyl ⊢
      subst hz
      have t4 : (s == s) = true := by simp
      clear hyl
      go_wp2_with fail
      refine (printS_any r1 _ _ HY8.out HOKS.out (HL.out.below HB8.out)).mono ?_
      rintro x w9 ⟨rfl, hb9⟩
      rw [HPR.out]
      have HB9 := Lib.hid (Below.next HB8.out hb9)
      clear hb9
      go_wp2
      go_ret
      exact ⟨rfl, HB9.out⟩
    · have hy0 : ys.length = 0 := by rw [hyl, parse_bad hz]; rfl
      rw [hy0]
      obtain ⟨r3, hr3⟩ : ∃ r3, r3 = (parseOf s).2.2 := ⟨_, rfl⟩
      obtain ⟨r2, hr2⟩ : ∃ r2, r2 = (parseOf s).2.1 := ⟨_, rfl⟩
      rw [← hr3] at hz
      rw [← hr3, ← hr2]
      have t5 : (r3 != 0) = true := by rw [bne_iff_ne]; exact hz
      clear hr3 hr2 hz hyl HY8 hy0
      go_wp2
      go_ret
      exact ⟨rfl, HB8.out⟩

theorem scriptBack_walk (v0 : Value) (a0 : List Cmd) (a1 : List UInt8) (w : World) (h0 : RdCmds w v0 a0) (h1 : a1.length ≤ 1048576) (hL : laidMetH Tryz.prog Rows.scriptBackUptoRow.laid w) (hS : w.ShapedOpen Tryz.prog) :
    Calls Tryz.prog 9 #[v0, .string ⟨a1.toArray⟩] w fun x w' => x = .returned (.bool true) ∧ Below w.heap.size w w' :=
  scriptBack_walk0 a0 v0 a1 w (libV_of rfl hL hS) h1 h0.1 h0.2.1 h0.2.2

end Go.Proofs.YtecmpmnidlfgnaaGreatDoor
