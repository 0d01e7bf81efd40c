import Derived.Test.YtlobohpbgghleaaDoorState
import Derived.Test.YtlobohpbgghleaaDoorItoa
import Derived.Test.YtlobohpbgghleaaDoorRefShow
import Derived.Test.YtlobohpbgghleaaDoorRefValid8
import Derived.Test.YtlobohpbgghleaaDoorStLineS
import Derived.Deep.QuietTactic
import Derived.BigQuiet
namespace Go.Proofs.YtlobohpbgghleaaDoor
open Go.RowKit

/-! ## daybookref24.State -/

theorem status_any (n : Int) (w : World) (h0 : 0 ≤ n) (h5 : n ≤ 5) : Calls Tryd.prog 13 #[.int .i64 n] w fun x w' => x = .returned (.string ⟨(statusOf n).toArray⟩) ∧ Below w.heap.size w w' := by
  rcases (show n = 0 ∨ n = 1 ∨ n = 2 ∨ n = 3 ∨ n = 4 ∨ n = 5 by omega) with rfl | rfl | rfl | rfl | rfl | rfl
  all_goals
    clear h0 h5
    go_enter Tryd.func13, Tryd.ntmps13
    go_wp2
    go_ret
    exact ⟨rfl, (Below.refl _ _).alloc (Nat.le_refl _) _⟩

theorem pair_any (nm : List UInt8) (v : Int) (w : World) (hn : nm.length ≤ 8) (hv : I64 v) : Calls Tryd.prog 14 #[.string ⟨nm.toArray⟩, .int .i64 v] w fun x w' => x = .returned (.string ⟨(keyPart nm v).toArray⟩) ∧ Below w.heap.size w w' := by
  by_cases hz : v = 0
  · have t1 : (v == 0) = true := by rw [beq_iff_eq]; exact hz
    have hk := Lib.hid (show keyPart nm v = [] by rw [keyPart, if_pos hz])
    clear hz
    go_enter Tryd.func14, Tryd.ntmps14
    go_wp2
    go_ret
    exact ⟨by rw [hk.out]; rfl, Below.refl _ _⟩
  · have t1 : (v == 0) = false := by rw [beq_eq_false_iff_ne]; exact hz
    have hi1 := itoa_le _ hv.1 hv.2
    obtain ⟨a1, ha1⟩ : ∃ m, m = [32] ++ nm := ⟨_, rfl⟩
    have la1 : a1.length = ([32] : List UInt8).length + (nm : List UInt8).length := by rw [ha1, List.length_append]
    obtain ⟨a2, ha2⟩ : ∃ m, m = a1 ++ [61] := ⟨_, rfl⟩
    have la2 : a2.length = (a1 : List UInt8).length + ([61] : List UInt8).length := by rw [ha2, List.length_append]
    obtain ⟨a3, ha3⟩ : ∃ m, m = a2 ++ Lib.itoa v := ⟨_, rfl⟩
    have la3 : a3.length = (a2 : List UInt8).length + (Lib.itoa v : List UInt8).length := by rw [ha3, List.length_append]
    simp only [List.length_cons, List.length_nil] at la1 la2 la3
    have ea1 := str_add _ _ _ ha1 (by omega)
    have ea2 := str_add _ _ _ ha2 (by omega)
    have ea3 := str_add _ _ _ ha3 (by omega)
    have hk := Lib.hid (show keyPart nm v = a3 by rw [keyPart, if_neg hz, ha3, ha2, ha1]; simp)
    clear hz ha1 ha2 ha3 la1 la2 la3 hi1 hn
    go_enter Tryd.func14, Tryd.ntmps14
    go_wp2_with (go_at_call 12; refine (show_any v _ hv.1 hv.2).mono ?_; rintro x w1 ⟨rfl, hb⟩)
    go_ret
    exact ⟨by rw [hk.out]; rfl, hb⟩

set_option maxRecDepth 100000 in
set_option maxHeartbeats 16000000 in
theorem refState_any (s : St) (lv : Value) (w : World) (hr : LnRow w lv s.lines) (hw : s.who.length ≤ 281474976710656) :
    Calls Tryd.prog 5 #[stV s lv] w fun e w' => e = .returned (.tuple #[.string ⟨(stateT s).1.toArray⟩, .int .i64 (stateT s).2]) ∧ Below w.heap.size w w' := by
  have HE0 := Lib.hid (show StBlk (w.alloc (.cells (stCs s lv) 25)) w.heap.size s lv ∧ Below w.heap.size w (w.alloc (.cells (stCs s lv) 25)) from ⟨stBlk_alloc w s lv, (Below.refl _ _).alloc (Nat.le_refl _) _⟩)
  have HVA := Lib.hid (show ∀ W : World, Below w.heap.size w W → Calls Tryd.prog 11 #[stV s lv] W fun e w' => e = .returned (.bool (validB s)) ∧ Below W.heap.size W w' from fun W h => rValid_any s lv W (hr.below h) hw)
  have hlv0 := hr
  obtain ⟨oa, cap, hlv, hl1, hl2, hcs⟩ := hr.shape
  subst hlv
  have HC := Lib.hid hcs
  clear hr hcs hlv0 hw
  cases hv : validB s
  case false =>
    have hfin := Lib.hid (show stateT s = ([], 40) by unfold stateT; rw [hv]; rfl)
    rw [hv] at HVA
    clear hv
    go_enter Tryd.func5, Tryd.ntmps5
    go_wp2_with (first
      | (with_reducible refine wpList_load_st rfl (.tmp 1) rfl w.heap.size s _ rfl HE0.out.1 ?_)
      | (go_at_call 11; refine (HVA.out _ HE0.out.2).mono ?_; rintro x w1 ⟨rfl, hb⟩; have HB1 := Lib.hid (Below.next HE0.out.2 hb); clear hb))
    go_ret2
    exact ⟨by rw [hfin.out]; rfl, HB1.out⟩
  case true =>
  have hfin := Lib.hid (show stateT s = (stateOf s, 0) by unfold stateT; rw [hv]; rfl)
  have HSM := Lib.hid (valid_small hv)
  rw [hv] at HVA
  clear hv
  have hsm := HSM.out
  have ho := hsm.order
  have hol := itoa_le s.order ho.1 ho.2
  have hsl := statusOf_len s.status
  have hpl := statusOf_len s.prior
  obtain ⟨m1, hm1⟩ : ∃ m, m = [111, 114, 100, 101, 114, 32] ++ Lib.itoa s.order := ⟨_, rfl⟩
  have lm1 : m1.length = ([111, 114, 100, 101, 114, 32] : List UInt8).length + (Lib.itoa s.order : List UInt8).length := by rw [hm1, List.length_append]
  obtain ⟨m2, hm2⟩ : ∃ m, m = m1 ++ [32] := ⟨_, rfl⟩
  have lm2 : m2.length = (m1 : List UInt8).length + ([32] : List UInt8).length := by rw [hm2, List.length_append]
  obtain ⟨m3, hm3⟩ : ∃ m, m = m2 ++ statusOf s.status := ⟨_, rfl⟩
  have lm3 : m3.length = (m2 : List UInt8).length + (statusOf s.status : List UInt8).length := by rw [hm3, List.length_append]
  obtain ⟨p1, hp1⟩ : ∃ m, m = [32] ++ statusOf s.prior := ⟨_, rfl⟩
  have lp1 : p1.length = ([32] : List UInt8).length + (statusOf s.prior : List UInt8).length := by rw [hp1, List.length_append]
  obtain ⟨m4, hm4⟩ : ∃ m, m = m3 ++ p1 := ⟨_, rfl⟩
  have lm4 : m4.length = (m3 : List UInt8).length + (p1 : List UInt8).length := by rw [hm4, List.length_append]
  simp only [List.length_cons, List.length_nil] at lm1 lm2 lm3 lp1 lm4
  have em1 := str_add _ _ _ hm1 (by omega)
  have em2 := str_add _ _ _ hm2 (by omega)
  have em3 := str_add _ _ _ hm3 (by omega)
  have ep1 := str_add _ _ _ hp1 (by omega)
  have em4 := str_add _ _ _ hm4 (by omega)
  have HH1 := Lib.hid (show s.status ≠ 2 → stHead s = m3 from fun h => by unfold stHead; rw [if_neg h, hm3, hm2, hm1]; simp)
  have HH2 := Lib.hid (show s.status = 2 → stHead s = m4 from fun h => by unfold stHead; rw [if_pos h, hm4, hp1, hm3, hm2, hm1]; simp)
  clear hm1 hm2 hm3 hp1 hm4 hsm lm1 lm2 lm3 lp1 lm4 hol hsl hpl
  go_enter Tryd.func5, Tryd.ntmps5
  go_wp2_with (first
    | (with_reducible refine wpList_load_st rfl (.tmp 1) rfl w.heap.size s _ rfl HE0.out.1 ?_)
    | (go_at_call 11; refine (HVA.out _ HE0.out.2).mono ?_; rintro x w1 ⟨rfl, hb⟩; have HE1 := Lib.hid (show StBlk w1 w.heap.size s (.slice oa s.lines.length cap) ∧ Below w.heap.size w w1 from ⟨HE0.out.1.below hb, Below.next HE0.out.2 hb⟩); clear hb))
  clear HE0 HVA
  refine wp_region_held_drew (S := fun w' => StBlk w' w.heap.size s (.slice oa s.lines.length cap) ∧ Below w.heap.size w w') (by kernel_rfl) ⟨HE1.out.1, Below.next HE1.out.2 (below_drewN' _ 1)⟩ (fun hHeld => ?_)
  refine tk 0 rfl ?v_0_103 ?hy_0_103 ?r_0_103
  case hy_0_103 => intro w h; have k0 := h.1.c0; have k1 := h.1.c1; have k3 := h.1.c3; have k4 := h.1.c4; have k6 := h.1.c6; have k7 := h.1.c7; have k8 := h.1.c8; have k9 := h.1.c9; have k10 := h.1.c10; go_simp; try with_reducible rfl
  simp only [pA, pB, pC, pD]
  refine tk 1 rfl ?v_1_104 ?hy_1_104 ?r_1_104
  case hy_1_104 => intro w h; have k0 := h.1.c0; have k1 := h.1.c1; have k3 := h.1.c3; have k4 := h.1.c4; have k6 := h.1.c6; have k7 := h.1.c7; have k8 := h.1.c8; have k9 := h.1.c9; have k10 := h.1.c10; go_simp; try with_reducible rfl
  simp only [pA, pB, pC, pD]
  refine tk 5 rfl ?v_5_105 ?hy_5_105 ?r_5_105
  case hy_5_105 => intro w h; have k0 := h.1.c0; have k1 := h.1.c1; have k3 := h.1.c3; have k4 := h.1.c4; have k6 := h.1.c6; have k7 := h.1.c7; have k8 := h.1.c8; have k9 := h.1.c9; have k10 := h.1.c10; go_simp; try with_reducible rfl
  simp only [pA, pB, pC, pD]
  refine tk 6 rfl ?v_6_106 ?hy_6_106 ?r_6_106
  case hy_6_106 => intro w h; have k0 := h.1.c0; have k1 := h.1.c1; have k3 := h.1.c3; have k4 := h.1.c4; have k6 := h.1.c6; have k7 := h.1.c7; have k8 := h.1.c8; have k9 := h.1.c9; have k10 := h.1.c10; go_simp; try with_reducible rfl
  simp only [pA, pB, pC, pD]
  refine wpAnyH_ready (rs := [2]) (by kernel_rfl) (by simp) ?_
  refine AllReadyH.cons rfl (fun K hK => ?_) AllReadyH.nil
  go_simp
  go_at_call 12
  refine (show_any s.order _ ho.1 ho.2).mono ?_
  rintro x wn ⟨rfl, hb⟩
  go_wp2_with fail
  refine hK.out _ _ ⟨hHeld.1.below hb, Below.next hHeld.2 hb⟩ (fun hHeld => ?_)
  clear hK K hb
  refine tk 3 rfl ?v_3_107 ?hy_3_107 ?r_3_107
  case hy_3_107 => intro w h; have k0 := h.1.c0; have k1 := h.1.c1; have k3 := h.1.c3; have k4 := h.1.c4; have k6 := h.1.c6; have k7 := h.1.c7; have k8 := h.1.c8; have k9 := h.1.c9; have k10 := h.1.c10; go_simp; try with_reducible rfl
  simp only [pA, pB, pC, pD]
  refine tk 4 rfl ?v_4_108 ?hy_4_108 ?r_4_108
  case hy_4_108 => intro w h; have k0 := h.1.c0; have k1 := h.1.c1; have k3 := h.1.c3; have k4 := h.1.c4; have k6 := h.1.c6; have k7 := h.1.c7; have k8 := h.1.c8; have k9 := h.1.c9; have k10 := h.1.c10; go_simp; try with_reducible rfl
  simp only [pA, pB, pC, pD]
  refine wpAnyH_ready (rs := [7]) (by kernel_rfl) (by simp) ?_
  refine AllReadyH.cons rfl (fun K hK => ?_) AllReadyH.nil
  go_simp
  go_at_call 13
  refine (status_any s.status _ HSM.out.st0 HSM.out.st5).mono ?_
  rintro x wn ⟨rfl, hb⟩
  go_wp2_with fail
  refine hK.out _ _ ⟨hHeld.1.below hb, Below.next hHeld.2 hb⟩ (fun hHeld => ?_)
  clear hK K hb
  refine tk 8 rfl ?v_8_109 ?hy_8_109 ?r_8_109
  case hy_8_109 => intro w h; have k0 := h.1.c0; have k1 := h.1.c1; have k3 := h.1.c3; have k4 := h.1.c4; have k6 := h.1.c6; have k7 := h.1.c7; have k8 := h.1.c8; have k9 := h.1.c9; have k10 := h.1.c10; go_simp; try with_reducible rfl
  simp only [pA, pB, pC, pD]
  refine tk 9 rfl ?v_9_110 ?hy_9_110 ?r_9_110
  case hy_9_110 => intro w h; have k0 := h.1.c0; have k1 := h.1.c1; have k3 := h.1.c3; have k4 := h.1.c4; have k6 := h.1.c6; have k7 := h.1.c7; have k8 := h.1.c8; have k9 := h.1.c9; have k10 := h.1.c10; go_simp; try with_reducible rfl
  simp only [pA, pB, pC, pD]
  refine wpAnyH_done (by kernel_rfl) ?_ _
  have HE4 := Lib.hid hHeld
  clear hHeld HE1 em1 em2
  obtain ⟨H, hH⟩ : ∃ H, H = stHead s := ⟨_, rfl⟩
  rw [← hH] at HH1 HH2
  have hHl : H.length ≤ 50 := hH ▸ stHead_len s ho
  have HSO := Lib.hid (show stateOf s = H ++ keyParts (stKeys s) ++ whoPart s.who ++ lnParts s.lines by unfold stateOf; rw [hH])
  clear hH
  have c1 := HE4.out.1.c1
  by_cases hs2 : s.status = 2
  · have hH2 := HH2.out hs2
    subst hH2
    have t2 : (s.status == 2) = true := by rw [beq_iff_eq]; exact hs2
    have c2 := HE4.out.1.c2
    clear hs2 HH1 HH2
    go_wp2_with (go_at_call 13; refine (status_any s.prior _ HSM.out.pr0 HSM.out.pr5).mono ?_; rintro x w5 ⟨rfl, hb⟩; have HE5 := Lib.hid (show StBlk w5 w.heap.size s (.slice oa s.lines.length cap) ∧ Below w.heap.size w w5 from ⟨HE4.out.1.below hb, Below.next HE4.out.2 hb⟩); clear hb)
    clear HE4 c1 c2 em3 ep1 em4
    have hks := HSM.out.keys
    simp only [stKeys, List.mem_cons, List.not_mem_nil, or_false, forall_eq_or_imp, forall_eq] at hks
    obtain ⟨x0, x1, x2, x3, x4, x5, x6⟩ := hks
    have y0 := keyPart_len [99, 117, 114] s.cur x0
    have y1 := keyPart_len [116, 97, 120] s.tax x1
    have y2 := keyPart_len [112, 97, 105, 100] s.paid x2
    have y3 := keyPart_len [114, 101, 102, 117, 110, 100, 101, 100] s.refunded x3
    have y4 := keyPart_len [101, 118, 101, 110, 116, 115] s.events x4
    have y5 := keyPart_len [114, 101, 102, 117, 115, 101, 100] s.refused x5
    have y6 := keyPart_len [115, 116, 97, 109, 112] s.stamp x6
    simp only [List.length_cons, List.length_nil] at y0 y1 y2 y3 y4 y5 y6
    obtain ⟨c1, hc1⟩ : ∃ m, m = keyPart [99, 117, 114] s.cur ++ keyPart [116, 97, 120] s.tax := ⟨_, rfl⟩
    have lc1 : c1.length = (keyPart [99, 117, 114] s.cur : List UInt8).length + (keyPart [116, 97, 120] s.tax : List UInt8).length := by rw [hc1, List.length_append]
    obtain ⟨c2, hc2⟩ : ∃ m, m = c1 ++ keyPart [112, 97, 105, 100] s.paid := ⟨_, rfl⟩
    have lc2 : c2.length = (c1 : List UInt8).length + (keyPart [112, 97, 105, 100] s.paid : List UInt8).length := by rw [hc2, List.length_append]
    obtain ⟨c3, hc3⟩ : ∃ m, m = c2 ++ keyPart [114, 101, 102, 117, 110, 100, 101, 100] s.refunded := ⟨_, rfl⟩
    have lc3 : c3.length = (c2 : List UInt8).length + (keyPart [114, 101, 102, 117, 110, 100, 101, 100] s.refunded : List UInt8).length := by rw [hc3, List.length_append]
    obtain ⟨c4, hc4⟩ : ∃ m, m = c3 ++ keyPart [101, 118, 101, 110, 116, 115] s.events := ⟨_, rfl⟩
    have lc4 : c4.length = (c3 : List UInt8).length + (keyPart [101, 118, 101, 110, 116, 115] s.events : List UInt8).length := by rw [hc4, List.length_append]
    obtain ⟨c5, hc5⟩ : ∃ m, m = c4 ++ keyPart [114, 101, 102, 117, 115, 101, 100] s.refused := ⟨_, rfl⟩
    have lc5 : c5.length = (c4 : List UInt8).length + (keyPart [114, 101, 102, 117, 115, 101, 100] s.refused : List UInt8).length := by rw [hc5, List.length_append]
    obtain ⟨c6, hc6⟩ : ∃ m, m = c5 ++ keyPart [115, 116, 97, 109, 112] s.stamp := ⟨_, rfl⟩
    have lc6 : c6.length = (c5 : List UInt8).length + (keyPart [115, 116, 97, 109, 112] s.stamp : List UInt8).length := by rw [hc6, List.length_append]
    obtain ⟨O7, hO7⟩ : ∃ m, m = H ++ c6 := ⟨_, rfl⟩
    have lO7 : O7.length = (H : List UInt8).length + (c6 : List UInt8).length := by rw [hO7, List.length_append]
    try simp only [List.length_cons, List.length_nil] at lc1 lc2 lc3 lc4 lc5 lc6 lO7
    have ec1 := str_add _ _ _ hc1 (by omega)
    have ec2 := str_add _ _ _ hc2 (by omega)
    have ec3 := str_add _ _ _ hc3 (by omega)
    have ec4 := str_add _ _ _ hc4 (by omega)
    have ec5 := str_add _ _ _ hc5 (by omega)
    have ec6 := str_add _ _ _ hc6 (by omega)
    have eO7 := str_add _ _ _ hO7 (by omega)
    have HK7 := Lib.hid (show H ++ keyParts (stKeys s) = O7 by rw [hO7, hc6, hc5, hc4, hc3, hc2, hc1]; simp [keyParts, stKeys])
    rw [HK7.out] at HSO
    have ho7 : O7.length ≤ 300 := by omega
    clear HK7 hO7 hc6 hc5 hc4 hc3 hc2 hc1 lc1 lc2 lc3 lc4 lc5 lc6 lO7 y0 y1 y2 y3 y4 y5 y6
    have HXS := Lib.hid (And.intro x0 (And.intro x1 (And.intro x2 (And.intro x3 (And.intro x4 (And.intro x5 x6))))))
    clear x0 x1 x2 x3 x4 x5 x6
    refine wp_region_held_drew (S := fun w' => StBlk w' w.heap.size s (.slice oa s.lines.length cap) ∧ Below w.heap.size w w') (by kernel_rfl) ⟨HE5.out.1, Below.next HE5.out.2 (below_drewN' _ 1)⟩ (fun hHeld => ?_)
    refine tk 0 rfl ?v_0_111 ?hy_0_111 ?r_0_111
    case hy_0_111 => intro w h; have k0 := h.1.c0; have k1 := h.1.c1; have k3 := h.1.c3; have k4 := h.1.c4; have k6 := h.1.c6; have k7 := h.1.c7; have k8 := h.1.c8; have k9 := h.1.c9; have k10 := h.1.c10; go_simp; try with_reducible rfl
    simp only [pA, pB, pC, pD]
    refine tk 1 rfl ?v_1_112 ?hy_1_112 ?r_1_112
    case hy_1_112 => intro w h; have k0 := h.1.c0; have k1 := h.1.c1; have k3 := h.1.c3; have k4 := h.1.c4; have k6 := h.1.c6; have k7 := h.1.c7; have k8 := h.1.c8; have k9 := h.1.c9; have k10 := h.1.c10; go_simp; try with_reducible rfl
    simp only [pA, pB, pC, pD]
    refine tk 2 rfl ?v_2_113 ?hy_2_113 ?r_2_113
    case hy_2_113 => intro w h; have k0 := h.1.c0; have k1 := h.1.c1; have k3 := h.1.c3; have k4 := h.1.c4; have k6 := h.1.c6; have k7 := h.1.c7; have k8 := h.1.c8; have k9 := h.1.c9; have k10 := h.1.c10; go_simp; try with_reducible rfl
    simp only [pA, pB, pC, pD]
    refine tk 4 rfl ?v_4_114 ?hy_4_114 ?r_4_114
    case hy_4_114 => intro w h; have k0 := h.1.c0; have k1 := h.1.c1; have k3 := h.1.c3; have k4 := h.1.c4; have k6 := h.1.c6; have k7 := h.1.c7; have k8 := h.1.c8; have k9 := h.1.c9; have k10 := h.1.c10; go_simp; try with_reducible rfl
    simp only [pA, pB, pC, pD]
    refine tk 5 rfl ?v_5_115 ?hy_5_115 ?r_5_115
    case hy_5_115 => intro w h; have k0 := h.1.c0; have k1 := h.1.c1; have k3 := h.1.c3; have k4 := h.1.c4; have k6 := h.1.c6; have k7 := h.1.c7; have k8 := h.1.c8; have k9 := h.1.c9; have k10 := h.1.c10; go_simp; try with_reducible rfl
    simp only [pA, pB, pC, pD]
    refine tk 8 rfl ?v_8_116 ?hy_8_116 ?r_8_116
    case hy_8_116 => intro w h; have k0 := h.1.c0; have k1 := h.1.c1; have k3 := h.1.c3; have k4 := h.1.c4; have k6 := h.1.c6; have k7 := h.1.c7; have k8 := h.1.c8; have k9 := h.1.c9; have k10 := h.1.c10; go_simp; try with_reducible rfl
    simp only [pA, pB, pC, pD]
    refine tk 9 rfl ?v_9_117 ?hy_9_117 ?r_9_117
    case hy_9_117 => intro w h; have k0 := h.1.c0; have k1 := h.1.c1; have k3 := h.1.c3; have k4 := h.1.c4; have k6 := h.1.c6; have k7 := h.1.c7; have k8 := h.1.c8; have k9 := h.1.c9; have k10 := h.1.c10; go_simp; try with_reducible rfl
    simp only [pA, pB, pC, pD]
    refine tk 12 rfl ?v_12_118 ?hy_12_118 ?r_12_118
    case hy_12_118 => intro w h; have k0 := h.1.c0; have k1 := h.1.c1; have k3 := h.1.c3; have k4 := h.1.c4; have k6 := h.1.c6; have k7 := h.1.c7; have k8 := h.1.c8; have k9 := h.1.c9; have k10 := h.1.c10; go_simp; try with_reducible rfl
    simp only [pA, pB, pC, pD]
    refine tk 13 rfl ?v_13_119 ?hy_13_119 ?r_13_119
    case hy_13_119 => intro w h; have k0 := h.1.c0; have k1 := h.1.c1; have k3 := h.1.c3; have k4 := h.1.c4; have k6 := h.1.c6; have k7 := h.1.c7; have k8 := h.1.c8; have k9 := h.1.c9; have k10 := h.1.c10; go_simp; try with_reducible rfl
    simp only [pA, pB, pC, pD]
    refine tk 16 rfl ?v_16_120 ?hy_16_120 ?r_16_120
    case hy_16_120 => intro w h; have k0 := h.1.c0; have k1 := h.1.c1; have k3 := h.1.c3; have k4 := h.1.c4; have k6 := h.1.c6; have k7 := h.1.c7; have k8 := h.1.c8; have k9 := h.1.c9; have k10 := h.1.c10; go_simp; try with_reducible rfl
    simp only [pA, pB, pC, pD]
    refine tk 17 rfl ?v_17_121 ?hy_17_121 ?r_17_121
    case hy_17_121 => intro w h; have k0 := h.1.c0; have k1 := h.1.c1; have k3 := h.1.c3; have k4 := h.1.c4; have k6 := h.1.c6; have k7 := h.1.c7; have k8 := h.1.c8; have k9 := h.1.c9; have k10 := h.1.c10; go_simp; try with_reducible rfl
    simp only [pA, pB, pC, pD]
    refine tk 20 rfl ?v_20_122 ?hy_20_122 ?r_20_122
    case hy_20_122 => intro w h; have k0 := h.1.c0; have k1 := h.1.c1; have k3 := h.1.c3; have k4 := h.1.c4; have k6 := h.1.c6; have k7 := h.1.c7; have k8 := h.1.c8; have k9 := h.1.c9; have k10 := h.1.c10; go_simp; try with_reducible rfl
    simp only [pA, pB, pC, pD]
    refine tk 21 rfl ?v_21_123 ?hy_21_123 ?r_21_123
    case hy_21_123 => intro w h; have k0 := h.1.c0; have k1 := h.1.c1; have k3 := h.1.c3; have k4 := h.1.c4; have k6 := h.1.c6; have k7 := h.1.c7; have k8 := h.1.c8; have k9 := h.1.c9; have k10 := h.1.c10; go_simp; try with_reducible rfl
    simp only [pA, pB, pC, pD]
    refine tk 24 rfl ?v_24_124 ?hy_24_124 ?r_24_124
    case hy_24_124 => intro w h; have k0 := h.1.c0; have k1 := h.1.c1; have k3 := h.1.c3; have k4 := h.1.c4; have k6 := h.1.c6; have k7 := h.1.c7; have k8 := h.1.c8; have k9 := h.1.c9; have k10 := h.1.c10; go_simp; try with_reducible rfl
    simp only [pA, pB, pC, pD]
    refine tk 25 rfl ?v_25_125 ?hy_25_125 ?r_25_125
    case hy_25_125 => intro w h; have k0 := h.1.c0; have k1 := h.1.c1; have k3 := h.1.c3; have k4 := h.1.c4; have k6 := h.1.c6; have k7 := h.1.c7; have k8 := h.1.c8; have k9 := h.1.c9; have k10 := h.1.c10; go_simp; try with_reducible rfl
    simp only [pA, pB, pC, pD]
    refine wpAnyH_ready (rs := [3]) (by kernel_rfl) (by simp) ?_
    refine AllReadyH.cons rfl (fun K hK => ?_) AllReadyH.nil
    go_simp
    go_at_call 14
    refine (pair_any [99, 117, 114] s.cur _ (by decide) HXS.out.1).mono ?_
    rintro x wn ⟨rfl, hb⟩
    go_wp2_with fail
    refine hK.out _ _ ⟨hHeld.1.below hb, Below.next hHeld.2 hb⟩ (fun hHeld => ?_)
    clear hK K hb
    refine wpAnyH_ready (rs := [6]) (by kernel_rfl) (by simp) ?_
    refine AllReadyH.cons rfl (fun K hK => ?_) AllReadyH.nil
    go_simp
    go_at_call 14
    refine (pair_any [116, 97, 120] s.tax _ (by decide) HXS.out.2.1).mono ?_
    rintro x wn ⟨rfl, hb⟩
    go_wp2_with fail
    refine hK.out _ _ ⟨hHeld.1.below hb, Below.next hHeld.2 hb⟩ (fun hHeld => ?_)
    clear hK K hb
    refine tk 7 rfl ?v_7_126 ?hy_7_126 ?r_7_126
    case hy_7_126 => intro w h; have k0 := h.1.c0; have k1 := h.1.c1; have k3 := h.1.c3; have k4 := h.1.c4; have k6 := h.1.c6; have k7 := h.1.c7; have k8 := h.1.c8; have k9 := h.1.c9; have k10 := h.1.c10; go_simp; try with_reducible rfl
    simp only [pA, pB, pC, pD]
    refine wpAnyH_ready (rs := [10]) (by kernel_rfl) (by simp) ?_
    refine AllReadyH.cons rfl (fun K hK => ?_) AllReadyH.nil
    go_simp
    go_at_call 14
    refine (pair_any [112, 97, 105, 100] s.paid _ (by decide) HXS.out.2.2.1).mono ?_
    rintro x wn ⟨rfl, hb⟩
    go_wp2_with fail
    refine hK.out _ _ ⟨hHeld.1.below hb, Below.next hHeld.2 hb⟩ (fun hHeld => ?_)
    clear hK K hb
    refine tk 11 rfl ?v_11_127 ?hy_11_127 ?r_11_127
    case hy_11_127 => intro w h; have k0 := h.1.c0; have k1 := h.1.c1; have k3 := h.1.c3; have k4 := h.1.c4; have k6 := h.1.c6; have k7 := h.1.c7; have k8 := h.1.c8; have k9 := h.1.c9; have k10 := h.1.c10; go_simp; try with_reducible rfl
    simp only [pA, pB, pC, pD]
    refine wpAnyH_ready (rs := [14]) (by kernel_rfl) (by simp) ?_
    refine AllReadyH.cons rfl (fun K hK => ?_) AllReadyH.nil
    go_simp
    go_at_call 14
    refine (pair_any [114, 101, 102, 117, 110, 100, 101, 100] s.refunded _ (by decide) HXS.out.2.2.2.1).mono ?_
    rintro x wn ⟨rfl, hb⟩
    go_wp2_with fail
    refine hK.out _ _ ⟨hHeld.1.below hb, Below.next hHeld.2 hb⟩ (fun hHeld => ?_)
    clear hK K hb
    refine tk 15 rfl ?v_15_128 ?hy_15_128 ?r_15_128
    case hy_15_128 => intro w h; have k0 := h.1.c0; have k1 := h.1.c1; have k3 := h.1.c3; have k4 := h.1.c4; have k6 := h.1.c6; have k7 := h.1.c7; have k8 := h.1.c8; have k9 := h.1.c9; have k10 := h.1.c10; go_simp; try with_reducible rfl
    simp only [pA, pB, pC, pD]
    refine wpAnyH_ready (rs := [18]) (by kernel_rfl) (by simp) ?_
    refine AllReadyH.cons rfl (fun K hK => ?_) AllReadyH.nil
    go_simp
    go_at_call 14
    refine (pair_any [101, 118, 101, 110, 116, 115] s.events _ (by decide) HXS.out.2.2.2.2.1).mono ?_
    rintro x wn ⟨rfl, hb⟩
    go_wp2_with fail
    refine hK.out _ _ ⟨hHeld.1.below hb, Below.next hHeld.2 hb⟩ (fun hHeld => ?_)
    clear hK K hb
    refine tk 19 rfl ?v_19_129 ?hy_19_129 ?r_19_129
    case hy_19_129 => intro w h; have k0 := h.1.c0; have k1 := h.1.c1; have k3 := h.1.c3; have k4 := h.1.c4; have k6 := h.1.c6; have k7 := h.1.c7; have k8 := h.1.c8; have k9 := h.1.c9; have k10 := h.1.c10; go_simp; try with_reducible rfl
    simp only [pA, pB, pC, pD]
    refine wpAnyH_ready (rs := [22]) (by kernel_rfl) (by simp) ?_
    refine AllReadyH.cons rfl (fun K hK => ?_) AllReadyH.nil
    go_simp
    go_at_call 14
    refine (pair_any [114, 101, 102, 117, 115, 101, 100] s.refused _ (by decide) HXS.out.2.2.2.2.2.1).mono ?_
    rintro x wn ⟨rfl, hb⟩
    go_wp2_with fail
    refine hK.out _ _ ⟨hHeld.1.below hb, Below.next hHeld.2 hb⟩ (fun hHeld => ?_)
    clear hK K hb
    refine tk 23 rfl ?v_23_130 ?hy_23_130 ?r_23_130
    case hy_23_130 => intro w h; have k0 := h.1.c0; have k1 := h.1.c1; have k3 := h.1.c3; have k4 := h.1.c4; have k6 := h.1.c6; have k7 := h.1.c7; have k8 := h.1.c8; have k9 := h.1.c9; have k10 := h.1.c10; go_simp; try with_reducible rfl
    simp only [pA, pB, pC, pD]
    refine wpAnyH_ready (rs := [26]) (by kernel_rfl) (by simp) ?_
    refine AllReadyH.cons rfl (fun K hK => ?_) AllReadyH.nil
    go_simp
    go_at_call 14
    refine (pair_any [115, 116, 97, 109, 112] s.stamp _ (by decide) HXS.out.2.2.2.2.2.2).mono ?_
    rintro x wn ⟨rfl, hb⟩
    go_wp2_with fail
    refine hK.out _ _ ⟨hHeld.1.below hb, Below.next hHeld.2 hb⟩ (fun hHeld => ?_)
    clear hK K hb
    refine tk 27 rfl ?v_27_131 ?hy_27_131 ?r_27_131
    case hy_27_131 => intro w h; have k0 := h.1.c0; have k1 := h.1.c1; have k3 := h.1.c3; have k4 := h.1.c4; have k6 := h.1.c6; have k7 := h.1.c7; have k8 := h.1.c8; have k9 := h.1.c9; have k10 := h.1.c10; go_simp; try with_reducible rfl
    simp only [pA, pB, pC, pD]
    refine tk 28 rfl ?v_28_132 ?hy_28_132 ?r_28_132
    case hy_28_132 => intro w h; have k0 := h.1.c0; have k1 := h.1.c1; have k3 := h.1.c3; have k4 := h.1.c4; have k6 := h.1.c6; have k7 := h.1.c7; have k8 := h.1.c8; have k9 := h.1.c9; have k10 := h.1.c10; go_simp; try with_reducible rfl
    simp only [pA, pB, pC, pD]
    refine tk 29 rfl ?v_29_133 ?hy_29_133 ?r_29_133
    case hy_29_133 => intro w h; have k0 := h.1.c0; have k1 := h.1.c1; have k3 := h.1.c3; have k4 := h.1.c4; have k6 := h.1.c6; have k7 := h.1.c7; have k8 := h.1.c8; have k9 := h.1.c9; have k10 := h.1.c10; go_simp; try with_reducible rfl
    simp only [pA, pB, pC, pD]
    refine wpAnyH_done (by kernel_rfl) ?_ _
    have HW8 := Lib.hid hHeld
    clear hHeld HE5 ec1 ec2 ec3 ec4 ec5 ec6 eO7
    have c11 := HW8.out.1.c11
    have c5 : wn.cell? ⟨w.heap.size, 5, none⟩ = some (.slice oa s.lines.length cap) := HW8.out.1.cell 5
    by_cases hwe : s.who = []
    · have t1 : s.who.isEmpty = true := by rw [hwe]; rfl
      have t2 : (s.who != []) = false := by rw [hwe]; rfl
      rw [show whoPart s.who = [] by rw [hwe]; rfl, List.append_nil] at HSO
      have ho8 : O7.length ≤ 400 := by omega
      clear hwe
      go_wp2
      clear t1 t2
      go_loopw [4, 68] (fun ov iv wr => ∃ (k : Nat), k ≤ s.lines.length ∧ iv = .int .i64 k ∧ ov = .string ⟨(O7 ++ lnParts (s.lines.take k)).toArray⟩ ∧ Hid (StBlk wr w.heap.size s (.slice oa s.lines.length cap) ∧ Below w.heap.size w wr)) (fun _ iv _ => s.lines.length - (intOf iv).toNat)
      case atStart => exact ⟨0, Nat.zero_le _, rfl, by simp [lnParts], Lib.hid ⟨HW8.out.1, HW8.out.2⟩⟩
      case round =>
        clear HW8
        obtain ⟨k, hk, rfl, rfl, HW⟩ := hrel
        by_cases hlt : k < s.lines.length
        · obtain ⟨l, hl, _, hmem⟩ := nth s.lines k hlt
          have q1 : (k : Int) < (s.lines.length : Int) := by omega
          obtain ⟨b, off, rfl, hcell⟩ := HC.out k l hl
          have HCE := Lib.hid (range_later hcell HW.out.2)
          have c5 : wr.cell? ⟨w.heap.size, 5, none⟩ = some (.slice (some ⟨b, off, none⟩) s.lines.length cap) := HW.out.1.cell 5
          have hlo := HSM.out.lines l hmem
          have hi1 := itoa_le _ hlo.item.1 hlo.item.2; have hi2 := itoa_le _ hlo.price.1 hlo.price.2; have hi3 := itoa_le _ hlo.qty.1 hlo.qty.2; have hi4 := itoa_le _ hlo.shipped.1 hlo.shipped.2
          have hot : (O7 ++ lnParts (s.lines.take k)).length ≤ 2000 := by
            have h1 := lnParts_len (s.lines.take k) fun x hx => HSM.out.lines x (List.mem_of_mem_take hx)
            have h2 := HSM.out.few
            rw [List.length_append]; simp only [List.length_take] at h1; omega
          have HST := Lib.hid (show O7 ++ lnParts (s.lines.take (k + 1)) = (O7 ++ lnParts (s.lines.take k)) ++ (32 :: lnWord l) by rw [lnParts_take _ _ _ hl, List.append_assoc])
          obtain ⟨O, hO⟩ : ∃ O, O = O7 ++ lnParts (s.lines.take k) := ⟨_, rfl⟩
          rw [← hO] at HST hot ⊢
          obtain ⟨b1, hb1⟩ : ∃ m, m = [32] ++ Lib.itoa l.item := ⟨_, rfl⟩
          have lb1 : b1.length = ([32] : List UInt8).length + (Lib.itoa l.item : List UInt8).length := by rw [hb1, List.length_append]
          obtain ⟨b2, hb2⟩ : ∃ m, m = b1 ++ [58] := ⟨_, rfl⟩
          have lb2 : b2.length = (b1 : List UInt8).length + ([58] : List UInt8).length := by rw [hb2, List.length_append]
          obtain ⟨b3, hb3⟩ : ∃ m, m = b2 ++ Lib.itoa l.price := ⟨_, rfl⟩
          have lb3 : b3.length = (b2 : List UInt8).length + (Lib.itoa l.price : List UInt8).length := by rw [hb3, List.length_append]
          obtain ⟨b4, hb4⟩ : ∃ m, m = b3 ++ [42] := ⟨_, rfl⟩
          have lb4 : b4.length = (b3 : List UInt8).length + ([42] : List UInt8).length := by rw [hb4, List.length_append]
          obtain ⟨b5, hb5⟩ : ∃ m, m = b4 ++ Lib.itoa l.qty := ⟨_, rfl⟩
          have lb5 : b5.length = (b4 : List UInt8).length + (Lib.itoa l.qty : List UInt8).length := by rw [hb5, List.length_append]
          obtain ⟨b6, hb6⟩ : ∃ m, m = b5 ++ [45] := ⟨_, rfl⟩
          have lb6 : b6.length = (b5 : List UInt8).length + ([45] : List UInt8).length := by rw [hb6, List.length_append]
          obtain ⟨b7, hb7⟩ : ∃ m, m = b6 ++ Lib.itoa l.shipped := ⟨_, rfl⟩
          have lb7 : b7.length = (b6 : List UInt8).length + (Lib.itoa l.shipped : List UInt8).length := by rw [hb7, List.length_append]
          obtain ⟨b8, hb8⟩ : ∃ m, m = O ++ b7 := ⟨_, rfl⟩
          have lb8 : b8.length = (O : List UInt8).length + (b7 : List UInt8).length := by rw [hb8, List.length_append]
          simp only [List.length_cons, List.length_nil] at lb1 lb2 lb3 lb4 lb5 lb6 lb7 lb8
          have eb1 := str_add _ _ _ hb1 (by omega)
          have eb2 := str_add _ _ _ hb2 (by omega)
          have eb3 := str_add _ _ _ hb3 (by omega)
          have eb4 := str_add _ _ _ hb4 (by omega)
          have eb5 := str_add _ _ _ hb5 (by omega)
          have eb6 := str_add _ _ _ hb6 (by omega)
          have eb7 := str_add _ _ _ hb7 (by omega)
          have eb8 := str_add _ _ _ hb8 (by omega)
          have HB8 := Lib.hid (show O ++ (32 :: lnWord l) = b8 by rw [hb8, hb7, hb6, hb5, hb4, hb3, hb2, hb1]; simp [lnWord])
          have HLO := Lib.hid hlo
          clear hl hmem hcell hlo hi1 hi2 hi3 hi4 hot hO hb1 hb2 hb3 hb4 hb5 hb6 hb7 hb8 lb1 lb2 lb3 lb4 lb5 lb6 lb7 lb8
          go_wp2_with (with_reducible refine wpList_load_ln rfl (.tmp 74) rfl b (off + k * 4) l rfl HCE.out ?_)
          have hA := (show Below wr.heap.size wr (wr.alloc (.cells #[.int .i64 l.item, .int .i64 l.price, .int .i64 l.qty, .int .i64 l.shipped] 40)) from (Below.refl _ _).alloc (Nat.le_refl _) _)
          have HA := Lib.hid (show ((wr.alloc (.cells #[.int .i64 l.item, .int .i64 l.price, .int .i64 l.qty, .int .i64 l.shipped] 40)).drew.cell? ⟨wr.heap.size, 0, none⟩ = some (.int .i64 l.item) ∧ (wr.alloc (.cells #[.int .i64 l.item, .int .i64 l.price, .int .i64 l.qty, .int .i64 l.shipped] 40)).drew.cell? ⟨wr.heap.size, 1, none⟩ = some (.int .i64 l.price) ∧ (wr.alloc (.cells #[.int .i64 l.item, .int .i64 l.price, .int .i64 l.qty, .int .i64 l.shipped] 40)).drew.cell? ⟨wr.heap.size, 2, none⟩ = some (.int .i64 l.qty) ∧ (wr.alloc (.cells #[.int .i64 l.item, .int .i64 l.price, .int .i64 l.qty, .int .i64 l.shipped] 40)).drew.cell? ⟨wr.heap.size, 3, none⟩ = some (.int .i64 l.shipped) ∧ Below wr.heap.size wr (wr.alloc (.cells #[.int .i64 l.item, .int .i64 l.price, .int .i64 l.qty, .int .i64 l.shipped] 40)).drew) from ⟨(World.cell?_alloc_new _ _ _ _).trans rfl, (World.cell?_alloc_new _ _ _ _).trans rfl, (World.cell?_alloc_new _ _ _ _).trans rfl, (World.cell?_alloc_new _ _ _ _).trans rfl, Below.next hA (below_drewN' _ 1)⟩)
          clear hA
          refine wp_region_held_drew (S := fun w' => w'.cell? ⟨wr.heap.size, 0, none⟩ = some (.int .i64 l.item) ∧ w'.cell? ⟨wr.heap.size, 1, none⟩ = some (.int .i64 l.price) ∧ w'.cell? ⟨wr.heap.size, 2, none⟩ = some (.int .i64 l.qty) ∧ w'.cell? ⟨wr.heap.size, 3, none⟩ = some (.int .i64 l.shipped) ∧ Below wr.heap.size wr w') (by kernel_rfl) HA.out (fun hHeld => ?_)
          refine tk 0 rfl ?v_0_134 ?hy_0_134 ?r_0_134
          case hy_0_134 => intro w hSw; obtain ⟨k0, k1, k2, k3, _⟩ := hSw; go_simp; try with_reducible rfl
          simp only [pA, pB, pC, pD]
          refine tk 1 rfl ?v_1_135 ?hy_1_135 ?r_1_135
          case hy_1_135 => intro w hSw; obtain ⟨k0, k1, k2, k3, _⟩ := hSw; go_simp; try with_reducible rfl
          simp only [pA, pB, pC, pD]
          refine tk 2 rfl ?v_2_136 ?hy_2_136 ?r_2_136
          case hy_2_136 => intro w hSw; obtain ⟨k0, k1, k2, k3, _⟩ := hSw; go_simp; try with_reducible rfl
          simp only [pA, pB, pC, pD]
          refine tk 6 rfl ?v_6_137 ?hy_6_137 ?r_6_137
          case hy_6_137 => intro w hSw; obtain ⟨k0, k1, k2, k3, _⟩ := hSw; go_simp; try with_reducible rfl
          simp only [pA, pB, pC, pD]
          refine tk 7 rfl ?v_7_138 ?hy_7_138 ?r_7_138
          case hy_7_138 => intro w hSw; obtain ⟨k0, k1, k2, k3, _⟩ := hSw; go_simp; try with_reducible rfl
          simp only [pA, pB, pC, pD]
          refine tk 11 rfl ?v_11_139 ?hy_11_139 ?r_11_139
          case hy_11_139 => intro w hSw; obtain ⟨k0, k1, k2, k3, _⟩ := hSw; go_simp; try with_reducible rfl
          simp only [pA, pB, pC, pD]
          refine tk 12 rfl ?v_12_140 ?hy_12_140 ?r_12_140
          case hy_12_140 => intro w hSw; obtain ⟨k0, k1, k2, k3, _⟩ := hSw; go_simp; try with_reducible rfl
          simp only [pA, pB, pC, pD]
          refine tk 16 rfl ?v_16_141 ?hy_16_141 ?r_16_141
          case hy_16_141 => intro w hSw; obtain ⟨k0, k1, k2, k3, _⟩ := hSw; go_simp; try with_reducible rfl
          simp only [pA, pB, pC, pD]
          refine tk 17 rfl ?v_17_142 ?hy_17_142 ?r_17_142
          case hy_17_142 => intro w hSw; obtain ⟨k0, k1, k2, k3, _⟩ := hSw; go_simp; try with_reducible rfl
          simp only [pA, pB, pC, pD]
          refine wpAnyH_ready (rs := [3]) (by kernel_rfl) (by simp) ?_
          refine AllReadyH.cons rfl (fun K hK => ?_) AllReadyH.nil
          go_simp
          go_at_call 12
          refine (show_any l.item _ HLO.out.item.1 HLO.out.item.2).mono ?_
          rintro x wn ⟨rfl, hb⟩
          go_wp2_with fail
          refine hK.out _ _ ⟨cell_later hb hHeld.1, cell_later hb hHeld.2.1, cell_later hb hHeld.2.2.1, cell_later hb hHeld.2.2.2.1, Below.next hHeld.2.2.2.2 hb⟩ (fun hHeld => ?_)
          clear hK K hb
          refine tk 4 rfl ?v_4_143 ?hy_4_143 ?r_4_143
          case hy_4_143 => intro w hSw; obtain ⟨k0, k1, k2, k3, _⟩ := hSw; go_simp; try with_reducible rfl
          simp only [pA, pB, pC, pD]
          refine tk 5 rfl ?v_5_144 ?hy_5_144 ?r_5_144
          case hy_5_144 => intro w hSw; obtain ⟨k0, k1, k2, k3, _⟩ := hSw; go_simp; try with_reducible rfl
          simp only [pA, pB, pC, pD]
          refine wpAnyH_ready (rs := [8]) (by kernel_rfl) (by simp) ?_
          refine AllReadyH.cons rfl (fun K hK => ?_) AllReadyH.nil
          go_simp
          go_at_call 12
          refine (show_any l.price _ HLO.out.price.1 HLO.out.price.2).mono ?_
          rintro x wn ⟨rfl, hb⟩
          go_wp2_with fail
          refine hK.out _ _ ⟨cell_later hb hHeld.1, cell_later hb hHeld.2.1, cell_later hb hHeld.2.2.1, cell_later hb hHeld.2.2.2.1, Below.next hHeld.2.2.2.2 hb⟩ (fun hHeld => ?_)
          clear hK K hb
          refine tk 9 rfl ?v_9_145 ?hy_9_145 ?r_9_145
          case hy_9_145 => intro w hSw; obtain ⟨k0, k1, k2, k3, _⟩ := hSw; go_simp; try with_reducible rfl
          simp only [pA, pB, pC, pD]
          refine tk 10 rfl ?v_10_146 ?hy_10_146 ?r_10_146
          case hy_10_146 => intro w hSw; obtain ⟨k0, k1, k2, k3, _⟩ := hSw; go_simp; try with_reducible rfl
          simp only [pA, pB, pC, pD]
          refine wpAnyH_ready (rs := [13]) (by kernel_rfl) (by simp) ?_
          refine AllReadyH.cons rfl (fun K hK => ?_) AllReadyH.nil
          go_simp
          go_at_call 12
          refine (show_any l.qty _ HLO.out.qty.1 HLO.out.qty.2).mono ?_
          rintro x wn ⟨rfl, hb⟩
          go_wp2_with fail
          refine hK.out _ _ ⟨cell_later hb hHeld.1, cell_later hb hHeld.2.1, cell_later hb hHeld.2.2.1, cell_later hb hHeld.2.2.2.1, Below.next hHeld.2.2.2.2 hb⟩ (fun hHeld => ?_)
          clear hK K hb
          refine tk 14 rfl ?v_14_147 ?hy_14_147 ?r_14_147
          case hy_14_147 => intro w hSw; obtain ⟨k0, k1, k2, k3, _⟩ := hSw; go_simp; try with_reducible rfl
          simp only [pA, pB, pC, pD]
          refine tk 15 rfl ?v_15_148 ?hy_15_148 ?r_15_148
          case hy_15_148 => intro w hSw; obtain ⟨k0, k1, k2, k3, _⟩ := hSw; go_simp; try with_reducible rfl
          simp only [pA, pB, pC, pD]
          refine wpAnyH_ready (rs := [18]) (by kernel_rfl) (by simp) ?_
          refine AllReadyH.cons rfl (fun K hK => ?_) AllReadyH.nil
          go_simp
          go_at_call 12
          refine (show_any l.shipped _ HLO.out.shipped.1 HLO.out.shipped.2).mono ?_
          rintro x wn ⟨rfl, hb⟩
          go_wp2_with fail
          refine hK.out _ _ ⟨cell_later hb hHeld.1, cell_later hb hHeld.2.1, cell_later hb hHeld.2.2.1, cell_later hb hHeld.2.2.2.1, Below.next hHeld.2.2.2.2 hb⟩ (fun hHeld => ?_)
          clear hK K hb
          refine tk 19 rfl ?v_19_149 ?hy_19_149 ?r_19_149
          case hy_19_149 => intro w hSw; obtain ⟨k0, k1, k2, k3, _⟩ := hSw; go_simp; try with_reducible rfl
          simp only [pA, pB, pC, pD]
          refine tk 20 rfl ?v_20_150 ?hy_20_150 ?r_20_150
          case hy_20_150 => intro w hSw; obtain ⟨k0, k1, k2, k3, _⟩ := hSw; go_simp; try with_reducible rfl
          simp only [pA, pB, pC, pD]
          refine tk 21 rfl ?v_21_151 ?hy_21_151 ?r_21_151
          case hy_21_151 => intro w hSw; obtain ⟨k0, k1, k2, k3, _⟩ := hSw; go_simp; try with_reducible rfl
          simp only [pA, pB, pC, pD]
          refine wpAnyH_done (by kernel_rfl) ?_ _
          have HWN := Lib.hid hHeld.2.2.2.2
          clear hHeld HA
          go_wp2
          go_roundw
          case rel => exact ⟨k + 1, by omega, by go_num, by rw [HST.out, HB8.out], Lib.hid ⟨HW.out.1.below HWN.out, Below.next HW.out.2 HWN.out⟩⟩
          case measure => first | (simp [intOf]; done) | (simp [intOf]; omega)
        · obtain rfl : k = s.lines.length := by omega
          rw [List.take_length]
          have HFI := Lib.hid (show stateT s = (O7 ++ lnParts s.lines, 0) by rw [hfin.out, HSO.out])
          go_wp2
          go_ret2
          exact ⟨by rw [HFI.out]; rfl, HW.out.2⟩
    · have t1 : s.who.isEmpty = false := by simpa using hwe
      have t2 : (s.who != []) = true := by rw [bne_iff_ne]; exact hwe
      have hwl := HSM.out.who
      obtain ⟨u1, hu1⟩ : ∃ m, m = [32, 119, 104, 111, 61] ++ s.who := ⟨_, rfl⟩
      have lu1 : u1.length = ([32, 119, 104, 111, 61] : List UInt8).length + (s.who : List UInt8).length := by rw [hu1, List.length_append]
      obtain ⟨u2, hu2⟩ : ∃ m, m = O7 ++ u1 := ⟨_, rfl⟩
      have lu2 : u2.length = (O7 : List UInt8).length + (u1 : List UInt8).length := by rw [hu2, List.length_append]
      simp only [List.length_cons, List.length_nil] at lu1 lu2
      have eu1 := str_add _ _ _ hu1 (by omega)
      have eu2 := str_add _ _ _ hu2 (by omega)
      rw [show O7 ++ whoPart s.who = u2 by rw [hu2, hu1, whoPart, if_neg hwe]] at HSO
      have ho8 : u2.length ≤ 400 := by omega
      clear hwe hu1 hu2 lu1 lu2 hwl
      go_wp2
      clear t1 t2
      go_loopw [4, 68] (fun ov iv wr => ∃ (k : Nat), k ≤ s.lines.length ∧ iv = .int .i64 k ∧ ov = .string ⟨(u2 ++ lnParts (s.lines.take k)).toArray⟩ ∧ Hid (StBlk wr w.heap.size s (.slice oa s.lines.length cap) ∧ Below w.heap.size w wr)) (fun _ iv _ => s.lines.length - (intOf iv).toNat)
      case atStart => exact ⟨0, Nat.zero_le _, rfl, by simp [lnParts], Lib.hid ⟨HW8.out.1, HW8.out.2⟩⟩
      case round =>
        clear HW8
        obtain ⟨k, hk, rfl, rfl, HW⟩ := hrel
        by_cases hlt : k < s.lines.length
        · obtain ⟨l, hl, _, hmem⟩ := nth s.lines k hlt
          have q1 : (k : Int) < (s.lines.length : Int) := by omega
          obtain ⟨b, off, rfl, hcell⟩ := HC.out k l hl
          have HCE := Lib.hid (range_later hcell HW.out.2)
          have c5 : wr.cell? ⟨w.heap.size, 5, none⟩ = some (.slice (some ⟨b, off, none⟩) s.lines.length cap) := HW.out.1.cell 5
          have hlo := HSM.out.lines l hmem
          have hi1 := itoa_le _ hlo.item.1 hlo.item.2; have hi2 := itoa_le _ hlo.price.1 hlo.price.2; have hi3 := itoa_le _ hlo.qty.1 hlo.qty.2; have hi4 := itoa_le _ hlo.shipped.1 hlo.shipped.2
          have hot : (u2 ++ lnParts (s.lines.take k)).length ≤ 2000 := by
            have h1 := lnParts_len (s.lines.take k) fun x hx => HSM.out.lines x (List.mem_of_mem_take hx)
            have h2 := HSM.out.few
            rw [List.length_append]; simp only [List.length_take] at h1; omega
          have HST := Lib.hid (show u2 ++ lnParts (s.lines.take (k + 1)) = (u2 ++ lnParts (s.lines.take k)) ++ (32 :: lnWord l) by rw [lnParts_take _ _ _ hl, List.append_assoc])
          obtain ⟨O, hO⟩ : ∃ O, O = u2 ++ lnParts (s.lines.take k) := ⟨_, rfl⟩
          rw [← hO] at HST hot ⊢
          obtain ⟨b1, hb1⟩ : ∃ m, m = [32] ++ Lib.itoa l.item := ⟨_, rfl⟩
          have lb1 : b1.length = ([32] : List UInt8).length + (Lib.itoa l.item : List UInt8).length := by rw [hb1, List.length_append]
          obtain ⟨b2, hb2⟩ : ∃ m, m = b1 ++ [58] := ⟨_, rfl⟩
          have lb2 : b2.length = (b1 : List UInt8).length + ([58] : List UInt8).length := by rw [hb2, List.length_append]
          obtain ⟨b3, hb3⟩ : ∃ m, m = b2 ++ Lib.itoa l.price := ⟨_, rfl⟩
          have lb3 : b3.length = (b2 : List UInt8).length + (Lib.itoa l.price : List UInt8).length := by rw [hb3, List.length_append]
          obtain ⟨b4, hb4⟩ : ∃ m, m = b3 ++ [42] := ⟨_, rfl⟩
          have lb4 : b4.length = (b3 : List UInt8).length + ([42] : List UInt8).length := by rw [hb4, List.length_append]
          obtain ⟨b5, hb5⟩ : ∃ m, m = b4 ++ Lib.itoa l.qty := ⟨_, rfl⟩
          have lb5 : b5.length = (b4 : List UInt8).length + (Lib.itoa l.qty : List UInt8).length := by rw [hb5, List.length_append]
          obtain ⟨b6, hb6⟩ : ∃ m, m = b5 ++ [45] := ⟨_, rfl⟩
          have lb6 : b6.length = (b5 : List UInt8).length + ([45] : List UInt8).length := by rw [hb6, List.length_append]
          obtain ⟨b7, hb7⟩ : ∃ m, m = b6 ++ Lib.itoa l.shipped := ⟨_, rfl⟩
          have lb7 : b7.length = (b6 : List UInt8).length + (Lib.itoa l.shipped : List UInt8).length := by rw [hb7, List.length_append]
          obtain ⟨b8, hb8⟩ : ∃ m, m = O ++ b7 := ⟨_, rfl⟩
          have lb8 : b8.length = (O : List UInt8).length + (b7 : List UInt8).length := by rw [hb8, List.length_append]
          simp only [List.length_cons, List.length_nil] at lb1 lb2 lb3 lb4 lb5 lb6 lb7 lb8
          have eb1 := str_add _ _ _ hb1 (by omega)
          have eb2 := str_add _ _ _ hb2 (by omega)
          have eb3 := str_add _ _ _ hb3 (by omega)
          have eb4 := str_add _ _ _ hb4 (by omega)
          have eb5 := str_add _ _ _ hb5 (by omega)
          have eb6 := str_add _ _ _ hb6 (by omega)
          have eb7 := str_add _ _ _ hb7 (by omega)
          have eb8 := str_add _ _ _ hb8 (by omega)
          have HB8 := Lib.hid (show O ++ (32 :: lnWord l) = b8 by rw [hb8, hb7, hb6, hb5, hb4, hb3, hb2, hb1]; simp [lnWord])
          have HLO := Lib.hid hlo
          clear hl hmem hcell hlo hi1 hi2 hi3 hi4 hot hO hb1 hb2 hb3 hb4 hb5 hb6 hb7 hb8 lb1 lb2 lb3 lb4 lb5 lb6 lb7 lb8
          go_wp2_with (with_reducible refine wpList_load_ln rfl (.tmp 74) rfl b (off + k * 4) l rfl HCE.out ?_)
          have hA := (show Below wr.heap.size wr (wr.alloc (.cells #[.int .i64 l.item, .int .i64 l.price, .int .i64 l.qty, .int .i64 l.shipped] 40)) from (Below.refl _ _).alloc (Nat.le_refl _) _)
          have HA := Lib.hid (show ((wr.alloc (.cells #[.int .i64 l.item, .int .i64 l.price, .int .i64 l.qty, .int .i64 l.shipped] 40)).drew.cell? ⟨wr.heap.size, 0, none⟩ = some (.int .i64 l.item) ∧ (wr.alloc (.cells #[.int .i64 l.item, .int .i64 l.price, .int .i64 l.qty, .int .i64 l.shipped] 40)).drew.cell? ⟨wr.heap.size, 1, none⟩ = some (.int .i64 l.price) ∧ (wr.alloc (.cells #[.int .i64 l.item, .int .i64 l.price, .int .i64 l.qty, .int .i64 l.shipped] 40)).drew.cell? ⟨wr.heap.size, 2, none⟩ = some (.int .i64 l.qty) ∧ (wr.alloc (.cells #[.int .i64 l.item, .int .i64 l.price, .int .i64 l.qty, .int .i64 l.shipped] 40)).drew.cell? ⟨wr.heap.size, 3, none⟩ = some (.int .i64 l.shipped) ∧ Below wr.heap.size wr (wr.alloc (.cells #[.int .i64 l.item, .int .i64 l.price, .int .i64 l.qty, .int .i64 l.shipped] 40)).drew) from ⟨(World.cell?_alloc_new _ _ _ _).trans rfl, (World.cell?_alloc_new _ _ _ _).trans rfl, (World.cell?_alloc_new _ _ _ _).trans rfl, (World.cell?_alloc_new _ _ _ _).trans rfl, Below.next hA (below_drewN' _ 1)⟩)
          clear hA
          refine wp_region_held_drew (S := fun w' => w'.cell? ⟨wr.heap.size, 0, none⟩ = some (.int .i64 l.item) ∧ w'.cell? ⟨wr.heap.size, 1, none⟩ = some (.int .i64 l.price) ∧ w'.cell? ⟨wr.heap.size, 2, none⟩ = some (.int .i64 l.qty) ∧ w'.cell? ⟨wr.heap.size, 3, none⟩ = some (.int .i64 l.shipped) ∧ Below wr.heap.size wr w') (by kernel_rfl) HA.out (fun hHeld => ?_)
          refine tk 0 rfl ?v_0_152 ?hy_0_152 ?r_0_152
          case hy_0_152 => intro w hSw; obtain ⟨k0, k1, k2, k3, _⟩ := hSw; go_simp; try with_reducible rfl
          simp only [pA, pB, pC, pD]
          refine tk 1 rfl ?v_1_153 ?hy_1_153 ?r_1_153
          case hy_1_153 => intro w hSw; obtain ⟨k0, k1, k2, k3, _⟩ := hSw; go_simp; try with_reducible rfl
          simp only [pA, pB, pC, pD]
          refine tk 2 rfl ?v_2_154 ?hy_2_154 ?r_2_154
          case hy_2_154 => intro w hSw; obtain ⟨k0, k1, k2, k3, _⟩ := hSw; go_simp; try with_reducible rfl
          simp only [pA, pB, pC, pD]
          refine tk 6 rfl ?v_6_155 ?hy_6_155 ?r_6_155
          case hy_6_155 => intro w hSw; obtain ⟨k0, k1, k2, k3, _⟩ := hSw; go_simp; try with_reducible rfl
          simp only [pA, pB, pC, pD]
          refine tk 7 rfl ?v_7_156 ?hy_7_156 ?r_7_156
          case hy_7_156 => intro w hSw; obtain ⟨k0, k1, k2, k3, _⟩ := hSw; go_simp; try with_reducible rfl
          simp only [pA, pB, pC, pD]
          refine tk 11 rfl ?v_11_157 ?hy_11_157 ?r_11_157
          case hy_11_157 => intro w hSw; obtain ⟨k0, k1, k2, k3, _⟩ := hSw; go_simp; try with_reducible rfl
          simp only [pA, pB, pC, pD]
          refine tk 12 rfl ?v_12_158 ?hy_12_158 ?r_12_158
          case hy_12_158 => intro w hSw; obtain ⟨k0, k1, k2, k3, _⟩ := hSw; go_simp; try with_reducible rfl
          simp only [pA, pB, pC, pD]
          refine tk 16 rfl ?v_16_159 ?hy_16_159 ?r_16_159
          case hy_16_159 => intro w hSw; obtain ⟨k0, k1, k2, k3, _⟩ := hSw; go_simp; try with_reducible rfl
          simp only [pA, pB, pC, pD]
          refine tk 17 rfl ?v_17_160 ?hy_17_160 ?r_17_160
          case hy_17_160 => intro w hSw; obtain ⟨k0, k1, k2, k3, _⟩ := hSw; go_simp; try with_reducible rfl
          simp only [pA, pB, pC, pD]
          refine wpAnyH_ready (rs := [3]) (by kernel_rfl) (by simp) ?_
          refine AllReadyH.cons rfl (fun K hK => ?_) AllReadyH.nil
          go_simp
          go_at_call 12
          refine (show_any l.item _ HLO.out.item.1 HLO.out.item.2).mono ?_
          rintro x wn ⟨rfl, hb⟩
          go_wp2_with fail
          refine hK.out _ _ ⟨cell_later hb hHeld.1, cell_later hb hHeld.2.1, cell_later hb hHeld.2.2.1, cell_later hb hHeld.2.2.2.1, Below.next hHeld.2.2.2.2 hb⟩ (fun hHeld => ?_)
          clear hK K hb
          refine tk 4 rfl ?v_4_161 ?hy_4_161 ?r_4_161
          case hy_4_161 => intro w hSw; obtain ⟨k0, k1, k2, k3, _⟩ := hSw; go_simp; try with_reducible rfl
          simp only [pA, pB, pC, pD]
          refine tk 5 rfl ?v_5_162 ?hy_5_162 ?r_5_162
          case hy_5_162 => intro w hSw; obtain ⟨k0, k1, k2, k3, _⟩ := hSw; go_simp; try with_reducible rfl
          simp only [pA, pB, pC, pD]
          refine wpAnyH_ready (rs := [8]) (by kernel_rfl) (by simp) ?_
          refine AllReadyH.cons rfl (fun K hK => ?_) AllReadyH.nil
          go_simp
          go_at_call 12
          refine (show_any l.price _ HLO.out.price.1 HLO.out.price.2).mono ?_
          rintro x wn ⟨rfl, hb⟩
          go_wp2_with fail
          refine hK.out _ _ ⟨cell_later hb hHeld.1, cell_later hb hHeld.2.1, cell_later hb hHeld.2.2.1, cell_later hb hHeld.2.2.2.1, Below.next hHeld.2.2.2.2 hb⟩ (fun hHeld => ?_)
          clear hK K hb
          refine tk 9 rfl ?v_9_163 ?hy_9_163 ?r_9_163
          case hy_9_163 => intro w hSw; obtain ⟨k0, k1, k2, k3, _⟩ := hSw; go_simp; try with_reducible rfl
          simp only [pA, pB, pC, pD]
          refine tk 10 rfl ?v_10_164 ?hy_10_164 ?r_10_164
          case hy_10_164 => intro w hSw; obtain ⟨k0, k1, k2, k3, _⟩ := hSw; go_simp; try with_reducible rfl
          simp only [pA, pB, pC, pD]
          refine wpAnyH_ready (rs := [13]) (by kernel_rfl) (by simp) ?_
          refine AllReadyH.cons rfl (fun K hK => ?_) AllReadyH.nil
          go_simp
          go_at_call 12
          refine (show_any l.qty _ HLO.out.qty.1 HLO.out.qty.2).mono ?_
          rintro x wn ⟨rfl, hb⟩
          go_wp2_with fail
          refine hK.out _ _ ⟨cell_later hb hHeld.1, cell_later hb hHeld.2.1, cell_later hb hHeld.2.2.1, cell_later hb hHeld.2.2.2.1, Below.next hHeld.2.2.2.2 hb⟩ (fun hHeld => ?_)
          clear hK K hb
          refine tk 14 rfl ?v_14_165 ?hy_14_165 ?r_14_165
          case hy_14_165 => intro w hSw; obtain ⟨k0, k1, k2, k3, _⟩ := hSw; go_simp; try with_reducible rfl
          simp only [pA, pB, pC, pD]
          refine tk 15 rfl ?v_15_166 ?hy_15_166 ?r_15_166
          case hy_15_166 => intro w hSw; obtain ⟨k0, k1, k2, k3, _⟩ := hSw; go_simp; try with_reducible rfl
          simp only [pA, pB, pC, pD]
          refine wpAnyH_ready (rs := [18]) (by kernel_rfl) (by simp) ?_
          refine AllReadyH.cons rfl (fun K hK => ?_) AllReadyH.nil
          go_simp
          go_at_call 12
          refine (show_any l.shipped _ HLO.out.shipped.1 HLO.out.shipped.2).mono ?_
          rintro x wn ⟨rfl, hb⟩
          go_wp2_with fail
          refine hK.out _ _ ⟨cell_later hb hHeld.1, cell_later hb hHeld.2.1, cell_later hb hHeld.2.2.1, cell_later hb hHeld.2.2.2.1, Below.next hHeld.2.2.2.2 hb⟩ (fun hHeld => ?_)
          clear hK K hb
          refine tk 19 rfl ?v_19_167 ?hy_19_167 ?r_19_167
          case hy_19_167 => intro w hSw; obtain ⟨k0, k1, k2, k3, _⟩ := hSw; go_simp; try with_reducible rfl
          simp only [pA, pB, pC, pD]
          refine tk 20 rfl ?v_20_168 ?hy_20_168 ?r_20_168
          case hy_20_168 => intro w hSw; obtain ⟨k0, k1, k2, k3, _⟩ := hSw; go_simp; try with_reducible rfl
          simp only [pA, pB, pC, pD]
          refine tk 21 rfl ?v_21_169 ?hy_21_169 ?r_21_169
          case hy_21_169 => intro w hSw; obtain ⟨k0, k1, k2, k3, _⟩ := hSw; go_simp; try with_reducible rfl
          simp only [pA, pB, pC, pD]
          refine wpAnyH_done (by kernel_rfl) ?_ _
          have HWN := Lib.hid hHeld.2.2.2.2
          clear hHeld HA
          go_wp2
          go_roundw
          case rel => exact ⟨k + 1, by omega, by go_num, by rw [HST.out, HB8.out], Lib.hid ⟨HW.out.1.below HWN.out, Below.next HW.out.2 HWN.out⟩⟩
          case measure => first | (simp [intOf]; done) | (simp [intOf]; omega)
        · obtain rfl : k = s.lines.length := by omega
          rw [List.take_length]
          have HFI := Lib.hid (show stateT s = (u2 ++ lnParts s.lines, 0) by rw [hfin.out, HSO.out])
          go_wp2
          go_ret2
          exact ⟨by rw [HFI.out]; rfl, HW.out.2⟩
  · have hH2 := HH1.out hs2
    subst hH2
    have t2 : (s.status == 2) = false := by rw [beq_eq_false_iff_ne]; exact hs2
    clear hs2 HH1 HH2
    go_wp2
    clear c1 em3 ep1 em4
    have hks := HSM.out.keys
    simp only [stKeys, List.mem_cons, List.not_mem_nil, or_false, forall_eq_or_imp, forall_eq] at hks
    obtain ⟨x0, x1, x2, x3, x4, x5, x6⟩ := hks
    have y0 := keyPart_len [99, 117, 114] s.cur x0
    have y1 := keyPart_len [116, 97, 120] s.tax x1
    have y2 := keyPart_len [112, 97, 105, 100] s.paid x2
    have y3 := keyPart_len [114, 101, 102, 117, 110, 100, 101, 100] s.refunded x3
    have y4 := keyPart_len [101, 118, 101, 110, 116, 115] s.events x4
    have y5 := keyPart_len [114, 101, 102, 117, 115, 101, 100] s.refused x5
    have y6 := keyPart_len [115, 116, 97, 109, 112] s.stamp x6
    simp only [List.length_cons, List.length_nil] at y0 y1 y2 y3 y4 y5 y6
    obtain ⟨c1, hc1⟩ : ∃ m, m = keyPart [99, 117, 114] s.cur ++ keyPart [116, 97, 120] s.tax := ⟨_, rfl⟩
    have lc1 : c1.length = (keyPart [99, 117, 114] s.cur : List UInt8).length + (keyPart [116, 97, 120] s.tax : List UInt8).length := by rw [hc1, List.length_append]
    obtain ⟨c2, hc2⟩ : ∃ m, m = c1 ++ keyPart [112, 97, 105, 100] s.paid := ⟨_, rfl⟩
    have lc2 : c2.length = (c1 : List UInt8).length + (keyPart [112, 97, 105, 100] s.paid : List UInt8).length := by rw [hc2, List.length_append]
    obtain ⟨c3, hc3⟩ : ∃ m, m = c2 ++ keyPart [114, 101, 102, 117, 110, 100, 101, 100] s.refunded := ⟨_, rfl⟩
    have lc3 : c3.length = (c2 : List UInt8).length + (keyPart [114, 101, 102, 117, 110, 100, 101, 100] s.refunded : List UInt8).length := by rw [hc3, List.length_append]
    obtain ⟨c4, hc4⟩ : ∃ m, m = c3 ++ keyPart [101, 118, 101, 110, 116, 115] s.events := ⟨_, rfl⟩
    have lc4 : c4.length = (c3 : List UInt8).length + (keyPart [101, 118, 101, 110, 116, 115] s.events : List UInt8).length := by rw [hc4, List.length_append]
    obtain ⟨c5, hc5⟩ : ∃ m, m = c4 ++ keyPart [114, 101, 102, 117, 115, 101, 100] s.refused := ⟨_, rfl⟩
    have lc5 : c5.length = (c4 : List UInt8).length + (keyPart [114, 101, 102, 117, 115, 101, 100] s.refused : List UInt8).length := by rw [hc5, List.length_append]
    obtain ⟨c6, hc6⟩ : ∃ m, m = c5 ++ keyPart [115, 116, 97, 109, 112] s.stamp := ⟨_, rfl⟩
    have lc6 : c6.length = (c5 : List UInt8).length + (keyPart [115, 116, 97, 109, 112] s.stamp : List UInt8).length := by rw [hc6, List.length_append]
    obtain ⟨O7, hO7⟩ : ∃ m, m = H ++ c6 := ⟨_, rfl⟩
    have lO7 : O7.length = (H : List UInt8).length + (c6 : List UInt8).length := by rw [hO7, List.length_append]
    try simp only [List.length_cons, List.length_nil] at lc1 lc2 lc3 lc4 lc5 lc6 lO7
    have ec1 := str_add _ _ _ hc1 (by omega)
    have ec2 := str_add _ _ _ hc2 (by omega)
    have ec3 := str_add _ _ _ hc3 (by omega)
    have ec4 := str_add _ _ _ hc4 (by omega)
    have ec5 := str_add _ _ _ hc5 (by omega)
    have ec6 := str_add _ _ _ hc6 (by omega)
    have eO7 := str_add _ _ _ hO7 (by omega)
    have HK7 := Lib.hid (show H ++ keyParts (stKeys s) = O7 by rw [hO7, hc6, hc5, hc4, hc3, hc2, hc1]; simp [keyParts, stKeys])
    rw [HK7.out] at HSO
    have ho7 : O7.length ≤ 300 := by omega
    clear HK7 hO7 hc6 hc5 hc4 hc3 hc2 hc1 lc1 lc2 lc3 lc4 lc5 lc6 lO7 y0 y1 y2 y3 y4 y5 y6
    have HXS := Lib.hid (And.intro x0 (And.intro x1 (And.intro x2 (And.intro x3 (And.intro x4 (And.intro x5 x6))))))
    clear x0 x1 x2 x3 x4 x5 x6
    refine wp_region_held_drew (S := fun w' => StBlk w' w.heap.size s (.slice oa s.lines.length cap) ∧ Below w.heap.size w w') (by kernel_rfl) ⟨HE4.out.1, Below.next HE4.out.2 (below_drewN' _ 1)⟩ (fun hHeld => ?_)
    refine tk 0 rfl ?v_0_170 ?hy_0_170 ?r_0_170
    case hy_0_170 => intro w h; have k0 := h.1.c0; have k1 := h.1.c1; have k3 := h.1.c3; have k4 := h.1.c4; have k6 := h.1.c6; have k7 := h.1.c7; have k8 := h.1.c8; have k9 := h.1.c9; have k10 := h.1.c10; go_simp; try with_reducible rfl
    simp only [pA, pB, pC, pD]
    refine tk 1 rfl ?v_1_171 ?hy_1_171 ?r_1_171
    case hy_1_171 => intro w h; have k0 := h.1.c0; have k1 := h.1.c1; have k3 := h.1.c3; have k4 := h.1.c4; have k6 := h.1.c6; have k7 := h.1.c7; have k8 := h.1.c8; have k9 := h.1.c9; have k10 := h.1.c10; go_simp; try with_reducible rfl
    simp only [pA, pB, pC, pD]
    refine tk 2 rfl ?v_2_172 ?hy_2_172 ?r_2_172
    case hy_2_172 => intro w h; have k0 := h.1.c0; have k1 := h.1.c1; have k3 := h.1.c3; have k4 := h.1.c4; have k6 := h.1.c6; have k7 := h.1.c7; have k8 := h.1.c8; have k9 := h.1.c9; have k10 := h.1.c10; go_simp; try with_reducible rfl
    simp only [pA, pB, pC, pD]
    refine tk 4 rfl ?v_4_173 ?hy_4_173 ?r_4_173
    case hy_4_173 => intro w h; have k0 := h.1.c0; have k1 := h.1.c1; have k3 := h.1.c3; have k4 := h.1.c4; have k6 := h.1.c6; have k7 := h.1.c7; have k8 := h.1.c8; have k9 := h.1.c9; have k10 := h.1.c10; go_simp; try with_reducible rfl
    simp only [pA, pB, pC, pD]
    refine tk 5 rfl ?v_5_174 ?hy_5_174 ?r_5_174
    case hy_5_174 => intro w h; have k0 := h.1.c0; have k1 := h.1.c1; have k3 := h.1.c3; have k4 := h.1.c4; have k6 := h.1.c6; have k7 := h.1.c7; have k8 := h.1.c8; have k9 := h.1.c9; have k10 := h.1.c10; go_simp; try with_reducible rfl
    simp only [pA, pB, pC, pD]
    refine tk 8 rfl ?v_8_175 ?hy_8_175 ?r_8_175
    case hy_8_175 => intro w h; have k0 := h.1.c0; have k1 := h.1.c1; have k3 := h.1.c3; have k4 := h.1.c4; have k6 := h.1.c6; have k7 := h.1.c7; have k8 := h.1.c8; have k9 := h.1.c9; have k10 := h.1.c10; go_simp; try with_reducible rfl
    simp only [pA, pB, pC, pD]
    refine tk 9 rfl ?v_9_176 ?hy_9_176 ?r_9_176
    case hy_9_176 => intro w h; have k0 := h.1.c0; have k1 := h.1.c1; have k3 := h.1.c3; have k4 := h.1.c4; have k6 := h.1.c6; have k7 := h.1.c7; have k8 := h.1.c8; have k9 := h.1.c9; have k10 := h.1.c10; go_simp; try with_reducible rfl
    simp only [pA, pB, pC, pD]
    refine tk 12 rfl ?v_12_177 ?hy_12_177 ?r_12_177
    case hy_12_177 => intro w h; have k0 := h.1.c0; have k1 := h.1.c1; have k3 := h.1.c3; have k4 := h.1.c4; have k6 := h.1.c6; have k7 := h.1.c7; have k8 := h.1.c8; have k9 := h.1.c9; have k10 := h.1.c10; go_simp; try with_reducible rfl
    simp only [pA, pB, pC, pD]
    refine tk 13 rfl ?v_13_178 ?hy_13_178 ?r_13_178
    case hy_13_178 => intro w h; have k0 := h.1.c0; have k1 := h.1.c1; have k3 := h.1.c3; have k4 := h.1.c4; have k6 := h.1.c6; have k7 := h.1.c7; have k8 := h.1.c8; have k9 := h.1.c9; have k10 := h.1.c10; go_simp; try with_reducible rfl
    simp only [pA, pB, pC, pD]
    refine tk 16 rfl ?v_16_179 ?hy_16_179 ?r_16_179
    case hy_16_179 => intro w h; have k0 := h.1.c0; have k1 := h.1.c1; have k3 := h.1.c3; have k4 := h.1.c4; have k6 := h.1.c6; have k7 := h.1.c7; have k8 := h.1.c8; have k9 := h.1.c9; have k10 := h.1.c10; go_simp; try with_reducible rfl
    simp only [pA, pB, pC, pD]
    refine tk 17 rfl ?v_17_180 ?hy_17_180 ?r_17_180
    case hy_17_180 => intro w h; have k0 := h.1.c0; have k1 := h.1.c1; have k3 := h.1.c3; have k4 := h.1.c4; have k6 := h.1.c6; have k7 := h.1.c7; have k8 := h.1.c8; have k9 := h.1.c9; have k10 := h.1.c10; go_simp; try with_reducible rfl
    simp only [pA, pB, pC, pD]
    refine tk 20 rfl ?v_20_181 ?hy_20_181 ?r_20_181
    case hy_20_181 => intro w h; have k0 := h.1.c0; have k1 := h.1.c1; have k3 := h.1.c3; have k4 := h.1.c4; have k6 := h.1.c6; have k7 := h.1.c7; have k8 := h.1.c8; have k9 := h.1.c9; have k10 := h.1.c10; go_simp; try with_reducible rfl
    simp only [pA, pB, pC, pD]
    refine tk 21 rfl ?v_21_182 ?hy_21_182 ?r_21_182
    case hy_21_182 => intro w h; have k0 := h.1.c0; have k1 := h.1.c1; have k3 := h.1.c3; have k4 := h.1.c4; have k6 := h.1.c6; have k7 := h.1.c7; have k8 := h.1.c8; have k9 := h.1.c9; have k10 := h.1.c10; go_simp; try with_reducible rfl
    simp only [pA, pB, pC, pD]
    refine tk 24 rfl ?v_24_183 ?hy_24_183 ?r_24_183
    case hy_24_183 => intro w h; have k0 := h.1.c0; have k1 := h.1.c1; have k3 := h.1.c3; have k4 := h.1.c4; have k6 := h.1.c6; have k7 := h.1.c7; have k8 := h.1.c8; have k9 := h.1.c9; have k10 := h.1.c10; go_simp; try with_reducible rfl
    simp only [pA, pB, pC, pD]
    refine tk 25 rfl ?v_25_184 ?hy_25_184 ?r_25_184
    case hy_25_184 => intro w h; have k0 := h.1.c0; have k1 := h.1.c1; have k3 := h.1.c3; have k4 := h.1.c4; have k6 := h.1.c6; have k7 := h.1.c7; have k8 := h.1.c8; have k9 := h.1.c9; have k10 := h.1.c10; go_simp; try with_reducible rfl
    simp only [pA, pB, pC, pD]
    refine wpAnyH_ready (rs := [3]) (by kernel_rfl) (by simp) ?_
    refine AllReadyH.cons rfl (fun K hK => ?_) AllReadyH.nil
    go_simp
    go_at_call 14
    refine (pair_any [99, 117, 114] s.cur _ (by decide) HXS.out.1).mono ?_
    rintro x wn ⟨rfl, hb⟩
    go_wp2_with fail
    refine hK.out _ _ ⟨hHeld.1.below hb, Below.next hHeld.2 hb⟩ (fun hHeld => ?_)
    clear hK K hb
    refine wpAnyH_ready (rs := [6]) (by kernel_rfl) (by simp) ?_
    refine AllReadyH.cons rfl (fun K hK => ?_) AllReadyH.nil
    go_simp
    go_at_call 14
    refine (pair_any [116, 97, 120] s.tax _ (by decide) HXS.out.2.1).mono ?_
    rintro x wn ⟨rfl, hb⟩
    go_wp2_with fail
    refine hK.out _ _ ⟨hHeld.1.below hb, Below.next hHeld.2 hb⟩ (fun hHeld => ?_)
    clear hK K hb
    refine tk 7 rfl ?v_7_185 ?hy_7_185 ?r_7_185
    case hy_7_185 => intro w h; have k0 := h.1.c0; have k1 := h.1.c1; have k3 := h.1.c3; have k4 := h.1.c4; have k6 := h.1.c6; have k7 := h.1.c7; have k8 := h.1.c8; have k9 := h.1.c9; have k10 := h.1.c10; go_simp; try with_reducible rfl
    simp only [pA, pB, pC, pD]
    refine wpAnyH_ready (rs := [10]) (by kernel_rfl) (by simp) ?_
    refine AllReadyH.cons rfl (fun K hK => ?_) AllReadyH.nil
    go_simp
    go_at_call 14
    refine (pair_any [112, 97, 105, 100] s.paid _ (by decide) HXS.out.2.2.1).mono ?_
    rintro x wn ⟨rfl, hb⟩
    go_wp2_with fail
    refine hK.out _ _ ⟨hHeld.1.below hb, Below.next hHeld.2 hb⟩ (fun hHeld => ?_)
    clear hK K hb
    refine tk 11 rfl ?v_11_186 ?hy_11_186 ?r_11_186
    case hy_11_186 => intro w h; have k0 := h.1.c0; have k1 := h.1.c1; have k3 := h.1.c3; have k4 := h.1.c4; have k6 := h.1.c6; have k7 := h.1.c7; have k8 := h.1.c8; have k9 := h.1.c9; have k10 := h.1.c10; go_simp; try with_reducible rfl
    simp only [pA, pB, pC, pD]
    refine wpAnyH_ready (rs := [14]) (by kernel_rfl) (by simp) ?_
    refine AllReadyH.cons rfl (fun K hK => ?_) AllReadyH.nil
    go_simp
    go_at_call 14
    refine (pair_any [114, 101, 102, 117, 110, 100, 101, 100] s.refunded _ (by decide) HXS.out.2.2.2.1).mono ?_
    rintro x wn ⟨rfl, hb⟩
    go_wp2_with fail
    refine hK.out _ _ ⟨hHeld.1.below hb, Below.next hHeld.2 hb⟩ (fun hHeld => ?_)
    clear hK K hb
    refine tk 15 rfl ?v_15_187 ?hy_15_187 ?r_15_187
    case hy_15_187 => intro w h; have k0 := h.1.c0; have k1 := h.1.c1; have k3 := h.1.c3; have k4 := h.1.c4; have k6 := h.1.c6; have k7 := h.1.c7; have k8 := h.1.c8; have k9 := h.1.c9; have k10 := h.1.c10; go_simp; try with_reducible rfl
    simp only [pA, pB, pC, pD]
    refine wpAnyH_ready (rs := [18]) (by kernel_rfl) (by simp) ?_
    refine AllReadyH.cons rfl (fun K hK => ?_) AllReadyH.nil
    go_simp
    go_at_call 14
    refine (pair_any [101, 118, 101, 110, 116, 115] s.events _ (by decide) HXS.out.2.2.2.2.1).mono ?_
    rintro x wn ⟨rfl, hb⟩
    go_wp2_with fail
    refine hK.out _ _ ⟨hHeld.1.below hb, Below.next hHeld.2 hb⟩ (fun hHeld => ?_)
    clear hK K hb
    refine tk 19 rfl ?v_19_188 ?hy_19_188 ?r_19_188
    case hy_19_188 => intro w h; have k0 := h.1.c0; have k1 := h.1.c1; have k3 := h.1.c3; have k4 := h.1.c4; have k6 := h.1.c6; have k7 := h.1.c7; have k8 := h.1.c8; have k9 := h.1.c9; have k10 := h.1.c10; go_simp; try with_reducible rfl
    simp only [pA, pB, pC, pD]
    refine wpAnyH_ready (rs := [22]) (by kernel_rfl) (by simp) ?_
    refine AllReadyH.cons rfl (fun K hK => ?_) AllReadyH.nil
    go_simp
    go_at_call 14
    refine (pair_any [114, 101, 102, 117, 115, 101, 100] s.refused _ (by decide) HXS.out.2.2.2.2.2.1).mono ?_
    rintro x wn ⟨rfl, hb⟩
    go_wp2_with fail
    refine hK.out _ _ ⟨hHeld.1.below hb, Below.next hHeld.2 hb⟩ (fun hHeld => ?_)
    clear hK K hb
    refine tk 23 rfl ?v_23_189 ?hy_23_189 ?r_23_189
    case hy_23_189 => intro w h; have k0 := h.1.c0; have k1 := h.1.c1; have k3 := h.1.c3; have k4 := h.1.c4; have k6 := h.1.c6; have k7 := h.1.c7; have k8 := h.1.c8; have k9 := h.1.c9; have k10 := h.1.c10; go_simp; try with_reducible rfl
    simp only [pA, pB, pC, pD]
    refine wpAnyH_ready (rs := [26]) (by kernel_rfl) (by simp) ?_
    refine AllReadyH.cons rfl (fun K hK => ?_) AllReadyH.nil
    go_simp
    go_at_call 14
    refine (pair_any [115, 116, 97, 109, 112] s.stamp _ (by decide) HXS.out.2.2.2.2.2.2).mono ?_
    rintro x wn ⟨rfl, hb⟩
    go_wp2_with fail
    refine hK.out _ _ ⟨hHeld.1.below hb, Below.next hHeld.2 hb⟩ (fun hHeld => ?_)
    clear hK K hb
    refine tk 27 rfl ?v_27_190 ?hy_27_190 ?r_27_190
    case hy_27_190 => intro w h; have k0 := h.1.c0; have k1 := h.1.c1; have k3 := h.1.c3; have k4 := h.1.c4; have k6 := h.1.c6; have k7 := h.1.c7; have k8 := h.1.c8; have k9 := h.1.c9; have k10 := h.1.c10; go_simp; try with_reducible rfl
    simp only [pA, pB, pC, pD]
    refine tk 28 rfl ?v_28_191 ?hy_28_191 ?r_28_191
    case hy_28_191 => intro w h; have k0 := h.1.c0; have k1 := h.1.c1; have k3 := h.1.c3; have k4 := h.1.c4; have k6 := h.1.c6; have k7 := h.1.c7; have k8 := h.1.c8; have k9 := h.1.c9; have k10 := h.1.c10; go_simp; try with_reducible rfl
    simp only [pA, pB, pC, pD]
    refine tk 29 rfl ?v_29_192 ?hy_29_192 ?r_29_192
    case hy_29_192 => intro w h; have k0 := h.1.c0; have k1 := h.1.c1; have k3 := h.1.c3; have k4 := h.1.c4; have k6 := h.1.c6; have k7 := h.1.c7; have k8 := h.1.c8; have k9 := h.1.c9; have k10 := h.1.c10; go_simp; try with_reducible rfl
    simp only [pA, pB, pC, pD]
    refine wpAnyH_done (by kernel_rfl) ?_ _
    have HW8 := Lib.hid hHeld
    clear hHeld HE4 ec1 ec2 ec3 ec4 ec5 ec6 eO7
    have c11 := HW8.out.1.c11
    have c5 : wn.cell? ⟨w.heap.size, 5, none⟩ = some (.slice oa s.lines.length cap) := HW8.out.1.cell 5
    by_cases hwe : s.who = []
    · have t1 : s.who.isEmpty = true := by rw [hwe]; rfl
      have t2 : (s.who != []) = false := by rw [hwe]; rfl
      rw [show whoPart s.who = [] by rw [hwe]; rfl, List.append_nil] at HSO
      have ho8 : O7.length ≤ 400 := by omega
      clear hwe
      go_wp2
      clear t1 t2
      go_loopw [4, 68] (fun ov iv wr => ∃ (k : Nat), k ≤ s.lines.length ∧ iv = .int .i64 k ∧ ov = .string ⟨(O7 ++ lnParts (s.lines.take k)).toArray⟩ ∧ Hid (StBlk wr w.heap.size s (.slice oa s.lines.length cap) ∧ Below w.heap.size w wr)) (fun _ iv _ => s.lines.length - (intOf iv).toNat)
      case atStart => exact ⟨0, Nat.zero_le _, rfl, by simp [lnParts], Lib.hid ⟨HW8.out.1, HW8.out.2⟩⟩
      case round =>
        clear HW8
        obtain ⟨k, hk, rfl, rfl, HW⟩ := hrel
        by_cases hlt : k < s.lines.length
        · obtain ⟨l, hl, _, hmem⟩ := nth s.lines k hlt
          have q1 : (k : Int) < (s.lines.length : Int) := by omega
          obtain ⟨b, off, rfl, hcell⟩ := HC.out k l hl
          have HCE := Lib.hid (range_later hcell HW.out.2)
          have c5 : wr.cell? ⟨w.heap.size, 5, none⟩ = some (.slice (some ⟨b, off, none⟩) s.lines.length cap) := HW.out.1.cell 5
          have hlo := HSM.out.lines l hmem
          have hi1 := itoa_le _ hlo.item.1 hlo.item.2; have hi2 := itoa_le _ hlo.price.1 hlo.price.2; have hi3 := itoa_le _ hlo.qty.1 hlo.qty.2; have hi4 := itoa_le _ hlo.shipped.1 hlo.shipped.2
          have hot : (O7 ++ lnParts (s.lines.take k)).length ≤ 2000 := by
            have h1 := lnParts_len (s.lines.take k) fun x hx => HSM.out.lines x (List.mem_of_mem_take hx)
            have h2 := HSM.out.few
            rw [List.length_append]; simp only [List.length_take] at h1; omega
          have HST := Lib.hid (show O7 ++ lnParts (s.lines.take (k + 1)) = (O7 ++ lnParts (s.lines.take k)) ++ (32 :: lnWord l) by rw [lnParts_take _ _ _ hl, List.append_assoc])
          obtain ⟨O, hO⟩ : ∃ O, O = O7 ++ lnParts (s.lines.take k) := ⟨_, rfl⟩
          rw [← hO] at HST hot ⊢
          obtain ⟨b1, hb1⟩ : ∃ m, m = [32] ++ Lib.itoa l.item := ⟨_, rfl⟩
          have lb1 : b1.length = ([32] : List UInt8).length + (Lib.itoa l.item : List UInt8).length := by rw [hb1, List.length_append]
          obtain ⟨b2, hb2⟩ : ∃ m, m = b1 ++ [58] := ⟨_, rfl⟩
          have lb2 : b2.length = (b1 : List UInt8).length + ([58] : List UInt8).length := by rw [hb2, List.length_append]
          obtain ⟨b3, hb3⟩ : ∃ m, m = b2 ++ Lib.itoa l.price := ⟨_, rfl⟩
          have lb3 : b3.length = (b2 : List UInt8).length + (Lib.itoa l.price : List UInt8).length := by rw [hb3, List.length_append]
          obtain ⟨b4, hb4⟩ : ∃ m, m = b3 ++ [42] := ⟨_, rfl⟩
          have lb4 : b4.length = (b3 : List UInt8).length + ([42] : List UInt8).length := by rw [hb4, List.length_append]
          obtain ⟨b5, hb5⟩ : ∃ m, m = b4 ++ Lib.itoa l.qty := ⟨_, rfl⟩
          have lb5 : b5.length = (b4 : List UInt8).length + (Lib.itoa l.qty : List UInt8).length := by rw [hb5, List.length_append]
          obtain ⟨b6, hb6⟩ : ∃ m, m = b5 ++ [45] := ⟨_, rfl⟩
          have lb6 : b6.length = (b5 : List UInt8).length + ([45] : List UInt8).length := by rw [hb6, List.length_append]
          obtain ⟨b7, hb7⟩ : ∃ m, m = b6 ++ Lib.itoa l.shipped := ⟨_, rfl⟩
          have lb7 : b7.length = (b6 : List UInt8).length + (Lib.itoa l.shipped : List UInt8).length := by rw [hb7, List.length_append]
          obtain ⟨b8, hb8⟩ : ∃ m, m = O ++ b7 := ⟨_, rfl⟩
          have lb8 : b8.length = (O : List UInt8).length + (b7 : List UInt8).length := by rw [hb8, List.length_append]
          simp only [List.length_cons, List.length_nil] at lb1 lb2 lb3 lb4 lb5 lb6 lb7 lb8
          have eb1 := str_add _ _ _ hb1 (by omega)
          have eb2 := str_add _ _ _ hb2 (by omega)
          have eb3 := str_add _ _ _ hb3 (by omega)
          have eb4 := str_add _ _ _ hb4 (by omega)
          have eb5 := str_add _ _ _ hb5 (by omega)
          have eb6 := str_add _ _ _ hb6 (by omega)
          have eb7 := str_add _ _ _ hb7 (by omega)
          have eb8 := str_add _ _ _ hb8 (by omega)
          have HB8 := Lib.hid (show O ++ (32 :: lnWord l) = b8 by rw [hb8, hb7, hb6, hb5, hb4, hb3, hb2, hb1]; simp [lnWord])
          have HLO := Lib.hid hlo
          clear hl hmem hcell hlo hi1 hi2 hi3 hi4 hot hO hb1 hb2 hb3 hb4 hb5 hb6 hb7 hb8 lb1 lb2 lb3 lb4 lb5 lb6 lb7 lb8
          go_wp2_with (with_reducible refine wpList_load_ln rfl (.tmp 74) rfl b (off + k * 4) l rfl HCE.out ?_)
          have hA := (show Below wr.heap.size wr (wr.alloc (.cells #[.int .i64 l.item, .int .i64 l.price, .int .i64 l.qty, .int .i64 l.shipped] 40)) from (Below.refl _ _).alloc (Nat.le_refl _) _)
          have HA := Lib.hid (show ((wr.alloc (.cells #[.int .i64 l.item, .int .i64 l.price, .int .i64 l.qty, .int .i64 l.shipped] 40)).drew.cell? ⟨wr.heap.size, 0, none⟩ = some (.int .i64 l.item) ∧ (wr.alloc (.cells #[.int .i64 l.item, .int .i64 l.price, .int .i64 l.qty, .int .i64 l.shipped] 40)).drew.cell? ⟨wr.heap.size, 1, none⟩ = some (.int .i64 l.price) ∧ (wr.alloc (.cells #[.int .i64 l.item, .int .i64 l.price, .int .i64 l.qty, .int .i64 l.shipped] 40)).drew.cell? ⟨wr.heap.size, 2, none⟩ = some (.int .i64 l.qty) ∧ (wr.alloc (.cells #[.int .i64 l.item, .int .i64 l.price, .int .i64 l.qty, .int .i64 l.shipped] 40)).drew.cell? ⟨wr.heap.size, 3, none⟩ = some (.int .i64 l.shipped) ∧ Below wr.heap.size wr (wr.alloc (.cells #[.int .i64 l.item, .int .i64 l.price, .int .i64 l.qty, .int .i64 l.shipped] 40)).drew) from ⟨(World.cell?_alloc_new _ _ _ _).trans rfl, (World.cell?_alloc_new _ _ _ _).trans rfl, (World.cell?_alloc_new _ _ _ _).trans rfl, (World.cell?_alloc_new _ _ _ _).trans rfl, Below.next hA (below_drewN' _ 1)⟩)
          clear hA
          refine wp_region_held_drew (S := fun w' => w'.cell? ⟨wr.heap.size, 0, none⟩ = some (.int .i64 l.item) ∧ w'.cell? ⟨wr.heap.size, 1, none⟩ = some (.int .i64 l.price) ∧ w'.cell? ⟨wr.heap.size, 2, none⟩ = some (.int .i64 l.qty) ∧ w'.cell? ⟨wr.heap.size, 3, none⟩ = some (.int .i64 l.shipped) ∧ Below wr.heap.size wr w') (by kernel_rfl) HA.out (fun hHeld => ?_)
          refine tk 0 rfl ?v_0_193 ?hy_0_193 ?r_0_193
          case hy_0_193 => intro w hSw; obtain ⟨k0, k1, k2, k3, _⟩ := hSw; go_simp; try with_reducible rfl
          simp only [pA, pB, pC, pD]
          refine tk 1 rfl ?v_1_194 ?hy_1_194 ?r_1_194
          case hy_1_194 => intro w hSw; obtain ⟨k0, k1, k2, k3, _⟩ := hSw; go_simp; try with_reducible rfl
          simp only [pA, pB, pC, pD]
          refine tk 2 rfl ?v_2_195 ?hy_2_195 ?r_2_195
          case hy_2_195 => intro w hSw; obtain ⟨k0, k1, k2, k3, _⟩ := hSw; go_simp; try with_reducible rfl
          simp only [pA, pB, pC, pD]
          refine tk 6 rfl ?v_6_196 ?hy_6_196 ?r_6_196
          case hy_6_196 => intro w hSw; obtain ⟨k0, k1, k2, k3, _⟩ := hSw; go_simp; try with_reducible rfl
          simp only [pA, pB, pC, pD]
          refine tk 7 rfl ?v_7_197 ?hy_7_197 ?r_7_197
          case hy_7_197 => intro w hSw; obtain ⟨k0, k1, k2, k3, _⟩ := hSw; go_simp; try with_reducible rfl
          simp only [pA, pB, pC, pD]
          refine tk 11 rfl ?v_11_198 ?hy_11_198 ?r_11_198
          case hy_11_198 => intro w hSw; obtain ⟨k0, k1, k2, k3, _⟩ := hSw; go_simp; try with_reducible rfl
          simp only [pA, pB, pC, pD]
          refine tk 12 rfl ?v_12_199 ?hy_12_199 ?r_12_199
          case hy_12_199 => intro w hSw; obtain ⟨k0, k1, k2, k3, _⟩ := hSw; go_simp; try with_reducible rfl
          simp only [pA, pB, pC, pD]
          refine tk 16 rfl ?v_16_200 ?hy_16_200 ?r_16_200
          case hy_16_200 => intro w hSw; obtain ⟨k0, k1, k2, k3, _⟩ := hSw; go_simp; try with_reducible rfl
          simp only [pA, pB, pC, pD]
          refine tk 17 rfl ?v_17_201 ?hy_17_201 ?r_17_201
          case hy_17_201 => intro w hSw; obtain ⟨k0, k1, k2, k3, _⟩ := hSw; go_simp; try with_reducible rfl
          simp only [pA, pB, pC, pD]
          refine wpAnyH_ready (rs := [3]) (by kernel_rfl) (by simp) ?_
          refine AllReadyH.cons rfl (fun K hK => ?_) AllReadyH.nil
          go_simp
          go_at_call 12
          refine (show_any l.item _ HLO.out.item.1 HLO.out.item.2).mono ?_
          rintro x wn ⟨rfl, hb⟩
          go_wp2_with fail
          refine hK.out _ _ ⟨cell_later hb hHeld.1, cell_later hb hHeld.2.1, cell_later hb hHeld.2.2.1, cell_later hb hHeld.2.2.2.1, Below.next hHeld.2.2.2.2 hb⟩ (fun hHeld => ?_)
          clear hK K hb
          refine tk 4 rfl ?v_4_202 ?hy_4_202 ?r_4_202
          case hy_4_202 => intro w hSw; obtain ⟨k0, k1, k2, k3, _⟩ := hSw; go_simp; try with_reducible rfl
          simp only [pA, pB, pC, pD]
          refine tk 5 rfl ?v_5_203 ?hy_5_203 ?r_5_203
          case hy_5_203 => intro w hSw; obtain ⟨k0, k1, k2, k3, _⟩ := hSw; go_simp; try with_reducible rfl
          simp only [pA, pB, pC, pD]
          refine wpAnyH_ready (rs := [8]) (by kernel_rfl) (by simp) ?_
          refine AllReadyH.cons rfl (fun K hK => ?_) AllReadyH.nil
          go_simp
          go_at_call 12
          refine (show_any l.price _ HLO.out.price.1 HLO.out.price.2).mono ?_
          rintro x wn ⟨rfl, hb⟩
          go_wp2_with fail
          refine hK.out _ _ ⟨cell_later hb hHeld.1, cell_later hb hHeld.2.1, cell_later hb hHeld.2.2.1, cell_later hb hHeld.2.2.2.1, Below.next hHeld.2.2.2.2 hb⟩ (fun hHeld => ?_)
          clear hK K hb
          refine tk 9 rfl ?v_9_204 ?hy_9_204 ?r_9_204
          case hy_9_204 => intro w hSw; obtain ⟨k0, k1, k2, k3, _⟩ := hSw; go_simp; try with_reducible rfl
          simp only [pA, pB, pC, pD]
          refine tk 10 rfl ?v_10_205 ?hy_10_205 ?r_10_205
          case hy_10_205 => intro w hSw; obtain ⟨k0, k1, k2, k3, _⟩ := hSw; go_simp; try with_reducible rfl
          simp only [pA, pB, pC, pD]
          refine wpAnyH_ready (rs := [13]) (by kernel_rfl) (by simp) ?_
          refine AllReadyH.cons rfl (fun K hK => ?_) AllReadyH.nil
          go_simp
          go_at_call 12
          refine (show_any l.qty _ HLO.out.qty.1 HLO.out.qty.2).mono ?_
          rintro x wn ⟨rfl, hb⟩
          go_wp2_with fail
          refine hK.out _ _ ⟨cell_later hb hHeld.1, cell_later hb hHeld.2.1, cell_later hb hHeld.2.2.1, cell_later hb hHeld.2.2.2.1, Below.next hHeld.2.2.2.2 hb⟩ (fun hHeld => ?_)
          clear hK K hb
          refine tk 14 rfl ?v_14_206 ?hy_14_206 ?r_14_206
          case hy_14_206 => intro w hSw; obtain ⟨k0, k1, k2, k3, _⟩ := hSw; go_simp; try with_reducible rfl
          simp only [pA, pB, pC, pD]
          refine tk 15 rfl ?v_15_207 ?hy_15_207 ?r_15_207
          case hy_15_207 => intro w hSw; obtain ⟨k0, k1, k2, k3, _⟩ := hSw; go_simp; try with_reducible rfl
          simp only [pA, pB, pC, pD]
          refine wpAnyH_ready (rs := [18]) (by kernel_rfl) (by simp) ?_
          refine AllReadyH.cons rfl (fun K hK => ?_) AllReadyH.nil
          go_simp
          go_at_call 12
          refine (show_any l.shipped _ HLO.out.shipped.1 HLO.out.shipped.2).mono ?_
          rintro x wn ⟨rfl, hb⟩
          go_wp2_with fail
          refine hK.out _ _ ⟨cell_later hb hHeld.1, cell_later hb hHeld.2.1, cell_later hb hHeld.2.2.1, cell_later hb hHeld.2.2.2.1, Below.next hHeld.2.2.2.2 hb⟩ (fun hHeld => ?_)
          clear hK K hb
          refine tk 19 rfl ?v_19_208 ?hy_19_208 ?r_19_208
          case hy_19_208 => intro w hSw; obtain ⟨k0, k1, k2, k3, _⟩ := hSw; go_simp; try with_reducible rfl
          simp only [pA, pB, pC, pD]
          refine tk 20 rfl ?v_20_209 ?hy_20_209 ?r_20_209
          case hy_20_209 => intro w hSw; obtain ⟨k0, k1, k2, k3, _⟩ := hSw; go_simp; try with_reducible rfl
          simp only [pA, pB, pC, pD]
          refine tk 21 rfl ?v_21_210 ?hy_21_210 ?r_21_210
          case hy_21_210 => intro w hSw; obtain ⟨k0, k1, k2, k3, _⟩ := hSw; go_simp; try with_reducible rfl
          simp only [pA, pB, pC, pD]
          refine wpAnyH_done (by kernel_rfl) ?_ _
          have HWN := Lib.hid hHeld.2.2.2.2
          clear hHeld HA
          go_wp2
          go_roundw
          case rel => exact ⟨k + 1, by omega, by go_num, by rw [HST.out, HB8.out], Lib.hid ⟨HW.out.1.below HWN.out, Below.next HW.out.2 HWN.out⟩⟩
          case measure => first | (simp [intOf]; done) | (simp [intOf]; omega)
        · obtain rfl : k = s.lines.length := by omega
          rw [List.take_length]
          have HFI := Lib.hid (show stateT s = (O7 ++ lnParts s.lines, 0) by rw [hfin.out, HSO.out])
          go_wp2
          go_ret2
          exact ⟨by rw [HFI.out]; rfl, HW.out.2⟩
    · have t1 : s.who.isEmpty = false := by simpa using hwe
      have t2 : (s.who != []) = true := by rw [bne_iff_ne]; exact hwe
      have hwl := HSM.out.who
      obtain ⟨u1, hu1⟩ : ∃ m, m = [32, 119, 104, 111, 61] ++ s.who := ⟨_, rfl⟩
      have lu1 : u1.length = ([32, 119, 104, 111, 61] : List UInt8).length + (s.who : List UInt8).length := by rw [hu1, List.length_append]
      obtain ⟨u2, hu2⟩ : ∃ m, m = O7 ++ u1 := ⟨_, rfl⟩
      have lu2 : u2.length = (O7 : List UInt8).length + (u1 : List UInt8).length := by rw [hu2, List.length_append]
      simp only [List.length_cons, List.length_nil] at lu1 lu2
      have eu1 := str_add _ _ _ hu1 (by omega)
      have eu2 := str_add _ _ _ hu2 (by omega)
      rw [show O7 ++ whoPart s.who = u2 by rw [hu2, hu1, whoPart, if_neg hwe]] at HSO
      have ho8 : u2.length ≤ 400 := by omega
      clear hwe hu1 hu2 lu1 lu2 hwl
      go_wp2
      clear t1 t2
      go_loopw [4, 68] (fun ov iv wr => ∃ (k : Nat), k ≤ s.lines.length ∧ iv = .int .i64 k ∧ ov = .string ⟨(u2 ++ lnParts (s.lines.take k)).toArray⟩ ∧ Hid (StBlk wr w.heap.size s (.slice oa s.lines.length cap) ∧ Below w.heap.size w wr)) (fun _ iv _ => s.lines.length - (intOf iv).toNat)
      case atStart => exact ⟨0, Nat.zero_le _, rfl, by simp [lnParts], Lib.hid ⟨HW8.out.1, HW8.out.2⟩⟩
      case round =>
        clear HW8
        obtain ⟨k, hk, rfl, rfl, HW⟩ := hrel
        by_cases hlt : k < s.lines.length
        · obtain ⟨l, hl, _, hmem⟩ := nth s.lines k hlt
          have q1 : (k : Int) < (s.lines.length : Int) := by omega
          obtain ⟨b, off, rfl, hcell⟩ := HC.out k l hl
          have HCE := Lib.hid (range_later hcell HW.out.2)
          have c5 : wr.cell? ⟨w.heap.size, 5, none⟩ = some (.slice (some ⟨b, off, none⟩) s.lines.length cap) := HW.out.1.cell 5
          have hlo := HSM.out.lines l hmem
          have hi1 := itoa_le _ hlo.item.1 hlo.item.2; have hi2 := itoa_le _ hlo.price.1 hlo.price.2; have hi3 := itoa_le _ hlo.qty.1 hlo.qty.2; have hi4 := itoa_le _ hlo.shipped.1 hlo.shipped.2
          have hot : (u2 ++ lnParts (s.lines.take k)).length ≤ 2000 := by
            have h1 := lnParts_len (s.lines.take k) fun x hx => HSM.out.lines x (List.mem_of_mem_take hx)
            have h2 := HSM.out.few
            rw [List.length_append]; simp only [List.length_take] at h1; omega
          have HST := Lib.hid (show u2 ++ lnParts (s.lines.take (k + 1)) = (u2 ++ lnParts (s.lines.take k)) ++ (32 :: lnWord l) by rw [lnParts_take _ _ _ hl, List.append_assoc])
          obtain ⟨O, hO⟩ : ∃ O, O = u2 ++ lnParts (s.lines.take k) := ⟨_, rfl⟩
          rw [← hO] at HST hot ⊢
          obtain ⟨b1, hb1⟩ : ∃ m, m = [32] ++ Lib.itoa l.item := ⟨_, rfl⟩
          have lb1 : b1.length = ([32] : List UInt8).length + (Lib.itoa l.item : List UInt8).length := by rw [hb1, List.length_append]
          obtain ⟨b2, hb2⟩ : ∃ m, m = b1 ++ [58] := ⟨_, rfl⟩
          have lb2 : b2.length = (b1 : List UInt8).length + ([58] : List UInt8).length := by rw [hb2, List.length_append]
          obtain ⟨b3, hb3⟩ : ∃ m, m = b2 ++ Lib.itoa l.price := ⟨_, rfl⟩
          have lb3 : b3.length = (b2 : List UInt8).length + (Lib.itoa l.price : List UInt8).length := by rw [hb3, List.length_append]
          obtain ⟨b4, hb4⟩ : ∃ m, m = b3 ++ [42] := ⟨_, rfl⟩
          have lb4 : b4.length = (b3 : List UInt8).length + ([42] : List UInt8).length := by rw [hb4, List.length_append]
          obtain ⟨b5, hb5⟩ : ∃ m, m = b4 ++ Lib.itoa l.qty := ⟨_, rfl⟩
          have lb5 : b5.length = (b4 : List UInt8).length + (Lib.itoa l.qty : List UInt8).length := by rw [hb5, List.length_append]
          obtain ⟨b6, hb6⟩ : ∃ m, m = b5 ++ [45] := ⟨_, rfl⟩
          have lb6 : b6.length = (b5 : List UInt8).length + ([45] : List UInt8).length := by rw [hb6, List.length_append]
          obtain ⟨b7, hb7⟩ : ∃ m, m = b6 ++ Lib.itoa l.shipped := ⟨_, rfl⟩
          have lb7 : b7.length = (b6 : List UInt8).length + (Lib.itoa l.shipped : List UInt8).length := by rw [hb7, List.length_append]
          obtain ⟨b8, hb8⟩ : ∃ m, m = O ++ b7 := ⟨_, rfl⟩
          have lb8 : b8.length = (O : List UInt8).length + (b7 : List UInt8).length := by rw [hb8, List.length_append]
          simp only [List.length_cons, List.length_nil] at lb1 lb2 lb3 lb4 lb5 lb6 lb7 lb8
          have eb1 := str_add _ _ _ hb1 (by omega)
          have eb2 := str_add _ _ _ hb2 (by omega)
          have eb3 := str_add _ _ _ hb3 (by omega)
          have eb4 := str_add _ _ _ hb4 (by omega)
          have eb5 := str_add _ _ _ hb5 (by omega)
          have eb6 := str_add _ _ _ hb6 (by omega)
          have eb7 := str_add _ _ _ hb7 (by omega)
          have eb8 := str_add _ _ _ hb8 (by omega)
          have HB8 := Lib.hid (show O ++ (32 :: lnWord l) = b8 by rw [hb8, hb7, hb6, hb5, hb4, hb3, hb2, hb1]; simp [lnWord])
          have HLO := Lib.hid hlo
          clear hl hmem hcell hlo hi1 hi2 hi3 hi4 hot hO hb1 hb2 hb3 hb4 hb5 hb6 hb7 hb8 lb1 lb2 lb3 lb4 lb5 lb6 lb7 lb8
          go_wp2_with (with_reducible refine wpList_load_ln rfl (.tmp 74) rfl b (off + k * 4) l rfl HCE.out ?_)
          have hA := (show Below wr.heap.size wr (wr.alloc (.cells #[.int .i64 l.item, .int .i64 l.price, .int .i64 l.qty, .int .i64 l.shipped] 40)) from (Below.refl _ _).alloc (Nat.le_refl _) _)
          have HA := Lib.hid (show ((wr.alloc (.cells #[.int .i64 l.item, .int .i64 l.price, .int .i64 l.qty, .int .i64 l.shipped] 40)).drew.cell? ⟨wr.heap.size, 0, none⟩ = some (.int .i64 l.item) ∧ (wr.alloc (.cells #[.int .i64 l.item, .int .i64 l.price, .int .i64 l.qty, .int .i64 l.shipped] 40)).drew.cell? ⟨wr.heap.size, 1, none⟩ = some (.int .i64 l.price) ∧ (wr.alloc (.cells #[.int .i64 l.item, .int .i64 l.price, .int .i64 l.qty, .int .i64 l.shipped] 40)).drew.cell? ⟨wr.heap.size, 2, none⟩ = some (.int .i64 l.qty) ∧ (wr.alloc (.cells #[.int .i64 l.item, .int .i64 l.price, .int .i64 l.qty, .int .i64 l.shipped] 40)).drew.cell? ⟨wr.heap.size, 3, none⟩ = some (.int .i64 l.shipped) ∧ Below wr.heap.size wr (wr.alloc (.cells #[.int .i64 l.item, .int .i64 l.price, .int .i64 l.qty, .int .i64 l.shipped] 40)).drew) from ⟨(World.cell?_alloc_new _ _ _ _).trans rfl, (World.cell?_alloc_new _ _ _ _).trans rfl, (World.cell?_alloc_new _ _ _ _).trans rfl, (World.cell?_alloc_new _ _ _ _).trans rfl, Below.next hA (below_drewN' _ 1)⟩)
          clear hA
          refine wp_region_held_drew (S := fun w' => w'.cell? ⟨wr.heap.size, 0, none⟩ = some (.int .i64 l.item) ∧ w'.cell? ⟨wr.heap.size, 1, none⟩ = some (.int .i64 l.price) ∧ w'.cell? ⟨wr.heap.size, 2, none⟩ = some (.int .i64 l.qty) ∧ w'.cell? ⟨wr.heap.size, 3, none⟩ = some (.int .i64 l.shipped) ∧ Below wr.heap.size wr w') (by kernel_rfl) HA.out (fun hHeld => ?_)
          refine tk 0 rfl ?v_0_211 ?hy_0_211 ?r_0_211
          case hy_0_211 => intro w hSw; obtain ⟨k0, k1, k2, k3, _⟩ := hSw; go_simp; try with_reducible rfl
          simp only [pA, pB, pC, pD]
          refine tk 1 rfl ?v_1_212 ?hy_1_212 ?r_1_212
          case hy_1_212 => intro w hSw; obtain ⟨k0, k1, k2, k3, _⟩ := hSw; go_simp; try with_reducible rfl
          simp only [pA, pB, pC, pD]
          refine tk 2 rfl ?v_2_213 ?hy_2_213 ?r_2_213
          case hy_2_213 => intro w hSw; obtain ⟨k0, k1, k2, k3, _⟩ := hSw; go_simp; try with_reducible rfl
          simp only [pA, pB, pC, pD]
          refine tk 6 rfl ?v_6_214 ?hy_6_214 ?r_6_214
          case hy_6_214 => intro w hSw; obtain ⟨k0, k1, k2, k3, _⟩ := hSw; go_simp; try with_reducible rfl
          simp only [pA, pB, pC, pD]
          refine tk 7 rfl ?v_7_215 ?hy_7_215 ?r_7_215
          case hy_7_215 => intro w hSw; obtain ⟨k0, k1, k2, k3, _⟩ := hSw; go_simp; try with_reducible rfl
          simp only [pA, pB, pC, pD]
          refine tk 11 rfl ?v_11_216 ?hy_11_216 ?r_11_216
          case hy_11_216 => intro w hSw; obtain ⟨k0, k1, k2, k3, _⟩ := hSw; go_simp; try with_reducible rfl
          simp only [pA, pB, pC, pD]
          refine tk 12 rfl ?v_12_217 ?hy_12_217 ?r_12_217
          case hy_12_217 => intro w hSw; obtain ⟨k0, k1, k2, k3, _⟩ := hSw; go_simp; try with_reducible rfl
          simp only [pA, pB, pC, pD]
          refine tk 16 rfl ?v_16_218 ?hy_16_218 ?r_16_218
          case hy_16_218 => intro w hSw; obtain ⟨k0, k1, k2, k3, _⟩ := hSw; go_simp; try with_reducible rfl
          simp only [pA, pB, pC, pD]
          refine tk 17 rfl ?v_17_219 ?hy_17_219 ?r_17_219
          case hy_17_219 => intro w hSw; obtain ⟨k0, k1, k2, k3, _⟩ := hSw; go_simp; try with_reducible rfl
          simp only [pA, pB, pC, pD]
          refine wpAnyH_ready (rs := [3]) (by kernel_rfl) (by simp) ?_
          refine AllReadyH.cons rfl (fun K hK => ?_) AllReadyH.nil
          go_simp
          go_at_call 12
          refine (show_any l.item _ HLO.out.item.1 HLO.out.item.2).mono ?_
          rintro x wn ⟨rfl, hb⟩
          go_wp2_with fail
          refine hK.out _ _ ⟨cell_later hb hHeld.1, cell_later hb hHeld.2.1, cell_later hb hHeld.2.2.1, cell_later hb hHeld.2.2.2.1, Below.next hHeld.2.2.2.2 hb⟩ (fun hHeld => ?_)
          clear hK K hb
          refine tk 4 rfl ?v_4_220 ?hy_4_220 ?r_4_220
          case hy_4_220 => intro w hSw; obtain ⟨k0, k1, k2, k3, _⟩ := hSw; go_simp; try with_reducible rfl
          simp only [pA, pB, pC, pD]
          refine tk 5 rfl ?v_5_221 ?hy_5_221 ?r_5_221
          case hy_5_221 => intro w hSw; obtain ⟨k0, k1, k2, k3, _⟩ := hSw; go_simp; try with_reducible rfl
          simp only [pA, pB, pC, pD]
          refine wpAnyH_ready (rs := [8]) (by kernel_rfl) (by simp) ?_
          refine AllReadyH.cons rfl (fun K hK => ?_) AllReadyH.nil
          go_simp
          go_at_call 12
          refine (show_any l.price _ HLO.out.price.1 HLO.out.price.2).mono ?_
          rintro x wn ⟨rfl, hb⟩
          go_wp2_with fail
          refine hK.out _ _ ⟨cell_later hb hHeld.1, cell_later hb hHeld.2.1, cell_later hb hHeld.2.2.1, cell_later hb hHeld.2.2.2.1, Below.next hHeld.2.2.2.2 hb⟩ (fun hHeld => ?_)
          clear hK K hb
          refine tk 9 rfl ?v_9_222 ?hy_9_222 ?r_9_222
          case hy_9_222 => intro w hSw; obtain ⟨k0, k1, k2, k3, _⟩ := hSw; go_simp; try with_reducible rfl
          simp only [pA, pB, pC, pD]
          refine tk 10 rfl ?v_10_223 ?hy_10_223 ?r_10_223
          case hy_10_223 => intro w hSw; obtain ⟨k0, k1, k2, k3, _⟩ := hSw; go_simp; try with_reducible rfl
          simp only [pA, pB, pC, pD]
          refine wpAnyH_ready (rs := [13]) (by kernel_rfl) (by simp) ?_
          refine AllReadyH.cons rfl (fun K hK => ?_) AllReadyH.nil
          go_simp
          go_at_call 12
          refine (show_any l.qty _ HLO.out.qty.1 HLO.out.qty.2).mono ?_
          rintro x wn ⟨rfl, hb⟩
          go_wp2_with fail
          refine hK.out _ _ ⟨cell_later hb hHeld.1, cell_later hb hHeld.2.1, cell_later hb hHeld.2.2.1, cell_later hb hHeld.2.2.2.1, Below.next hHeld.2.2.2.2 hb⟩ (fun hHeld => ?_)
          clear hK K hb
          refine tk 14 rfl ?v_14_224 ?hy_14_224 ?r_14_224
          case hy_14_224 => intro w hSw; obtain ⟨k0, k1, k2, k3, _⟩ := hSw; go_simp; try with_reducible rfl
          simp only [pA, pB, pC, pD]
          refine tk 15 rfl ?v_15_225 ?hy_15_225 ?r_15_225
          case hy_15_225 => intro w hSw; obtain ⟨k0, k1, k2, k3, _⟩ := hSw; go_simp; try with_reducible rfl
          simp only [pA, pB, pC, pD]
          refine wpAnyH_ready (rs := [18]) (by kernel_rfl) (by simp) ?_
          refine AllReadyH.cons rfl (fun K hK => ?_) AllReadyH.nil
          go_simp
          go_at_call 12
          refine (show_any l.shipped _ HLO.out.shipped.1 HLO.out.shipped.2).mono ?_
          rintro x wn ⟨rfl, hb⟩
          go_wp2_with fail
          refine hK.out _ _ ⟨cell_later hb hHeld.1, cell_later hb hHeld.2.1, cell_later hb hHeld.2.2.1, cell_later hb hHeld.2.2.2.1, Below.next hHeld.2.2.2.2 hb⟩ (fun hHeld => ?_)
          clear hK K hb
          refine tk 19 rfl ?v_19_226 ?hy_19_226 ?r_19_226
          case hy_19_226 => intro w hSw; obtain ⟨k0, k1, k2, k3, _⟩ := hSw; go_simp; try with_reducible rfl
          simp only [pA, pB, pC, pD]
          refine tk 20 rfl ?v_20_227 ?hy_20_227 ?r_20_227
          case hy_20_227 => intro w hSw; obtain ⟨k0, k1, k2, k3, _⟩ := hSw; go_simp; try with_reducible rfl
          simp only [pA, pB, pC, pD]
          refine tk 21 rfl ?v_21_228 ?hy_21_228 ?r_21_228
          case hy_21_228 => intro w hSw; obtain ⟨k0, k1, k2, k3, _⟩ := hSw; go_simp; try with_reducible rfl
          simp only [pA, pB, pC, pD]
          refine wpAnyH_done (by kernel_rfl) ?_ _
          have HWN := Lib.hid hHeld.2.2.2.2
          clear hHeld HA
          go_wp2
          go_roundw
          case rel => exact ⟨k + 1, by omega, by go_num, by rw [HST.out, HB8.out], Lib.hid ⟨HW.out.1.below HWN.out, Below.next HW.out.2 HWN.out⟩⟩
          case measure => first | (simp [intOf]; done) | (simp [intOf]; omega)
        · obtain rfl : k = s.lines.length := by omega
          rw [List.take_length]
          have HFI := Lib.hid (show stateT s = (u2 ++ lnParts s.lines, 0) by rw [hfin.out, HSO.out])
          go_wp2
          go_ret2
          exact ⟨by rw [HFI.out]; rfl, HW.out.2⟩

end Go.Proofs.YtlobohpbgghleaaDoor
