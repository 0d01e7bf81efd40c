import Derived.Test.YtlobohpbgghleaaDoorState
import Derived.Test.YtlobohpbgghleaaDoorItoa
import Derived.Test.YtlobohpbgghleaaDoorRefShow
import Derived.Test.YtlobohpbgghleaaDoorValid7
import Derived.Deep.QuietTactic
import Derived.BigQuiet
namespace Go.Proofs.YtlobohpbgghleaaDoor
open Go.RowKit

/-! ## dump.State -/

def stateT (s : St) : List UInt8 × Int := if validB s = true then (stateOf s, 0) else ([], 40)
theorem statusOf_len (n : Int) : (statusOf n).length ≤ 9 := by
  unfold statusOf
  rw [List.getD_eq_getElem?_getD]
  have h : ∀ t ∈ statusW, t.length ≤ 9 := by decide
  cases hx : statusW[n.toNat]? with
  | none => simp
  | some t => exact h t (List.mem_of_getElem? hx)
theorem keyPart_len (nm : List UInt8) (v : Int) (h : I64 v) : (keyPart nm v).length ≤ 22 + nm.length := by
  unfold keyPart
  have := itoa_le v h.1 h.2
  split
  · simp
  · simp; omega
structure StSmall (s : St) : Prop where
  order : I64 s.order
  st0 : 0 ≤ s.status
  st5 : s.status ≤ 5
  pr0 : 0 ≤ s.prior
  pr5 : s.prior ≤ 5
  keys : ∀ k ∈ stKeys s, I64 k.2
  names : ∀ k ∈ stKeys s, k.1.length ≤ 8
  who : s.who.length ≤ 16
  few : s.lines.length ≤ 16
  lines : ∀ l ∈ s.lines, LnOk l
theorem valid_small {s : St} (h : validB s = true) : StSmall s := by
  have hb := bounded_p (valid_bounded h)
  have hp := valid_prior h
  have h1 := hb.order; have h2 := hb.status; have h3 := hb.cur; have h4 := hb.tax; have h5 := hb.refunded; have h6 := hb.events; have h7 := hb.refused; have h8 := hb.stamp
  have hd := due_bound s hb.fine hb.few hb.tax.1 hb.tax.2
  obtain ⟨n, t, d, _, _, hD, _, _, _, _, hd2⟩ := hd
  have hpd : s.paid ≤ dueOf s := by
    unfold validB at h
    simp only [Bool.and_eq_true, decide_eq_true_eq] at h
    exact h.1.2
  refine ⟨by unfold I64; omega, h2.1, h2.2, ?_, ?_, ?_, ?_, hb.short, hb.few, ?_⟩
  · by_cases hs : s.status = 2
    · have := hp.1 hs; omega
    · have := hp.2 hs; omega
  · by_cases hs : s.status = 2
    · have := hp.1 hs; omega
    · have := hp.2 hs; omega
  · intro k hk
    simp only [stKeys, List.mem_cons, List.not_mem_nil, or_false] at hk
    unfold I64
    rcases hk with rfl | rfl | rfl | rfl | rfl | rfl | rfl <;> simp only <;> omega
  · intro k hk
    simp only [stKeys, List.mem_cons, List.not_mem_nil, or_false] at hk
    rcases hk with rfl | rfl | rfl | rfl | rfl | rfl | rfl <;> simp
  · intro l hl
    have := hb.fine l hl
    simp only [lnFine, btw, Bool.and_eq_true, decide_eq_true_eq] at this
    exact ⟨by unfold I64; omega, by unfold I64; omega, by unfold I64; omega, by unfold I64; omega⟩
theorem keyParts_take (ks : List (List UInt8 × Int)) (k : Nat) (x : List UInt8 × Int) (h : ks[k]? = some x) : keyParts (ks.take (k + 1)) = keyParts (ks.take k) ++ keyPart x.1 x.2 := by
  have h1 := List.getElem?_eq_some_iff.1 h
  rw [List.take_succ_eq_append_getElem h1.1, h1.2]; simp [keyParts]
theorem lnParts_take (ls : List Ln) (k : Nat) (x : Ln) (h : ls[k]? = some x) : lnParts (ls.take (k + 1)) = lnParts (ls.take k) ++ (32 :: lnWord x) := by
  have h1 := List.getElem?_eq_some_iff.1 h
  rw [List.take_succ_eq_append_getElem h1.1, h1.2]; simp [lnParts]
theorem keyParts_len (ks : List (List UInt8 × Int)) (h : ∀ k ∈ ks, I64 k.2) (h' : ∀ k ∈ ks, k.1.length ≤ 8) : (keyParts ks).length ≤ ks.length * 30 := by
  induction ks with
  | nil => simp [keyParts]
  | cons k ks ih =>
    have h1 := ih (fun x hx => h x (by simp [hx])) (fun x hx => h' x (by simp [hx]))
    have h2 := keyPart_len k.1 k.2 (h k (by simp))
    have h3 := h' k (by simp)
    have : keyParts (k :: ks) = keyPart k.1 k.2 ++ keyParts ks := by simp [keyParts]
    rw [this, List.length_append, List.length_cons]; omega
theorem lnWord_len (l : Ln) (h : LnOk l) : (lnWord l).length ≤ 83 := by
  have h1 := itoa_le _ h.item.1 h.item.2
  have h2 := itoa_le _ h.price.1 h.price.2
  have h3 := itoa_le _ h.qty.1 h.qty.2
  have h4 := itoa_le _ h.shipped.1 h.shipped.2
  unfold lnWord; simp; omega
theorem lnParts_len (ls : List Ln) (h : ∀ l ∈ ls, LnOk l) : (lnParts ls).length ≤ ls.length * 84 := by
  induction ls with
  | nil => simp [lnParts]
  | cons l ls ih =>
    have h1 := ih fun x hx => h x (by simp [hx])
    have h2 := lnWord_len l (h l (by simp))
    have : lnParts (l :: ls) = 32 :: lnWord l ++ lnParts ls := by simp [lnParts]
    rw [this, List.length_append, List.length_cons, List.length_cons]; omega
theorem whoPart_len (who : List UInt8) : (whoPart who).length ≤ 5 + who.length := by unfold whoPart; split <;> simp <;> omega
theorem stHead_len (s : St) (h : I64 s.order) : (stHead s).length ≤ 50 := by
  have h1 := itoa_le _ h.1 h.2
  have h2 := statusOf_len s.status
  have h3 := statusOf_len s.prior
  unfold stHead
  split <;> simp <;> omega

def Keys7 (s : St) (W : World) (g : Nat) : Prop := ∀ (k : Nat) x, (stKeys s)[k]? = some x → W.cell? ⟨g, k * 2, none⟩ = some (.string ⟨x.1.toArray⟩) ∧ W.cell? ⟨g, k * 2 + 1, none⟩ = some (.int .i64 x.2)
theorem Keys7.below {s : St} {W W' : World} {g : Nat} (h : Keys7 s W g) (hb : Below W.heap.size W W') : Keys7 s W' g := fun k x hx => ⟨cell_later hb (h k x hx).1, cell_later hb (h k x hx).2⟩
theorem keys7_alloc (s : St) (W : World) : Keys7 s (W.alloc (.cells #[.string ⟨#[99, 117, 114]⟩, .int .i64 s.cur, .string ⟨#[116, 97, 120]⟩, .int .i64 s.tax, .string ⟨#[112, 97, 105, 100]⟩, .int .i64 s.paid, .string ⟨#[114, 101, 102, 117, 110, 100, 101, 100]⟩, .int .i64 s.refunded, .string ⟨#[101, 118, 101, 110, 116, 115]⟩, .int .i64 s.events, .string ⟨#[114, 101, 102, 117, 115, 101, 100]⟩, .int .i64 s.refused, .string ⟨#[115, 116, 97, 109, 112]⟩, .int .i64 s.stamp] 37)) W.heap.size := fun k x hx => by
  rw [World.cell?_alloc_new, World.cell?_alloc_new]
  match k, hx with
  | 0, h => simp [stKeys] at h; subst h; exact ⟨rfl, rfl⟩
  | 1, h => simp [stKeys] at h; subst h; exact ⟨rfl, rfl⟩
  | 2, h => simp [stKeys] at h; subst h; exact ⟨rfl, rfl⟩
  | 3, h => simp [stKeys] at h; subst h; exact ⟨rfl, rfl⟩
  | 4, h => simp [stKeys] at h; subst h; exact ⟨rfl, rfl⟩
  | 5, h => simp [stKeys] at h; subst h; exact ⟨rfl, rfl⟩
  | 6, h => simp [stKeys] at h; subst h; exact ⟨rfl, rfl⟩
  | k + 7, h => simp [stKeys] at h
def statusesV : Value := .agg #[.string ⟨#[110, 111, 110, 101]⟩, .string ⟨#[111, 112, 101, 110]⟩, .string ⟨#[104, 101, 108, 100]⟩, .string ⟨#[112, 97, 105, 100]⟩, .string ⟨#[115, 101, 110, 116]⟩, .string ⟨#[99, 97, 110, 99, 101, 108, 108, 101, 100]⟩]
theorem statuses_any (w : World) : Calls Tryd.prog 9 #[] w fun x w' => x = .returned statusesV ∧ Below w.heap.size w w' := by
  go_enter Tryd.func9, Tryd.ntmps9
  go_wp2
  refine bodyPost_ret (v := statusesV) (by simp [results, Tryd.results9, go_sem, statusesV]) rfl ⟨rfl, ?_⟩
  exact (Below.refl _ _).alloc (Nat.le_refl _) _
theorem statuses_cell (w : World) (n : Int) (h0 : 0 ≤ n) (h5 : n ≤ 5) : (w.alloc (.cells #[.string ⟨#[110, 111, 110, 101]⟩, .string ⟨#[111, 112, 101, 110]⟩, .string ⟨#[104, 101, 108, 100]⟩, .string ⟨#[112, 97, 105, 100]⟩, .string ⟨#[115, 101, 110, 116]⟩, .string ⟨#[99, 97, 110, 99, 101, 108, 108, 101, 100]⟩] 34)).cell? ⟨w.heap.size, n.toNat, none⟩ = some (.string ⟨(statusOf n).toArray⟩) := by
  rw [World.cell?_alloc_new]
  rcases (show n = 0 ∨ n = 1 ∨ n = 2 ∨ n = 3 ∨ n = 4 ∨ n = 5 by omega) with rfl | rfl | rfl | rfl | rfl | rfl <;> rfl

set_option maxRecDepth 100000 in
set_option maxHeartbeats 16000000 in
theorem dumpState_any (s : St) (lv : Value) (w : World) (hr : LnRow w lv s.lines) (hw : s.who.length ≤ 281474976710656) (hP : PowTab w) :
    Calls Tryd.prog 4 #[stV s lv] w fun e w' => e = .returned (.tuple #[.string ⟨(stateT s).1.toArray⟩, .int .i64 (stateT s).2]) ∧ Below w.heap.size w w' := by
  have HP := Lib.hid hP
  have HE0 := Lib.hid (show StBlk (w.alloc (.cells (stCs s lv) 25)) w.heap.size s lv ∧ Below w.heap.size w (w.alloc (.cells (stCs s lv) 25)) from ⟨stBlk_alloc w s lv, (Below.refl _ _).alloc (Nat.le_refl _) _⟩)
  have HVA := Lib.hid (show ∀ W : World, Below w.heap.size w W → Calls Tryd.prog 8 #[stV s lv] W fun e w' => e = .returned (.bool (validB s)) ∧ Below W.heap.size W w' from fun W h => oValid_any s lv W (hr.below h) hw)
  have hlv0 := hr
  obtain ⟨oa, cap, hlv, hl1, hl2, hcs⟩ := hr.shape
  subst hlv
  have HC := Lib.hid hcs
  clear hr hcs hlv0 hw
  cases hv : validB s
  case false =>
    have hfin := Lib.hid (show stateT s = ([], 40) by unfold stateT; rw [hv]; rfl)
    rw [hv] at HVA
    clear hv
    go_enter Tryd.func4, Tryd.ntmps4
    go_wp2_with (first
      | (with_reducible refine wpList_load_st rfl (.tmp 1) rfl w.heap.size s _ rfl HE0.out.1 ?_)
      | (go_at_call 8; refine (HVA.out _ HE0.out.2).mono ?_; rintro x w1 ⟨rfl, hb⟩; have HB1 := Lib.hid (Below.next HE0.out.2 hb); clear hb))
    go_ret2
    exact ⟨by rw [hfin.out]; rfl, HB1.out⟩
  case true =>
  have hfin := Lib.hid (show stateT s = (stateOf s, 0) by unfold stateT; rw [hv]; rfl)
  have HSM := Lib.hid (valid_small hv)
  rw [hv] at HVA
  clear hv hP
  have hsm := HSM.out
  have ho := hsm.order
  have hol := itoa_le s.order ho.1 ho.2
  have hsl := statusOf_len s.status
  have hpl := statusOf_len s.prior
  have q0 := hsm.st0
  have q1 : s.status < 6 := by have := hsm.st5; omega
  have q2 := hsm.pr0
  have q3 : s.prior < 6 := by have := hsm.pr5; omega
  obtain ⟨m1, hm1⟩ : ∃ m, m = [111, 114, 100, 101, 114, 32] ++ Lib.itoa s.order := ⟨_, rfl⟩
  have lm1 : m1.length = ([111, 114, 100, 101, 114, 32] : List UInt8).length + (Lib.itoa s.order : List UInt8).length := by rw [hm1, List.length_append]
  obtain ⟨m2, hm2⟩ : ∃ m, m = m1 ++ [32] := ⟨_, rfl⟩
  have lm2 : m2.length = (m1 : List UInt8).length + ([32] : List UInt8).length := by rw [hm2, List.length_append]
  obtain ⟨m3, hm3⟩ : ∃ m, m = m2 ++ statusOf s.status := ⟨_, rfl⟩
  have lm3 : m3.length = (m2 : List UInt8).length + (statusOf s.status : List UInt8).length := by rw [hm3, List.length_append]
  obtain ⟨p1, hp1⟩ : ∃ m, m = [32] ++ statusOf s.prior := ⟨_, rfl⟩
  have lp1 : p1.length = ([32] : List UInt8).length + (statusOf s.prior : List UInt8).length := by rw [hp1, List.length_append]
  obtain ⟨m4, hm4⟩ : ∃ m, m = m3 ++ p1 := ⟨_, rfl⟩
  have lm4 : m4.length = (m3 : List UInt8).length + (p1 : List UInt8).length := by rw [hm4, List.length_append]
  simp only [List.length_cons, List.length_nil] at lm1 lm2 lm3 lp1 lm4
  have em1 := str_add _ _ _ hm1 (by omega)
  have em2 := str_add _ _ _ hm2 (by omega)
  have em3 := str_add _ _ _ hm3 (by omega)
  have ep1 := str_add _ _ _ hp1 (by omega)
  have em4 := str_add _ _ _ hm4 (by omega)
  have HH1 := Lib.hid (show s.status ≠ 2 → stHead s = m3 from fun h => by unfold stHead; rw [if_neg h, hm3, hm2, hm1]; simp)
  have HH2 := Lib.hid (show s.status = 2 → stHead s = m4 from fun h => by unfold stHead; rw [if_pos h, hm4, hp1, hm3, hm2, hm1]; simp)
  clear hm1 hm2 hm3 hp1 hm4 hsm lm1 lm2 lm3 lp1 lm4 hol hsl hpl
  go_enter Tryd.func4, Tryd.ntmps4
  go_wp2_with (first
    | (with_reducible refine wpList_load_st rfl (.tmp 1) rfl w.heap.size s _ rfl HE0.out.1 ?_)
    | (go_at_call 8; refine (HVA.out _ HE0.out.2).mono ?_; rintro x w1 ⟨rfl, hb⟩; have HE1 := Lib.hid (show StBlk w1 w.heap.size s (.slice oa s.lines.length cap) ∧ Below w.heap.size w w1 from ⟨HE0.out.1.below hb, Below.next HE0.out.2 hb⟩); clear hb)
    | (go_at_call 9; refine (statuses_any _).mono ?_; rintro x w2 ⟨rfl, hb⟩; have HE2 := Lib.hid (show StBlk w2 w.heap.size s (.slice oa s.lines.length cap) ∧ Below w.heap.size w w2 from ⟨HE1.out.1.below hb, Below.next HE1.out.2 hb⟩); clear hb; unfold statusesV))
  have hA := (show Below w2.heap.size w2 (w2.alloc (.cells #[.string ⟨#[110, 111, 110, 101]⟩, .string ⟨#[111, 112, 101, 110]⟩, .string ⟨#[104, 101, 108, 100]⟩, .string ⟨#[112, 97, 105, 100]⟩, .string ⟨#[115, 101, 110, 116]⟩, .string ⟨#[99, 97, 110, 99, 101, 108, 108, 101, 100]⟩] 34)) from (Below.refl _ _).alloc (Nat.le_refl _) _)
  have HE3 := Lib.hid (show StBlk (w2.alloc (.cells #[.string ⟨#[110, 111, 110, 101]⟩, .string ⟨#[111, 112, 101, 110]⟩, .string ⟨#[104, 101, 108, 100]⟩, .string ⟨#[112, 97, 105, 100]⟩, .string ⟨#[115, 101, 110, 116]⟩, .string ⟨#[99, 97, 110, 99, 101, 108, 108, 101, 100]⟩] 34)) w.heap.size s (.slice oa s.lines.length cap) ∧ Below w.heap.size w (w2.alloc (.cells #[.string ⟨#[110, 111, 110, 101]⟩, .string ⟨#[111, 112, 101, 110]⟩, .string ⟨#[104, 101, 108, 100]⟩, .string ⟨#[112, 97, 105, 100]⟩, .string ⟨#[115, 101, 110, 116]⟩, .string ⟨#[99, 97, 110, 99, 101, 108, 108, 101, 100]⟩] 34)) from ⟨HE2.out.1.below hA, Below.next HE2.out.2 hA⟩)
  have HSC := Lib.hid (statuses_cell w2)
  clear hA HE0 HE1 HE2 HVA
  generalize hg4 : w2.heap.size = g4 at *
  generalize w2.alloc (.cells #[.string ⟨#[110, 111, 110, 101]⟩, .string ⟨#[111, 112, 101, 110]⟩, .string ⟨#[104, 101, 108, 100]⟩, .string ⟨#[112, 97, 105, 100]⟩, .string ⟨#[115, 101, 110, 116]⟩, .string ⟨#[99, 97, 110, 99, 101, 108, 108, 101, 100]⟩] 34) = w3 at *
  clear hg4
  refine wp_region_held_drew (S := fun w' => StBlk w' w.heap.size s (.slice oa s.lines.length cap) ∧ w'.cell? ⟨g4, s.status.toNat, none⟩ = some (.string ⟨(statusOf s.status).toArray⟩) ∧ w'.cell? ⟨g4, s.prior.toNat, none⟩ = some (.string ⟨(statusOf s.prior).toArray⟩) ∧ Below w.heap.size w w') (by kernel_rfl)
    ⟨HE3.out.1, HSC.out _ q0 (by omega), HSC.out _ q2 (by omega), Below.next HE3.out.2 (below_drewN' _ 1)⟩ (fun hHeld => ?_)
  refine tk 0 rfl ?v_0_1 ?hy_0_1 ?r_0_1
  case hy_0_1 => intro w hSw; obtain ⟨hSt, hz1, hz2, _⟩ := hSw; have k0 := hSt.cell 0; have k1 := hSt.cell 1; simp only [stCs] at k0 k1; go_simp; try with_reducible rfl
  simp only [pA, pB, pC, pD]
  refine tk 1 rfl ?v_1_2 ?hy_1_2 ?r_1_2
  case hy_1_2 => intro w hSw; obtain ⟨hSt, hz1, hz2, _⟩ := hSw; have k0 := hSt.cell 0; have k1 := hSt.cell 1; simp only [stCs] at k0 k1; go_simp; try with_reducible rfl
  simp only [pA, pB, pC, pD]
  refine tk 5 rfl ?v_5_3 ?hy_5_3 ?r_5_3
  case hy_5_3 => intro w hSw; obtain ⟨hSt, hz1, hz2, _⟩ := hSw; have k0 := hSt.cell 0; have k1 := hSt.cell 1; simp only [stCs] at k0 k1; go_simp; try with_reducible rfl
  simp only [pA, pB, pC, pD]
  refine tk 6 rfl ?v_6_4 ?hy_6_4 ?r_6_4
  case hy_6_4 => intro w hSw; obtain ⟨hSt, hz1, hz2, _⟩ := hSw; have k0 := hSt.cell 0; have k1 := hSt.cell 1; simp only [stCs] at k0 k1; go_simp; try with_reducible rfl
  simp only [pA, pB, pC, pD]
  refine tk 7 rfl ?v_7_5 ?hy_7_5 ?r_7_5
  case hy_7_5 => intro w hSw; obtain ⟨hSt, hz1, hz2, _⟩ := hSw; have k0 := hSt.cell 0; have k1 := hSt.cell 1; simp only [stCs] at k0 k1; go_simp; try with_reducible rfl
  simp only [pA, pB, pC, pD]
  refine tk 8 rfl ?v_8_6 ?hy_8_6 ?r_8_6
  case hy_8_6 => intro w hSw; obtain ⟨hSt, hz1, hz2, _⟩ := hSw; have k0 := hSt.cell 0; have k1 := hSt.cell 1; simp only [stCs] at k0 k1; go_simp; try with_reducible rfl
  simp only [pA, pB, pC, pD]
  refine wpAnyH_ready (rs := [2]) (by kernel_rfl) (by simp) ?_
  refine AllReadyH.cons rfl (fun K hK => ?_) AllReadyH.nil
  go_simp
  go_at_call 10
  refine (Itoa_any s.order _ ho.1 ho.2 (HP.out.below hHeld.2.2.2)).mono ?_
  rintro x wn ⟨rfl, hb⟩
  go_wp2_with fail
  refine hK.out _ _ ⟨hHeld.1.below hb, cell_later hb hHeld.2.1, cell_later hb hHeld.2.2.1, Below.next hHeld.2.2.2 hb⟩ (fun hHeld => ?_)
  clear hK K hb
  refine tk 3 rfl ?v_3_7 ?hy_3_7 ?r_3_7
  case hy_3_7 => intro w hSw; obtain ⟨hSt, hz1, hz2, _⟩ := hSw; have k0 := hSt.cell 0; have k1 := hSt.cell 1; simp only [stCs] at k0 k1; go_simp; try with_reducible rfl
  simp only [pA, pB, pC, pD]
  refine tk 4 rfl ?v_4_8 ?hy_4_8 ?r_4_8
  case hy_4_8 => intro w hSw; obtain ⟨hSt, hz1, hz2, _⟩ := hSw; have k0 := hSt.cell 0; have k1 := hSt.cell 1; simp only [stCs] at k0 k1; go_simp; try with_reducible rfl
  simp only [pA, pB, pC, pD]
  refine tk 9 rfl ?v_9_9 ?hy_9_9 ?r_9_9
  case hy_9_9 => intro w hSw; obtain ⟨hSt, hz1, hz2, _⟩ := hSw; have k0 := hSt.cell 0; have k1 := hSt.cell 1; simp only [stCs] at k0 k1; go_simp; try with_reducible rfl
  simp only [pA, pB, pC, pD]
  refine tk 10 rfl ?v_10_10 ?hy_10_10 ?r_10_10
  case hy_10_10 => intro w hSw; obtain ⟨hSt, hz1, hz2, _⟩ := hSw; have k0 := hSt.cell 0; have k1 := hSt.cell 1; simp only [stCs] at k0 k1; go_simp; try with_reducible rfl
  simp only [pA, pB, pC, pD]
  refine wpAnyH_done (by kernel_rfl) ?_ _
  have HE4 := Lib.hid hHeld
  clear hHeld HE3 HSC em1 em2
  have c1 := HE4.out.1.c1
  have c2 := HE4.out.1.c2
  have c3 := HE4.out.1.c3
  have c4 := HE4.out.1.c4
  have c6 := HE4.out.1.c6
  have c7 := HE4.out.1.c7
  have c8 := HE4.out.1.c8
  have c9 := HE4.out.1.c9
  have c10 := HE4.out.1.c10
  have d2 := HE4.out.2.2.1
  obtain ⟨H, hH⟩ : ∃ H, H = stHead s := ⟨_, rfl⟩
  rw [← hH] at HH1 HH2
  have hHl : H.length ≤ 50 := hH ▸ stHead_len s ho
  have HSO := Lib.hid (show stateOf s = H ++ keyParts (stKeys s) ++ whoPart s.who ++ lnParts s.lines by unfold stateOf; rw [hH])
  clear hH
  have HK7 := Lib.hid (keys7_alloc s)
  have HOO := Lib.hid ho

  by_cases hs2 : s.status = 2
  · have hH2 := HH2.out hs2
    subst hH2
    have t2 : (s.status == 2) = true := by rw [beq_iff_eq]; exact hs2
    clear hs2 HH1 HH2
    go_wp2
    have HW7 := Lib.hid (show StBlk (wn.alloc (.cells #[.string ⟨#[99, 117, 114]⟩, .int .i64 s.cur, .string ⟨#[116, 97, 120]⟩, .int .i64 s.tax, .string ⟨#[112, 97, 105, 100]⟩, .int .i64 s.paid, .string ⟨#[114, 101, 102, 117, 110, 100, 101, 100]⟩, .int .i64 s.refunded, .string ⟨#[101, 118, 101, 110, 116, 115]⟩, .int .i64 s.events, .string ⟨#[114, 101, 102, 117, 115, 101, 100]⟩, .int .i64 s.refused, .string ⟨#[115, 116, 97, 109, 112]⟩, .int .i64 s.stamp] 37)) w.heap.size s (.slice oa s.lines.length cap) ∧ Below w.heap.size w (wn.alloc (.cells #[.string ⟨#[99, 117, 114]⟩, .int .i64 s.cur, .string ⟨#[116, 97, 120]⟩, .int .i64 s.tax, .string ⟨#[112, 97, 105, 100]⟩, .int .i64 s.paid, .string ⟨#[114, 101, 102, 117, 110, 100, 101, 100]⟩, .int .i64 s.refunded, .string ⟨#[101, 118, 101, 110, 116, 115]⟩, .int .i64 s.events, .string ⟨#[114, 101, 102, 117, 115, 101, 100]⟩, .int .i64 s.refused, .string ⟨#[115, 116, 97, 109, 112]⟩, .int .i64 s.stamp] 37)) ∧ Keys7 s (wn.alloc (.cells #[.string ⟨#[99, 117, 114]⟩, .int .i64 s.cur, .string ⟨#[116, 97, 120]⟩, .int .i64 s.tax, .string ⟨#[112, 97, 105, 100]⟩, .int .i64 s.paid, .string ⟨#[114, 101, 102, 117, 110, 100, 101, 100]⟩, .int .i64 s.refunded, .string ⟨#[101, 118, 101, 110, 116, 115]⟩, .int .i64 s.events, .string ⟨#[114, 101, 102, 117, 115, 101, 100]⟩, .int .i64 s.refused, .string ⟨#[115, 116, 97, 109, 112]⟩, .int .i64 s.stamp] 37)) wn.heap.size from ⟨HE4.out.1.below ((Below.refl _ _).alloc (Nat.le_refl _) _), Below.next HE4.out.2.2.2 ((Below.refl _ _).alloc (Nat.le_refl _) _), HK7.out wn⟩)
    clear HE4 HK7
    go_loopw [5, 57] (fun ov iv wr => ∃ (k : Nat), k ≤ 7 ∧ iv = .int .i64 k ∧ ov = .string ⟨(H ++ keyParts ((stKeys s).take k)).toArray⟩ ∧ Hid (StBlk wr w.heap.size s (.slice oa s.lines.length cap) ∧ Below w.heap.size w wr ∧ Keys7 s wr wn.heap.size)) (fun _ iv _ => 7 - (intOf iv).toNat)
    case atStart => exact ⟨0, Nat.zero_le _, rfl, by simp [keyParts], HW7⟩
    case round =>
      clear HW7
      obtain ⟨k, hk, rfl, rfl, HW⟩ := hrel
      by_cases hlt : k < 7
      · obtain ⟨x, hx, _, hmem⟩ := nth (stKeys s) k hlt
        have q1 : (k : Int) < 7 := by omega
        have ca := (HW.out.2.2 k x hx).1
        have cb := (HW.out.2.2 k x hx).2
        have hxi := HSM.out.keys x hmem
        have hxn := HSM.out.names x hmem
        have hkp := keyParts_take (stKeys s) k x hx
        by_cases hz : x.2 = 0
        · have t1 : (x.2 != 0) = false := by rw [hz]; rfl
          have HKP := Lib.hid (show keyParts ((stKeys s).take (k + 1)) = keyParts ((stKeys s).take k) by rw [hkp, keyPart, if_pos hz, List.append_nil])
          have HA := Lib.hid (show Below wr.heap.size wr (wr.alloc (.cells #[.string ⟨x.1.toArray⟩, .int .i64 x.2] 37)) from (Below.refl _ _).alloc (Nat.le_refl _) _)
          clear hx hmem hxi hxn hkp hz
          go_wp2
          go_roundw
          case rel => exact ⟨k + 1, by omega, by go_num, by rw [HKP.out], Lib.hid ⟨HW.out.1.below HA.out, Below.next HW.out.2.1 HA.out, HW.out.2.2.below HA.out⟩⟩
          case measure => first | (simp [intOf]; done) | (simp [intOf]; omega)
        · have t1 : (x.2 != 0) = true := by rw [bne_iff_ne]; exact hz
          have hi1 := itoa_le _ hxi.1 hxi.2
          have hot : (H ++ keyParts ((stKeys s).take k)).length ≤ 300 := by
            have h1 := keyParts_len ((stKeys s).take k) (fun y hy => HSM.out.keys y (List.mem_of_mem_take hy)) (fun y hy => HSM.out.names y (List.mem_of_mem_take hy))
            rw [List.length_append]; simp only [List.length_take] at h1; omega
          have HST := Lib.hid (show H ++ keyParts ((stKeys s).take (k + 1)) = (H ++ keyParts ((stKeys s).take k)) ++ (32 :: (x.1 ++ 61 :: Lib.itoa x.2)) by rw [hkp, keyPart, if_neg hz, List.append_assoc])
          obtain ⟨O, hO⟩ : ∃ O, O = H ++ keyParts ((stKeys s).take k) := ⟨_, rfl⟩
          rw [← hO] at HST hot ⊢
          obtain ⟨a1, ha1⟩ : ∃ m, m = [32] ++ x.1 := ⟨_, rfl⟩
          have la1 : a1.length = ([32] : List UInt8).length + (x.1 : List UInt8).length := by rw [ha1, List.length_append]
          obtain ⟨a2, ha2⟩ : ∃ m, m = a1 ++ [61] := ⟨_, rfl⟩
          have la2 : a2.length = (a1 : List UInt8).length + ([61] : List UInt8).length := by rw [ha2, List.length_append]
          obtain ⟨a3, ha3⟩ : ∃ m, m = a2 ++ Lib.itoa x.2 := ⟨_, rfl⟩
          have la3 : a3.length = (a2 : List UInt8).length + (Lib.itoa x.2 : List UInt8).length := by rw [ha3, List.length_append]
          obtain ⟨a4, ha4⟩ : ∃ m, m = O ++ a3 := ⟨_, rfl⟩
          have la4 : a4.length = (O : List UInt8).length + (a3 : List UInt8).length := by rw [ha4, List.length_append]
          simp only [List.length_cons, List.length_nil] at la1 la2 la3 la4
          have ea1 := str_add _ _ _ ha1 (by omega)
          have ea2 := str_add _ _ _ ha2 (by omega)
          have ea3 := str_add _ _ _ ha3 (by omega)
          have ea4 := str_add _ _ _ ha4 (by omega)
          have HA4 := Lib.hid (show O ++ (32 :: (x.1 ++ 61 :: Lib.itoa x.2)) = a4 by rw [ha4, ha3, ha2, ha1]; simp)
          have HXI := Lib.hid hxi
          clear hx hmem hxi hxn hkp hz hi1 hot hO ha1 ha2 ha3 ha4 la1 la2 la3 la4
          go_wp2
          have hA := (show Below wr.heap.size wr (wr.alloc (.cells #[.string ⟨x.1.toArray⟩, .int .i64 x.2] 37)) from (Below.refl _ _).alloc (Nat.le_refl _) _)
          refine wp_region_held_drew (S := fun w' => w'.cell? ⟨wr.heap.size, 0, none⟩ = some (.string ⟨x.1.toArray⟩) ∧ w'.cell? ⟨wr.heap.size, 1, none⟩ = some (.int .i64 x.2) ∧ Below wr.heap.size wr w') (by kernel_rfl) ⟨(World.cell?_alloc_new _ _ _ _).trans rfl, (World.cell?_alloc_new _ _ _ _).trans rfl, Below.next hA (below_drewN' _ 1)⟩ (fun hHeld => ?_)
          clear hA
          refine tk 0 rfl ?v_0_11 ?hy_0_11 ?r_0_11
          case hy_0_11 => intro w hSw; obtain ⟨k0, k1, _⟩ := hSw; go_simp; try with_reducible rfl
          simp only [pA, pB, pC, pD]
          refine tk 1 rfl ?v_1_12 ?hy_1_12 ?r_1_12
          case hy_1_12 => intro w hSw; obtain ⟨k0, k1, _⟩ := hSw; go_simp; try with_reducible rfl
          simp only [pA, pB, pC, pD]
          refine tk 2 rfl ?v_2_13 ?hy_2_13 ?r_2_13
          case hy_2_13 => intro w hSw; obtain ⟨k0, k1, _⟩ := hSw; go_simp; try with_reducible rfl
          simp only [pA, pB, pC, pD]
          refine tk 3 rfl ?v_3_14 ?hy_3_14 ?r_3_14
          case hy_3_14 => intro w hSw; obtain ⟨k0, k1, _⟩ := hSw; go_simp; try with_reducible rfl
          simp only [pA, pB, pC, pD]
          refine tk 4 rfl ?v_4_15 ?hy_4_15 ?r_4_15
          case hy_4_15 => intro w hSw; obtain ⟨k0, k1, _⟩ := hSw; go_simp; try with_reducible rfl
          simp only [pA, pB, pC, pD]
          refine tk 5 rfl ?v_5_16 ?hy_5_16 ?r_5_16
          case hy_5_16 => intro w hSw; obtain ⟨k0, k1, _⟩ := hSw; go_simp; try with_reducible rfl
          simp only [pA, pB, pC, pD]
          refine tk 6 rfl ?v_6_17 ?hy_6_17 ?r_6_17
          case hy_6_17 => intro w hSw; obtain ⟨k0, k1, _⟩ := hSw; go_simp; try with_reducible rfl
          simp only [pA, pB, pC, pD]
          refine wpAnyH_ready (rs := [7]) (by kernel_rfl) (by simp) ?_
          refine AllReadyH.cons rfl (fun K hK => ?_) AllReadyH.nil
          go_simp
          go_at_call 10
          refine (Itoa_any x.2 _ HXI.out.1 HXI.out.2 (HP.out.below (Below.next HW.out.2.1 hHeld.2.2))).mono ?_
          rintro x wn ⟨rfl, hb⟩
          go_wp2_with fail
          refine hK.out _ _ ⟨cell_later hb hHeld.1, cell_later hb hHeld.2.1, Below.next hHeld.2.2 hb⟩ (fun hHeld => ?_)
          clear hK K hb
          refine tk 8 rfl ?v_8_18 ?hy_8_18 ?r_8_18
          case hy_8_18 => intro w hSw; obtain ⟨k0, k1, _⟩ := hSw; go_simp; try with_reducible rfl
          simp only [pA, pB, pC, pD]
          refine tk 9 rfl ?v_9_19 ?hy_9_19 ?r_9_19
          case hy_9_19 => intro w hSw; obtain ⟨k0, k1, _⟩ := hSw; go_simp; try with_reducible rfl
          simp only [pA, pB, pC, pD]
          refine tk 10 rfl ?v_10_20 ?hy_10_20 ?r_10_20
          case hy_10_20 => intro w hSw; obtain ⟨k0, k1, _⟩ := hSw; go_simp; try with_reducible rfl
          simp only [pA, pB, pC, pD]
          refine wpAnyH_done (by kernel_rfl) ?_ _
          have HWN := Lib.hid hHeld.2.2
          clear hHeld
          go_wp2
          go_roundw
          case rel => exact ⟨k + 1, by omega, by go_num, by rw [HST.out, HA4.out], Lib.hid ⟨HW.out.1.below HWN.out, Below.next HW.out.2.1 HWN.out, HW.out.2.2.below HWN.out⟩⟩
          case measure => first | (simp [intOf]; done) | (simp [intOf]; omega)
      · obtain rfl : k = 7 := by omega
        rw [show (stKeys s).take 7 = stKeys s from rfl, show ((7 : Nat) : Int) = 7 from rfl]
        obtain ⟨O7, hO7⟩ : ∃ O7, O7 = H ++ keyParts (stKeys s) := ⟨_, rfl⟩
        have ho7 : O7.length ≤ 300 := by
          have h1 := keyParts_len (stKeys s) HSM.out.keys HSM.out.names
          rw [hO7, List.length_append]; simp only [show (stKeys s).length = 7 from rfl] at h1; omega
        rw [← hO7] at HSO ⊢
        have c11 := HW.out.1.c11
        have c5 : wr.cell? ⟨w.heap.size, 5, none⟩ = some (.slice oa s.lines.length cap) := HW.out.1.cell 5
        have HW8 := Lib.hid (show StBlk wr w.heap.size s (.slice oa s.lines.length cap) ∧ Below w.heap.size w wr from ⟨HW.out.1, HW.out.2.1⟩)
        clear hO7 HW hlt
        by_cases hwe : s.who = []
        · have t1 : s.who.isEmpty = true := by rw [hwe]; rfl
          have t2 : (s.who != []) = false := by rw [hwe]; rfl
          rw [show whoPart s.who = [] by rw [hwe]; rfl, List.append_nil] at HSO
          have ho8 : O7.length ≤ 400 := by omega
          clear hwe
          go_wp2
          clear t1 t2
          go_loopw [5, 86] (fun ov iv wr => ∃ (k : Nat), k ≤ s.lines.length ∧ iv = .int .i64 k ∧ ov = .string ⟨(O7 ++ lnParts (s.lines.take k)).toArray⟩ ∧ Hid (StBlk wr w.heap.size s (.slice oa s.lines.length cap) ∧ Below w.heap.size w wr)) (fun _ iv _ => s.lines.length - (intOf iv).toNat)
          case atStart => exact ⟨0, Nat.zero_le _, rfl, by simp [lnParts], Lib.hid ⟨HW8.out.1, HW8.out.2⟩⟩
          case round =>
            clear HW8
            obtain ⟨k, hk, rfl, rfl, HW⟩ := hrel
            by_cases hlt : k < s.lines.length
            · obtain ⟨l, hl, _, hmem⟩ := nth s.lines k hlt
              have q1 : (k : Int) < (s.lines.length : Int) := by omega
              obtain ⟨b, off, rfl, hcell⟩ := HC.out k l hl
              have HCE := Lib.hid (range_later hcell HW.out.2)
              have hlo := HSM.out.lines l hmem
              have hi1 := itoa_le _ hlo.item.1 hlo.item.2; have hi2 := itoa_le _ hlo.price.1 hlo.price.2; have hi3 := itoa_le _ hlo.qty.1 hlo.qty.2; have hi4 := itoa_le _ hlo.shipped.1 hlo.shipped.2
              have hot : (O7 ++ lnParts (s.lines.take k)).length ≤ 2000 := by
                have h1 := lnParts_len (s.lines.take k) fun x hx => HSM.out.lines x (List.mem_of_mem_take hx)
                have h2 := HSM.out.few
                rw [List.length_append]; simp only [List.length_take] at h1; omega
              have HST := Lib.hid (show O7 ++ lnParts (s.lines.take (k + 1)) = (O7 ++ lnParts (s.lines.take k)) ++ (32 :: lnWord l) by rw [lnParts_take _ _ _ hl, List.append_assoc])
              obtain ⟨O, hO⟩ : ∃ O, O = O7 ++ lnParts (s.lines.take k) := ⟨_, rfl⟩
              rw [← hO] at HST hot ⊢
              obtain ⟨b1, hb1⟩ : ∃ m, m = [32] ++ Lib.itoa l.item := ⟨_, rfl⟩
              have lb1 : b1.length = ([32] : List UInt8).length + (Lib.itoa l.item : List UInt8).length := by rw [hb1, List.length_append]
              obtain ⟨b2, hb2⟩ : ∃ m, m = b1 ++ [58] := ⟨_, rfl⟩
              have lb2 : b2.length = (b1 : List UInt8).length + ([58] : List UInt8).length := by rw [hb2, List.length_append]
              obtain ⟨b3, hb3⟩ : ∃ m, m = b2 ++ Lib.itoa l.price := ⟨_, rfl⟩
              have lb3 : b3.length = (b2 : List UInt8).length + (Lib.itoa l.price : List UInt8).length := by rw [hb3, List.length_append]
              obtain ⟨b4, hb4⟩ : ∃ m, m = b3 ++ [42] := ⟨_, rfl⟩
              have lb4 : b4.length = (b3 : List UInt8).length + ([42] : List UInt8).length := by rw [hb4, List.length_append]
              obtain ⟨b5, hb5⟩ : ∃ m, m = b4 ++ Lib.itoa l.qty := ⟨_, rfl⟩
              have lb5 : b5.length = (b4 : List UInt8).length + (Lib.itoa l.qty : List UInt8).length := by rw [hb5, List.length_append]
              obtain ⟨b6, hb6⟩ : ∃ m, m = b5 ++ [45] := ⟨_, rfl⟩
              have lb6 : b6.length = (b5 : List UInt8).length + ([45] : List UInt8).length := by rw [hb6, List.length_append]
              obtain ⟨b7, hb7⟩ : ∃ m, m = b6 ++ Lib.itoa l.shipped := ⟨_, rfl⟩
              have lb7 : b7.length = (b6 : List UInt8).length + (Lib.itoa l.shipped : List UInt8).length := by rw [hb7, List.length_append]
              obtain ⟨b8, hb8⟩ : ∃ m, m = O ++ b7 := ⟨_, rfl⟩
              have lb8 : b8.length = (O : List UInt8).length + (b7 : List UInt8).length := by rw [hb8, List.length_append]
              simp only [List.length_cons, List.length_nil] at lb1 lb2 lb3 lb4 lb5 lb6 lb7 lb8
              have eb1 := str_add _ _ _ hb1 (by omega)
              have eb2 := str_add _ _ _ hb2 (by omega)
              have eb3 := str_add _ _ _ hb3 (by omega)
              have eb4 := str_add _ _ _ hb4 (by omega)
              have eb5 := str_add _ _ _ hb5 (by omega)
              have eb6 := str_add _ _ _ hb6 (by omega)
              have eb7 := str_add _ _ _ hb7 (by omega)
              have eb8 := str_add _ _ _ hb8 (by omega)
              have HB8 := Lib.hid (show O ++ (32 :: lnWord l) = b8 by rw [hb8, hb7, hb6, hb5, hb4, hb3, hb2, hb1]; simp [lnWord])
              have HLO := Lib.hid hlo
              clear hl hmem hcell hlo hi1 hi2 hi3 hi4 hot hO hb1 hb2 hb3 hb4 hb5 hb6 hb7 hb8 lb1 lb2 lb3 lb4 lb5 lb6 lb7 lb8
              go_wp2_with (with_reducible refine wpList_load_ln rfl (.tmp 88) rfl b (off + k * 4) l rfl HCE.out ?_)
              have hA := (show Below wr.heap.size wr (wr.alloc (.cells #[.int .i64 l.item, .int .i64 l.price, .int .i64 l.qty, .int .i64 l.shipped] 40)) from (Below.refl _ _).alloc (Nat.le_refl _) _)
              have HA := Lib.hid (show ((wr.alloc (.cells #[.int .i64 l.item, .int .i64 l.price, .int .i64 l.qty, .int .i64 l.shipped] 40)).drew.cell? ⟨wr.heap.size, 0, none⟩ = some (.int .i64 l.item) ∧ (wr.alloc (.cells #[.int .i64 l.item, .int .i64 l.price, .int .i64 l.qty, .int .i64 l.shipped] 40)).drew.cell? ⟨wr.heap.size, 1, none⟩ = some (.int .i64 l.price) ∧ (wr.alloc (.cells #[.int .i64 l.item, .int .i64 l.price, .int .i64 l.qty, .int .i64 l.shipped] 40)).drew.cell? ⟨wr.heap.size, 2, none⟩ = some (.int .i64 l.qty) ∧ (wr.alloc (.cells #[.int .i64 l.item, .int .i64 l.price, .int .i64 l.qty, .int .i64 l.shipped] 40)).drew.cell? ⟨wr.heap.size, 3, none⟩ = some (.int .i64 l.shipped) ∧ Below wr.heap.size wr (wr.alloc (.cells #[.int .i64 l.item, .int .i64 l.price, .int .i64 l.qty, .int .i64 l.shipped] 40)).drew) from ⟨(World.cell?_alloc_new _ _ _ _).trans rfl, (World.cell?_alloc_new _ _ _ _).trans rfl, (World.cell?_alloc_new _ _ _ _).trans rfl, (World.cell?_alloc_new _ _ _ _).trans rfl, Below.next hA (below_drewN' _ 1)⟩)
              clear hA
              refine wp_region_held_drew (S := fun w' => w'.cell? ⟨wr.heap.size, 0, none⟩ = some (.int .i64 l.item) ∧ w'.cell? ⟨wr.heap.size, 1, none⟩ = some (.int .i64 l.price) ∧ w'.cell? ⟨wr.heap.size, 2, none⟩ = some (.int .i64 l.qty) ∧ w'.cell? ⟨wr.heap.size, 3, none⟩ = some (.int .i64 l.shipped) ∧ Below wr.heap.size wr w') (by kernel_rfl) HA.out (fun hHeld => ?_)
              refine tk 0 rfl ?v_0_21 ?hy_0_21 ?r_0_21
              case hy_0_21 => intro w hSw; obtain ⟨k0, k1, k2, k3, _⟩ := hSw; go_simp; try with_reducible rfl
              simp only [pA, pB, pC, pD]
              refine tk 1 rfl ?v_1_22 ?hy_1_22 ?r_1_22
              case hy_1_22 => intro w hSw; obtain ⟨k0, k1, k2, k3, _⟩ := hSw; go_simp; try with_reducible rfl
              simp only [pA, pB, pC, pD]
              refine tk 2 rfl ?v_2_23 ?hy_2_23 ?r_2_23
              case hy_2_23 => intro w hSw; obtain ⟨k0, k1, k2, k3, _⟩ := hSw; go_simp; try with_reducible rfl
              simp only [pA, pB, pC, pD]
              refine tk 6 rfl ?v_6_24 ?hy_6_24 ?r_6_24
              case hy_6_24 => intro w hSw; obtain ⟨k0, k1, k2, k3, _⟩ := hSw; go_simp; try with_reducible rfl
              simp only [pA, pB, pC, pD]
              refine tk 7 rfl ?v_7_25 ?hy_7_25 ?r_7_25
              case hy_7_25 => intro w hSw; obtain ⟨k0, k1, k2, k3, _⟩ := hSw; go_simp; try with_reducible rfl
              simp only [pA, pB, pC, pD]
              refine tk 11 rfl ?v_11_26 ?hy_11_26 ?r_11_26
              case hy_11_26 => intro w hSw; obtain ⟨k0, k1, k2, k3, _⟩ := hSw; go_simp; try with_reducible rfl
              simp only [pA, pB, pC, pD]
              refine tk 12 rfl ?v_12_27 ?hy_12_27 ?r_12_27
              case hy_12_27 => intro w hSw; obtain ⟨k0, k1, k2, k3, _⟩ := hSw; go_simp; try with_reducible rfl
              simp only [pA, pB, pC, pD]
              refine tk 16 rfl ?v_16_28 ?hy_16_28 ?r_16_28
              case hy_16_28 => intro w hSw; obtain ⟨k0, k1, k2, k3, _⟩ := hSw; go_simp; try with_reducible rfl
              simp only [pA, pB, pC, pD]
              refine tk 17 rfl ?v_17_29 ?hy_17_29 ?r_17_29
              case hy_17_29 => intro w hSw; obtain ⟨k0, k1, k2, k3, _⟩ := hSw; go_simp; try with_reducible rfl
              simp only [pA, pB, pC, pD]
              refine wpAnyH_ready (rs := [3]) (by kernel_rfl) (by simp) ?_
              refine AllReadyH.cons rfl (fun K hK => ?_) AllReadyH.nil
              go_simp
              go_at_call 10
              refine (Itoa_any l.item _ HLO.out.item.1 HLO.out.item.2 (HP.out.below (Below.next HW.out.2 hHeld.2.2.2.2))).mono ?_
              rintro x wn ⟨rfl, hb⟩
              go_wp2_with fail
              refine hK.out _ _ ⟨cell_later hb hHeld.1, cell_later hb hHeld.2.1, cell_later hb hHeld.2.2.1, cell_later hb hHeld.2.2.2.1, Below.next hHeld.2.2.2.2 hb⟩ (fun hHeld => ?_)
              clear hK K hb
              refine tk 4 rfl ?v_4_30 ?hy_4_30 ?r_4_30
              case hy_4_30 => intro w hSw; obtain ⟨k0, k1, k2, k3, _⟩ := hSw; go_simp; try with_reducible rfl
              simp only [pA, pB, pC, pD]
              refine tk 5 rfl ?v_5_31 ?hy_5_31 ?r_5_31
              case hy_5_31 => intro w hSw; obtain ⟨k0, k1, k2, k3, _⟩ := hSw; go_simp; try with_reducible rfl
              simp only [pA, pB, pC, pD]
              refine wpAnyH_ready (rs := [8]) (by kernel_rfl) (by simp) ?_
              refine AllReadyH.cons rfl (fun K hK => ?_) AllReadyH.nil
              go_simp
              go_at_call 10
              refine (Itoa_any l.price _ HLO.out.price.1 HLO.out.price.2 (HP.out.below (Below.next HW.out.2 hHeld.2.2.2.2))).mono ?_
              rintro x wn ⟨rfl, hb⟩
              go_wp2_with fail
              refine hK.out _ _ ⟨cell_later hb hHeld.1, cell_later hb hHeld.2.1, cell_later hb hHeld.2.2.1, cell_later hb hHeld.2.2.2.1, Below.next hHeld.2.2.2.2 hb⟩ (fun hHeld => ?_)
              clear hK K hb
              refine tk 9 rfl ?v_9_32 ?hy_9_32 ?r_9_32
              case hy_9_32 => intro w hSw; obtain ⟨k0, k1, k2, k3, _⟩ := hSw; go_simp; try with_reducible rfl
              simp only [pA, pB, pC, pD]
              refine tk 10 rfl ?v_10_33 ?hy_10_33 ?r_10_33
              case hy_10_33 => intro w hSw; obtain ⟨k0, k1, k2, k3, _⟩ := hSw; go_simp; try with_reducible rfl
              simp only [pA, pB, pC, pD]
              refine wpAnyH_ready (rs := [13]) (by kernel_rfl) (by simp) ?_
              refine AllReadyH.cons rfl (fun K hK => ?_) AllReadyH.nil
              go_simp
              go_at_call 10
              refine (Itoa_any l.qty _ HLO.out.qty.1 HLO.out.qty.2 (HP.out.below (Below.next HW.out.2 hHeld.2.2.2.2))).mono ?_
              rintro x wn ⟨rfl, hb⟩
              go_wp2_with fail
              refine hK.out _ _ ⟨cell_later hb hHeld.1, cell_later hb hHeld.2.1, cell_later hb hHeld.2.2.1, cell_later hb hHeld.2.2.2.1, Below.next hHeld.2.2.2.2 hb⟩ (fun hHeld => ?_)
              clear hK K hb
              refine tk 14 rfl ?v_14_34 ?hy_14_34 ?r_14_34
              case hy_14_34 => intro w hSw; obtain ⟨k0, k1, k2, k3, _⟩ := hSw; go_simp; try with_reducible rfl
              simp only [pA, pB, pC, pD]
              refine tk 15 rfl ?v_15_35 ?hy_15_35 ?r_15_35
              case hy_15_35 => intro w hSw; obtain ⟨k0, k1, k2, k3, _⟩ := hSw; go_simp; try with_reducible rfl
              simp only [pA, pB, pC, pD]
              refine wpAnyH_ready (rs := [18]) (by kernel_rfl) (by simp) ?_
              refine AllReadyH.cons rfl (fun K hK => ?_) AllReadyH.nil
              go_simp
              go_at_call 10
              refine (Itoa_any l.shipped _ HLO.out.shipped.1 HLO.out.shipped.2 (HP.out.below (Below.next HW.out.2 hHeld.2.2.2.2))).mono ?_
              rintro x wn ⟨rfl, hb⟩
              go_wp2_with fail
              refine hK.out _ _ ⟨cell_later hb hHeld.1, cell_later hb hHeld.2.1, cell_later hb hHeld.2.2.1, cell_later hb hHeld.2.2.2.1, Below.next hHeld.2.2.2.2 hb⟩ (fun hHeld => ?_)
              clear hK K hb
              refine tk 19 rfl ?v_19_36 ?hy_19_36 ?r_19_36
              case hy_19_36 => intro w hSw; obtain ⟨k0, k1, k2, k3, _⟩ := hSw; go_simp; try with_reducible rfl
              simp only [pA, pB, pC, pD]
              refine tk 20 rfl ?v_20_37 ?hy_20_37 ?r_20_37
              case hy_20_37 => intro w hSw; obtain ⟨k0, k1, k2, k3, _⟩ := hSw; go_simp; try with_reducible rfl
              simp only [pA, pB, pC, pD]
              refine tk 21 rfl ?v_21_38 ?hy_21_38 ?r_21_38
              case hy_21_38 => intro w hSw; obtain ⟨k0, k1, k2, k3, _⟩ := hSw; go_simp; try with_reducible rfl
              simp only [pA, pB, pC, pD]
              refine wpAnyH_done (by kernel_rfl) ?_ _
              have HWN := Lib.hid hHeld.2.2.2.2
              clear hHeld HA
              go_wp2
              go_roundw
              case rel => exact ⟨k + 1, by omega, by go_num, by rw [HST.out, HB8.out], Lib.hid ⟨HW.out.1.below HWN.out, Below.next HW.out.2 HWN.out⟩⟩
              case measure => first | (simp [intOf]; done) | (simp [intOf]; omega)
            · obtain rfl : k = s.lines.length := by omega
              rw [List.take_length]
              have HFI := Lib.hid (show stateT s = (O7 ++ lnParts s.lines, 0) by rw [hfin.out, HSO.out])
              go_wp2
              go_ret2
              exact ⟨by rw [HFI.out]; rfl, HW.out.2⟩
        · have t1 : s.who.isEmpty = false := by simpa using hwe
          have t2 : (s.who != []) = true := by rw [bne_iff_ne]; exact hwe
          have hwl := HSM.out.who
          obtain ⟨u1, hu1⟩ : ∃ m, m = [32, 119, 104, 111, 61] ++ s.who := ⟨_, rfl⟩
          have lu1 : u1.length = ([32, 119, 104, 111, 61] : List UInt8).length + (s.who : List UInt8).length := by rw [hu1, List.length_append]
          obtain ⟨u2, hu2⟩ : ∃ m, m = O7 ++ u1 := ⟨_, rfl⟩
          have lu2 : u2.length = (O7 : List UInt8).length + (u1 : List UInt8).length := by rw [hu2, List.length_append]
          simp only [List.length_cons, List.length_nil] at lu1 lu2
          have eu1 := str_add _ _ _ hu1 (by omega)
          have eu2 := str_add _ _ _ hu2 (by omega)
          rw [show O7 ++ whoPart s.who = u2 by rw [hu2, hu1, whoPart, if_neg hwe]] at HSO
          have ho8 : u2.length ≤ 400 := by omega
          clear hwe hu1 hu2 lu1 lu2 hwl
          go_wp2
          clear t1 t2
          go_loopw [5, 86] (fun ov iv wr => ∃ (k : Nat), k ≤ s.lines.length ∧ iv = .int .i64 k ∧ ov = .string ⟨(u2 ++ lnParts (s.lines.take k)).toArray⟩ ∧ Hid (StBlk wr w.heap.size s (.slice oa s.lines.length cap) ∧ Below w.heap.size w wr)) (fun _ iv _ => s.lines.length - (intOf iv).toNat)
          case atStart => exact ⟨0, Nat.zero_le _, rfl, by simp [lnParts], Lib.hid ⟨HW8.out.1, HW8.out.2⟩⟩
          case round =>
            clear HW8
            obtain ⟨k, hk, rfl, rfl, HW⟩ := hrel
            by_cases hlt : k < s.lines.length
            · obtain ⟨l, hl, _, hmem⟩ := nth s.lines k hlt
              have q1 : (k : Int) < (s.lines.length : Int) := by omega
              obtain ⟨b, off, rfl, hcell⟩ := HC.out k l hl
              have HCE := Lib.hid (range_later hcell HW.out.2)
              have hlo := HSM.out.lines l hmem
              have hi1 := itoa_le _ hlo.item.1 hlo.item.2; have hi2 := itoa_le _ hlo.price.1 hlo.price.2; have hi3 := itoa_le _ hlo.qty.1 hlo.qty.2; have hi4 := itoa_le _ hlo.shipped.1 hlo.shipped.2
              have hot : (u2 ++ lnParts (s.lines.take k)).length ≤ 2000 := by
                have h1 := lnParts_len (s.lines.take k) fun x hx => HSM.out.lines x (List.mem_of_mem_take hx)
                have h2 := HSM.out.few
                rw [List.length_append]; simp only [List.length_take] at h1; omega
              have HST := Lib.hid (show u2 ++ lnParts (s.lines.take (k + 1)) = (u2 ++ lnParts (s.lines.take k)) ++ (32 :: lnWord l) by rw [lnParts_take _ _ _ hl, List.append_assoc])
              obtain ⟨O, hO⟩ : ∃ O, O = u2 ++ lnParts (s.lines.take k) := ⟨_, rfl⟩
              rw [← hO] at HST hot ⊢
              obtain ⟨b1, hb1⟩ : ∃ m, m = [32] ++ Lib.itoa l.item := ⟨_, rfl⟩
              have lb1 : b1.length = ([32] : List UInt8).length + (Lib.itoa l.item : List UInt8).length := by rw [hb1, List.length_append]
              obtain ⟨b2, hb2⟩ : ∃ m, m = b1 ++ [58] := ⟨_, rfl⟩
              have lb2 : b2.length = (b1 : List UInt8).length + ([58] : List UInt8).length := by rw [hb2, List.length_append]
              obtain ⟨b3, hb3⟩ : ∃ m, m = b2 ++ Lib.itoa l.price := ⟨_, rfl⟩
              have lb3 : b3.length = (b2 : List UInt8).length + (Lib.itoa l.price : List UInt8).length := by rw [hb3, List.length_append]
              obtain ⟨b4, hb4⟩ : ∃ m, m = b3 ++ [42] := ⟨_, rfl⟩
              have lb4 : b4.length = (b3 : List UInt8).length + ([42] : List UInt8).length := by rw [hb4, List.length_append]
              obtain ⟨b5, hb5⟩ : ∃ m, m = b4 ++ Lib.itoa l.qty := ⟨_, rfl⟩
              have lb5 : b5.length = (b4 : List UInt8).length + (Lib.itoa l.qty : List UInt8).length := by rw [hb5, List.length_append]
              obtain ⟨b6, hb6⟩ : ∃ m, m = b5 ++ [45] := ⟨_, rfl⟩
              have lb6 : b6.length = (b5 : List UInt8).length + ([45] : List UInt8).length := by rw [hb6, List.length_append]
              obtain ⟨b7, hb7⟩ : ∃ m, m = b6 ++ Lib.itoa l.shipped := ⟨_, rfl⟩
              have lb7 : b7.length = (b6 : List UInt8).length + (Lib.itoa l.shipped : List UInt8).length := by rw [hb7, List.length_append]
              obtain ⟨b8, hb8⟩ : ∃ m, m = O ++ b7 := ⟨_, rfl⟩
              have lb8 : b8.length = (O : List UInt8).length + (b7 : List UInt8).length := by rw [hb8, List.length_append]
              simp only [List.length_cons, List.length_nil] at lb1 lb2 lb3 lb4 lb5 lb6 lb7 lb8
              have eb1 := str_add _ _ _ hb1 (by omega)
              have eb2 := str_add _ _ _ hb2 (by omega)
              have eb3 := str_add _ _ _ hb3 (by omega)
              have eb4 := str_add _ _ _ hb4 (by omega)
              have eb5 := str_add _ _ _ hb5 (by omega)
              have eb6 := str_add _ _ _ hb6 (by omega)
              have eb7 := str_add _ _ _ hb7 (by omega)
              have eb8 := str_add _ _ _ hb8 (by omega)
              have HB8 := Lib.hid (show O ++ (32 :: lnWord l) = b8 by rw [hb8, hb7, hb6, hb5, hb4, hb3, hb2, hb1]; simp [lnWord])
              have HLO := Lib.hid hlo
              clear hl hmem hcell hlo hi1 hi2 hi3 hi4 hot hO hb1 hb2 hb3 hb4 hb5 hb6 hb7 hb8 lb1 lb2 lb3 lb4 lb5 lb6 lb7 lb8
              go_wp2_with (with_reducible refine wpList_load_ln rfl (.tmp 88) rfl b (off + k * 4) l rfl HCE.out ?_)
              have hA := (show Below wr.heap.size wr (wr.alloc (.cells #[.int .i64 l.item, .int .i64 l.price, .int .i64 l.qty, .int .i64 l.shipped] 40)) from (Below.refl _ _).alloc (Nat.le_refl _) _)
              have HA := Lib.hid (show ((wr.alloc (.cells #[.int .i64 l.item, .int .i64 l.price, .int .i64 l.qty, .int .i64 l.shipped] 40)).drew.cell? ⟨wr.heap.size, 0, none⟩ = some (.int .i64 l.item) ∧ (wr.alloc (.cells #[.int .i64 l.item, .int .i64 l.price, .int .i64 l.qty, .int .i64 l.shipped] 40)).drew.cell? ⟨wr.heap.size, 1, none⟩ = some (.int .i64 l.price) ∧ (wr.alloc (.cells #[.int .i64 l.item, .int .i64 l.price, .int .i64 l.qty, .int .i64 l.shipped] 40)).drew.cell? ⟨wr.heap.size, 2, none⟩ = some (.int .i64 l.qty) ∧ (wr.alloc (.cells #[.int .i64 l.item, .int .i64 l.price, .int .i64 l.qty, .int .i64 l.shipped] 40)).drew.cell? ⟨wr.heap.size, 3, none⟩ = some (.int .i64 l.shipped) ∧ Below wr.heap.size wr (wr.alloc (.cells #[.int .i64 l.item, .int .i64 l.price, .int .i64 l.qty, .int .i64 l.shipped] 40)).drew) from ⟨(World.cell?_alloc_new _ _ _ _).trans rfl, (World.cell?_alloc_new _ _ _ _).trans rfl, (World.cell?_alloc_new _ _ _ _).trans rfl, (World.cell?_alloc_new _ _ _ _).trans rfl, Below.next hA (below_drewN' _ 1)⟩)
              clear hA
              refine wp_region_held_drew (S := fun w' => w'.cell? ⟨wr.heap.size, 0, none⟩ = some (.int .i64 l.item) ∧ w'.cell? ⟨wr.heap.size, 1, none⟩ = some (.int .i64 l.price) ∧ w'.cell? ⟨wr.heap.size, 2, none⟩ = some (.int .i64 l.qty) ∧ w'.cell? ⟨wr.heap.size, 3, none⟩ = some (.int .i64 l.shipped) ∧ Below wr.heap.size wr w') (by kernel_rfl) HA.out (fun hHeld => ?_)
              refine tk 0 rfl ?v_0_39 ?hy_0_39 ?r_0_39
              case hy_0_39 => intro w hSw; obtain ⟨k0, k1, k2, k3, _⟩ := hSw; go_simp; try with_reducible rfl
              simp only [pA, pB, pC, pD]
              refine tk 1 rfl ?v_1_40 ?hy_1_40 ?r_1_40
              case hy_1_40 => intro w hSw; obtain ⟨k0, k1, k2, k3, _⟩ := hSw; go_simp; try with_reducible rfl
              simp only [pA, pB, pC, pD]
              refine tk 2 rfl ?v_2_41 ?hy_2_41 ?r_2_41
              case hy_2_41 => intro w hSw; obtain ⟨k0, k1, k2, k3, _⟩ := hSw; go_simp; try with_reducible rfl
              simp only [pA, pB, pC, pD]
              refine tk 6 rfl ?v_6_42 ?hy_6_42 ?r_6_42
              case hy_6_42 => intro w hSw; obtain ⟨k0, k1, k2, k3, _⟩ := hSw; go_simp; try with_reducible rfl
              simp only [pA, pB, pC, pD]
              refine tk 7 rfl ?v_7_43 ?hy_7_43 ?r_7_43
              case hy_7_43 => intro w hSw; obtain ⟨k0, k1, k2, k3, _⟩ := hSw; go_simp; try with_reducible rfl
              simp only [pA, pB, pC, pD]
              refine tk 11 rfl ?v_11_44 ?hy_11_44 ?r_11_44
              case hy_11_44 => intro w hSw; obtain ⟨k0, k1, k2, k3, _⟩ := hSw; go_simp; try with_reducible rfl
              simp only [pA, pB, pC, pD]
              refine tk 12 rfl ?v_12_45 ?hy_12_45 ?r_12_45
              case hy_12_45 => intro w hSw; obtain ⟨k0, k1, k2, k3, _⟩ := hSw; go_simp; try with_reducible rfl
              simp only [pA, pB, pC, pD]
              refine tk 16 rfl ?v_16_46 ?hy_16_46 ?r_16_46
              case hy_16_46 => intro w hSw; obtain ⟨k0, k1, k2, k3, _⟩ := hSw; go_simp; try with_reducible rfl
              simp only [pA, pB, pC, pD]
              refine tk 17 rfl ?v_17_47 ?hy_17_47 ?r_17_47
              case hy_17_47 => intro w hSw; obtain ⟨k0, k1, k2, k3, _⟩ := hSw; go_simp; try with_reducible rfl
              simp only [pA, pB, pC, pD]
              refine wpAnyH_ready (rs := [3]) (by kernel_rfl) (by simp) ?_
              refine AllReadyH.cons rfl (fun K hK => ?_) AllReadyH.nil
              go_simp
              go_at_call 10
              refine (Itoa_any l.item _ HLO.out.item.1 HLO.out.item.2 (HP.out.below (Below.next HW.out.2 hHeld.2.2.2.2))).mono ?_
              rintro x wn ⟨rfl, hb⟩
              go_wp2_with fail
              refine hK.out _ _ ⟨cell_later hb hHeld.1, cell_later hb hHeld.2.1, cell_later hb hHeld.2.2.1, cell_later hb hHeld.2.2.2.1, Below.next hHeld.2.2.2.2 hb⟩ (fun hHeld => ?_)
              clear hK K hb
              refine tk 4 rfl ?v_4_48 ?hy_4_48 ?r_4_48
              case hy_4_48 => intro w hSw; obtain ⟨k0, k1, k2, k3, _⟩ := hSw; go_simp; try with_reducible rfl
              simp only [pA, pB, pC, pD]
              refine tk 5 rfl ?v_5_49 ?hy_5_49 ?r_5_49
              case hy_5_49 => intro w hSw; obtain ⟨k0, k1, k2, k3, _⟩ := hSw; go_simp; try with_reducible rfl
              simp only [pA, pB, pC, pD]
              refine wpAnyH_ready (rs := [8]) (by kernel_rfl) (by simp) ?_
              refine AllReadyH.cons rfl (fun K hK => ?_) AllReadyH.nil
              go_simp
              go_at_call 10
              refine (Itoa_any l.price _ HLO.out.price.1 HLO.out.price.2 (HP.out.below (Below.next HW.out.2 hHeld.2.2.2.2))).mono ?_
              rintro x wn ⟨rfl, hb⟩
              go_wp2_with fail
              refine hK.out _ _ ⟨cell_later hb hHeld.1, cell_later hb hHeld.2.1, cell_later hb hHeld.2.2.1, cell_later hb hHeld.2.2.2.1, Below.next hHeld.2.2.2.2 hb⟩ (fun hHeld => ?_)
              clear hK K hb
              refine tk 9 rfl ?v_9_50 ?hy_9_50 ?r_9_50
              case hy_9_50 => intro w hSw; obtain ⟨k0, k1, k2, k3, _⟩ := hSw; go_simp; try with_reducible rfl
              simp only [pA, pB, pC, pD]
              refine tk 10 rfl ?v_10_51 ?hy_10_51 ?r_10_51
              case hy_10_51 => intro w hSw; obtain ⟨k0, k1, k2, k3, _⟩ := hSw; go_simp; try with_reducible rfl
              simp only [pA, pB, pC, pD]
              refine wpAnyH_ready (rs := [13]) (by kernel_rfl) (by simp) ?_
              refine AllReadyH.cons rfl (fun K hK => ?_) AllReadyH.nil
              go_simp
              go_at_call 10
              refine (Itoa_any l.qty _ HLO.out.qty.1 HLO.out.qty.2 (HP.out.below (Below.next HW.out.2 hHeld.2.2.2.2))).mono ?_
              rintro x wn ⟨rfl, hb⟩
              go_wp2_with fail
              refine hK.out _ _ ⟨cell_later hb hHeld.1, cell_later hb hHeld.2.1, cell_later hb hHeld.2.2.1, cell_later hb hHeld.2.2.2.1, Below.next hHeld.2.2.2.2 hb⟩ (fun hHeld => ?_)
              clear hK K hb
              refine tk 14 rfl ?v_14_52 ?hy_14_52 ?r_14_52
              case hy_14_52 => intro w hSw; obtain ⟨k0, k1, k2, k3, _⟩ := hSw; go_simp; try with_reducible rfl
              simp only [pA, pB, pC, pD]
              refine tk 15 rfl ?v_15_53 ?hy_15_53 ?r_15_53
              case hy_15_53 => intro w hSw; obtain ⟨k0, k1, k2, k3, _⟩ := hSw; go_simp; try with_reducible rfl
              simp only [pA, pB, pC, pD]
              refine wpAnyH_ready (rs := [18]) (by kernel_rfl) (by simp) ?_
              refine AllReadyH.cons rfl (fun K hK => ?_) AllReadyH.nil
              go_simp
              go_at_call 10
              refine (Itoa_any l.shipped _ HLO.out.shipped.1 HLO.out.shipped.2 (HP.out.below (Below.next HW.out.2 hHeld.2.2.2.2))).mono ?_
              rintro x wn ⟨rfl, hb⟩
              go_wp2_with fail
              refine hK.out _ _ ⟨cell_later hb hHeld.1, cell_later hb hHeld.2.1, cell_later hb hHeld.2.2.1, cell_later hb hHeld.2.2.2.1, Below.next hHeld.2.2.2.2 hb⟩ (fun hHeld => ?_)
              clear hK K hb
              refine tk 19 rfl ?v_19_54 ?hy_19_54 ?r_19_54
              case hy_19_54 => intro w hSw; obtain ⟨k0, k1, k2, k3, _⟩ := hSw; go_simp; try with_reducible rfl
              simp only [pA, pB, pC, pD]
              refine tk 20 rfl ?v_20_55 ?hy_20_55 ?r_20_55
              case hy_20_55 => intro w hSw; obtain ⟨k0, k1, k2, k3, _⟩ := hSw; go_simp; try with_reducible rfl
              simp only [pA, pB, pC, pD]
              refine tk 21 rfl ?v_21_56 ?hy_21_56 ?r_21_56
              case hy_21_56 => intro w hSw; obtain ⟨k0, k1, k2, k3, _⟩ := hSw; go_simp; try with_reducible rfl
              simp only [pA, pB, pC, pD]
              refine wpAnyH_done (by kernel_rfl) ?_ _
              have HWN := Lib.hid hHeld.2.2.2.2
              clear hHeld HA
              go_wp2
              go_roundw
              case rel => exact ⟨k + 1, by omega, by go_num, by rw [HST.out, HB8.out], Lib.hid ⟨HW.out.1.below HWN.out, Below.next HW.out.2 HWN.out⟩⟩
              case measure => first | (simp [intOf]; done) | (simp [intOf]; omega)
            · obtain rfl : k = s.lines.length := by omega
              rw [List.take_length]
              have HFI := Lib.hid (show stateT s = (u2 ++ lnParts s.lines, 0) by rw [hfin.out, HSO.out])
              go_wp2
              go_ret2
              exact ⟨by rw [HFI.out]; rfl, HW.out.2⟩
  · have hH2 := HH1.out hs2
    subst hH2
    have t2 : (s.status == 2) = false := by rw [beq_eq_false_iff_ne]; exact hs2
    clear hs2 HH1 HH2
    go_wp2
    have HW7 := Lib.hid (show StBlk (wn.alloc (.cells #[.string ⟨#[99, 117, 114]⟩, .int .i64 s.cur, .string ⟨#[116, 97, 120]⟩, .int .i64 s.tax, .string ⟨#[112, 97, 105, 100]⟩, .int .i64 s.paid, .string ⟨#[114, 101, 102, 117, 110, 100, 101, 100]⟩, .int .i64 s.refunded, .string ⟨#[101, 118, 101, 110, 116, 115]⟩, .int .i64 s.events, .string ⟨#[114, 101, 102, 117, 115, 101, 100]⟩, .int .i64 s.refused, .string ⟨#[115, 116, 97, 109, 112]⟩, .int .i64 s.stamp] 37)) w.heap.size s (.slice oa s.lines.length cap) ∧ Below w.heap.size w (wn.alloc (.cells #[.string ⟨#[99, 117, 114]⟩, .int .i64 s.cur, .string ⟨#[116, 97, 120]⟩, .int .i64 s.tax, .string ⟨#[112, 97, 105, 100]⟩, .int .i64 s.paid, .string ⟨#[114, 101, 102, 117, 110, 100, 101, 100]⟩, .int .i64 s.refunded, .string ⟨#[101, 118, 101, 110, 116, 115]⟩, .int .i64 s.events, .string ⟨#[114, 101, 102, 117, 115, 101, 100]⟩, .int .i64 s.refused, .string ⟨#[115, 116, 97, 109, 112]⟩, .int .i64 s.stamp] 37)) ∧ Keys7 s (wn.alloc (.cells #[.string ⟨#[99, 117, 114]⟩, .int .i64 s.cur, .string ⟨#[116, 97, 120]⟩, .int .i64 s.tax, .string ⟨#[112, 97, 105, 100]⟩, .int .i64 s.paid, .string ⟨#[114, 101, 102, 117, 110, 100, 101, 100]⟩, .int .i64 s.refunded, .string ⟨#[101, 118, 101, 110, 116, 115]⟩, .int .i64 s.events, .string ⟨#[114, 101, 102, 117, 115, 101, 100]⟩, .int .i64 s.refused, .string ⟨#[115, 116, 97, 109, 112]⟩, .int .i64 s.stamp] 37)) wn.heap.size from ⟨HE4.out.1.below ((Below.refl _ _).alloc (Nat.le_refl _) _), Below.next HE4.out.2.2.2 ((Below.refl _ _).alloc (Nat.le_refl _) _), HK7.out wn⟩)
    clear HE4 HK7
    go_loopw [5, 57] (fun ov iv wr => ∃ (k : Nat), k ≤ 7 ∧ iv = .int .i64 k ∧ ov = .string ⟨(H ++ keyParts ((stKeys s).take k)).toArray⟩ ∧ Hid (StBlk wr w.heap.size s (.slice oa s.lines.length cap) ∧ Below w.heap.size w wr ∧ Keys7 s wr wn.heap.size)) (fun _ iv _ => 7 - (intOf iv).toNat)
    case atStart => exact ⟨0, Nat.zero_le _, rfl, by simp [keyParts], HW7⟩
    case round =>
      clear HW7
      obtain ⟨k, hk, rfl, rfl, HW⟩ := hrel
      by_cases hlt : k < 7
      · obtain ⟨x, hx, _, hmem⟩ := nth (stKeys s) k hlt
        have q1 : (k : Int) < 7 := by omega
        have ca := (HW.out.2.2 k x hx).1
        have cb := (HW.out.2.2 k x hx).2
        have hxi := HSM.out.keys x hmem
        have hxn := HSM.out.names x hmem
        have hkp := keyParts_take (stKeys s) k x hx
        by_cases hz : x.2 = 0
        · have t1 : (x.2 != 0) = false := by rw [hz]; rfl
          have HKP := Lib.hid (show keyParts ((stKeys s).take (k + 1)) = keyParts ((stKeys s).take k) by rw [hkp, keyPart, if_pos hz, List.append_nil])
          have HA := Lib.hid (show Below wr.heap.size wr (wr.alloc (.cells #[.string ⟨x.1.toArray⟩, .int .i64 x.2] 37)) from (Below.refl _ _).alloc (Nat.le_refl _) _)
          clear hx hmem hxi hxn hkp hz
          go_wp2
          go_roundw
          case rel => exact ⟨k + 1, by omega, by go_num, by rw [HKP.out], Lib.hid ⟨HW.out.1.below HA.out, Below.next HW.out.2.1 HA.out, HW.out.2.2.below HA.out⟩⟩
          case measure => first | (simp [intOf]; done) | (simp [intOf]; omega)
        · have t1 : (x.2 != 0) = true := by rw [bne_iff_ne]; exact hz
          have hi1 := itoa_le _ hxi.1 hxi.2
          have hot : (H ++ keyParts ((stKeys s).take k)).length ≤ 300 := by
            have h1 := keyParts_len ((stKeys s).take k) (fun y hy => HSM.out.keys y (List.mem_of_mem_take hy)) (fun y hy => HSM.out.names y (List.mem_of_mem_take hy))
            rw [List.length_append]; simp only [List.length_take] at h1; omega
          have HST := Lib.hid (show H ++ keyParts ((stKeys s).take (k + 1)) = (H ++ keyParts ((stKeys s).take k)) ++ (32 :: (x.1 ++ 61 :: Lib.itoa x.2)) by rw [hkp, keyPart, if_neg hz, List.append_assoc])
          obtain ⟨O, hO⟩ : ∃ O, O = H ++ keyParts ((stKeys s).take k) := ⟨_, rfl⟩
          rw [← hO] at HST hot ⊢
          obtain ⟨a1, ha1⟩ : ∃ m, m = [32] ++ x.1 := ⟨_, rfl⟩
          have la1 : a1.length = ([32] : List UInt8).length + (x.1 : List UInt8).length := by rw [ha1, List.length_append]
          obtain ⟨a2, ha2⟩ : ∃ m, m = a1 ++ [61] := ⟨_, rfl⟩
          have la2 : a2.length = (a1 : List UInt8).length + ([61] : List UInt8).length := by rw [ha2, List.length_append]
          obtain ⟨a3, ha3⟩ : ∃ m, m = a2 ++ Lib.itoa x.2 := ⟨_, rfl⟩
          have la3 : a3.length = (a2 : List UInt8).length + (Lib.itoa x.2 : List UInt8).length := by rw [ha3, List.length_append]
          obtain ⟨a4, ha4⟩ : ∃ m, m = O ++ a3 := ⟨_, rfl⟩
          have la4 : a4.length = (O : List UInt8).length + (a3 : List UInt8).length := by rw [ha4, List.length_append]
          simp only [List.length_cons, List.length_nil] at la1 la2 la3 la4
          have ea1 := str_add _ _ _ ha1 (by omega)
          have ea2 := str_add _ _ _ ha2 (by omega)
          have ea3 := str_add _ _ _ ha3 (by omega)
          have ea4 := str_add _ _ _ ha4 (by omega)
          have HA4 := Lib.hid (show O ++ (32 :: (x.1 ++ 61 :: Lib.itoa x.2)) = a4 by rw [ha4, ha3, ha2, ha1]; simp)
          have HXI := Lib.hid hxi
          clear hx hmem hxi hxn hkp hz hi1 hot hO ha1 ha2 ha3 ha4 la1 la2 la3 la4
          go_wp2
          have hA := (show Below wr.heap.size wr (wr.alloc (.cells #[.string ⟨x.1.toArray⟩, .int .i64 x.2] 37)) from (Below.refl _ _).alloc (Nat.le_refl _) _)
          refine wp_region_held_drew (S := fun w' => w'.cell? ⟨wr.heap.size, 0, none⟩ = some (.string ⟨x.1.toArray⟩) ∧ w'.cell? ⟨wr.heap.size, 1, none⟩ = some (.int .i64 x.2) ∧ Below wr.heap.size wr w') (by kernel_rfl) ⟨(World.cell?_alloc_new _ _ _ _).trans rfl, (World.cell?_alloc_new _ _ _ _).trans rfl, Below.next hA (below_drewN' _ 1)⟩ (fun hHeld => ?_)
          clear hA
          refine tk 0 rfl ?v_0_57 ?hy_0_57 ?r_0_57
          case hy_0_57 => intro w hSw; obtain ⟨k0, k1, _⟩ := hSw; go_simp; try with_reducible rfl
          simp only [pA, pB, pC, pD]
          refine tk 1 rfl ?v_1_58 ?hy_1_58 ?r_1_58
          case hy_1_58 => intro w hSw; obtain ⟨k0, k1, _⟩ := hSw; go_simp; try with_reducible rfl
          simp only [pA, pB, pC, pD]
          refine tk 2 rfl ?v_2_59 ?hy_2_59 ?r_2_59
          case hy_2_59 => intro w hSw; obtain ⟨k0, k1, _⟩ := hSw; go_simp; try with_reducible rfl
          simp only [pA, pB, pC, pD]
          refine tk 3 rfl ?v_3_60 ?hy_3_60 ?r_3_60
          case hy_3_60 => intro w hSw; obtain ⟨k0, k1, _⟩ := hSw; go_simp; try with_reducible rfl
          simp only [pA, pB, pC, pD]
          refine tk 4 rfl ?v_4_61 ?hy_4_61 ?r_4_61
          case hy_4_61 => intro w hSw; obtain ⟨k0, k1, _⟩ := hSw; go_simp; try with_reducible rfl
          simp only [pA, pB, pC, pD]
          refine tk 5 rfl ?v_5_62 ?hy_5_62 ?r_5_62
          case hy_5_62 => intro w hSw; obtain ⟨k0, k1, _⟩ := hSw; go_simp; try with_reducible rfl
          simp only [pA, pB, pC, pD]
          refine tk 6 rfl ?v_6_63 ?hy_6_63 ?r_6_63
          case hy_6_63 => intro w hSw; obtain ⟨k0, k1, _⟩ := hSw; go_simp; try with_reducible rfl
          simp only [pA, pB, pC, pD]
          refine wpAnyH_ready (rs := [7]) (by kernel_rfl) (by simp) ?_
          refine AllReadyH.cons rfl (fun K hK => ?_) AllReadyH.nil
          go_simp
          go_at_call 10
          refine (Itoa_any x.2 _ HXI.out.1 HXI.out.2 (HP.out.below (Below.next HW.out.2.1 hHeld.2.2))).mono ?_
          rintro x wn ⟨rfl, hb⟩
          go_wp2_with fail
          refine hK.out _ _ ⟨cell_later hb hHeld.1, cell_later hb hHeld.2.1, Below.next hHeld.2.2 hb⟩ (fun hHeld => ?_)
          clear hK K hb
          refine tk 8 rfl ?v_8_64 ?hy_8_64 ?r_8_64
          case hy_8_64 => intro w hSw; obtain ⟨k0, k1, _⟩ := hSw; go_simp; try with_reducible rfl
          simp only [pA, pB, pC, pD]
          refine tk 9 rfl ?v_9_65 ?hy_9_65 ?r_9_65
          case hy_9_65 => intro w hSw; obtain ⟨k0, k1, _⟩ := hSw; go_simp; try with_reducible rfl
          simp only [pA, pB, pC, pD]
          refine tk 10 rfl ?v_10_66 ?hy_10_66 ?r_10_66
          case hy_10_66 => intro w hSw; obtain ⟨k0, k1, _⟩ := hSw; go_simp; try with_reducible rfl
          simp only [pA, pB, pC, pD]
          refine wpAnyH_done (by kernel_rfl) ?_ _
          have HWN := Lib.hid hHeld.2.2
          clear hHeld
          go_wp2
          go_roundw
          case rel => exact ⟨k + 1, by omega, by go_num, by rw [HST.out, HA4.out], Lib.hid ⟨HW.out.1.below HWN.out, Below.next HW.out.2.1 HWN.out, HW.out.2.2.below HWN.out⟩⟩
          case measure => first | (simp [intOf]; done) | (simp [intOf]; omega)
      · obtain rfl : k = 7 := by omega
        rw [show (stKeys s).take 7 = stKeys s from rfl, show ((7 : Nat) : Int) = 7 from rfl]
        obtain ⟨O7, hO7⟩ : ∃ O7, O7 = H ++ keyParts (stKeys s) := ⟨_, rfl⟩
        have ho7 : O7.length ≤ 300 := by
          have h1 := keyParts_len (stKeys s) HSM.out.keys HSM.out.names
          rw [hO7, List.length_append]; simp only [show (stKeys s).length = 7 from rfl] at h1; omega
        rw [← hO7] at HSO ⊢
        have c11 := HW.out.1.c11
        have c5 : wr.cell? ⟨w.heap.size, 5, none⟩ = some (.slice oa s.lines.length cap) := HW.out.1.cell 5
        have HW8 := Lib.hid (show StBlk wr w.heap.size s (.slice oa s.lines.length cap) ∧ Below w.heap.size w wr from ⟨HW.out.1, HW.out.2.1⟩)
        clear hO7 HW hlt
        by_cases hwe : s.who = []
        · have t1 : s.who.isEmpty = true := by rw [hwe]; rfl
          have t2 : (s.who != []) = false := by rw [hwe]; rfl
          rw [show whoPart s.who = [] by rw [hwe]; rfl, List.append_nil] at HSO
          have ho8 : O7.length ≤ 400 := by omega
          clear hwe
          go_wp2
          clear t1 t2
          go_loopw [5, 86] (fun ov iv wr => ∃ (k : Nat), k ≤ s.lines.length ∧ iv = .int .i64 k ∧ ov = .string ⟨(O7 ++ lnParts (s.lines.take k)).toArray⟩ ∧ Hid (StBlk wr w.heap.size s (.slice oa s.lines.length cap) ∧ Below w.heap.size w wr)) (fun _ iv _ => s.lines.length - (intOf iv).toNat)
          case atStart => exact ⟨0, Nat.zero_le _, rfl, by simp [lnParts], Lib.hid ⟨HW8.out.1, HW8.out.2⟩⟩
          case round =>
            clear HW8
            obtain ⟨k, hk, rfl, rfl, HW⟩ := hrel
            by_cases hlt : k < s.lines.length
            · obtain ⟨l, hl, _, hmem⟩ := nth s.lines k hlt
              have q1 : (k : Int) < (s.lines.length : Int) := by omega
              obtain ⟨b, off, rfl, hcell⟩ := HC.out k l hl
              have HCE := Lib.hid (range_later hcell HW.out.2)
              have hlo := HSM.out.lines l hmem
              have hi1 := itoa_le _ hlo.item.1 hlo.item.2; have hi2 := itoa_le _ hlo.price.1 hlo.price.2; have hi3 := itoa_le _ hlo.qty.1 hlo.qty.2; have hi4 := itoa_le _ hlo.shipped.1 hlo.shipped.2
              have hot : (O7 ++ lnParts (s.lines.take k)).length ≤ 2000 := by
                have h1 := lnParts_len (s.lines.take k) fun x hx => HSM.out.lines x (List.mem_of_mem_take hx)
                have h2 := HSM.out.few
                rw [List.length_append]; simp only [List.length_take] at h1; omega
              have HST := Lib.hid (show O7 ++ lnParts (s.lines.take (k + 1)) = (O7 ++ lnParts (s.lines.take k)) ++ (32 :: lnWord l) by rw [lnParts_take _ _ _ hl, List.append_assoc])
              obtain ⟨O, hO⟩ : ∃ O, O = O7 ++ lnParts (s.lines.take k) := ⟨_, rfl⟩
              rw [← hO] at HST hot ⊢
              obtain ⟨b1, hb1⟩ : ∃ m, m = [32] ++ Lib.itoa l.item := ⟨_, rfl⟩
              have lb1 : b1.length = ([32] : List UInt8).length + (Lib.itoa l.item : List UInt8).length := by rw [hb1, List.length_append]
              obtain ⟨b2, hb2⟩ : ∃ m, m = b1 ++ [58] := ⟨_, rfl⟩
              have lb2 : b2.length = (b1 : List UInt8).length + ([58] : List UInt8).length := by rw [hb2, List.length_append]
              obtain ⟨b3, hb3⟩ : ∃ m, m = b2 ++ Lib.itoa l.price := ⟨_, rfl⟩
              have lb3 : b3.length = (b2 : List UInt8).length + (Lib.itoa l.price : List UInt8).length := by rw [hb3, List.length_append]
              obtain ⟨b4, hb4⟩ : ∃ m, m = b3 ++ [42] := ⟨_, rfl⟩
              have lb4 : b4.length = (b3 : List UInt8).length + ([42] : List UInt8).length := by rw [hb4, List.length_append]
              obtain ⟨b5, hb5⟩ : ∃ m, m = b4 ++ Lib.itoa l.qty := ⟨_, rfl⟩
              have lb5 : b5.length = (b4 : List UInt8).length + (Lib.itoa l.qty : List UInt8).length := by rw [hb5, List.length_append]
              obtain ⟨b6, hb6⟩ : ∃ m, m = b5 ++ [45] := ⟨_, rfl⟩
              have lb6 : b6.length = (b5 : List UInt8).length + ([45] : List UInt8).length := by rw [hb6, List.length_append]
              obtain ⟨b7, hb7⟩ : ∃ m, m = b6 ++ Lib.itoa l.shipped := ⟨_, rfl⟩
              have lb7 : b7.length = (b6 : List UInt8).length + (Lib.itoa l.shipped : List UInt8).length := by rw [hb7, List.length_append]
              obtain ⟨b8, hb8⟩ : ∃ m, m = O ++ b7 := ⟨_, rfl⟩
              have lb8 : b8.length = (O : List UInt8).length + (b7 : List UInt8).length := by rw [hb8, List.length_append]
              simp only [List.length_cons, List.length_nil] at lb1 lb2 lb3 lb4 lb5 lb6 lb7 lb8
              have eb1 := str_add _ _ _ hb1 (by omega)
              have eb2 := str_add _ _ _ hb2 (by omega)
              have eb3 := str_add _ _ _ hb3 (by omega)
              have eb4 := str_add _ _ _ hb4 (by omega)
              have eb5 := str_add _ _ _ hb5 (by omega)
              have eb6 := str_add _ _ _ hb6 (by omega)
              have eb7 := str_add _ _ _ hb7 (by omega)
              have eb8 := str_add _ _ _ hb8 (by omega)
              have HB8 := Lib.hid (show O ++ (32 :: lnWord l) = b8 by rw [hb8, hb7, hb6, hb5, hb4, hb3, hb2, hb1]; simp [lnWord])
              have HLO := Lib.hid hlo
              clear hl hmem hcell hlo hi1 hi2 hi3 hi4 hot hO hb1 hb2 hb3 hb4 hb5 hb6 hb7 hb8 lb1 lb2 lb3 lb4 lb5 lb6 lb7 lb8
              go_wp2_with (with_reducible refine wpList_load_ln rfl (.tmp 88) rfl b (off + k * 4) l rfl HCE.out ?_)
              have hA := (show Below wr.heap.size wr (wr.alloc (.cells #[.int .i64 l.item, .int .i64 l.price, .int .i64 l.qty, .int .i64 l.shipped] 40)) from (Below.refl _ _).alloc (Nat.le_refl _) _)
              have HA := Lib.hid (show ((wr.alloc (.cells #[.int .i64 l.item, .int .i64 l.price, .int .i64 l.qty, .int .i64 l.shipped] 40)).drew.cell? ⟨wr.heap.size, 0, none⟩ = some (.int .i64 l.item) ∧ (wr.alloc (.cells #[.int .i64 l.item, .int .i64 l.price, .int .i64 l.qty, .int .i64 l.shipped] 40)).drew.cell? ⟨wr.heap.size, 1, none⟩ = some (.int .i64 l.price) ∧ (wr.alloc (.cells #[.int .i64 l.item, .int .i64 l.price, .int .i64 l.qty, .int .i64 l.shipped] 40)).drew.cell? ⟨wr.heap.size, 2, none⟩ = some (.int .i64 l.qty) ∧ (wr.alloc (.cells #[.int .i64 l.item, .int .i64 l.price, .int .i64 l.qty, .int .i64 l.shipped] 40)).drew.cell? ⟨wr.heap.size, 3, none⟩ = some (.int .i64 l.shipped) ∧ Below wr.heap.size wr (wr.alloc (.cells #[.int .i64 l.item, .int .i64 l.price, .int .i64 l.qty, .int .i64 l.shipped] 40)).drew) from ⟨(World.cell?_alloc_new _ _ _ _).trans rfl, (World.cell?_alloc_new _ _ _ _).trans rfl, (World.cell?_alloc_new _ _ _ _).trans rfl, (World.cell?_alloc_new _ _ _ _).trans rfl, Below.next hA (below_drewN' _ 1)⟩)
              clear hA
              refine wp_region_held_drew (S := fun w' => w'.cell? ⟨wr.heap.size, 0, none⟩ = some (.int .i64 l.item) ∧ w'.cell? ⟨wr.heap.size, 1, none⟩ = some (.int .i64 l.price) ∧ w'.cell? ⟨wr.heap.size, 2, none⟩ = some (.int .i64 l.qty) ∧ w'.cell? ⟨wr.heap.size, 3, none⟩ = some (.int .i64 l.shipped) ∧ Below wr.heap.size wr w') (by kernel_rfl) HA.out (fun hHeld => ?_)
              refine tk 0 rfl ?v_0_67 ?hy_0_67 ?r_0_67
              case hy_0_67 => intro w hSw; obtain ⟨k0, k1, k2, k3, _⟩ := hSw; go_simp; try with_reducible rfl
              simp only [pA, pB, pC, pD]
              refine tk 1 rfl ?v_1_68 ?hy_1_68 ?r_1_68
              case hy_1_68 => intro w hSw; obtain ⟨k0, k1, k2, k3, _⟩ := hSw; go_simp; try with_reducible rfl
              simp only [pA, pB, pC, pD]
              refine tk 2 rfl ?v_2_69 ?hy_2_69 ?r_2_69
              case hy_2_69 => intro w hSw; obtain ⟨k0, k1, k2, k3, _⟩ := hSw; go_simp; try with_reducible rfl
              simp only [pA, pB, pC, pD]
              refine tk 6 rfl ?v_6_70 ?hy_6_70 ?r_6_70
              case hy_6_70 => intro w hSw; obtain ⟨k0, k1, k2, k3, _⟩ := hSw; go_simp; try with_reducible rfl
              simp only [pA, pB, pC, pD]
              refine tk 7 rfl ?v_7_71 ?hy_7_71 ?r_7_71
              case hy_7_71 => intro w hSw; obtain ⟨k0, k1, k2, k3, _⟩ := hSw; go_simp; try with_reducible rfl
              simp only [pA, pB, pC, pD]
              refine tk 11 rfl ?v_11_72 ?hy_11_72 ?r_11_72
              case hy_11_72 => intro w hSw; obtain ⟨k0, k1, k2, k3, _⟩ := hSw; go_simp; try with_reducible rfl
              simp only [pA, pB, pC, pD]
              refine tk 12 rfl ?v_12_73 ?hy_12_73 ?r_12_73
              case hy_12_73 => intro w hSw; obtain ⟨k0, k1, k2, k3, _⟩ := hSw; go_simp; try with_reducible rfl
              simp only [pA, pB, pC, pD]
              refine tk 16 rfl ?v_16_74 ?hy_16_74 ?r_16_74
              case hy_16_74 => intro w hSw; obtain ⟨k0, k1, k2, k3, _⟩ := hSw; go_simp; try with_reducible rfl
              simp only [pA, pB, pC, pD]
              refine tk 17 rfl ?v_17_75 ?hy_17_75 ?r_17_75
              case hy_17_75 => intro w hSw; obtain ⟨k0, k1, k2, k3, _⟩ := hSw; go_simp; try with_reducible rfl
              simp only [pA, pB, pC, pD]
              refine wpAnyH_ready (rs := [3]) (by kernel_rfl) (by simp) ?_
              refine AllReadyH.cons rfl (fun K hK => ?_) AllReadyH.nil
              go_simp
              go_at_call 10
              refine (Itoa_any l.item _ HLO.out.item.1 HLO.out.item.2 (HP.out.below (Below.next HW.out.2 hHeld.2.2.2.2))).mono ?_
              rintro x wn ⟨rfl, hb⟩
              go_wp2_with fail
              refine hK.out _ _ ⟨cell_later hb hHeld.1, cell_later hb hHeld.2.1, cell_later hb hHeld.2.2.1, cell_later hb hHeld.2.2.2.1, Below.next hHeld.2.2.2.2 hb⟩ (fun hHeld => ?_)
              clear hK K hb
              refine tk 4 rfl ?v_4_76 ?hy_4_76 ?r_4_76
              case hy_4_76 => intro w hSw; obtain ⟨k0, k1, k2, k3, _⟩ := hSw; go_simp; try with_reducible rfl
              simp only [pA, pB, pC, pD]
              refine tk 5 rfl ?v_5_77 ?hy_5_77 ?r_5_77
              case hy_5_77 => intro w hSw; obtain ⟨k0, k1, k2, k3, _⟩ := hSw; go_simp; try with_reducible rfl
              simp only [pA, pB, pC, pD]
              refine wpAnyH_ready (rs := [8]) (by kernel_rfl) (by simp) ?_
              refine AllReadyH.cons rfl (fun K hK => ?_) AllReadyH.nil
              go_simp
              go_at_call 10
              refine (Itoa_any l.price _ HLO.out.price.1 HLO.out.price.2 (HP.out.below (Below.next HW.out.2 hHeld.2.2.2.2))).mono ?_
              rintro x wn ⟨rfl, hb⟩
              go_wp2_with fail
              refine hK.out _ _ ⟨cell_later hb hHeld.1, cell_later hb hHeld.2.1, cell_later hb hHeld.2.2.1, cell_later hb hHeld.2.2.2.1, Below.next hHeld.2.2.2.2 hb⟩ (fun hHeld => ?_)
              clear hK K hb
              refine tk 9 rfl ?v_9_78 ?hy_9_78 ?r_9_78
              case hy_9_78 => intro w hSw; obtain ⟨k0, k1, k2, k3, _⟩ := hSw; go_simp; try with_reducible rfl
              simp only [pA, pB, pC, pD]
              refine tk 10 rfl ?v_10_79 ?hy_10_79 ?r_10_79
              case hy_10_79 => intro w hSw; obtain ⟨k0, k1, k2, k3, _⟩ := hSw; go_simp; try with_reducible rfl
              simp only [pA, pB, pC, pD]
              refine wpAnyH_ready (rs := [13]) (by kernel_rfl) (by simp) ?_
              refine AllReadyH.cons rfl (fun K hK => ?_) AllReadyH.nil
              go_simp
              go_at_call 10
              refine (Itoa_any l.qty _ HLO.out.qty.1 HLO.out.qty.2 (HP.out.below (Below.next HW.out.2 hHeld.2.2.2.2))).mono ?_
              rintro x wn ⟨rfl, hb⟩
              go_wp2_with fail
              refine hK.out _ _ ⟨cell_later hb hHeld.1, cell_later hb hHeld.2.1, cell_later hb hHeld.2.2.1, cell_later hb hHeld.2.2.2.1, Below.next hHeld.2.2.2.2 hb⟩ (fun hHeld => ?_)
              clear hK K hb
              refine tk 14 rfl ?v_14_80 ?hy_14_80 ?r_14_80
              case hy_14_80 => intro w hSw; obtain ⟨k0, k1, k2, k3, _⟩ := hSw; go_simp; try with_reducible rfl
              simp only [pA, pB, pC, pD]
              refine tk 15 rfl ?v_15_81 ?hy_15_81 ?r_15_81
              case hy_15_81 => intro w hSw; obtain ⟨k0, k1, k2, k3, _⟩ := hSw; go_simp; try with_reducible rfl
              simp only [pA, pB, pC, pD]
              refine wpAnyH_ready (rs := [18]) (by kernel_rfl) (by simp) ?_
              refine AllReadyH.cons rfl (fun K hK => ?_) AllReadyH.nil
              go_simp
              go_at_call 10
              refine (Itoa_any l.shipped _ HLO.out.shipped.1 HLO.out.shipped.2 (HP.out.below (Below.next HW.out.2 hHeld.2.2.2.2))).mono ?_
              rintro x wn ⟨rfl, hb⟩
              go_wp2_with fail
              refine hK.out _ _ ⟨cell_later hb hHeld.1, cell_later hb hHeld.2.1, cell_later hb hHeld.2.2.1, cell_later hb hHeld.2.2.2.1, Below.next hHeld.2.2.2.2 hb⟩ (fun hHeld => ?_)
              clear hK K hb
              refine tk 19 rfl ?v_19_82 ?hy_19_82 ?r_19_82
              case hy_19_82 => intro w hSw; obtain ⟨k0, k1, k2, k3, _⟩ := hSw; go_simp; try with_reducible rfl
              simp only [pA, pB, pC, pD]
              refine tk 20 rfl ?v_20_83 ?hy_20_83 ?r_20_83
              case hy_20_83 => intro w hSw; obtain ⟨k0, k1, k2, k3, _⟩ := hSw; go_simp; try with_reducible rfl
              simp only [pA, pB, pC, pD]
              refine tk 21 rfl ?v_21_84 ?hy_21_84 ?r_21_84
              case hy_21_84 => intro w hSw; obtain ⟨k0, k1, k2, k3, _⟩ := hSw; go_simp; try with_reducible rfl
              simp only [pA, pB, pC, pD]
              refine wpAnyH_done (by kernel_rfl) ?_ _
              have HWN := Lib.hid hHeld.2.2.2.2
              clear hHeld HA
              go_wp2
              go_roundw
              case rel => exact ⟨k + 1, by omega, by go_num, by rw [HST.out, HB8.out], Lib.hid ⟨HW.out.1.below HWN.out, Below.next HW.out.2 HWN.out⟩⟩
              case measure => first | (simp [intOf]; done) | (simp [intOf]; omega)
            · obtain rfl : k = s.lines.length := by omega
              rw [List.take_length]
              have HFI := Lib.hid (show stateT s = (O7 ++ lnParts s.lines, 0) by rw [hfin.out, HSO.out])
              go_wp2
              go_ret2
              exact ⟨by rw [HFI.out]; rfl, HW.out.2⟩
        · have t1 : s.who.isEmpty = false := by simpa using hwe
          have t2 : (s.who != []) = true := by rw [bne_iff_ne]; exact hwe
          have hwl := HSM.out.who
          obtain ⟨u1, hu1⟩ : ∃ m, m = [32, 119, 104, 111, 61] ++ s.who := ⟨_, rfl⟩
          have lu1 : u1.length = ([32, 119, 104, 111, 61] : List UInt8).length + (s.who : List UInt8).length := by rw [hu1, List.length_append]
          obtain ⟨u2, hu2⟩ : ∃ m, m = O7 ++ u1 := ⟨_, rfl⟩
          have lu2 : u2.length = (O7 : List UInt8).length + (u1 : List UInt8).length := by rw [hu2, List.length_append]
          simp only [List.length_cons, List.length_nil] at lu1 lu2
          have eu1 := str_add _ _ _ hu1 (by omega)
          have eu2 := str_add _ _ _ hu2 (by omega)
          rw [show O7 ++ whoPart s.who = u2 by rw [hu2, hu1, whoPart, if_neg hwe]] at HSO
          have ho8 : u2.length ≤ 400 := by omega
          clear hwe hu1 hu2 lu1 lu2 hwl
          go_wp2
          clear t1 t2
          go_loopw [5, 86] (fun ov iv wr => ∃ (k : Nat), k ≤ s.lines.length ∧ iv = .int .i64 k ∧ ov = .string ⟨(u2 ++ lnParts (s.lines.take k)).toArray⟩ ∧ Hid (StBlk wr w.heap.size s (.slice oa s.lines.length cap) ∧ Below w.heap.size w wr)) (fun _ iv _ => s.lines.length - (intOf iv).toNat)
          case atStart => exact ⟨0, Nat.zero_le _, rfl, by simp [lnParts], Lib.hid ⟨HW8.out.1, HW8.out.2⟩⟩
          case round =>
            clear HW8
            obtain ⟨k, hk, rfl, rfl, HW⟩ := hrel
            by_cases hlt : k < s.lines.length
            · obtain ⟨l, hl, _, hmem⟩ := nth s.lines k hlt
              have q1 : (k : Int) < (s.lines.length : Int) := by omega
              obtain ⟨b, off, rfl, hcell⟩ := HC.out k l hl
              have HCE := Lib.hid (range_later hcell HW.out.2)
              have hlo := HSM.out.lines l hmem
              have hi1 := itoa_le _ hlo.item.1 hlo.item.2; have hi2 := itoa_le _ hlo.price.1 hlo.price.2; have hi3 := itoa_le _ hlo.qty.1 hlo.qty.2; have hi4 := itoa_le _ hlo.shipped.1 hlo.shipped.2
              have hot : (u2 ++ lnParts (s.lines.take k)).length ≤ 2000 := by
                have h1 := lnParts_len (s.lines.take k) fun x hx => HSM.out.lines x (List.mem_of_mem_take hx)
                have h2 := HSM.out.few
                rw [List.length_append]; simp only [List.length_take] at h1; omega
              have HST := Lib.hid (show u2 ++ lnParts (s.lines.take (k + 1)) = (u2 ++ lnParts (s.lines.take k)) ++ (32 :: lnWord l) by rw [lnParts_take _ _ _ hl, List.append_assoc])
              obtain ⟨O, hO⟩ : ∃ O, O = u2 ++ lnParts (s.lines.take k) := ⟨_, rfl⟩
              rw [← hO] at HST hot ⊢
              obtain ⟨b1, hb1⟩ : ∃ m, m = [32] ++ Lib.itoa l.item := ⟨_, rfl⟩
              have lb1 : b1.length = ([32] : List UInt8).length + (Lib.itoa l.item : List UInt8).length := by rw [hb1, List.length_append]
              obtain ⟨b2, hb2⟩ : ∃ m, m = b1 ++ [58] := ⟨_, rfl⟩
              have lb2 : b2.length = (b1 : List UInt8).length + ([58] : List UInt8).length := by rw [hb2, List.length_append]
              obtain ⟨b3, hb3⟩ : ∃ m, m = b2 ++ Lib.itoa l.price := ⟨_, rfl⟩
              have lb3 : b3.length = (b2 : List UInt8).length + (Lib.itoa l.price : List UInt8).length := by rw [hb3, List.length_append]
              obtain ⟨b4, hb4⟩ : ∃ m, m = b3 ++ [42] := ⟨_, rfl⟩
              have lb4 : b4.length = (b3 : List UInt8).length + ([42] : List UInt8).length := by rw [hb4, List.length_append]
              obtain ⟨b5, hb5⟩ : ∃ m, m = b4 ++ Lib.itoa l.qty := ⟨_, rfl⟩
              have lb5 : b5.length = (b4 : List UInt8).length + (Lib.itoa l.qty : List UInt8).length := by rw [hb5, List.length_append]
              obtain ⟨b6, hb6⟩ : ∃ m, m = b5 ++ [45] := ⟨_, rfl⟩
              have lb6 : b6.length = (b5 : List UInt8).length + ([45] : List UInt8).length := by rw [hb6, List.length_append]
              obtain ⟨b7, hb7⟩ : ∃ m, m = b6 ++ Lib.itoa l.shipped := ⟨_, rfl⟩
              have lb7 : b7.length = (b6 : List UInt8).length + (Lib.itoa l.shipped : List UInt8).length := by rw [hb7, List.length_append]
              obtain ⟨b8, hb8⟩ : ∃ m, m = O ++ b7 := ⟨_, rfl⟩
              have lb8 : b8.length = (O : List UInt8).length + (b7 : List UInt8).length := by rw [hb8, List.length_append]
              simp only [List.length_cons, List.length_nil] at lb1 lb2 lb3 lb4 lb5 lb6 lb7 lb8
              have eb1 := str_add _ _ _ hb1 (by omega)
              have eb2 := str_add _ _ _ hb2 (by omega)
              have eb3 := str_add _ _ _ hb3 (by omega)
              have eb4 := str_add _ _ _ hb4 (by omega)
              have eb5 := str_add _ _ _ hb5 (by omega)
              have eb6 := str_add _ _ _ hb6 (by omega)
              have eb7 := str_add _ _ _ hb7 (by omega)
              have eb8 := str_add _ _ _ hb8 (by omega)
              have HB8 := Lib.hid (show O ++ (32 :: lnWord l) = b8 by rw [hb8, hb7, hb6, hb5, hb4, hb3, hb2, hb1]; simp [lnWord])
              have HLO := Lib.hid hlo
              clear hl hmem hcell hlo hi1 hi2 hi3 hi4 hot hO hb1 hb2 hb3 hb4 hb5 hb6 hb7 hb8 lb1 lb2 lb3 lb4 lb5 lb6 lb7 lb8
              go_wp2_with (with_reducible refine wpList_load_ln rfl (.tmp 88) rfl b (off + k * 4) l rfl HCE.out ?_)
              have hA := (show Below wr.heap.size wr (wr.alloc (.cells #[.int .i64 l.item, .int .i64 l.price, .int .i64 l.qty, .int .i64 l.shipped] 40)) from (Below.refl _ _).alloc (Nat.le_refl _) _)
              have HA := Lib.hid (show ((wr.alloc (.cells #[.int .i64 l.item, .int .i64 l.price, .int .i64 l.qty, .int .i64 l.shipped] 40)).drew.cell? ⟨wr.heap.size, 0, none⟩ = some (.int .i64 l.item) ∧ (wr.alloc (.cells #[.int .i64 l.item, .int .i64 l.price, .int .i64 l.qty, .int .i64 l.shipped] 40)).drew.cell? ⟨wr.heap.size, 1, none⟩ = some (.int .i64 l.price) ∧ (wr.alloc (.cells #[.int .i64 l.item, .int .i64 l.price, .int .i64 l.qty, .int .i64 l.shipped] 40)).drew.cell? ⟨wr.heap.size, 2, none⟩ = some (.int .i64 l.qty) ∧ (wr.alloc (.cells #[.int .i64 l.item, .int .i64 l.price, .int .i64 l.qty, .int .i64 l.shipped] 40)).drew.cell? ⟨wr.heap.size, 3, none⟩ = some (.int .i64 l.shipped) ∧ Below wr.heap.size wr (wr.alloc (.cells #[.int .i64 l.item, .int .i64 l.price, .int .i64 l.qty, .int .i64 l.shipped] 40)).drew) from ⟨(World.cell?_alloc_new _ _ _ _).trans rfl, (World.cell?_alloc_new _ _ _ _).trans rfl, (World.cell?_alloc_new _ _ _ _).trans rfl, (World.cell?_alloc_new _ _ _ _).trans rfl, Below.next hA (below_drewN' _ 1)⟩)
              clear hA
              refine wp_region_held_drew (S := fun w' => w'.cell? ⟨wr.heap.size, 0, none⟩ = some (.int .i64 l.item) ∧ w'.cell? ⟨wr.heap.size, 1, none⟩ = some (.int .i64 l.price) ∧ w'.cell? ⟨wr.heap.size, 2, none⟩ = some (.int .i64 l.qty) ∧ w'.cell? ⟨wr.heap.size, 3, none⟩ = some (.int .i64 l.shipped) ∧ Below wr.heap.size wr w') (by kernel_rfl) HA.out (fun hHeld => ?_)
              refine tk 0 rfl ?v_0_85 ?hy_0_85 ?r_0_85
              case hy_0_85 => intro w hSw; obtain ⟨k0, k1, k2, k3, _⟩ := hSw; go_simp; try with_reducible rfl
              simp only [pA, pB, pC, pD]
              refine tk 1 rfl ?v_1_86 ?hy_1_86 ?r_1_86
              case hy_1_86 => intro w hSw; obtain ⟨k0, k1, k2, k3, _⟩ := hSw; go_simp; try with_reducible rfl
              simp only [pA, pB, pC, pD]
              refine tk 2 rfl ?v_2_87 ?hy_2_87 ?r_2_87
              case hy_2_87 => intro w hSw; obtain ⟨k0, k1, k2, k3, _⟩ := hSw; go_simp; try with_reducible rfl
              simp only [pA, pB, pC, pD]
              refine tk 6 rfl ?v_6_88 ?hy_6_88 ?r_6_88
              case hy_6_88 => intro w hSw; obtain ⟨k0, k1, k2, k3, _⟩ := hSw; go_simp; try with_reducible rfl
              simp only [pA, pB, pC, pD]
              refine tk 7 rfl ?v_7_89 ?hy_7_89 ?r_7_89
              case hy_7_89 => intro w hSw; obtain ⟨k0, k1, k2, k3, _⟩ := hSw; go_simp; try with_reducible rfl
              simp only [pA, pB, pC, pD]
              refine tk 11 rfl ?v_11_90 ?hy_11_90 ?r_11_90
              case hy_11_90 => intro w hSw; obtain ⟨k0, k1, k2, k3, _⟩ := hSw; go_simp; try with_reducible rfl
              simp only [pA, pB, pC, pD]
              refine tk 12 rfl ?v_12_91 ?hy_12_91 ?r_12_91
              case hy_12_91 => intro w hSw; obtain ⟨k0, k1, k2, k3, _⟩ := hSw; go_simp; try with_reducible rfl
              simp only [pA, pB, pC, pD]
              refine tk 16 rfl ?v_16_92 ?hy_16_92 ?r_16_92
              case hy_16_92 => intro w hSw; obtain ⟨k0, k1, k2, k3, _⟩ := hSw; go_simp; try with_reducible rfl
              simp only [pA, pB, pC, pD]
              refine tk 17 rfl ?v_17_93 ?hy_17_93 ?r_17_93
              case hy_17_93 => intro w hSw; obtain ⟨k0, k1, k2, k3, _⟩ := hSw; go_simp; try with_reducible rfl
              simp only [pA, pB, pC, pD]
              refine wpAnyH_ready (rs := [3]) (by kernel_rfl) (by simp) ?_
              refine AllReadyH.cons rfl (fun K hK => ?_) AllReadyH.nil
              go_simp
              go_at_call 10
              refine (Itoa_any l.item _ HLO.out.item.1 HLO.out.item.2 (HP.out.below (Below.next HW.out.2 hHeld.2.2.2.2))).mono ?_
              rintro x wn ⟨rfl, hb⟩
              go_wp2_with fail
              refine hK.out _ _ ⟨cell_later hb hHeld.1, cell_later hb hHeld.2.1, cell_later hb hHeld.2.2.1, cell_later hb hHeld.2.2.2.1, Below.next hHeld.2.2.2.2 hb⟩ (fun hHeld => ?_)
              clear hK K hb
              refine tk 4 rfl ?v_4_94 ?hy_4_94 ?r_4_94
              case hy_4_94 => intro w hSw; obtain ⟨k0, k1, k2, k3, _⟩ := hSw; go_simp; try with_reducible rfl
              simp only [pA, pB, pC, pD]
              refine tk 5 rfl ?v_5_95 ?hy_5_95 ?r_5_95
              case hy_5_95 => intro w hSw; obtain ⟨k0, k1, k2, k3, _⟩ := hSw; go_simp; try with_reducible rfl
              simp only [pA, pB, pC, pD]
              refine wpAnyH_ready (rs := [8]) (by kernel_rfl) (by simp) ?_
              refine AllReadyH.cons rfl (fun K hK => ?_) AllReadyH.nil
              go_simp
              go_at_call 10
              refine (Itoa_any l.price _ HLO.out.price.1 HLO.out.price.2 (HP.out.below (Below.next HW.out.2 hHeld.2.2.2.2))).mono ?_
              rintro x wn ⟨rfl, hb⟩
              go_wp2_with fail
              refine hK.out _ _ ⟨cell_later hb hHeld.1, cell_later hb hHeld.2.1, cell_later hb hHeld.2.2.1, cell_later hb hHeld.2.2.2.1, Below.next hHeld.2.2.2.2 hb⟩ (fun hHeld => ?_)
              clear hK K hb
              refine tk 9 rfl ?v_9_96 ?hy_9_96 ?r_9_96
              case hy_9_96 => intro w hSw; obtain ⟨k0, k1, k2, k3, _⟩ := hSw; go_simp; try with_reducible rfl
              simp only [pA, pB, pC, pD]
              refine tk 10 rfl ?v_10_97 ?hy_10_97 ?r_10_97
              case hy_10_97 => intro w hSw; obtain ⟨k0, k1, k2, k3, _⟩ := hSw; go_simp; try with_reducible rfl
              simp only [pA, pB, pC, pD]
              refine wpAnyH_ready (rs := [13]) (by kernel_rfl) (by simp) ?_
              refine AllReadyH.cons rfl (fun K hK => ?_) AllReadyH.nil
              go_simp
              go_at_call 10
              refine (Itoa_any l.qty _ HLO.out.qty.1 HLO.out.qty.2 (HP.out.below (Below.next HW.out.2 hHeld.2.2.2.2))).mono ?_
              rintro x wn ⟨rfl, hb⟩
              go_wp2_with fail
              refine hK.out _ _ ⟨cell_later hb hHeld.1, cell_later hb hHeld.2.1, cell_later hb hHeld.2.2.1, cell_later hb hHeld.2.2.2.1, Below.next hHeld.2.2.2.2 hb⟩ (fun hHeld => ?_)
              clear hK K hb
              refine tk 14 rfl ?v_14_98 ?hy_14_98 ?r_14_98
              case hy_14_98 => intro w hSw; obtain ⟨k0, k1, k2, k3, _⟩ := hSw; go_simp; try with_reducible rfl
              simp only [pA, pB, pC, pD]
              refine tk 15 rfl ?v_15_99 ?hy_15_99 ?r_15_99
              case hy_15_99 => intro w hSw; obtain ⟨k0, k1, k2, k3, _⟩ := hSw; go_simp; try with_reducible rfl
              simp only [pA, pB, pC, pD]
              refine wpAnyH_ready (rs := [18]) (by kernel_rfl) (by simp) ?_
              refine AllReadyH.cons rfl (fun K hK => ?_) AllReadyH.nil
              go_simp
              go_at_call 10
              refine (Itoa_any l.shipped _ HLO.out.shipped.1 HLO.out.shipped.2 (HP.out.below (Below.next HW.out.2 hHeld.2.2.2.2))).mono ?_
              rintro x wn ⟨rfl, hb⟩
              go_wp2_with fail
              refine hK.out _ _ ⟨cell_later hb hHeld.1, cell_later hb hHeld.2.1, cell_later hb hHeld.2.2.1, cell_later hb hHeld.2.2.2.1, Below.next hHeld.2.2.2.2 hb⟩ (fun hHeld => ?_)
              clear hK K hb
              refine tk 19 rfl ?v_19_100 ?hy_19_100 ?r_19_100
              case hy_19_100 => intro w hSw; obtain ⟨k0, k1, k2, k3, _⟩ := hSw; go_simp; try with_reducible rfl
              simp only [pA, pB, pC, pD]
              refine tk 20 rfl ?v_20_101 ?hy_20_101 ?r_20_101
              case hy_20_101 => intro w hSw; obtain ⟨k0, k1, k2, k3, _⟩ := hSw; go_simp; try with_reducible rfl
              simp only [pA, pB, pC, pD]
              refine tk 21 rfl ?v_21_102 ?hy_21_102 ?r_21_102
              case hy_21_102 => intro w hSw; obtain ⟨k0, k1, k2, k3, _⟩ := hSw; go_simp; try with_reducible rfl
              simp only [pA, pB, pC, pD]
              refine wpAnyH_done (by kernel_rfl) ?_ _
              have HWN := Lib.hid hHeld.2.2.2.2
              clear hHeld HA
              go_wp2
              go_roundw
              case rel => exact ⟨k + 1, by omega, by go_num, by rw [HST.out, HB8.out], Lib.hid ⟨HW.out.1.below HWN.out, Below.next HW.out.2 HWN.out⟩⟩
              case measure => first | (simp [intOf]; done) | (simp [intOf]; omega)
            · obtain rfl : k = s.lines.length := by omega
              rw [List.take_length]
              have HFI := Lib.hid (show stateT s = (u2 ++ lnParts s.lines, 0) by rw [hfin.out, HSO.out])
              go_wp2
              go_ret2
              exact ⟨by rw [HFI.out]; rfl, HW.out.2⟩

end Go.Proofs.YtlobohpbgghleaaDoor
