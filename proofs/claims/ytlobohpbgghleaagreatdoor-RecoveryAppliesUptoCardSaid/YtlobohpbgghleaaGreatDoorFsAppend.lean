import Derived.Test.YtlobohpbgghleaaGreatDoorSlots
import Derived.Test.YtlobohpbgghleaaGreatDoorFilRow
import Derived.Test.YtlobohpbgghleaaGreatDoorFsDir
namespace Go.Proofs.YtlobohpbgghleaaGreatDoor
open Go.RowKit

/-! ## bytes behind a file -/

section
variable {ops : Array Oper} {rest : List Oper} {o : Oper} {a : Act} {Q : Exit → Act → World → Prop}
theorem wpList_appDat {w : World} (hgd : o.guard = none) (s y : Operand) (ho : o.op = .call { callee := .builtin .append, args := #[s, y], argTypes := #[47, 47] }) {v x : Value} {l m : List UInt8}
    (hs : a.eval s = v) (hy : a.eval y = x) (h : DatAt w v l) (hx : BRow w x m) (hl : l.length + m.length ≤ 140737488355328)
    (hK : ∀ v' w', DatAt w' v' (l ++ m) → w.grownBy w' (datBlk v) → (∀ g, datBlk v' = some g → datBlk v = some g ∨ g = w.heap.size) → v'.oneCell' = true → wpList Tryz.prog ops Q rest (a.put o.dst v') w') : wpList Tryz.prog ops Q (o :: rest) a w := by
  refine wpList_plain hgd fun K hKK => ?_
  obtain ⟨v', w', hr, h1, h2, h3, h4⟩ := append_dat h hx hl o.type
  unfold Oper.wp
  simp [execOp, ho, resolve, invoke, builtin, hs, hy, hr, Result.andThen]
  exact hKK _ _ (hK v' w' h1 h2 h3 h4)
end
theorem BRowIn.turned {A S : Nat → Prop} {w w' : World} {v : Value} {l : List UInt8} (h : BRowIn A w v l) (ht : Turned S w w') (hS : ∀ k, A k → ¬ S k) : BRowIn A w' v l := by
  obtain ⟨oa, cap, h1, h2, h3⟩ := h
  exact ⟨oa, cap, h1, h2, fun hn => by obtain ⟨b, off, e, ha, hc⟩ := h3 hn; exact ⟨b, off, e, ha, fun i x hx => ht.cell (hc i x hx) (hS b ha)⟩⟩
theorem SlotAt.putData {w2 w3 : World} {s : Slot} {v : Value} {l : List UInt8} (hb : w2.heap[s.blk]? = some (.cells (fileCs s) 82 (0, 0))) (hd : DatAt w2 v l) (hv : datBlk v ≠ some s.blk) (hw : w3 = w2.setCell ⟨s.blk, 0, none⟩ v) :
    SlotAt w3 ⟨{ s.fil with data := l }, s.blk, v⟩ := by
  subst hw
  refine ⟨?_, hd.kept fun g hg => ?_⟩
  · have e : (fileCs s).setIfInBounds 0 v = fileCs ⟨{ s.fil with data := l }, s.blk, v⟩ := rfl
    rw [← e]
    simp only [World.setCell]
    rw [Array.getElem?_modify]
    simp [hb]
  · simp only [World.setCell]
    rw [Array.getElem?_modify, if_neg (fun e => hv (by rw [hg, e]))]

set_option maxRecDepth 100000 in
set_option maxHeartbeats 2000000 in
theorem append_any (w : World) (f m : Nat) (d : Disk) (L : List Slot) (h : FsAt w f m d L) (hs : d.steps < 4611686018427387904) (n b : List UInt8) (bv : Value) (hb : BRowIn (fun k => ¬ foot f m L k) w bv b) :
    Calls Tryz.prog 92 #[.pointer (some ⟨f, 0, none⟩), .string ⟨n.toArray⟩, bv] w fun e w' => e = .returned (.int .i64 (doD d (opAppend n b)).2.2.2) ∧ FsPost w f m L (doD d (opAppend n b)).1 w' := by
  have HO := Lib.hid (open_any w f m d L h n)
  have HH := Lib.hid h
  have HBR := Lib.hid hb
  obtain ⟨ob, bcap, rfl, hbl, hbc⟩ := hb
  clear hbc
  by_cases he : openE d n = 0
  case neg =>
    have HE := Lib.hid (show doD d (opAppend n b) = (d, [], 0, openE d n) by rw [doD_barred (by simp [opAppend]) (by rw [bar_append, if_pos he]; exact he), bar_append, if_pos he])
    have t1 : (openE d n != 0) = true := by simpa using he
    generalize openE d n = e0 at *
    clear he h
    go_enter Tryz.func92, Tryz.ntmps92
    go_wp2_with (go_at_call 44; refine HO.out.mono ?_; rintro e w1 ⟨rfl, rfl⟩)
    go_ret
    rw [HE.out]
    exact ⟨rfl, FsPost.same HH.out⟩
  obtain ⟨s, hs1, ha, hv, hr, hsm, hsn⟩ := slot_of h he
  have c1 : w.cell? ⟨f, 1, none⟩ = some (.int .i64 d.room) := h.hd.c1
  have c2 : w.cell? ⟨f, 2, none⟩ = some (.int .i64 (usedF d.files : Int)) := h.hd.c2
  have hrm := h.ok.room
  have hus := h.ok.used
  have hw : IntKind.i64.wrap (d.room - (usedF d.files : Int)) = d.room - (usedF d.files : Int) := by rw [IntKind.wrap_i64]; omega
  by_cases hfull : d.room - (usedF d.files : Int) < (b.length : Int)
  case pos =>
    have HE := Lib.hid (show doD d (opAppend n b) = (d, [], 0, 54) by
      have hb : barD d (opAppend n b) = 54 := by rw [bar_append, if_neg (by simpa using he), if_pos (by simpa using hfull)]
      rw [doD_barred (by simp [opAppend]) (by rw [hb]; decide), hb])
    have t2 : decide (d.room - (usedF d.files : Int) < (b.length : Int)) = true := by simpa using hfull
    rw [he, hv] at HO
    clear he h hs1 ha hv hr hsm hsn hfull hrm hus
    go_enter Tryz.func92, Tryz.ntmps92
    go_wp2_with (go_at_call 44; refine HO.out.mono ?_; rintro e w1 ⟨rfl, rfl⟩)
    go_quiet (fail)
    go_wp2
    go_ret
    rw [HE.out]
    have := HH.out.below (below_drewN' w nq)
    exact ⟨rfl, L, this, Turned.below (below_drewN' _ _), fun _ h => .inl h⟩
  have t2 : decide (d.room - (usedF d.files : Int) < (b.length : Int)) = false := by simpa using hfull
  have hbar : barD d (opAppend n b) = 0 := by rw [bar_append, if_neg (by simpa using he), if_neg (by simpa using hfull)]
  have ha' : atF (stepD d).files n = some s.fil := by rw [stepD_files]; exact ha
  have hrise : Rise (stepD d).files := by rw [stepD_files]; exact h.ok.rise
  have hchg : chgD (stepD d) (opAppend n b) = { stepD d with files := setF n (fun _ => ⟨s.fil.name, s.fil.data ++ b, s.fil.safe⟩) (stepD d).files } := by
    rw [chg_set (x := s.fil) hrise ha' (by simp [opAppend]) (by simp [opAppend]) (by simp [opAppend])]
    rfl
  have HE := Lib.hid (show doD d (opAppend n b) = ({ stepD d with files := setF n (fun _ => ⟨s.fil.name, s.fil.data ++ b, s.fil.safe⟩) (stepD d).files }, [], 0, if d.fuse = 1 then 3 else 0) by
    rw [doD_step (by simp [opAppend]) hbar, hchg]
    by_cases hf : d.fuse = 1
    · simp [hf, opAppend]
    · simp [hf])
  have HSL := Lib.hid (show slotAt L n = some s ∧ s.fil.name = n ∧ atF (stepD d).files n = some s.fil ∧ s ∈ L from ⟨hs1, hsn, ha', hsm⟩)
  have hlen := len_le_used (at_name ha).2
  have HN := Lib.hid (show s.fil.data.length + b.length ≤ 67108864 ∧ (usedF (stepD d).files : Int) + b.length ≤ d.room by rw [stepD_files]; omega)
  have hw2 : IntKind.i64.wrap ((usedF (stepD d).files : Int) + (b.length : Int)) = (usedF (stepD d).files : Int) + (b.length : Int) := by rw [stepD_files, IntKind.wrap_i64]; omega
  rw [he, hv] at HO
  have HF0 := Lib.hid (show ∀ x : Bool, decide (d.fuse = 1) = x → decide ((hdOf d).fuse = 1) = x from fun x hx => hx)
  have HS := Lib.hid (fun k => step_any (w.drewN k) f m (hdOf d) (h.hd.below (below_drewN' w k)) h.ok.fuse.1 h.ok.fuse.2 h.ok.steps hs)
  clear he h hs1 ha hv hr hsm hsn hfull hrm hus hbar ha' hrise hchg hlen
  go_enter Tryz.func92, Tryz.ntmps92
  go_wp2_with (go_at_call 44; refine HO.out.mono ?_; rintro e w1 ⟨rfl, rfl⟩)
  go_quiet (fail)
  go_wp2_with fail
  have HW1 := Lib.hid (HH.out.below (below_drewN' w nq))
  refine (HS.out nq).mono ?_
  rintro e w1 ⟨rfl, hh, ht⟩
  have H1 := Lib.hid (HW1.out.stepped hh ht)
  have HT := Lib.hid (show Turned (foot f m L) w w1 from (Turned.below (below_drewN' w nq)).trans ht fun k hk => .inl (.inl hk))
  have HB1 := Lib.hid (HBR.out.turned HT.out fun _ hk => hk)
  have hsl := H1.out.body.slot s HSL.out.2.2.2
  have hap := H1.out.body.apart.2.1 s HSL.out.2.2.2
  have HSLT := Lib.hid hsl
  have HAP := Lib.hid hap
  have c0 := hsl.c0
  clear hh ht hsl hap HS HO c1 c2 HW1 hw
  obtain ⟨sv, hsv⟩ : ∃ sv, sv = s.sl := ⟨_, rfl⟩
  obtain ⟨l0, hl0⟩ : ∃ l0, l0 = s.fil.data := ⟨_, rfl⟩
  have HDA := Lib.hid (show DatAt w1 sv l0 by rw [hsv, hl0]; exact HSLT.out.2)
  have hln : l0.length + b.length ≤ 140737488355328 := by have := HN.out.1; rw [hl0]; omega
  rw [← hsv] at c0
  have HSV := Lib.hid hsv
  have HL0 := Lib.hid hl0
  clear hsv hl0
  go_wp2_with (at_builtin; refine wpList_appDat rfl _ _ rfl rfl rfl HDA.out HB1.out.brow hln ?_)
  intro v2 w2 hd2 hg2 hb2 ho2
  have HD2 := Lib.hid hd2
  have HG2 := Lib.hid hg2
  have HBK := Lib.hid hb2
  have hblk : w2.heap[s.blk]? = some (.cells (fileCs s) 82 (0, 0)) := by
    rw [hg2.block s.blk HSLT.out.lt (by rw [HSV.out]; exact fun e => HAP.out.2.2.2.2 e.symm)]
    exact HSLT.out.1
  have k0 : w2.cell? ⟨s.blk, 0, none⟩ = some s.sl := by simp [World.cell?, hblk, fileCs]
  have f0 : w2.frozen? ⟨s.blk, 0, none⟩ = false := by simp [World.frozen?, hblk]
  have HBL := Lib.hid hblk
  clear hd2 hg2 hb2 hblk c0
  go_wp2_with (with_reducible refine wpList_store_cellV rfl 47 (.tmp 41) (.tmp 39) rfl s.blk 0 v2 s.sl (by kernel_rfl) ho2 rfl rfl k0 f0 ?_)
  intro w3 hw3
  have HV2 := Lib.hid (show datBlk v2 ≠ some s.blk from fun e => by
    rcases HBK.out s.blk e with h1 | h1
    · rw [HSV.out] at h1; exact HAP.out.2.2.2.2 h1
    · have := HSLT.out.lt; omega)
  have HX := Lib.hid (SlotAt.putData HBL.out HD2.out HV2.out hw3.out)
  have HT3 := Lib.hid (show Turned (fun k => k = f ∨ k = s.blk ∨ datBlk s.sl = some k) w1 w3 by
    rw [hw3.out]
    exact (Turned.grown (S := fun k => k = f ∨ k = s.blk ∨ datBlk s.sl = some k) HG2.out fun k hk => .inr (.inr (by rw [← HSV.out]; exact hk))).trans (Turned.setCell (S := fun k => k = f ∨ k = s.blk ∨ datBlk s.sl = some k) _ ⟨s.blk, 0, none⟩ _ (.inr (.inl rfl))) fun i h => .inl h)
  have HH3 := Lib.hid (show HdAt w3 f m (hdOf (stepD d)) by
    rw [hw3.out]
    exact (H1.out.hd.kept (HG2.out.block f H1.out.hd.lt (by rw [HSV.out]; exact fun e => HAP.out.2.2.1 e.symm))).otherCell HAP.out.1.symm 0 v2)
  have c2 : w3.cell? ⟨f, 2, none⟩ = some (.int .i64 (usedF (stepD d).files : Int)) := HH3.out.c2
  have f2 := HH3.out.free 2
  clear hw3 k0 f0 HBL HG2 HB1
  -- the end, whether the power stays on or not
  have HEND := Lib.hid (show FsPost w f m L (doD d (opAppend n b)).1 (w3.setCell ⟨f, 2, none⟩ (.int .i64 ((usedF (stepD d).files : Int) + (b.length : Int)))) by
    rw [HE.out]
    have hfd : datBlk v2 ≠ some f := fun e => by
      rcases HBK.out f e with h1 | h1
      · rw [HSV.out] at h1; exact HAP.out.2.2.1 h1
      · have := H1.out.hd.lt; omega
    have hu := usedF_set (f' := ⟨s.fil.name, s.fil.data ++ b, s.fil.safe⟩) H1.out.ok.rise HSL.out.2.2.1 HSL.out.2.1
    have hsf := H1.out.ok.safe s.fil (at_name HSL.out.2.2.1).2
    refine FsPost.setFile (x := ⟨⟨s.fil.name, s.fil.data ++ b, s.fil.safe⟩, s.blk, v2⟩) H1.out HT.out HSL.out.1 HSL.out.2.1 rfl (HT3.out.trans (Turned.setCell (S := fun k => k = f) _ ⟨f, 2, none⟩ _ rfl) fun i h => .inl (.inl h)) ?_ (fun g hg => ?_) ?_ rfl ?_
    · have hX := HX.out
      rw [HL0.out] at hX
      refine hX.kept ?_ fun g hg => ?_
      · simp only [World.setCell]
        rw [Array.getElem?_modify, if_neg (fun e => HAP.out.1 e.symm)]
      · simp only [World.setCell]
        rw [Array.getElem?_modify, if_neg (fun e => hfd (by rw [e]; exact hg))]
    · rcases HBK.out g hg with h1 | h1
      · exact .inl (by rw [← HSV.out]; exact h1)
      · exact .inr (by omega)
    · have e : hdOf { stepD d with files := setF n (fun _ => ⟨s.fil.name, s.fil.data ++ b, s.fil.safe⟩) (stepD d).files } = { hdOf (stepD d) with used := (usedF (stepD d).files : Int) + (b.length : Int) } := by
        unfold hdOf
        simp only [Hd.mk.injEq, true_and, and_true]
        simp only [List.length_append] at hu
        omega
      rw [e]
      exact HH3.out.set 2 _ rfl
    · refine H1.out.ok.setFile HSL.out.2.2.1 HSL.out.2.1 ⟨hsf.1, ?_⟩ ?_
      · simp only [List.length_append]; omega
      · have := HN.out.2
        simp only [List.length_append]
        rw [stepD_room]
        omega)
  rcases hfz : decide (d.fuse = 1) with _ | _
  · have HF := Lib.hid (HF0.out _ hfz)
    have HER := Lib.hid (show (doD d (opAppend n b)).2.2.2 = 0 by rw [HE.out]; simp only; rw [if_neg (by simpa using hfz)])
    rw [show decide ((hdOf d).fuse = 1) = false from HF.out]
    clear hfz HE HX HT3 HH3 HF0
    go_wp2
    go_ret
    exact ⟨by rw [HER.out]; rfl, HEND.out⟩
  · have HF := Lib.hid (HF0.out _ hfz)
    have HER := Lib.hid (show (doD d (opAppend n b)).2.2.2 = 3 by rw [HE.out]; simp only; rw [if_pos (by simpa using hfz)])
    rw [show decide ((hdOf d).fuse = 1) = true from HF.out]
    clear hfz HE HX HT3 HH3 HF0
    go_wp2
    go_ret
    exact ⟨by rw [HER.out]; rfl, HEND.out⟩

end Go.Proofs.YtlobohpbgghleaaGreatDoor

namespace Go.Proofs.YtlobohpbgghleaaGreatDoor
open Go.RowKit

/-! ## leaving the first n bytes -/

set_option maxRecDepth 100000 in
set_option maxHeartbeats 2000000 in
theorem cut_any (w : World) (f m : Nat) (d : Disk) (L : List Slot) (h : FsAt w f m d L) (hs : d.steps < 4611686018427387904) (n : List UInt8) (k : Int) :
    Calls Tryz.prog 61 #[.pointer (some ⟨f, 0, none⟩), .string ⟨n.toArray⟩, .int .i64 k] w fun e w' => e = .returned (.int .i64 (doD d (opCut n k)).2.2.2) ∧ FsPost w f m L (doD d (opCut n k)).1 w' := by
  have HO := Lib.hid (open_any w f m d L h n)
  have HH := Lib.hid h
  by_cases he : openE d n = 0
  case neg =>
    have HE := Lib.hid (show doD d (opCut n k) = (d, [], 0, openE d n) by rw [doD_barred (by simp [opCut]) (by rw [bar_cut, if_pos he]; exact he), bar_cut, if_pos he])
    have t1 : (openE d n != 0) = true := by simpa using he
    generalize openE d n = e0 at *
    clear he h
    go_enter Tryz.func61, Tryz.ntmps61
    go_wp2_with (go_at_call 44; refine HO.out.mono ?_; rintro e w1 ⟨rfl, rfl⟩)
    go_ret
    rw [HE.out]
    exact ⟨rfl, FsPost.same HH.out⟩
  obtain ⟨s, hs1, ha, hv, hr, hsm, hsn⟩ := slot_of h he
  have hbar : barD d (opCut n k) = if decide (k < 0) || decide ((s.fil.data.length : Int) < k) then 1 else 0 := by rw [bar_cut, if_neg (by simpa using he), ha]
  have hsl := h.body.slot s hsm
  obtain ⟨ao, cap, hsh, hlc, _⟩ := hsl.2.shape
  have c0 : w.cell? ⟨s.blk, 0, none⟩ = some (.slice ao s.fil.data.length cap) := by rw [← hsh]; exact hsl.c0
  rw [he, hv] at HO
  by_cases hbad : k < 0 ∨ (s.fil.data.length : Int) < k
  case pos =>
    have HE := Lib.hid (show doD d (opCut n k) = (d, [], 0, 1) by
      have hb : barD d (opCut n k) = 1 := by rw [hbar, if_pos (by simpa using hbad)]
      rw [doD_barred (by simp [opCut]) (by rw [hb]; decide), hb])
    rcases h1 : decide (k < 0) with _ | _
    · have h2 : decide ((s.fil.data.length : Int) < k) = true := by simp at h1 ⊢; omega
      clear he h hs1 ha hv hr hsm hsn hbar hsl hbad hsh
      go_enter Tryz.func61, Tryz.ntmps61
      go_wp2_with (go_at_call 44; refine HO.out.mono ?_; rintro e w1 ⟨rfl, rfl⟩)
      go_ret
      rw [HE.out]
      exact ⟨rfl, FsPost.same HH.out⟩
    · clear he h hs1 ha hv hr hsm hsn hbar hsl hbad hsh
      go_enter Tryz.func61, Tryz.ntmps61
      go_wp2_with (go_at_call 44; refine HO.out.mono ?_; rintro e w1 ⟨rfl, rfl⟩)
      go_ret
      rw [HE.out]
      exact ⟨rfl, FsPost.same HH.out⟩
  have t1 : decide (k < 0) = false := by simp; omega
  have t2 : decide ((s.fil.data.length : Int) < k) = false := by simp; omega
  obtain ⟨q, rfl⟩ := Int.eq_ofNat_of_zero_le (show 0 ≤ k by omega)
  have hq : q ≤ s.fil.data.length := by omega
  have hb0 : barD d (opCut n q) = 0 := by rw [hbar, t1, t2]; rfl
  have HD := Lib.hid (doD_step (d := d) (o := opCut n q) (by simp [opCut]) hb0)
  have HS := Lib.hid (step_any w f m (hdOf d) h.hd h.ok.fuse.1 h.ok.fuse.2 h.ok.steps hs)
  by_cases hf : d.fuse = 1
  · have HF := Lib.hid (dec_fuse (decide_eq_true hf))
    have HE := Lib.hid (show doD d (opCut n q) = (stepD d, [], 0, 3) by rw [HD.out, if_pos hf, if_neg (by simp [opCut]), if_pos hf])
    have hq2 : ¬ s.fil.data.length < q := by omega
    clear h hs he hs1 ha hv hr hsm hsn hf HD hbar hbad hsl hsh hb0 hq
    go_enter Tryz.func61, Tryz.ntmps61
    go_wp2_with (first | (go_at_call 44; refine HO.out.mono ?_; rintro e w1 ⟨rfl, rfl⟩) | (go_at_call 72; refine HS.out.mono ?_; rw [HF.out]; rintro e w1 ⟨rfl, hh, ht⟩))
    go_ret
    rw [HE.out]
    exact ⟨rfl, FsPost.stepped HH.out hh ht⟩
  · have HF := Lib.hid (dec_fuse (decide_eq_false hf))
    have ha' : atF (stepD d).files n = some s.fil := by rw [stepD_files]; exact ha
    have HE := Lib.hid (show doD d (opCut n q) = ({ stepD d with files := setF n (fun _ => ⟨s.fil.name, s.fil.data.take q, if (q : Int) < s.fil.safe then (q : Int) else s.fil.safe⟩) (stepD d).files }, [], 0, 0) by
      rw [HD.out, if_neg hf, if_neg hf, chg_set (x := s.fil) (by rw [stepD_files]; exact h.ok.rise) ha' (by simp [opCut]) (by simp [opCut]) (by simp [opCut])]
      rfl)
    have HSL := Lib.hid (show slotAt L n = some s ∧ s.fil.name = n ∧ atF (stepD d).files n = some s.fil ∧ s ∈ L from ⟨hs1, hsn, ha', hsm⟩)
    have hlen := len_le_used (at_name ha).2
    have hus := h.ok.used
    have hrm := h.ok.room
    have HN := Lib.hid (show (s.fil.data.length : Int) ≤ usedF (stepD d).files ∧ (usedF (stepD d).files : Int) ≤ d.room ∧ d.room ≤ 67108864 by rw [stepD_files]; omega)
    have hw1 : IntKind.i64.wrap ((s.fil.data.length : Int) - (q : Int)) = (s.fil.data.length : Int) - (q : Int) := by rw [IntKind.wrap_i64]; omega
    have hw2 : IntKind.i64.wrap ((usedF (stepD d).files : Int) - ((s.fil.data.length : Int) - (q : Int))) = (usedF (stepD d).files : Int) - ((s.fil.data.length : Int) - (q : Int)) := by rw [stepD_files, IntKind.wrap_i64]; omega
    have HQ := Lib.hid hq
    clear h hs he hs1 ha hv hr hsm hsn hf HD hbar hbad hsl hb0 ha' hlen hus hrm
    go_enter Tryz.func61, Tryz.ntmps61
    go_wp2_with (first | (go_at_call 44; refine HO.out.mono ?_; rintro e w1 ⟨rfl, rfl⟩))
    go_at_call 72
    refine HS.out.mono ?_
    rw [HF.out]
    rintro e w1 ⟨rfl, hh, ht⟩
    have H0 := Lib.hid (HH.out.stepped hh ht)
    have H1 := Lib.hid (show FsAt w1.drew f m (stepD d) L from H0.out.below (below_drewN' w1 1))
    have HT := Lib.hid (show Turned (foot f m L) w w1.drew from (ht.mono fun _ hk => .inl hk).trans (Turned.below (below_drewN' w1 1)) fun _ h => .inl h)
    have hsl := H0.out.body.slot s HSL.out.2.2.2
    clear c0
    have c0 : w1.cell? ⟨s.blk, 0, none⟩ = some (.slice ao s.fil.data.length cap) := by rw [← hsh]; exact hsl.c0
    have c2 : w1.cell? ⟨f, 2, none⟩ = some (.int .i64 (usedF (stepD d).files : Int)) := H0.out.hd.c2
    have f2 := H0.out.hd.free 2
    clear hh ht hsl HS HO
    go_wp2_with fail
    go_still_tail 14, (by kernel_rfl)
    refine wpList_store_cellV rfl 3 (.tmp 45) (.tmp 43) rfl f 2 (.int .i64 ((usedF (stepD d).files : Int) - ((s.fil.data.length : Int) - (q : Int)))) (.int .i64 (usedF (stepD d).files : Int)) (by kernel_rfl) rfl rfl rfl c2 f2 ?_
    intro w2 hw2'
    have HB2 := Lib.hid (show HdAt w2 f m { hdOf (stepD d) with used := (usedF (stepD d).files : Int) - ((s.fil.data.length : Int) - (q : Int)) } ∧ Body w2 f m L ∧ Turned (fun k => k = f) w1.drew w2 by
      rw [hw2'.out]
      exact ⟨H1.out.hd.set 2 _ rfl, H1.out.body.setHd 2 _, Turned.setCell _ _ _ rfl⟩)
    have hsl2 := HB2.out.2.1.slot s HSL.out.2.2.2
    have HAP := Lib.hid (HB2.out.2.1.apart.2.1 s HSL.out.2.2.2)
    have k0 : w2.cell? ⟨s.blk, 0, none⟩ = some (.slice ao s.fil.data.length cap) := by rw [← hsh]; exact hsl2.c0
    have k1 := hsl2.c1
    have g0 := hsl2.free 0
    have g1 := hsl2.free 1
    have HS2 := Lib.hid hsl2
    clear hw2' c0 c2 f2 hw1 hw2 hsl2 t1 t2 hq
    have q1 : (q : Int) ≤ (s.fil.data.length : Int) := by have := HQ.out; omega
    have q2 : (s.fil.data.length : Int) ≤ (cap : Int) := by omega
    go_wp2
    go_ret
    rw [HE.out]
    obtain ⟨ao', cap', hsh', hdc, hdb⟩ := datAt_cut HS2.out.2 q HQ.out
    have hao : ao' = ao := by rw [hsh] at hsh'; cases hsh'; rfl
    subst hao
    have hmin : min s.fil.safe (q : Int) = if (q : Int) < s.fil.safe then (q : Int) else s.fil.safe := by split <;> omega
    have hdn : datBlk (.slice ao' q q) ≠ some s.blk := fun e => HAP.out.2.2.2.2 (hdb _ e)
    have hdf : ∀ g, datBlk (.slice ao' q q) = some g → datBlk s.sl = some g := hdb
    have hX := SlotAt.putData HS2.out.1 hdc hdn rfl
    have hX2 := hX.putSafe (if (q : Int) < s.fil.safe then (q : Int) else s.fil.safe) hdn
    have hlq : (s.fil.data.take q).length = q := by rw [List.length_take]; have := HQ.out; omega
    have hu := usedF_set (f' := ⟨s.fil.name, s.fil.data.take q, if (q : Int) < s.fil.safe then (q : Int) else s.fil.safe⟩) H1.out.ok.rise HSL.out.2.2.1 HSL.out.2.1
    have hsf := H1.out.ok.safe s.fil (at_name HSL.out.2.2.1).2
    rw [hmin]
    refine ⟨rfl, FsPost.setFile (x := ⟨⟨s.fil.name, s.fil.data.take q, if (q : Int) < s.fil.safe then (q : Int) else s.fil.safe⟩, s.blk, .slice ao' q q⟩) H1.out HT.out HSL.out.1 HSL.out.2.1 rfl ?_ hX2 (fun g hg => .inl (hdb g hg)) ?_ rfl ?_⟩
    · exact ((HB2.out.2.2.mono (S' := fun k => k = f ∨ k = s.blk ∨ datBlk s.sl = some k) fun _ hk => .inl hk).trans (Turned.setCell (S := fun k => k = s.blk) _ ⟨s.blk, 0, none⟩ _ rfl) fun i h => .inl (.inr (.inl h))).trans (Turned.setCell (S := fun k => k = s.blk) _ ⟨s.blk, 1, none⟩ _ rfl) fun i h => .inl (.inr (.inl h))
    · have e : hdOf { stepD d with files := setF n (fun _ => ⟨s.fil.name, s.fil.data.take q, if (q : Int) < s.fil.safe then (q : Int) else s.fil.safe⟩) (stepD d).files } = { hdOf (stepD d) with used := (usedF (stepD d).files : Int) - ((s.fil.data.length : Int) - (q : Int)) } := by
        unfold hdOf
        simp only [Hd.mk.injEq, true_and, and_true]
        simp only [hlq] at hu
        have := HQ.out
        omega
      rw [e]
      exact (HB2.out.1.otherCell HAP.out.1.symm 0 _).otherCell HAP.out.1.symm 1 _
    · refine H1.out.ok.setFile HSL.out.2.2.1 HSL.out.2.1 ?_ ?_
      · simp only [hlq]
        split <;> omega
      · have := H1.out.ok.used
        have := HQ.out
        simp only [hlq]
        omega

end Go.Proofs.YtlobohpbgghleaaGreatDoor
