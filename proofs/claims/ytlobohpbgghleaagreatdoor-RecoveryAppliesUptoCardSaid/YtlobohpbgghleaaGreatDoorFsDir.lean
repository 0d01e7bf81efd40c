import Derived.Test.YtlobohpbgghleaaGreatDoorSlots
import Derived.StillTailTactics
namespace Go.Proofs.YtlobohpbgghleaaGreatDoor
open Go.RowKit

/-! ## taking a file away -/

section
variable {ops : Array Oper} {rest : List Oper} {o : Oper} {a : Act} {Q : Exit → Act → World → Prop}
theorem wpList_fsDel {w : World} {f m : Nat} {L : List Slot} {n : List UInt8} (hg : o.guard = none) (x y : Operand) (hop : o.op = Op.call { callee := Callee.builtin Builtin.delete, args := #[x, y], argTypes := #[77, 9] })
    (hx : a.eval x = .map (some m)) (hy : a.eval y = .string ⟨n.toArray⟩) (hB : Body w f m L) (hn : n.length ≤ 1000)
    (hK : ∀ w', Body w' f m (takeS n L) → w.grownBy w' (some m) → wpList Tryz.prog ops Q rest (a.put o.dst (.tuple #[])) w') : wpList Tryz.prog ops Q (o :: rest) a w := by
  refine wpList_plain hg fun K hKK => ?_
  obtain ⟨w', hrun, h1, h2⟩ := hB.take hn o.type
  unfold Oper.wp
  simp [execOp, hop, resolve, invoke, builtin, hx, hy, hrun, Result.andThen]
  exact hKK _ _ (hK w' h1 h2)
theorem wpList_fsPut {w : World} {f m : Nat} {L : List Slot} {s : Slot} {v : Value} (hg : o.guard = none) (x y z : Operand) (hop : o.op = Op.mapUpdate 77 x y z)
    (hx : a.eval x = .map (some m)) (hy : a.eval y = .string ⟨s.fil.name.toArray⟩) (hz : a.eval z = v) (hv : v = .pointer (some ⟨s.blk, 0, none⟩)) (hB : Body w f m L) (hn : s.fil.name.length ≤ 1000) (hL : L.length ≤ 1000000) (hs : SlotAt w s)
    (h1 : s.blk ≠ f ∧ s.blk ≠ m ∧ datBlk s.sl ≠ some f ∧ datBlk s.sl ≠ some m ∧ datBlk s.sl ≠ some s.blk) (h2 : ∀ t ∈ takeS s.fil.name L, Far s t)
    (hK : ∀ w', Body w' f m (putS s (takeS s.fil.name L)) → w.grownBy w' (some m) → wpList Tryz.prog ops Q rest (a.put o.dst undef) w') : wpList Tryz.prog ops Q (o :: rest) a w := by
  subst hv
  refine wpList_plain hg fun K hKK => ?_
  obtain ⟨w', hrun, h3, h4⟩ := hB.put hn hL hs h1 h2
  unfold Oper.wp
  simp [execOp, hop, hx, hy, hz, hrun, Result.andThen]
  exact hKK _ _ (hK w' h3 h4)
end
theorem foot_take {f m : Nat} {L : List Slot} {n : List UInt8} : ∀ k, foot f m (takeS n L) k → foot f m L k := by
  rintro k (rfl | rfl | ⟨t, ht, hk⟩)
  · exact .inl rfl
  · exact .inr (.inl rfl)
  · exact .inr (.inr ⟨t, (List.mem_filter.1 ht).1, hk⟩)
theorem Body.setHd {w : World} {f m : Nat} {L : List Slot} (h : Body w f m L) (j : Nat) (v : Value) : Body (w.setCell ⟨f, j, none⟩ v) f m L := h.kept fun k hk _ => by
  simp only [World.setCell]
  rw [Array.getElem?_modify, if_neg (fun e => hk e.symm)]

set_option maxRecDepth 100000 in
set_option maxHeartbeats 1000000 in
theorem remove_any (w : World) (f m : Nat) (d : Disk) (L : List Slot) (h : FsAt w f m d L) (hs : d.steps < 4611686018427387904) (n : List UInt8) :
    Calls Tryz.prog 58 #[.pointer (some ⟨f, 0, none⟩), .string ⟨n.toArray⟩] w fun e w' => e = .returned (.int .i64 (doD d (opRemove n)).2.2.2) ∧ FsPost w f m L (doD d (opRemove n)).1 w' := by
  have HO := Lib.hid (open_any w f m d L h n)
  have HH := Lib.hid h
  by_cases he : openE d n = 0
  case neg =>
    have HE := Lib.hid (show doD d (opRemove n) = (d, [], 0, openE d n) by rw [doD_barred (by simp [opRemove]) (by rw [bar_remove]; exact he), bar_remove])
    have t1 : (openE d n != 0) = true := by simpa using he
    generalize openE d n = e0 at *
    clear he h
    go_enter Tryz.func58, Tryz.ntmps58
    go_wp2_with (go_at_call 44; refine HO.out.mono ?_; rintro e w1 ⟨rfl, rfl⟩)
    go_ret
    rw [HE.out]
    exact ⟨rfl, FsPost.same HH.out⟩
  obtain ⟨s, hs1, ha, hv, hr, hsm, hsn⟩ := slot_of h he
  have HD := Lib.hid (doD_step (d := d) (o := opRemove n) (by simp [opRemove]) (by rw [bar_remove]; exact he))
  have HS := Lib.hid (step_any w f m (hdOf d) h.hd h.ok.fuse.1 h.ok.fuse.2 h.ok.steps hs)
  rw [he, hv] at HO
  by_cases hf : d.fuse = 1
  · have HF := Lib.hid (dec_fuse (decide_eq_true hf))
    have HE := Lib.hid (show doD d (opRemove n) = (stepD d, [], 0, 3) by rw [HD.out, if_pos hf, if_neg (by simp [opRemove]), if_pos hf])
    clear h hs he hs1 ha hv hr hsm hsn hf HD
    go_enter Tryz.func58, Tryz.ntmps58
    go_wp2_with (first | (go_at_call 44; refine HO.out.mono ?_; rintro e w1 ⟨rfl, rfl⟩) | (go_at_call 72; refine HS.out.mono ?_; rw [HF.out]; rintro e w1 ⟨rfl, hh, ht⟩))
    go_ret
    rw [HE.out]
    exact ⟨rfl, FsPost.stepped HH.out hh ht⟩
  · have HF := Lib.hid (dec_fuse (decide_eq_false hf))
    have HE := Lib.hid (show doD d (opRemove n) = ({ stepD d with files := takeF n (stepD d).files }, [], 0, 0) by
      rw [HD.out, if_neg hf, if_neg hf]
      have ha' : atF (stepD d).files n = some s.fil := by rw [stepD_files]; exact ha
      simp only [chgD, opRemove, ha']
      rfl)
    have HSL := Lib.hid (show slotAt L n = some s ∧ s.fil.name = n ∧ atF (stepD d).files n = some s.fil ∧ s ∈ L ∧ n.length ≤ 1000 from ⟨hs1, hsn, by rw [stepD_files]; exact ha, hsm, right_len hr⟩)
    have HUB := Lib.hid (show 0 ≤ (usedF (stepD d).files : Int) - (s.fil.data.length : Int) ∧ (usedF (stepD d).files : Int) ≤ 67108864 by
      have := len_le_used (at_name ha).2
      have := h.ok.used
      have := h.ok.room
      rw [stepD_files]; omega)
    clear h hs he hs1 ha hv hr hsm hsn hf HD
    go_enter Tryz.func58, Tryz.ntmps58
    go_wp2_with (first | (go_at_call 44; refine HO.out.mono ?_; rintro e w1 ⟨rfl, rfl⟩))
    go_at_call 72
    refine HS.out.mono ?_
    rw [HF.out]
    rintro e w1 ⟨rfl, hh, ht⟩
    have H0 := Lib.hid (HH.out.stepped hh ht)
    have H1 := Lib.hid (show FsAt w1.drew f m (stepD d) L from H0.out.below (below_drewN' w1 1))
    have HT := Lib.hid (show Turned (foot f m L) w w1.drew from (ht.mono fun _ hk => .inl hk).trans (Turned.below (below_drewN' w1 1)) fun _ h => .inl h)
    have hsl := H0.out.body.slot s HSL.out.2.2.2.1
    obtain ⟨ao, cap, hsh, _, _⟩ := hsl.2.shape
    have c0 : w1.cell? ⟨s.blk, 0, none⟩ = some (.slice ao s.fil.data.length cap) := by rw [← hsh]; exact hsl.c0
    have c2 : w1.cell? ⟨f, 2, none⟩ = some (.int .i64 (usedF (stepD d).files : Int)) := H0.out.hd.c2
    have f2 := H0.out.hd.free 2
    have hw : IntKind.i64.wrap ((usedF (stepD d).files : Int) - (s.fil.data.length : Int)) = (usedF (stepD d).files : Int) - (s.fil.data.length : Int) := by
      have := HUB.out
      rw [IntKind.wrap_i64]; omega
    clear hh ht hsl HS HO
    go_wp2_with fail
    go_still_tail 12, (by kernel_rfl)
    refine wpList_store_cellV rfl 3 (.tmp 30) (.tmp 28) rfl f 2 (.int .i64 ((usedF (stepD d).files : Int) - (s.fil.data.length : Int))) (.int .i64 (usedF (stepD d).files : Int)) (by kernel_rfl) rfl rfl rfl c2 f2 ?_
    intro w2 hw2
    have HB2 := Lib.hid (show HdAt w2 f m { hdOf (stepD d) with used := (usedF (stepD d).files : Int) - (s.fil.data.length : Int) } ∧ Body w2 f m L ∧ Turned (fun k => k = f) w1.drew w2 by
      rw [hw2.out]
      exact ⟨H1.out.hd.set 2 _ rfl, H1.out.body.setHd 2 _, Turned.setCell _ _ _ rfl⟩)
    have k0 := HB2.out.1.c0
    clear hw2 c0 c2 f2 hw
    go_wp2_with (at_delete; refine wpList_fsDel rfl _ _ rfl rfl rfl HB2.out.2.1 HSL.out.2.2.2.2 ?_)
    intro w3 hb3 hg3
    have HB3 := Lib.hid hb3
    have HG3 := Lib.hid hg3
    clear hb3 hg3 k0
    go_wp2
    go_ret
    rw [HE.out]
    have hlt := HB2.out.1.lt
    have hfm := H1.out.body.apart.1
    have ht3 : Turned (foot f m L) w1.drew w3 := (HB2.out.2.2.mono fun _ hk => .inl hk).trans (Turned.grown (S := foot f m L) HG3.out fun k hk => .inr (.inl (Option.some.inj hk).symm)) fun _ h => .inl h
    refine ⟨rfl, takeS n L, ⟨?_, HB3.out, by rw [fils_take, H1.out.fil], H1.out.ok.take n⟩, HT.out.trans ht3 fun _ h => .inl h, fun k hk => .inl (foot_take k hk)⟩
    have hu := usedF_take H1.out.ok.rise HSL.out.2.2.1
    have e : hdOf { stepD d with files := takeF n (stepD d).files } = { hdOf (stepD d) with used := (usedF (stepD d).files : Int) - (s.fil.data.length : Int) } := by
      unfold hdOf
      simp only [Hd.mk.injEq, true_and, and_true]
      omega
    rw [e]
    exact HB2.out.1.kept (HG3.out.block f hlt (by simpa using hfm))

end Go.Proofs.YtlobohpbgghleaaGreatDoor

namespace Go.Proofs.YtlobohpbgghleaaGreatDoor
open Go.RowKit

/-! ## a new file -/

section
variable {ops : Array Oper} {rest : List Oper} {o : Oper} {a : Act} {Q : Exit → Act → World → Prop}
theorem wpList_fsLen {w : World} {f m : Nat} {L : List Slot} (hg : o.guard = none) (x : Operand) (hop : o.op = Op.call { callee := Callee.builtin Builtin.len, args := #[x], argTypes := #[77] })
    (hx : a.eval x = .map (some m)) (hB : Body w f m L) (hK : wpList Tryz.prog ops Q rest (a.put o.dst (.int .i64 (L.length : Int))) w) : wpList Tryz.prog ops Q (o :: rest) a w := by
  refine wpList_plain hg fun K hKK => ?_
  have hrun := hB.map.len (P := Tryz.prog) Tryz.underlying77 o.type
  have e : Maps.size (DataW.map (ents L)) = L.length := by simp [Maps.size, ents_length]
  rw [e] at hrun
  unfold Oper.wp
  simp [execOp, hop, resolve, invoke, builtin, hx, hrun, Result.andThen]
  exact hKK _ _ hK
end
theorem foot_put {f m : Nat} {L : List Slot} {s : Slot} : ∀ k, foot f m (putS s L) k → foot f m L k ∨ k = s.blk ∨ datBlk s.sl = some k := by
  rintro k (rfl | rfl | ⟨t, ht, hk⟩)
  · exact .inl (.inl rfl)
  · exact .inl (.inr (.inl rfl))
  · rcases mem_putS.1 ht with rfl | ht
    · exact .inr hk
    · exact .inl (.inr (.inr ⟨t, ht, hk⟩))

set_option maxRecDepth 100000 in
set_option maxHeartbeats 2000000 in
theorem create_any (w : World) (f m : Nat) (d : Disk) (L : List Slot) (h : FsAt w f m d L) (hs : d.steps < 4611686018427387904) (n : List UInt8) :
    Calls Tryz.prog 32 #[.pointer (some ⟨f, 0, none⟩), .string ⟨n.toArray⟩] w fun e w' => e = .returned (.int .i64 (doD d (opCreate n)).2.2.2) ∧ FsPost w f m L (doD d (opCreate n)).1 w' := by
  have HO := Lib.hid (open_any w f m d L h n)
  have HH := Lib.hid h
  have c0 := h.hd.c0
  have hLl : L.length = d.files.length := by rw [← h.fil]; simp [fils]
  by_cases he : openE d n = 51
  case neg =>
    by_cases h0 : openE d n = 0
    · have HE := Lib.hid (show doD d (opCreate n) = (d, [], 0, 52) by
        have hb : barD d (opCreate n) = 52 := by rw [bar_create, if_pos h0]
        rw [doD_barred (by simp [opCreate]) (by rw [hb]; decide), hb])
      rw [h0] at HO
      clear he h h0
      go_enter Tryz.func32, Tryz.ntmps32
      go_wp2_with (go_at_call 44; refine HO.out.mono ?_; rintro e w1 ⟨rfl, rfl⟩)
      go_ret
      rw [HE.out]
      exact ⟨rfl, FsPost.same HH.out⟩
    · have HE := Lib.hid (show doD d (opCreate n) = (d, [], 0, openE d n) by
        have hb : barD d (opCreate n) = openE d n := by rw [bar_create, if_neg h0, if_pos he]
        rw [doD_barred (by simp [opCreate]) (by rw [hb]; exact h0), hb])
      have t1 : (openE d n == 0) = false := by simpa using h0
      have t2 : (openE d n != 51) = true := by simpa using he
      generalize openE d n = e0 at *
      clear he h h0
      go_enter Tryz.func32, Tryz.ntmps32
      go_wp2_with (go_at_call 44; refine HO.out.mono ?_; rintro e w1 ⟨rfl, rfl⟩)
      go_ret
      rw [HE.out]
      exact ⟨rfl, FsPost.same HH.out⟩
  have hr : d.down = false ∧ rightName n = true ∧ atF d.files n = none := by
    rcases openE_cases d n with ⟨h1, _⟩ | ⟨h1, _⟩ | ⟨_, h2, h3, h4⟩ | ⟨h1, _⟩
    · omega
    · omega
    · exact ⟨h2, h3, h4⟩
    · omega
  have hv : openV L d n = .pointer none := by unfold openV; rw [if_neg (by omega)]
  rw [he, hv] at HO
  by_cases hfull : 700 ≤ d.files.length
  case pos =>
    have HE := Lib.hid (show doD d (opCreate n) = (d, [], 0, 53) by
      have hb : barD d (opCreate n) = 53 := by rw [bar_create, if_neg (by omega), if_neg (by simpa using he), if_pos (by simpa using hfull)]
      rw [doD_barred (by simp [opCreate]) (by rw [hb]; decide), hb])
    have t1 : decide (700 ≤ (L.length : Int)) = true := by simp; omega
    have t2 : 700 ≤ L.length := by omega
    clear he h hr hv hfull
    go_enter Tryz.func32, Tryz.ntmps32
    go_wp2_with (first | (go_at_call 44; refine HO.out.mono ?_; rintro e w1 ⟨rfl, rfl⟩) | (at_len; refine wpList_fsLen rfl _ rfl rfl HH.out.body ?_))
    go_ret
    rw [HE.out]
    exact ⟨rfl, FsPost.same HH.out⟩
  have t1 : decide (700 ≤ (L.length : Int)) = false := by simp; omega
  have t2 : ¬ 700 ≤ L.length := by omega
  have hb0 : barD d (opCreate n) = 0 := by rw [bar_create, if_neg (by omega), if_neg (by simpa using he), if_neg (by simpa using hfull)]
  have HD := Lib.hid (doD_step (d := d) (o := opCreate n) (by simp [opCreate]) hb0)
  have HS := Lib.hid (step_any w f m (hdOf d) h.hd h.ok.fuse.1 h.ok.fuse.2 h.ok.steps hs)
  by_cases hf : d.fuse = 1
  · have HF := Lib.hid (dec_fuse (decide_eq_true hf))
    have HE := Lib.hid (show doD d (opCreate n) = (stepD d, [], 0, 3) by rw [HD.out, if_pos hf, if_neg (by simp [opCreate]), if_pos hf])
    clear h hs he hr hv hf HD hb0 hfull
    go_enter Tryz.func32, Tryz.ntmps32
    go_wp2_with (first | (go_at_call 44; refine HO.out.mono ?_; rintro e w1 ⟨rfl, rfl⟩) | (at_len; refine wpList_fsLen rfl _ rfl rfl HH.out.body ?_) | (go_at_call 72; refine HS.out.mono ?_; rw [HF.out]; rintro e w1 ⟨rfl, hh, ht⟩))
    go_ret
    rw [HE.out]
    exact ⟨rfl, FsPost.stepped HH.out hh ht⟩
  · have HF := Lib.hid (dec_fuse (decide_eq_false hf))
    have HE := Lib.hid (show doD d (opCreate n) = ({ stepD d with files := putF ⟨n, [], 0⟩ (stepD d).files }, [], 0, 0) by
      rw [HD.out, if_neg hf, if_neg hf]
      rfl)
    have HR := Lib.hid (show rightName n = true ∧ atF (stepD d).files n = none ∧ (stepD d).files.length < 700 by rw [stepD_files]; exact ⟨hr.2.1, hr.2.2, by omega⟩)
    clear h hs he hr hv hf HD hb0 hfull
    go_enter Tryz.func32, Tryz.ntmps32
    go_wp2_with (first | (go_at_call 44; refine HO.out.mono ?_; rintro e w1 ⟨rfl, rfl⟩) | (at_len; refine wpList_fsLen rfl _ rfl rfl HH.out.body ?_))
    go_at_call 72
    refine HS.out.mono ?_
    rw [HF.out]
    rintro e w1 ⟨rfl, hh, ht⟩
    have H1 := Lib.hid (HH.out.stepped hh ht)
    have HT := Lib.hid (show Turned (foot f m L) w w1 from ht.mono fun _ hk => .inl hk)
    have HBL := Lib.hid (below_alloc w1 (.cells (fileCs ⟨⟨n, [], 0⟩, w1.heap.size, .slice none 0 0⟩) 82))
    have H2 := Lib.hid (H1.out.below HBL.out)
    have k0 := H1.out.hd.c0
    have HX := Lib.hid (show SlotAt (w1.alloc (.cells (fileCs ⟨⟨n, [], 0⟩, w1.heap.size, .slice none 0 0⟩) 82)) ⟨⟨n, [], 0⟩, w1.heap.size, .slice none 0 0⟩ from ⟨heap_alloc_new w1 _, .inl ⟨rfl, none, rfl⟩⟩)
    have HN := Lib.hid (right_len HR.out.1)
    have hnone : slotAt L n = none := by
      have := fils_at n L
      rw [H1.out.fil, HR.out.2.1] at this
      exact Option.map_eq_none_iff.1 this.symm
    have HTK := Lib.hid (show takeS n L = L by
      unfold takeS
      rw [List.filter_eq_self]
      intro x hx
      have := List.find?_eq_none.1 hnone x hx
      simpa using this)
    have HL7 := Lib.hid (show L.length ≤ 1000000 by omega)
    have HF1 := Lib.hid (show w1.heap.size ≠ f ∧ w1.heap.size ≠ m ∧ datBlk (.slice none 0 0) ≠ some f ∧ datBlk (.slice none 0 0) ≠ some m ∧ datBlk (.slice none 0 0) ≠ some w1.heap.size from
      ⟨fun e => by have := H1.out.hd.lt; omega, fun e => by have := H1.out.body.map.lt; omega, by simp [datBlk], by simp [datBlk], by simp [datBlk]⟩)
    have HF2 := Lib.hid (show ∀ t ∈ takeS n L, Far ⟨⟨n, [], 0⟩, w1.heap.size, .slice none 0 0⟩ t from fun t ht' => by
      have ht2 := (List.mem_filter.1 ht').1
      have h1 := H1.out.body.slot t ht2
      exact ⟨fun e => by have := h1.lt; simp only at e; omega, by simp [datBlk], fun e => by have := h1.2.lt e; simp only at this; omega, fun g hg => by simp [datBlk] at hg⟩)
    clear hh ht HS HO c0 hnone
    go_wp2_with (at_mapUpdate; refine wpList_fsPut (s := ⟨⟨n, [], 0⟩, w1.heap.size, .slice none 0 0⟩) rfl _ _ _ rfl rfl rfl rfl rfl H2.out.body HN.out HL7.out HX.out HF1.out HF2.out ?_)
    intro w3 hb3 hg3
    have HB3 := Lib.hid hb3
    have HG3 := Lib.hid hg3
    clear hb3 hg3 k0
    go_wp2
    go_ret
    rw [HE.out]
    have hfm := H1.out.body.apart.1
    have hb3 := HB3.out
    rw [HTK.out] at hb3
    have ht3 : Turned (foot f m L) w1 w3 := (Turned.below HBL.out).trans (Turned.grown (S := foot f m L) HG3.out fun k hk => .inr (.inl (Option.some.inj hk).symm)) fun _ h => .inl h
    refine ⟨rfl, putS ⟨⟨n, [], 0⟩, w1.heap.size, .slice none 0 0⟩ L, ⟨?_, hb3, by rw [fils_put, H1.out.fil], ?_⟩, HT.out.trans ht3 fun _ h => .inl h, fun k hk => ?_⟩
    · have e : hdOf { stepD d with files := putF ⟨n, [], 0⟩ (stepD d).files } = hdOf (stepD d) := by
        unfold hdOf
        simp only [usedF_put, List.length_nil, Nat.zero_add]
      rw [e]
      exact H2.out.hd.kept (HG3.out.block f H2.out.hd.lt (by simpa using hfm))
    · refine H1.out.ok.put (f := ⟨n, [], 0⟩) HR.out.1 ⟨by simp, by simp⟩ (fun x hx => ?_) HR.out.2.2 (by simpa using H1.out.ok.used)
      have := List.find?_eq_none.1 HR.out.2.1 x hx
      simpa using this
    · rcases foot_put k hk with h1 | h1 | h1
      · exact .inl h1
      · exact .inr (by rw [h1]; exact HT.out.size)
      · simp [datBlk] at h1

end Go.Proofs.YtlobohpbgghleaaGreatDoor

namespace Go.Proofs.YtlobohpbgghleaaGreatDoor
open Go.RowKit

/-! ## another name -/

theorem take_twice {n : List UInt8} {fs : List Fil} : takeF n (takeF n fs) = takeF n fs := by
  unfold takeF
  rw [List.filter_filter]
  simp
theorem setF_same {n : List UInt8} {x : Fil} {fs : List Fil} (h : Rise fs) (ha : atF fs n = some x) : setF n (fun _ => x) fs = fs := by
  unfold setF
  rw [List.map_congr_left (g := id) (fun y hy => by
    by_cases hc : y.name = n
    · rw [if_pos (by simpa using hc), rise_one h ha hy hc]; rfl
    · rw [if_neg (by simpa using hc)]; rfl)]
  simp
theorem at_take {n t : List UInt8} {fs : List Fil} (h : n ≠ t) : atF (takeF n fs) t = atF fs t := by
  unfold atF takeF
  induction fs with
  | nil => rfl
  | cons y r ih =>
    by_cases hy : y.name = n
    · rw [List.filter_cons_of_neg (by simpa using hy), List.find?_cons, show (y.name == t) = false by rw [hy]; simpa using h]
      exact ih
    · rw [List.filter_cons_of_pos (by simpa using hy), List.find?_cons, List.find?_cons]
      rw [ih]
theorem takeF_length {fs : List Fil} {n : List UInt8} {x : Fil} (ha : atF fs n = some x) : (takeF n fs).length < fs.length := by
  obtain ⟨h1, h2⟩ := at_name ha
  exact List.length_filter_lt_length_iff_exists.2 ⟨x, h2, by simp [h1]⟩
theorem slotAt_take {n t : List UInt8} {L : List Slot} (h : n ≠ t) : slotAt (takeS n L) t = slotAt L t := by
  unfold slotAt takeS
  induction L with
  | nil => rfl
  | cons y r ih =>
    by_cases hy : y.fil.name = n
    · rw [List.filter_cons_of_neg (by simpa using hy), List.find?_cons, show (y.fil.name == t) = false by rw [hy]; simpa using h]
      exact ih
    · rw [List.filter_cons_of_pos (by simpa using hy), List.find?_cons, List.find?_cons]
      rw [ih]
theorem far_of {w : World} {f m : Nat} {L : List Slot} (h : Body w f m L) {s t : Slot} (hs : s ∈ L) (ht : t ∈ L) (hn : s.fil.name ≠ t.fil.name) : Far s t := by
  obtain ⟨i, hi⟩ := List.getElem?_of_mem ht
  obtain ⟨j, hj⟩ := List.getElem?_of_mem hs
  have hi' := List.getElem?_eq_some_iff.1 hi
  have hj' := List.getElem?_eq_some_iff.1 hj
  have hij : i ≠ j := fun e => hn (by subst e; rw [hi] at hj; cases hj; rfl)
  rcases Nat.lt_or_gt_of_ne hij with hlt | hlt
  · have hF := List.pairwise_iff_getElem.1 h.apart.2.2 i j hi'.1 hj'.1 hlt
    rw [hi'.2, hj'.2] at hF
    exact hF.symm
  · have hF := List.pairwise_iff_getElem.1 h.apart.2.2 j i hj'.1 hi'.1 hlt
    rw [hi'.2, hj'.2] at hF
    exact hF

/-- the end of a renaming: the old entry taken out, the file put in under its new name -/
theorem rename_end {w w1 w2 w3 w4 : World} {f m : Nat} {d1 : Disk} {L : List Slot} {n t : List UInt8} {s : Slot} {used : Int} (H1 : FsAt w1 f m d1 L) (ht : Turned (foot f m L) w w1) (hs : slotAt L n = some s) (ha : atF d1.files n = some s.fil) (hnt : n ≠ t) (hr : rightName t = true)
    (hh2 : HdAt w2 f m { hdOf d1 with used := used }) (ht2 : Turned (fun k => k = f) w1 w2) (hu : used + (match atF d1.files t with | none => (0 : Int) | some y => (y.data.length : Int)) = (usedF d1.files : Int))
    (hg3 : w2.grownBy w3 (some m)) (hb4 : Body w4 f m (putS ⟨{ s.fil with name := t }, s.blk, s.sl⟩ (takeS t (takeS n L)))) (hg4 : w3.grownBy w4 (some m)) :
    FsPost w f m L { d1 with files := putF { s.fil with name := t } (takeF t (takeF n d1.files)) } w4 := by
  have hsm := (slotAt_mem hs).1
  have hfm := H1.body.apart.1
  have hm : ∀ k, some m = some k → foot f m L k := fun k hk => .inr (.inl (Option.some.inj hk).symm)
  have htt : Turned (foot f m L) w1 w4 := ((ht2.mono (S' := foot f m L) fun _ hk => .inl hk).trans (Turned.grown (S := foot f m L) hg3 hm) fun _ h => .inl h).trans (Turned.grown (S := foot f m L) hg4 hm) fun _ h => .inl h
  refine ⟨_, ⟨?_, hb4, by rw [fils_put, fils_take, fils_take, H1.fil], ?_⟩, ht.trans htt fun _ h => .inl h, fun k hk => .inl ?_⟩
  · have h1 := usedF_take H1.ok.rise ha
    have e : hdOf { d1 with files := putF { s.fil with name := t } (takeF t (takeF n d1.files)) } = { hdOf d1 with used := used } := by
      unfold hdOf
      simp only [Hd.mk.injEq, true_and, and_true, usedF_put]
      rcases hy : atF d1.files t with _ | y
      · rw [hy] at hu
        rw [usedF_take_none (by rw [at_take hnt]; exact hy)]
        simp only at hu
        omega
      · rw [hy] at hu
        have h2 := usedF_take (rise_take (n := n) H1.ok.rise) (by rw [at_take hnt]; exact hy)
        simp only at hu
        omega
    rw [e]
    have l3 : f < w3.heap.size := Nat.lt_of_lt_of_le hh2.lt hg3.size
    exact (hh2.kept (hg3.block f hh2.lt (by simpa using hfm))).kept (hg4.block f l3 (by simpa using hfm))
  · have hok := (H1.ok.take n).take t
    have hsf := H1.ok.safe s.fil (at_name ha).2
    have hc := takeF_length ha
    have hc2 : (takeF t (takeF n d1.files)).length ≤ (takeF n d1.files).length := List.length_filter_le _ _
    have h700 := H1.ok.count
    refine DiskOk.put (d := { d1 with files := takeF t (takeF n d1.files) }) hok hr hsf (fun x hx => ?_) (by show (takeF t (takeF n d1.files)).length < 700; omega) ?_
    · have := (List.mem_filter.1 hx).2
      simpa using this
    · have h1 := usedF_take H1.ok.rise ha
      have h2 : usedF (takeF t (takeF n d1.files)) ≤ usedF (takeF n d1.files) := by
        rcases hy : atF (takeF n d1.files) t with _ | y
        · rw [usedF_take_none hy]; exact Nat.le_refl _
        · have := usedF_take (rise_take (n := n) H1.ok.rise) hy; omega
      have h3 := H1.ok.used
      show (usedF (takeF t (takeF n d1.files)) : Int) + (s.fil.data.length : Int) ≤ d1.room
      omega
  · rcases foot_put k hk with h1 | h1 | h1
    · exact foot_take k (foot_take k h1)
    · exact .inr (.inr ⟨s, hsm, .inl h1⟩)
    · exact .inr (.inr ⟨s, hsm, .inr h1⟩)

set_option maxRecDepth 100000 in
set_option maxHeartbeats 2000000 in
theorem rename_any (w : World) (f m : Nat) (d : Disk) (L : List Slot) (h : FsAt w f m d L) (hs : d.steps < 4611686018427387904) (n t : List UInt8) :
    Calls Tryz.prog 132 #[.pointer (some ⟨f, 0, none⟩), .string ⟨n.toArray⟩, .string ⟨t.toArray⟩] w fun e w' => e = .returned (.int .i64 (doD d (opRename n t)).2.2.2) ∧ FsPost w f m L (doD d (opRename n t)).1 w' := by
  have HO := Lib.hid (open_any w f m d L h n)
  have HRT := Lib.hid (Right_any t w)
  have HH := Lib.hid h
  by_cases he : openE d n = 0 ∨ openE d n = 51
  case neg =>
    have HE := Lib.hid (show doD d (opRename n t) = (d, [], 0, openE d n) by
      have hb : barD d (opRename n t) = openE d n := by rw [bar_rename, if_neg (fun hx => he hx.1)]
      rw [doD_barred (by simp [opRename]) (by rw [hb]; omega), hb])
    have t1 : (openE d n == 0) = false := by rw [beq_eq_false_iff_ne]; omega
    have t2 : (openE d n == 51) = false := by rw [beq_eq_false_iff_ne]; omega
    have t3 : (openE d n != 0) = true := by unfold bne; rw [t1]; rfl
    generalize openE d n = e0 at *
    clear he h
    go_enter Tryz.func132, Tryz.ntmps132
    go_wp2_with (go_at_call 44; refine HO.out.mono ?_; rintro e w1 ⟨rfl, rfl⟩)
    go_ret
    rw [HE.out]
    exact ⟨rfl, FsPost.same HH.out⟩
  rcases hrt : rightName t with _ | _
  · have HE := Lib.hid (show doD d (opRename n t) = (d, [], 0, 50) by
      have hb : barD d (opRename n t) = 50 := by rw [bar_rename, if_pos ⟨he, hrt⟩]
      rw [doD_barred (by simp [opRename]) (by rw [hb]; decide), hb])
    rw [hrt] at HRT
    rcases he with he | he
    all_goals
      rw [he] at HO
      clear he h hrt
      go_enter Tryz.func132, Tryz.ntmps132
      go_wp2_with (first | (go_at_call 44; refine HO.out.mono ?_; rintro e w1 ⟨rfl, rfl⟩) | (go_at_call 35; refine HRT.out.mono ?_; rintro e w1 ⟨rfl, rfl⟩))
      go_ret
      rw [HE.out]
      exact ⟨rfl, FsPost.same HH.out⟩
  rw [hrt] at HRT
  by_cases he0 : openE d n = 0
  case neg =>
    have he51 : openE d n = 51 := by omega
    have HE := Lib.hid (show doD d (opRename n t) = (d, [], 0, 51) by
      have hb : barD d (opRename n t) = 51 := by rw [bar_rename, if_neg (fun hx => by rw [hrt] at hx; cases hx.2), he51]
      rw [doD_barred (by simp [opRename]) (by rw [hb]; decide), hb])
    rw [he51] at HO
    clear he h hrt he0 he51
    go_enter Tryz.func132, Tryz.ntmps132
    go_wp2_with (first | (go_at_call 44; refine HO.out.mono ?_; rintro e w1 ⟨rfl, rfl⟩) | (go_at_call 35; refine HRT.out.mono ?_; rintro e w1 ⟨rfl, rfl⟩))
    go_ret
    rw [HE.out]
    exact ⟨rfl, FsPost.same HH.out⟩
  obtain ⟨s, hs1, ha, hv, hr, hsm, hsn⟩ := slot_of h he0
  have hb0 : barD d (opRename n t) = 0 := by rw [bar_rename, if_neg (fun hx => by rw [hrt] at hx; cases hx.2)]; exact he0
  have HD := Lib.hid (doD_step (d := d) (o := opRename n t) (by simp [opRename]) hb0)
  have HS := Lib.hid (step_any w f m (hdOf d) h.hd h.ok.fuse.1 h.ok.fuse.2 h.ok.steps hs)
  rw [he0, hv] at HO
  by_cases hf : d.fuse = 1
  · have HF := Lib.hid (dec_fuse (decide_eq_true hf))
    have HE := Lib.hid (show doD d (opRename n t) = (stepD d, [], 0, 3) by rw [HD.out, if_pos hf, if_neg (by simp [opRename]), if_pos hf])
    clear h hs he he0 hs1 ha hv hr hsm hsn hf HD hb0 hrt
    go_enter Tryz.func132, Tryz.ntmps132
    go_wp2_with (first | (go_at_call 44; refine HO.out.mono ?_; rintro e w1 ⟨rfl, rfl⟩) | (go_at_call 35; refine HRT.out.mono ?_; rintro e w1 ⟨rfl, rfl⟩) | (go_at_call 72; refine HS.out.mono ?_; rw [HF.out]; rintro e w1 ⟨rfl, hh, ht⟩))
    go_ret
    rw [HE.out]
    exact ⟨rfl, FsPost.stepped HH.out hh ht⟩
  have HF := Lib.hid (dec_fuse (decide_eq_false hf))
  have ha' : atF (stepD d).files n = some s.fil := by rw [stepD_files]; exact ha
  have hrise : Rise (stepD d).files := by rw [stepD_files]; exact h.ok.rise
  have HE0 := Lib.hid (show doD d (opRename n t) = ({ stepD d with files := putF { s.fil with name := t } (takeF t (takeF n (stepD d).files)) }, [], 0, 0) by
    rw [HD.out, if_neg hf, if_neg hf]
    have e : chgD (stepD d) (opRename n t) = { stepD d with files := putF (chgF (opRename n t) s.fil) (takeF t (takeF n (stepD d).files)) } := by
      simp only [chgD, opRename, ha']
      rfl
    rw [e]
    rfl)
  by_cases hnt : n = t
  · have HE := Lib.hid (show doD d (opRename n t) = (stepD d, [], 0, 0) by
      rw [HE0.out]
      have e1 : ({ s.fil with name := t } : Fil) = s.fil := by rw [← hnt, ← hsn]
      rw [e1, ← hnt, take_twice, put_take hrise ha' hsn, setF_same hrise ha'])
    have t1 : (n == t) = true := by simpa using hnt
    clear h hs he he0 hs1 ha hv hr hsm hsn hf HD hb0 hrt ha' hrise HE0 hnt
    go_enter Tryz.func132, Tryz.ntmps132
    go_wp2_with (first | (go_at_call 44; refine HO.out.mono ?_; rintro e w1 ⟨rfl, rfl⟩) | (go_at_call 35; refine HRT.out.mono ?_; rintro e w1 ⟨rfl, rfl⟩) | (go_at_call 72; refine HS.out.mono ?_; rw [HF.out]; rintro e w1 ⟨rfl, hh, ht⟩))
    go_ret
    rw [HE.out]
    exact ⟨rfl, FsPost.stepped HH.out hh ht⟩
  have t1 : (n == t) = false := by simpa using hnt
  have HSL := Lib.hid (show slotAt L n = some s ∧ s.fil.name = n ∧ atF (stepD d).files n = some s.fil ∧ s ∈ L ∧ n.length ≤ 1000 ∧ t.length ≤ 1000 ∧ n ≠ t ∧ rightName t = true from ⟨hs1, hsn, ha', hsm, right_len hr, right_len hrt, hnt, hrt⟩)
  have hrm := h.ok.room
  have hus := h.ok.used
  have HU := Lib.hid (show (usedF (stepD d).files : Int) ≤ 67108864 by rw [stepD_files]; omega)
  have HL7 := Lib.hid (show L.length ≤ 700 by have := h.ok.count; rw [← h.fil] at this; simpa [fils] using this)
  clear h hs he he0 hs1 ha hv hr hsm hsn hf HD hb0 hrt ha' hrise hnt hrm hus
  go_enter Tryz.func132, Tryz.ntmps132
  go_wp2_with (first | (go_at_call 44; refine HO.out.mono ?_; rintro e w1 ⟨rfl, rfl⟩) | (go_at_call 35; refine HRT.out.mono ?_; rintro e w1 ⟨rfl, rfl⟩))
  go_at_call 72
  refine HS.out.mono ?_
  rw [HF.out]
  rintro e w1 ⟨rfl, hh, ht⟩
  have H1 := Lib.hid (HH.out.stepped hh ht)
  have HT := Lib.hid (show Turned (foot f m L) w w1 from ht.mono fun _ hk => .inl hk)
  have c0 := H1.out.hd.c0
  have hlook := H1.out.body.look HSL.out.2.2.2.2.2.1
  have hat := fils_at t L
  rw [H1.out.fil] at hat
  clear hh ht HS HO
  rcases hy : slotAt L t with _ | y
  · rw [hy] at hlook hat
    simp only at hlook
    simp only [Option.map_none] at hat
    have HAT := Lib.hid hat
    have HYN := Lib.hid hy
    clear hat hy
    go_wp2_with (at_delete; refine wpList_fsDel rfl (.tmp 57) (.tmp 58) rfl rfl rfl H1.out.body HSL.out.2.2.2.2.1 ?_)
    intro w3 hb3 hg3
    have HB3 := Lib.hid hb3
    have HG3 := Lib.hid hg3
    have c3 : w3.cell? ⟨f, 0, none⟩ = some (.map (some m)) := (H1.out.hd.kept (hg3.block f H1.out.hd.lt (by simpa using H1.out.body.apart.1))).c0
    clear hb3 hg3 hlook c0
    have hslot := H1.out.body.slot s HSL.out.2.2.2.1
    have hap := H1.out.body.apart.2.1 s HSL.out.2.2.2.1
    have HX := Lib.hid (show SlotAt w3 ⟨{ s.fil with name := t }, s.blk, s.sl⟩ from by
      have := hslot.kept (HG3.out.block s.blk hslot.lt (by simpa using hap.2.1)) fun g hg => HG3.out.block g (hslot.2.lt hg) (fun e => hap.2.2.2.1 (by rw [hg, e]))
      exact ⟨this.1, this.2⟩)
    have HFar := Lib.hid (show ∀ y ∈ takeS t (takeS n L), Far ⟨{ s.fil with name := t }, s.blk, s.sl⟩ y from fun y hy => by
      have h1 := List.mem_filter.1 (List.mem_filter.1 hy).1
      have hF := far_of H1.out.body HSL.out.2.2.2.1 h1.1 (by rw [HSL.out.2.1]; have := h1.2; simp at this; exact fun e => this e.symm)
      exact hF)
    have HAP := Lib.hid hap
    have HLL := Lib.hid (show (takeS n L).length ≤ 1000000 by have := takeS_length n L; have := HL7.out; omega)
    clear hslot hap
    go_wp2_with (at_mapUpdate; refine wpList_fsPut (s := ⟨{ s.fil with name := t }, s.blk, s.sl⟩) rfl (.tmp 62) (.tmp 63) (.tmp 64) rfl rfl rfl rfl rfl HB3.out HSL.out.2.2.2.2.2.1 HLL.out HX.out HAP.out HFar.out ?_)
    intro w4 hb4 hg4
    have HB4 := Lib.hid hb4
    have HG4 := Lib.hid hg4
    clear hb4 hg4 c3
    go_wp2
    go_ret
    rw [HE0.out]
    refine ⟨rfl, rename_end H1.out HT.out HSL.out.1 HSL.out.2.2.1 HSL.out.2.2.2.2.2.2.1 HSL.out.2.2.2.2.2.2.2 (used := (usedF (stepD d).files : Int)) H1.out.hd (Turned.refl _ _) ?_ HG3.out HB4.out HG4.out⟩
    rw [HAT.out]
    simp
  · rw [hy] at hlook hat
    simp only at hlook
    simp only [Option.map_some] at hat
    have HAT := Lib.hid hat
    have hym := (slotAt_mem hy).1
    have hsl := H1.out.body.slot y hym
    obtain ⟨ao, cap, hsh, _, _⟩ := hsl.2.shape
    have c4 : w1.cell? ⟨y.blk, 0, none⟩ = some (.slice ao y.fil.data.length cap) := by rw [← hsh]; exact hsl.c0
    have c2 : w1.cell? ⟨f, 2, none⟩ = some (.int .i64 (usedF (stepD d).files : Int)) := H1.out.hd.c2
    have f2 := H1.out.hd.free 2
    have hyl := len_le_used (at_name hat).2
    have hw : IntKind.i64.wrap ((usedF (stepD d).files : Int) - (y.fil.data.length : Int)) = (usedF (stepD d).files : Int) - (y.fil.data.length : Int) := by
      have := HU.out
      rw [IntKind.wrap_i64]; omega
    have H1d := Lib.hid (show FsAt w1.drew f m (stepD d) L from H1.out.below (below_drewN' w1 1))
    clear hat hy hym hsl hyl
    go_wp2_with fail
    go_still_tail 12, (by kernel_rfl)
    refine wpList_store_cellV rfl 3 (.tmp 53) (.tmp 51) rfl f 2 (.int .i64 ((usedF (stepD d).files : Int) - (y.fil.data.length : Int))) (.int .i64 (usedF (stepD d).files : Int)) (by kernel_rfl) rfl rfl rfl c2 f2 ?_
    intro w2 hw2
    have HB2 := Lib.hid (show HdAt w2 f m { hdOf (stepD d) with used := (usedF (stepD d).files : Int) - (y.fil.data.length : Int) } ∧ Body w2 f m L ∧ Turned (fun k => k = f) w1 w2 by
      rw [hw2.out]
      exact ⟨H1d.out.hd.set 2 _ rfl, H1d.out.body.setHd 2 _, (Turned.below (below_drewN' w1 1)).trans (Turned.setCell (S := fun k => k = f) w1.drew ⟨f, 2, none⟩ _ rfl) fun i h => .inl h⟩)
    have k0 : w2.cell? ⟨f, 0, none⟩ = some (.map (some m)) := HB2.out.1.c0
    clear hw2 c0 c2 f2 c4 hw hlook
    go_wp2_with (at_delete; refine wpList_fsDel rfl (.tmp 57) (.tmp 58) rfl rfl rfl HB2.out.2.1 HSL.out.2.2.2.2.1 ?_)
    intro w3 hb3 hg3
    have HB3 := Lib.hid hb3
    have HG3 := Lib.hid hg3
    have c3 : w3.cell? ⟨f, 0, none⟩ = some (.map (some m)) := (HB2.out.1.kept (hg3.block f HB2.out.1.lt (by simpa using H1.out.body.apart.1))).c0
    clear hb3 hg3 k0
    have hslot := HB2.out.2.1.slot s HSL.out.2.2.2.1
    have hap := H1.out.body.apart.2.1 s HSL.out.2.2.2.1
    have HX := Lib.hid (show SlotAt w3 ⟨{ s.fil with name := t }, s.blk, s.sl⟩ from by
      have := hslot.kept (HG3.out.block s.blk hslot.lt (by simpa using hap.2.1)) fun g hg => HG3.out.block g (hslot.2.lt hg) (fun e => hap.2.2.2.1 (by rw [hg, e]))
      exact ⟨this.1, this.2⟩)
    have HFar := Lib.hid (show ∀ y ∈ takeS t (takeS n L), Far ⟨{ s.fil with name := t }, s.blk, s.sl⟩ y from fun y hy => by
      have h1 := List.mem_filter.1 (List.mem_filter.1 hy).1
      have hF := far_of H1.out.body HSL.out.2.2.2.1 h1.1 (by rw [HSL.out.2.1]; have := h1.2; simp at this; exact fun e => this e.symm)
      exact hF)
    have HAP := Lib.hid hap
    have HLL := Lib.hid (show (takeS n L).length ≤ 1000000 by have := takeS_length n L; have := HL7.out; omega)
    clear hslot hap
    go_wp2_with (at_mapUpdate; refine wpList_fsPut (s := ⟨{ s.fil with name := t }, s.blk, s.sl⟩) rfl (.tmp 62) (.tmp 63) (.tmp 64) rfl rfl rfl rfl rfl HB3.out HSL.out.2.2.2.2.2.1 HLL.out HX.out HAP.out HFar.out ?_)
    intro w4 hb4 hg4
    have HB4 := Lib.hid hb4
    have HG4 := Lib.hid hg4
    clear hb4 hg4 c3
    go_wp2
    go_ret
    rw [HE0.out]
    refine ⟨rfl, rename_end H1.out HT.out HSL.out.1 HSL.out.2.2.1 HSL.out.2.2.2.2.2.2.1 HSL.out.2.2.2.2.2.2.2 (used := (usedF (stepD d).files : Int) - (y.fil.data.length : Int)) HB2.out.1 HB2.out.2.2 ?_ HG3.out HB4.out HG4.out⟩
    rw [HAT.out]
    simp only
    omega

end Go.Proofs.YtlobohpbgghleaaGreatDoor

namespace Go.Proofs.YtlobohpbgghleaaGreatDoor
open Go.RowKit

set_option maxHeartbeats 1000000 in
theorem sync_any (w : World) (f m : Nat) (d : Disk) (L : List Slot) (h : FsAt w f m d L) (hs : d.steps < 4611686018427387904) (n : List UInt8) :
    Calls Tryz.prog 62 #[.pointer (some ⟨f, 0, none⟩), .string ⟨n.toArray⟩] w fun e w' => e = .returned (.int .i64 (doD d (opSync n)).2.2.2) ∧ FsPost w f m L (doD d (opSync n)).1 w' := by
  have HO := Lib.hid (open_any w f m d L h n)
  have HH := Lib.hid h
  by_cases he : openE d n = 0
  case neg =>
    have HE := Lib.hid (show doD d (opSync n) = (d, [], 0, openE d n) by rw [doD_barred (by simp [opSync]) (by rw [bar_sync]; exact he), bar_sync])
    have t1 : (openE d n != 0) = true := by simpa using he
    generalize openE d n = e0 at *
    clear he h
    go_enter Tryz.func62, Tryz.ntmps62
    go_wp2_with (go_at_call 44; refine HO.out.mono ?_; rintro e w1 ⟨rfl, rfl⟩)
    go_ret
    rw [HE.out]
    exact ⟨rfl, FsPost.same HH.out⟩
  obtain ⟨s, hs1, ha, hv, hr, hsm, hsn⟩ := slot_of h he
  have HD := Lib.hid (doD_step (d := d) (o := opSync n) (by simp [opSync]) (by rw [bar_sync]; exact he))
  have HS := Lib.hid (step_any w f m (hdOf d) h.hd h.ok.fuse.1 h.ok.fuse.2 h.ok.steps hs)
  rw [he, hv] at HO
  by_cases hf : d.fuse = 1
  · have HF := Lib.hid (dec_fuse (decide_eq_true hf))
    have HE := Lib.hid (show doD d (opSync n) = (stepD d, [], 0, 3) by rw [HD.out, if_pos hf, if_neg (by simp [opSync]), if_pos hf])
    clear h hs he hs1 ha hv hr hsm hsn hf HD
    go_enter Tryz.func62, Tryz.ntmps62
    go_wp2_with (first | (go_at_call 44; refine HO.out.mono ?_; rintro e w1 ⟨rfl, rfl⟩) | (go_at_call 72; refine HS.out.mono ?_; rw [HF.out]; rintro e w1 ⟨rfl, hh, ht⟩))
    go_ret
    rw [HE.out]
    exact ⟨rfl, FsPost.stepped HH.out hh ht⟩
  · have HF := Lib.hid (dec_fuse (decide_eq_false hf))
    have hrise : Rise (stepD d).files := by rw [stepD_files]; exact h.ok.rise
    have HE := Lib.hid (show doD d (opSync n) = ({ stepD d with files := setF n (fun _ => { s.fil with safe := (s.fil.data.length : Int) }) (stepD d).files }, [], 0, 0) by
      rw [HD.out, if_neg hf, if_neg hf, chg_set (x := s.fil) hrise (by rw [stepD_files]; exact ha) (by simp [opSync]) (by simp [opSync]) (by simp [opSync])]
      rfl)
    have HSL := Lib.hid (show slotAt L n = some s ∧ s.fil.name = n ∧ atF (stepD d).files n = some s.fil ∧ s ∈ L from ⟨hs1, hsn, by rw [stepD_files]; exact ha, hsm⟩)
    clear h hs he hs1 ha hv hr hsm hsn hf HD hrise
    go_enter Tryz.func62, Tryz.ntmps62
    go_wp2_with (first | (go_at_call 44; refine HO.out.mono ?_; rintro e w1 ⟨rfl, rfl⟩))
    go_at_call 72
    refine HS.out.mono ?_
    rw [HF.out]
    rintro e w1 ⟨rfl, hh, ht⟩
    have H1 := Lib.hid (HH.out.stepped hh ht)
    have HT := Lib.hid ht
    have hsl := H1.out.body.slot s HSL.out.2.2.2
    have c0 := hsl.c0
    have c1 := hsl.c1
    have f1 := hsl.free 1
    obtain ⟨ao, cap, hsh, _, _⟩ := hsl.2.shape
    rw [hsh] at c0
    clear hh ht hsl
    go_wp2
    go_ret
    rw [HE.out]
    have hap := (H1.out.body.apart.2.1 s HSL.out.2.2.2)
    have hsl := H1.out.body.slot s HSL.out.2.2.2
    refine ⟨rfl, FsPost.setFile (x := ⟨{ s.fil with safe := (s.fil.data.length : Int) }, s.blk, s.sl⟩) H1.out (HT.out.mono fun _ hk => .inl hk) HSL.out.1 HSL.out.2.1 rfl (Turned.setCell _ ⟨s.blk, 1, none⟩ _ (.inr (.inl rfl))) (hsl.putSafe _ hap.2.2.2.2) (fun _ hg => .inl hg) ?_ rfl ?_⟩
    · have hh := H1.out.hd.otherCell (k := s.blk) hap.1.symm 1 (.int .i64 (s.fil.data.length : Int))
      have hu := usedF_set (f' := ⟨s.fil.name, s.fil.data, (s.fil.data.length : Int)⟩) H1.out.ok.rise HSL.out.2.2.1 HSL.out.2.1
      have e : hdOf { stepD d with files := setF n (fun _ => { s.fil with safe := (s.fil.data.length : Int) }) (stepD d).files } = hdOf (stepD d) := by
        unfold hdOf
        simp only at hu ⊢
        rw [show usedF (setF n (fun _ => ⟨s.fil.name, s.fil.data, (s.fil.data.length : Int)⟩) (stepD d).files) = usedF (stepD d).files by omega]
      rw [e]
      exact hh
    · exact H1.out.ok.setFile HSL.out.2.2.1 HSL.out.2.1 ⟨by simp, by simp⟩ (by have := H1.out.ok.used; simp only; omega)

end Go.Proofs.YtlobohpbgghleaaGreatDoor

namespace Go.Proofs.YtlobohpbgghleaaGreatDoor
open Go.RowKit

/-! ## Size, Fuse, Free, Used -/

theorem Body.setHd' {w : World} {f m : Nat} {L : List Slot} (h : Body w f m L) (j : Nat) (v : Value) : Body (w.setCell ⟨f, j, none⟩ v) f m L := h.kept fun k hk _ => by
  simp only [World.setCell]
  rw [Array.getElem?_modify, if_neg (fun e => hk e.symm)]
theorem doD_size {d : Disk} {n : List UInt8} : doD d (opSize n) = if openE d n ≠ 0 then (d, [], 0, openE d n) else (d, [], match atF d.files n with | none => 0 | some f => (f.data.length : Int), 0) := by
  by_cases he : openE d n = 0
  · rw [if_neg (by simpa using he)]
    unfold doD
    rw [if_neg (by simp [opSize]), if_neg (by simp [opSize]), if_neg (by simp [opSize]), if_neg (by rw [bar_size]; simpa using he), if_neg (by simp [opSize]), if_pos (by simp [opSize])]
    rfl
  · rw [if_pos he, doD_barred (by simp [opSize]) (by rw [bar_size]; exact he), bar_size]
theorem size_any (w : World) (f m : Nat) (d : Disk) (L : List Slot) (h : FsAt w f m d L) (n : List UInt8) :
    Calls Tryz.prog 15 #[.pointer (some ⟨f, 0, none⟩), .string ⟨n.toArray⟩] w fun e w' => e = .returned (.tuple #[.int .i64 (doD d (opSize n)).2.2.1, .int .i64 (doD d (opSize n)).2.2.2]) ∧ w = w' := by
  have HO := Lib.hid (open_any w f m d L h n)
  by_cases he : openE d n = 0
  case neg =>
    have HE := Lib.hid (show doD d (opSize n) = (d, [], 0, openE d n) by rw [doD_size, if_pos he])
    have t1 : (openE d n != 0) = true := by simpa using he
    generalize openE d n = e0 at *
    clear he h
    go_enter Tryz.func15, Tryz.ntmps15
    go_wp2_with (go_at_call 44; refine HO.out.mono ?_; rintro e w1 ⟨rfl, rfl⟩)
    go_ret2
    rw [HE.out]
    exact ⟨rfl, rfl⟩
  obtain ⟨s, hs1, ha, hv, hr, hsm, hsn⟩ := slot_of h he
  have HE := Lib.hid (show doD d (opSize n) = (d, [], (s.fil.data.length : Int), 0) by rw [doD_size, if_neg (by simpa using he), ha])
  have hsl := h.body.slot s hsm
  obtain ⟨ao, cap, hsh, _, _⟩ := hsl.2.shape
  have c0 := hsl.c0
  rw [hsh] at c0
  rw [he, hv] at HO
  clear h he hs1 ha hv hr hsm hsn hsl hsh
  go_enter Tryz.func15, Tryz.ntmps15
  go_wp2_with (go_at_call 44; refine HO.out.mono ?_; rintro e w1 ⟨rfl, rfl⟩)
  go_ret2
  rw [HE.out]
  exact ⟨rfl, rfl⟩

theorem doD_fuse (d : Disk) (n : Int) : doD d (opFuse n) = ({ d with fuse := if 0 < n then n else 0 }, [], 0, 0) := by
  unfold doD
  rw [if_neg (by simp [opFuse]), if_pos (by simp [opFuse])]
  rfl
theorem fuse_any (w : World) (f m : Nat) (d : Disk) (L : List Slot) (h : FsAt w f m d L) (n : Int) (hn : n ≤ 9223372036854775807) :
    Calls Tryz.prog 22 #[.pointer (some ⟨f, 0, none⟩), .int .i64 n] w fun e w' => e = .returned (.tuple #[]) ∧ FsPost w f m L (doD d (opFuse n)).1 w' := by
  have c5 := h.hd.c5
  have f5 := h.hd.free 5
  have HH := Lib.hid h
  have HE := Lib.hid (doD_fuse d n)
  clear h
  go_enter Tryz.func22, Tryz.ntmps22
  go_wp2
  go_end0
  rw [HE.out]
  have hm : max 0 n = if 0 < n then n else 0 := by split <;> omega
  refine ⟨rfl, L, ⟨?_, HH.out.body.setHd' 5 _, HH.out.fil, ?_⟩, Turned.setCell _ _ _ foot_f, fun _ h => .inl h⟩
  · rw [hm]; exact HH.out.hd.set 5 _ rfl
  · have hk := HH.out.ok
    refine ⟨hk.rise, hk.names, hk.safe, hk.count, hk.room, hk.used, ?_, hk.steps, hk.reads⟩
    show 0 ≤ (if 0 < n then n else 0) ∧ (if 0 < n then n else 0) ≤ 9223372036854775807
    split <;> omega

theorem free_any (w : World) (f m : Nat) (d : Disk) (L : List Slot) (h : FsAt w f m d L) :
    Calls Tryz.prog 76 #[.pointer (some ⟨f, 0, none⟩)] w fun e w' => e = .returned (.int .i64 (d.room - (usedF d.files : Int))) ∧ Below w.heap.size w w' := by
  have c1 := h.hd.c1
  have c2 := h.hd.c2
  have hr := h.ok.room
  have hu := h.ok.used
  have hw : IntKind.i64.wrap ((hdOf d).room - (hdOf d).used) = d.room - (usedF d.files : Int) := by
    show IntKind.i64.wrap (d.room - (usedF d.files : Int)) = _
    rw [IntKind.wrap_i64]; omega
  clear h
  go_enter Tryz.func76, Tryz.ntmps76
  go_wp2
  go_quiet (fail)
  go_wp2
  go_ret
  exact ⟨rfl, below_drewN' _ _⟩
theorem used_any (w : World) (f m : Nat) (d : Disk) (L : List Slot) (h : FsAt w f m d L) :
    Calls Tryz.prog 14 #[.pointer (some ⟨f, 0, none⟩)] w fun e w' => e = .returned (.int .i64 (usedF d.files : Int)) ∧ w = w' := by
  have c2 := h.hd.c2
  clear h
  go_enter Tryz.func14, Tryz.ntmps14
  go_wp2
  go_ret
  exact ⟨rfl, rfl⟩

end Go.Proofs.YtlobohpbgghleaaGreatDoor
