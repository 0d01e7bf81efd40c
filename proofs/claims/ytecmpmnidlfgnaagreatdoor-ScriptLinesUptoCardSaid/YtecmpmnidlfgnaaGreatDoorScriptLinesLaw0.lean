import Derived.Test.YtecmpmnidlfgnaaGreatDoorScriptHead
import Derived.Test.YtecmpmnidlfgnaaGreatDoorScriptRefLine
import Derived.Test.YtecmpmnidlfgnaaGreatDoorScriptRefCmd3
import Derived.Test.YtecmpmnidlfgnaaGreatDoorScriptCopy
import Derived.Test.YtecmpmnidlfgnaaGreatDoorScriptOpen
import Derived.Test.YtecmpmnidlfgnaaGreatDoorOpen
namespace Go.Proofs.YtecmpmnidlfgnaaGreatDoor
open Go.RowKit Go.ChangeShapes Go.WideShapes

/-! ## ScriptLines -/

/-- of a line that reads, the numbers or the bytes are none -/
theorem cmdOf_one (s : List UInt8) : (cmdOf s).1.nums = [] ∨ (cmdOf s).1.raw = [] := by
  unfold cmdOf
  split
  · exact .inl rfl
  · unfold cmdParts
    split
    · exact .inl rfl
    split
    · unfold cmdApp; split
      · split
        · exact .inl rfl
        · split
          · exact .inl rfl
          · exact .inr rfl
      · exact .inl rfl
    split
    · unfold cmdPut; split
      · split
        · exact .inl rfl
        · split <;> exact .inl rfl
      · exact .inl rfl
    · unfold cmdNums; split
      · exact .inl rfl
      · split
        · exact .inl rfl
        · exact .inr rfl
theorem cmdOf_i64 (s : List UInt8) : ∀ n ∈ (cmdOf s).1.nums, I64 n := by
  by_cases h : (cmdOf s).2 = 0
  · exact (cmd_back (show cmdOf s = ((cmdOf s).1, 0) from Prod.ext rfl h)).2
  · have : (cmdOf s).1 = cmdNone := by
      unfold cmdOf at h ⊢
      split
      · rfl
      · rename_i hs
        unfold cmdParts at h ⊢
        split
        · rfl
        split
        · rename_i h6 h4
          rw [hs] at h; simp only at h; rw [if_neg h6, if_pos h4] at h
          unfold cmdApp at h ⊢; split
          · rename_i heq
            simp only at h
            split
            · rfl
            · rename_i hn
              rw [hn] at h; simp only at h
              split
              · rfl
              · rename_i hz; rw [if_neg hz] at h; exact absurd rfl h
          · rfl
        split
        · rename_i h6 h4 h5
          rw [hs] at h; simp only at h; rw [if_neg h6, if_neg h4, if_pos h5] at h
          unfold cmdPut at h ⊢; split
          · simp only at h
            split
            · rfl
            · rename_i hn
              rw [hn] at h; simp only at h
              split
              · rfl
              · rename_i hz; rw [if_neg hz] at h; exact absurd rfl h
          · rfl
        · rename_i h6 h4 h5
          rw [hs] at h; simp only at h; rw [if_neg h6, if_neg h4, if_neg h5] at h
          unfold cmdNums at h ⊢; split
          · rfl
          · rename_i hc
            rw [if_neg hc] at h
            split
            · rfl
            · rename_i hn; rw [hn] at h; exact absurd rfl h
    rw [this]; simp [cmdNone]

/-- a row of the call's own, as it lies -/
theorem own_block {w : World} {B size n g cap : Nat} {e : TypeId} {o : Nat} {xs : List Value} (h : w.ownsRow B e size (.slice (some ⟨g, o, none⟩) n cap) n xs) : ∃ cs, w.heap[g]? = some (.cells cs e (0, 0)) := by
  rcases h.2 with ⟨h, _⟩ | ⟨g', cap', cur, h1, _, h2, _⟩
  · cases h
  · simp only [Value.slice.injEq, Option.some.injEq, Addr.mk.injEq] at h1
    obtain ⟨⟨rfl, _⟩, _⟩ := h1
    exact ⟨cur, h2⟩
def RowN (w : World) (T g : Nat) (cs : Array Value) : Prop := w.heap[g]? = some (.cells cs T (0, 0))
theorem RowN.cell {w : World} {T g : Nat} {cs : Array Value} (h : RowN w T g cs) (k : Nat) : w.cell? ⟨g, k, none⟩ = cs[k]? := by unfold RowN at h; simp [World.cell?, h]
theorem RowN.free {w : World} {T g : Nat} {cs : Array Value} (h : RowN w T g cs) (k : Nat) : w.frozen? ⟨g, k, none⟩ = false := by unfold RowN at h; simp [World.frozen?, h]

set_option maxRecDepth 100000 in
set_option maxHeartbeats 16000000 in
theorem scriptLines_walk0 (c : Cmd) (nv rv : Value) (s : List UInt8) (w : World) (hL : LibV w) (hs : s.length ≤ 1048576) (hin : CmIn w c nv rv) (hok : CmOk 1048576 c) :
    Calls Tryz.prog 7 #[cmV c nv rv, .string ⟨s.toArray⟩] w fun x w' => x = .returned (.bool true) ∧ Below w.heap.size w w' := by
  obtain ⟨on, cn, rfl, _, _⟩ := hin.1.1.at
  obtain ⟨orr, cr, rfl, _⟩ := hin.1.2.at
  have HL := Lib.hid hL
  have HOK := Lib.hid hok
  have hB0 := (show Below w.heap.size w (w.alloc (.cells #[.string ⟨c.verb.toArray⟩, .slice on c.nums.length cn, .int .i64 c.ev.kind, .int .i64 c.ev.order, .int .i64 c.ev.item, .int .i64 c.ev.qty, .int .i64 c.ev.price, .int .i64 c.ev.cur, .int .i64 c.ev.tax, .string ⟨c.ev.who.toArray⟩, .int .i64 c.ev.stamp, .string ⟨c.ev.note.toArray⟩, .slice orr c.raw.length cr] 59)) from (Below.refl _ _).alloc (Nat.le_refl _) _)
  have HB0 := Lib.hid hB0
  have HC0 := Lib.hid (show CmBlk (w.alloc (.cells #[.string ⟨c.verb.toArray⟩, .slice on c.nums.length cn, .int .i64 c.ev.kind, .int .i64 c.ev.order, .int .i64 c.ev.item, .int .i64 c.ev.qty, .int .i64 c.ev.price, .int .i64 c.ev.cur, .int .i64 c.ev.tax, .string ⟨c.ev.who.toArray⟩, .int .i64 c.ev.stamp, .string ⟨c.ev.note.toArray⟩, .slice orr c.raw.length cr] 59)) w.heap.size c (.slice on c.nums.length cn) (.slice orr c.raw.length cr) from heap_alloc_new w _)
  have HI0 := Lib.hid (hin.below hB0)
  clear hL hok hB0 hin
  go_enter Tryz.func7, Tryz.ntmps7
  go_wp2_with fail
  generalize w.alloc (.cells #[.string ⟨c.verb.toArray⟩, .slice on c.nums.length cn, .int .i64 c.ev.kind, .int .i64 c.ev.order, .int .i64 c.ev.item, .int .i64 c.ev.qty, .int .i64 c.ev.price, .int .i64 c.ev.cur, .int .i64 c.ev.tax, .string ⟨c.ev.who.toArray⟩, .int .i64 c.ev.stamp, .string ⟨c.ev.note.toArray⟩, .slice orr c.raw.length cr] 59) = w0 at *
  refine (head25_any _ (HL.out.below HB0.out)).mono ?_
  rintro x w1 ⟨rfl, hb1⟩
  have HB1 := Lib.hid (Below.next HB0.out hb1)
  have HC1 := Lib.hid (HC0.out.below hb1)
  have HI1 := Lib.hid (HI0.out.below hb1)
  have hlt0 := HC1.out.lt
  clear hb1 HB0 HC0 HI0
  have hA := (show Below w1.heap.size w1 (w1.alloc (.cells #[.string ⟨c.verb.toArray⟩, .slice on c.nums.length cn, .int .i64 c.ev.kind, .int .i64 c.ev.order, .int .i64 c.ev.item, .int .i64 c.ev.qty, .int .i64 c.ev.price, .int .i64 c.ev.cur, .int .i64 c.ev.tax, .string ⟨c.ev.who.toArray⟩, .int .i64 c.ev.stamp, .string ⟨c.ev.note.toArray⟩, .slice orr c.raw.length cr] 59)) from (Below.refl _ _).alloc (Nat.le_refl _) _)
  have HBa := Lib.hid (Below.next HB1.out hA)
  have HCa := Lib.hid (HC1.out.below hA)
  have HIa := Lib.hid (HI1.out.below hA)
  have hrow : CmdRow (w1.alloc (.cells #[.string ⟨c.verb.toArray⟩, .slice on c.nums.length cn, .int .i64 c.ev.kind, .int .i64 c.ev.order, .int .i64 c.ev.item, .int .i64 c.ev.qty, .int .i64 c.ev.price, .int .i64 c.ev.cur, .int .i64 c.ev.tax, .string ⟨c.ev.who.toArray⟩, .int .i64 c.ev.stamp, .string ⟨c.ev.note.toArray⟩, .slice orr c.raw.length cr] 59)) (.slice (some ⟨w1.heap.size, 0, none⟩) 1 1) [c] := ⟨_, 1, rfl, Nat.le_refl _, by decide, fun _ => ⟨_, _, rfl, fun i d hi => by
    match i, hi with
    | 0, hi =>
      simp at hi; subst hi
      exact ⟨(.slice on c.nums.length cn), (.slice orr c.raw.length cr), HIa.out, fun j u hj => by
        rw [show 0 + 0 * 13 + j = j by omega, CmBlk.cell (show CmBlk (w1.alloc (.cells #[.string ⟨c.verb.toArray⟩, .slice on c.nums.length cn, .int .i64 c.ev.kind, .int .i64 c.ev.order, .int .i64 c.ev.item, .int .i64 c.ev.qty, .int .i64 c.ev.price, .int .i64 c.ev.cur, .int .i64 c.ev.tax, .string ⟨c.ev.who.toArray⟩, .int .i64 c.ev.stamp, .string ⟨c.ev.note.toArray⟩, .slice orr c.raw.length cr] 59)) w1.heap.size c (.slice on c.nums.length cn) (.slice orr c.raw.length cr) from heap_alloc_new w1 _)]; exact hj⟩⟩⟩
  have HROW := Lib.hid hrow
  clear hA hrow
  go_wp2_with (with_reducible refine wpList_load_cm rfl (.tmp 2) rfl w.heap.size c (.slice on c.nums.length cn) (.slice orr c.raw.length cr) rfl HC1.out ?_)
  refine (copyCmds_any [c] _ _ HROW.out (by simp) (fun d hd => by simp at hd; subst hd; exact HOK.out)).mono ?_
  rintro x w2 ⟨vc, xs, rfl, hxs, hown, hel, hb2⟩
  obtain ⟨x0, rfl⟩ : ∃ x0, xs = [x0] := List.length_eq_one_iff.1 (by have := congrArg List.length hxs; simpa using this)
  obtain ⟨c', nv2, rv2⟩ := x0
  obtain rfl : c = c' := by simpa using hxs.symm
  have hE := hel _ (List.mem_singleton.2 rfl)
  have hsl2 := hE.sl (HOK.out.i64)
  simp only at hsl2
  obtain ⟨g, gc, rfl, _, _, _, _, hcl⟩ := own_get hown (by simp)
  obtain ⟨on2, cn2, rfl, _, _⟩ := hsl2.1.1.at
  obtain ⟨or2, cr2, rfl, _⟩ := hsl2.1.2.at
  have HCL := Lib.hid (show ∀ (j : Nat) u, (cmCs c (.slice on2 c.nums.length cn2) (.slice or2 c.raw.length cr2))[j]? = some u → w2.cell? ⟨g, 0 + j, none⟩ = some u from fun j u hj => by rw [Nat.zero_add]; exact hcl j u (by simpa [cmCells] using hj))
  have HB2 := Lib.hid (Below.next HBa.out hb2)
  have HC2 := Lib.hid (HCa.out.below hb2)
  have HI2 := Lib.hid (HIa.out.below hb2)
  have HJ2 := Lib.hid hsl2
  clear hxs hown hel hb2 hE hsl2 hcl HROW HBa HCa HIa HB1 HC1 HI1
  have hs2 := HC2.out.lt
  have hA := (show Below w2.heap.size w2 (w2.alloc (.cells #[.string ⟨c.verb.toArray⟩, .slice on2 c.nums.length cn2, .int .i64 c.ev.kind, .int .i64 c.ev.order, .int .i64 c.ev.item, .int .i64 c.ev.qty, .int .i64 c.ev.price, .int .i64 c.ev.cur, .int .i64 c.ev.tax, .string ⟨c.ev.who.toArray⟩, .int .i64 c.ev.stamp, .string ⟨c.ev.note.toArray⟩, .slice or2 c.raw.length cr2] 59)) from (Below.refl _ _).alloc (Nat.le_refl _) _)
  have HB3 := Lib.hid (Below.next HB2.out hA)
  have HC3 := Lib.hid (HC2.out.below hA)
  have HI3 := Lib.hid (HI2.out.below hA)
  have HJ3 := Lib.hid (HJ2.out.below hA)
  have HM3 := Lib.hid (show CmBlk (w2.alloc (.cells #[.string ⟨c.verb.toArray⟩, .slice on2 c.nums.length cn2, .int .i64 c.ev.kind, .int .i64 c.ev.order, .int .i64 c.ev.item, .int .i64 c.ev.qty, .int .i64 c.ev.price, .int .i64 c.ev.cur, .int .i64 c.ev.tax, .string ⟨c.ev.who.toArray⟩, .int .i64 c.ev.stamp, .string ⟨c.ev.note.toArray⟩, .slice or2 c.raw.length cr2] 59)) w2.heap.size c (.slice on2 c.nums.length cn2) (.slice or2 c.raw.length cr2) from heap_alloc_new w2 _)
  clear hA HB2 HC2 HI2 HJ2
  go_wp2_with (first
    | (with_reducible refine wpList_load_cmAt rfl (.tmp 23) rfl g 0 c (.slice on2 c.nums.length cn2) (.slice or2 c.raw.length cr2) rfl HCL.out ?_)
    | (with_reducible refine wpList_load_cm rfl (.tmp 2) rfl w.heap.size c (.slice on c.nums.length cn) (.slice orr c.raw.length cr) rfl HC3.out ?_))
  generalize hM : w2.heap.size = M at *
  generalize w2.alloc (.cells #[.string ⟨c.verb.toArray⟩, .slice on2 c.nums.length cn2, .int .i64 c.ev.kind, .int .i64 c.ev.order, .int .i64 c.ev.item, .int .i64 c.ev.qty, .int .i64 c.ev.price, .int .i64 c.ev.cur, .int .i64 c.ev.tax, .string ⟨c.ev.who.toArray⟩, .int .i64 c.ev.stamp, .string ⟨c.ev.note.toArray⟩, .slice or2 c.raw.length cr2] 59) = w3 at *
  clear HCL hM
  refine (lineR_any c (.slice on c.nums.length cn) (.slice orr c.raw.length cr) _ HI3.out.1 HOK.out).mono ?_
  rintro x w4 ⟨rfl, hb4⟩
  have HB4 := Lib.hid (Below.next HB3.out hb4)
  have HC4 := Lib.hid (HC3.out.below hb4)
  have HI4 := Lib.hid (HI3.out.below hb4)
  have HJ4 := Lib.hid (HJ3.out.below hb4)
  have HM4 := Lib.hid (HM3.out.below hb4)
  clear hb4 HB3 HC3 HI3 HJ3 HM3
  go_wp2_with (with_reducible refine wpList_load_cm rfl (.tmp 5) rfl M c (.slice on2 c.nums.length cn2) (.slice or2 c.raw.length cr2) rfl HM4.out ?_)
  refine (lineS_any c (.slice on2 c.nums.length cn2) (.slice or2 c.raw.length cr2) _ HJ4.out.1 HOK.out (HL.out.below HB4.out)).mono ?_
  rintro x w5 ⟨rfl, hb5⟩
  have HB5 := Lib.hid (Below.next HB4.out hb5)
  have HC5 := Lib.hid (HC4.out.below hb5)
  have HI5 := Lib.hid (HI4.out.below hb5)
  have HJ5 := Lib.hid (HJ4.out.below hb5)
  have HM5 := Lib.hid (HM4.out.below hb5)
  clear hb5 HB4 HC4 HI4 HJ4 HM4
  have HJs := Lib.hid HJ5.out.1
  have HIs := Lib.hid HI5.out.1
  obtain ⟨D, hD⟩ : ∃ D, D = cmdLine c := ⟨_, rfl⟩
  rw [← hD]
  clear hD
  have t1 : (D.1 != D.1) = false := by simp
  have t2 : (D.2 != D.2) = false := by simp
  have c0 := HC5.out.cell 0
  have c1 := HC5.out.cell 1
  have c2 := HC5.out.cell 2
  have c3 := HC5.out.cell 3
  have c4 := HC5.out.cell 4
  have c5 := HC5.out.cell 5
  have c6 := HC5.out.cell 6
  have c7 := HC5.out.cell 7
  have c8 := HC5.out.cell 8
  have c9 := HC5.out.cell 9
  have c10 := HC5.out.cell 10
  have c11 := HC5.out.cell 11
  have c12 := HC5.out.cell 12
  simp only [cmCs, List.getElem?_toArray, List.getElem?_cons_zero, List.getElem?_cons_succ] at c0 c1 c2 c3 c4 c5 c6 c7 c8 c9 c10 c11 c12
  have d0 := HM5.out.cell 0
  have d1 := HM5.out.cell 1
  have d2 := HM5.out.cell 2
  have d3 := HM5.out.cell 3
  have d4 := HM5.out.cell 4
  have d5 := HM5.out.cell 5
  have d6 := HM5.out.cell 6
  have d7 := HM5.out.cell 7
  have d8 := HM5.out.cell 8
  have d9 := HM5.out.cell 9
  have d10 := HM5.out.cell 10
  have d11 := HM5.out.cell 11
  have d12 := HM5.out.cell 12
  simp only [cmCs, List.getElem?_toArray, List.getElem?_cons_zero, List.getElem?_cons_succ] at d0 d1 d2 d3 d4 d5 d6 d7 d8 d9 d10 d11 d12
  go_wp2_with (go_at_call 31; (with_reducible refine (sameCmd_any c (.slice on2 c.nums.length cn2) (.slice or2 c.raw.length cr2) (.slice on c.nums.length cn) (.slice orr c.raw.length cr) _ HJs.out HIs.out).mono ?_); rintro x w6 ⟨rfl, hb6⟩; have HB6 := Lib.hid (Below.next HB5.out hb6); clear hb6)
  clear c0 c1 c2 c3 c4 c5 c6 c7 c8 c9 c10 c11 c12 d0 d1 d2 d3 d4 d5 d6 d7 d8 d9 d10 d11 d12 t1 t2 HB5 HC5 HI5 HJ5 HM5 hlt0 hs2 HOK
  refine (cmdR_any s _ hs).mono ?_
  rintro x w7 ⟨nx, rx, rfl, hnx, hrx, hb7⟩
  have HONE := Lib.hid (cmdOf_one s)
  have HI64 := Lib.hid (cmdOf_i64 s)
  have HSY := Lib.hid (fun W hW => cmdS_any s W hs hW)
  obtain ⟨R, hR⟩ : ∃ R, R = cmdOf s := ⟨_, rfl⟩
  rw [← hR] at HONE HI64 HSY hnx hrx ⊢
  clear hR
  obtain ⟨X, ec⟩ := R
  simp only at HONE HI64 HSY hnx hrx ⊢
  obtain ⟨n1, m1, rfl, _, _⟩ := own_shape hnx
  obtain ⟨r1, s1, rfl, _, _⟩ := own_shape hrx
  have HB7 := Lib.hid (Below.next HB6.out hb7)
  have hA := (show Below w7.heap.size w7 (w7.alloc (.cells #[.string ⟨X.verb.toArray⟩, .slice n1 X.nums.length m1, .int .i64 X.ev.kind, .int .i64 X.ev.order, .int .i64 X.ev.item, .int .i64 X.ev.qty, .int .i64 X.ev.price, .int .i64 X.ev.cur, .int .i64 X.ev.tax, .string ⟨X.ev.who.toArray⟩, .int .i64 X.ev.stamp, .string ⟨X.ev.note.toArray⟩, .slice r1 X.raw.length s1] 59)) from (Below.refl _ _).alloc (Nat.le_refl _) _)
  have HB8 := Lib.hid (Below.next HB7.out hA)
  have HP8 := Lib.hid (show CmBlk (w7.alloc (.cells #[.string ⟨X.verb.toArray⟩, .slice n1 X.nums.length m1, .int .i64 X.ev.kind, .int .i64 X.ev.order, .int .i64 X.ev.item, .int .i64 X.ev.qty, .int .i64 X.ev.price, .int .i64 X.ev.cur, .int .i64 X.ev.tax, .string ⟨X.ev.who.toArray⟩, .int .i64 X.ev.stamp, .string ⟨X.ev.note.toArray⟩, .slice r1 X.raw.length s1] 59)) w7.heap.size X (.slice n1 X.nums.length m1) (.slice r1 X.raw.length s1) from heap_alloc_new w7 _)
  have HXN8 := Lib.hid (own_later hnx hA)
  have HXR8 := Lib.hid (own_later hrx hA)
  clear hnx hrx hb7 hA HB6 HB7
  go_wp2_with fail
  generalize hP : w7.heap.size = P at *
  generalize w7.alloc (.cells #[.string ⟨X.verb.toArray⟩, .slice n1 X.nums.length m1, .int .i64 X.ev.kind, .int .i64 X.ev.order, .int .i64 X.ev.item, .int .i64 X.ev.qty, .int .i64 X.ev.price, .int .i64 X.ev.cur, .int .i64 X.ev.tax, .string ⟨X.ev.who.toArray⟩, .int .i64 X.ev.stamp, .string ⟨X.ev.note.toArray⟩, .slice r1 X.raw.length s1] 59) = w8 at *
  have hp8 := HP8.out.lt
  have hww8 := HB8.out.size
  clear hP
  refine (HSY.out _ (HL.out.below HB8.out)).mono ?_
  rintro x w9 ⟨ny, ry, rfl, hny, hry, hb9⟩
  obtain ⟨n2, m2, rfl, _, _⟩ := own_shape hny
  obtain ⟨r2, s2, rfl, _, _⟩ := own_shape hry
  have hA := (show Below w9.heap.size w9 (w9.alloc (.cells #[.string ⟨X.verb.toArray⟩, .slice n2 X.nums.length m2, .int .i64 X.ev.kind, .int .i64 X.ev.order, .int .i64 X.ev.item, .int .i64 X.ev.qty, .int .i64 X.ev.price, .int .i64 X.ev.cur, .int .i64 X.ev.tax, .string ⟨X.ev.who.toArray⟩, .int .i64 X.ev.stamp, .string ⟨X.ev.note.toArray⟩, .slice r2 X.raw.length s2] 59)) from (Below.refl _ _).alloc (Nat.le_refl _) _)
  have hb10 := Below.next hb9 hA
  have HB10 := Lib.hid (Below.next HB8.out hb10)
  have HP10 := Lib.hid (HP8.out.below hb10)
  have HY10 := Lib.hid (show CmBlk (w9.alloc (.cells #[.string ⟨X.verb.toArray⟩, .slice n2 X.nums.length m2, .int .i64 X.ev.kind, .int .i64 X.ev.order, .int .i64 X.ev.item, .int .i64 X.ev.qty, .int .i64 X.ev.price, .int .i64 X.ev.cur, .int .i64 X.ev.tax, .string ⟨X.ev.who.toArray⟩, .int .i64 X.ev.stamp, .string ⟨X.ev.note.toArray⟩, .slice r2 X.raw.length s2] 59)) w9.heap.size X (.slice n2 X.nums.length m2) (.slice r2 X.raw.length s2) from heap_alloc_new w9 _)
  have HXN10 := Lib.hid (own_later HXN8.out hb10)
  have HXR10 := Lib.hid (own_later HXR8.out hb10)
  have HYN10 := Lib.hid (own_later hny hA)
  have HYR10 := Lib.hid (own_later hry hA)
  have hs89 := hb9.size
  have HLX8 := Lib.hid HXN8.out.lt
  have HLR8 := Lib.hid HXR8.out.lt
  clear hny hry hb9 hA hb10 HB8 HP8 HXN8 HXR8
  go_wp2_with fail
  generalize hY : w9.heap.size = Y at *
  generalize w9.alloc (.cells #[.string ⟨X.verb.toArray⟩, .slice n2 X.nums.length m2, .int .i64 X.ev.kind, .int .i64 X.ev.order, .int .i64 X.ev.item, .int .i64 X.ev.qty, .int .i64 X.ev.price, .int .i64 X.ev.cur, .int .i64 X.ev.tax, .string ⟨X.ev.who.toArray⟩, .int .i64 X.ev.stamp, .string ⟨X.ev.note.toArray⟩, .slice r2 X.raw.length s2] 59) = w10 at *
  have hy10 := HY10.out.lt
  clear hY
  refine (HSY.out _ (HL.out.below HB10.out)).mono ?_
  rintro x w11 ⟨nz, rz, rfl, hnz, hrz, hb11⟩
  obtain ⟨n3, m3, rfl, _, _⟩ := own_shape hnz
  obtain ⟨r3, s3, rfl, _, _⟩ := own_shape hrz
  have hA := (show Below w11.heap.size w11 (w11.alloc (.cells #[.string ⟨X.verb.toArray⟩, .slice n3 X.nums.length m3, .int .i64 X.ev.kind, .int .i64 X.ev.order, .int .i64 X.ev.item, .int .i64 X.ev.qty, .int .i64 X.ev.price, .int .i64 X.ev.cur, .int .i64 X.ev.tax, .string ⟨X.ev.who.toArray⟩, .int .i64 X.ev.stamp, .string ⟨X.ev.note.toArray⟩, .slice r3 X.raw.length s3] 59)) from (Below.refl _ _).alloc (Nat.le_refl _) _)
  have hb12 := Below.next hb11 hA
  have HB12 := Lib.hid (Below.next HB10.out hb12)
  have HP12 := Lib.hid (HP10.out.below hb12)
  have HY12 := Lib.hid (HY10.out.below hb12)
  have HZ12 := Lib.hid (show CmBlk (w11.alloc (.cells #[.string ⟨X.verb.toArray⟩, .slice n3 X.nums.length m3, .int .i64 X.ev.kind, .int .i64 X.ev.order, .int .i64 X.ev.item, .int .i64 X.ev.qty, .int .i64 X.ev.price, .int .i64 X.ev.cur, .int .i64 X.ev.tax, .string ⟨X.ev.who.toArray⟩, .int .i64 X.ev.stamp, .string ⟨X.ev.note.toArray⟩, .slice r3 X.raw.length s3] 59)) w11.heap.size X (.slice n3 X.nums.length m3) (.slice r3 X.raw.length s3) from heap_alloc_new w11 _)
  have HXN12 := Lib.hid (own_later HXN10.out hb12)
  have HXR12 := Lib.hid (own_later HXR10.out hb12)
  have HYN12 := Lib.hid (own_later HYN10.out hb12)
  have HYR12 := Lib.hid (own_later HYR10.out hb12)
  have HZN12 := Lib.hid (own_later hnz hA)
  have HZR12 := Lib.hid (own_later hrz hA)
  have HLYN := Lib.hid HYN10.out.lt
  have HLYR := Lib.hid HYR10.out.lt
  have hs1011 := hb11.size
  have t1 : (ec != ec) = false := by simp
  clear hnz hrz hb11 hA hb12 HB10 HP10 HY10 HXN10 HXR10 HYN10 HYR10
  have HXS := Lib.hid (show CmSl (w11.alloc (.cells #[.string ⟨X.verb.toArray⟩, .slice n3 X.nums.length m3, .int .i64 X.ev.kind, .int .i64 X.ev.order, .int .i64 X.ev.item, .int .i64 X.ev.qty, .int .i64 X.ev.price, .int .i64 X.ev.cur, .int .i64 X.ev.tax, .string ⟨X.ev.who.toArray⟩, .int .i64 X.ev.stamp, .string ⟨X.ev.note.toArray⟩, .slice r3 X.raw.length s3] 59)) X (.slice n1 X.nums.length m1) (.slice r1 X.raw.length s1) from ⟨intRow_own HXN12.out HI64.out, brow_own HXR12.out⟩)
  have HYS := Lib.hid (show CmSl (w11.alloc (.cells #[.string ⟨X.verb.toArray⟩, .slice n3 X.nums.length m3, .int .i64 X.ev.kind, .int .i64 X.ev.order, .int .i64 X.ev.item, .int .i64 X.ev.qty, .int .i64 X.ev.price, .int .i64 X.ev.cur, .int .i64 X.ev.tax, .string ⟨X.ev.who.toArray⟩, .int .i64 X.ev.stamp, .string ⟨X.ev.note.toArray⟩, .slice r3 X.raw.length s3] 59)) X (.slice n2 X.nums.length m2) (.slice r2 X.raw.length s2) from ⟨intRow_own HYN12.out HI64.out, brow_own HYR12.out⟩)
  have c0 := HP12.out.cell 0
  have c1 := HP12.out.cell 1
  have c2 := HP12.out.cell 2
  have c3 := HP12.out.cell 3
  have c4 := HP12.out.cell 4
  have c5 := HP12.out.cell 5
  have c6 := HP12.out.cell 6
  have c7 := HP12.out.cell 7
  have c8 := HP12.out.cell 8
  have c9 := HP12.out.cell 9
  have c10 := HP12.out.cell 10
  have c11 := HP12.out.cell 11
  have c12 := HP12.out.cell 12
  simp only [cmCs, List.getElem?_toArray, List.getElem?_cons_zero, List.getElem?_cons_succ] at c0 c1 c2 c3 c4 c5 c6 c7 c8 c9 c10 c11 c12
  have d0 := HY12.out.cell 0
  have d1 := HY12.out.cell 1
  have d2 := HY12.out.cell 2
  have d3 := HY12.out.cell 3
  have d4 := HY12.out.cell 4
  have d5 := HY12.out.cell 5
  have d6 := HY12.out.cell 6
  have d7 := HY12.out.cell 7
  have d8 := HY12.out.cell 8
  have d9 := HY12.out.cell 9
  have d10 := HY12.out.cell 10
  have d11 := HY12.out.cell 11
  have d12 := HY12.out.cell 12
  simp only [cmCs, List.getElem?_toArray, List.getElem?_cons_zero, List.getElem?_cons_succ] at d0 d1 d2 d3 d4 d5 d6 d7 d8 d9 d10 d11 d12
  go_wp2_with (go_at_call 31; (with_reducible refine (sameCmd_any X (.slice n1 X.nums.length m1) (.slice r1 X.raw.length s1) (.slice n2 X.nums.length m2) (.slice r2 X.raw.length s2) _ HXS.out HYS.out).mono ?_); rintro x w13 ⟨rfl, hb13⟩; have HB13 := Lib.hid (Below.next HB12.out hb13); have HP13 := Lib.hid (HP12.out.below hb13); have HY13 := Lib.hid (HY12.out.below hb13); have HZ13 := Lib.hid (HZ12.out.below hb13); have HXN13 := Lib.hid (own_later HXN12.out hb13); have HXR13 := Lib.hid (own_later HXR12.out hb13); have HYN13 := Lib.hid (own_later HYN12.out hb13); have HYR13 := Lib.hid (own_later HYR12.out hb13); have HZN13 := Lib.hid (own_later HZN12.out hb13); have HZR13 := Lib.hid (own_later HZR12.out hb13); have hs13 := hb13.size; have y1 := HY13.out.cell 1; have y12 := HY13.out.cell 12; simp only [cmCs, List.getElem?_toArray, List.getElem?_cons_zero, List.getElem?_cons_succ] at y1 y12; clear hb13 c0 c1 c2 c3 c4 c5 c6 c7 c8 c9 c10 c11 c12 d0 d1 d2 d3 d4 d5 d6 d7 d8 d9 d10 d11 d12)
  generalize hZ : w11.heap.size = Z at *
  have HB8z : w.heap.size ≤ w8.heap.size := hww8
  clear HB12 HP12 HY12 HZ12 HXN12 HXR12 HYN12 HYR12 HZN12 HZR12 HXS HYS t1 HSY HJs HIs
  obtain ⟨xv, xn, xe, xr⟩ := X
  simp only at *
  by_cases hn0 : xn = []
  · subst hn0
    simp only [List.length_nil] at y1
    by_cases hr0 : xr = []
    · subst hr0
      simp only [List.length_nil] at y12
      have hB := But.refl w13.heap.size w13
      have hgt : Z < w13.heap.size := HZ13.out.lt
      have hgt2 : P < w13.heap.size := HP13.out.lt
      have hgt3 := HB13.out.size
      have HZL := Lib.hid HZN13.out.lt
      have HZRL := Lib.hid HZR13.out.lt
      refine wp_loop_rounds 1 ?_
      rw [rounds_succ]
      go_wp2
      have HPr := Lib.hid (HP13.out.but hB (by omega))
      have HZr := Lib.hid (HZ13.out.but hB (by omega))
      have HSx := Lib.hid (show CmSl w13 ⟨xv, ([] : List Int), xe, ([] : List UInt8)⟩ (.slice n1 ([] : List Int).length m1) (.slice r1 ([] : List UInt8).length s1) from ⟨intRow_own (own_but' HXN13.out hB (fun e => by have := (HLX8.out _ e).2; omega)) HI64.out, brow_own (own_but' HXR13.out hB (fun e => by have := (HLR8.out _ e).2; omega))⟩)
      have HSz := Lib.hid (show CmSl w13 ⟨xv, ([] : List Int), xe, ([] : List UInt8)⟩ (.slice n3 ([] : List Int).length m3) (.slice r3 ([] : List UInt8).length s3) from ⟨intRow_own (own_but' HZN13.out hB (fun e => by have := (HZL.out _ e).2; omega)) HI64.out, brow_own (own_but' HZR13.out hB (fun e => by have := (HZRL.out _ e).2; omega))⟩)
      have HBr := Lib.hid (But.below HB13.out hB (by have := HB8z; omega))
      refine wp_loop_rounds 1 ?_
      rw [rounds_succ]
      go_wp2_with (first
        | (with_reducible refine wpList_load_cm rfl (.tmp 14) rfl Z ⟨xv, ([] : List Int), xe, ([] : List UInt8)⟩ (.slice n3 ([] : List Int).length m3) (.slice r3 ([] : List UInt8).length s3) rfl HZr.out ?_)
        | (with_reducible refine wpList_load_cm rfl (.tmp 10) rfl P ⟨xv, ([] : List Int), xe, ([] : List UInt8)⟩ (.slice n1 ([] : List Int).length m1) (.slice r1 ([] : List UInt8).length s1) rfl HPr.out ?_))
      refine (sameCmd_any ⟨xv, ([] : List Int), xe, ([] : List UInt8)⟩ (.slice n3 ([] : List Int).length m3) (.slice r3 ([] : List UInt8).length s3) (.slice n1 ([] : List Int).length m1) (.slice r1 ([] : List UInt8).length s1) _ HSz.out HSx.out).mono ?_
      rintro x wz ⟨rfl, hbz⟩
      go_wp2
      go_ret
      exact ⟨rfl, Below.next HBr.out hbz⟩
    · have hne := hr0
      clear hr0
      refine wp_loop_rounds 1 ?_
      rw [rounds_succ]
      go_wp2
      have hpos : 0 < xr.length := List.length_pos_iff.2 hne
      obtain ⟨gb, gcc, hv, hgl, hgs, hgc, hgm, hcn⟩ := own_get HYR13.out hpos
      simp only [Value.slice.injEq] at hv
      obtain ⟨rfl, _, rfl⟩ := hv
      obtain ⟨cs0, hcs0⟩ := own_block HYR13.out
      have hgb10 : gb < w10.heap.size := (HLYR.out gb rfl).2
      have hgb8 : w8.heap.size ≤ gb := (HLYR.out gb rfl).1
      have hgY : Y ≠ gb := fun e => by
        have h1 : w13.heap[Y]? = some (.cells _ 59 (0, 0)) := HY13.out
        rw [e, hcs0] at h1
        injection h1 with h1
        injection h1 with _ h2
        exact absurd h2 (by decide)
      have HCEL := Lib.hid (show ∀ (j : Nat) x, xr[j]? = some x → cs0[j]? = some (.int .u8 (x.toNat : Int)) from fun j x hx => by
        have h := hcn j (.int .u8 (x.toNat : Int)) (by simp [Lib.byteCells, hx])
        rw [RowN.cell (show RowN w13 5 gb cs0 from hcs0)] at h
        exact h)
      have HR0 := Lib.hid (show RowN w13 5 gb cs0 from hcs0)
      unfold maxLen at hgm
      clear hcs0 hcn hne
      go_loopw [90] (fun iv wr => ∃ (k : Nat) (cs : Array Value), k ≤ xr.length ∧ iv = .int .i64 k ∧ RowN wr 5 gb cs ∧ (∀ j, k ≤ j → cs[j]? = cs0[j]?) ∧ But gb w13 wr) (fun iv _ => xr.length - (intOf iv).toNat)
      case atStart => exact ⟨0, cs0, Nat.zero_le _, rfl, HR0.out, fun _ _ => rfl, But.refl _ _⟩
      case round =>
        obtain ⟨k, cs, hk, rfl, hR, hrest, hB⟩ := hrel
        have HR := Lib.hid hR
        have HRE := Lib.hid hrest
        have HB := Lib.hid hB
        clear hR hrest hB
        by_cases hlt : k < xr.length
        · obtain ⟨x, hx, _, _⟩ := nth xr k hlt
          have ck : wr.cell? ⟨gb, k, none⟩ = some (.int .u8 (x.toNat : Int)) := by rw [HR.out.cell, HRE.out k (Nat.le_refl _)]; exact HCEL.out k x hx
          have fk := HR.out.free k
          have q1 : (k : Int) < (xr.length : Int) := by omega
          have y1r : wr.cell? ⟨Y, 12, none⟩ = some (.slice (some ⟨gb, 0, none⟩) xr.length s2) := HB.out.cell y12 hgY
          clear hx
          go_wp2
          go_roundw
          case rel => exact ⟨k + 1, _, by omega, by go_num, raw_put HR.out k _, fun j hj => by rw [Array.getElem?_setIfInBounds_ne (by omega)]; exact HRE.out j (by omega), HB.out.set k _⟩
          case measure => simp [intOf]; omega
        · obtain rfl : k = xr.length := by omega
          have hB := HB.out
          have HPr := Lib.hid (HP13.out.but hB (by omega))
          have HZr := Lib.hid (HZ13.out.but hB (by omega))
          have HSx := Lib.hid (show CmSl wr ⟨xv, ([] : List Int), xe, xr⟩ (.slice n1 ([] : List Int).length m1) (.slice r1 xr.length s1) from ⟨intRow_own (own_but' HXN13.out hB (fun e => by have := (HLX8.out _ e).2; omega)) HI64.out, brow_own (own_but' HXR13.out hB (fun e => by have := (HLR8.out _ e).2; omega))⟩)
          have HSz := Lib.hid (show CmSl wr ⟨xv, ([] : List Int), xe, xr⟩ (.slice n3 ([] : List Int).length m3) (.slice r3 xr.length s3) from ⟨intRow_own (own_but' HZN13.out hB (fun e => by have := (HZN13.out.lt _ e).1; omega)) HI64.out, brow_own (own_but' HZR13.out hB (fun e => by have := (HZR13.out.lt _ e).1; omega))⟩)
          have HBr := Lib.hid (But.below HB13.out hB (by have := HB8z; omega))
          go_wp2_with (first
            | (with_reducible refine wpList_load_cm rfl (.tmp 14) rfl Z ⟨xv, ([] : List Int), xe, xr⟩ (.slice n3 ([] : List Int).length m3) (.slice r3 xr.length s3) rfl HZr.out ?_)
            | (with_reducible refine wpList_load_cm rfl (.tmp 10) rfl P ⟨xv, ([] : List Int), xe, xr⟩ (.slice n1 ([] : List Int).length m1) (.slice r1 xr.length s1) rfl HPr.out ?_))
          refine (sameCmd_any ⟨xv, ([] : List Int), xe, xr⟩ (.slice n3 ([] : List Int).length m3) (.slice r3 xr.length s3) (.slice n1 ([] : List Int).length m1) (.slice r1 xr.length s1) _ HSz.out HSx.out).mono ?_
          rintro x wz ⟨rfl, hbz⟩
          go_wp2
          go_ret
          exact ⟨rfl, Below.next HBr.out hbz⟩
  · obtain rfl : xr = [] := HONE.out.resolve_left hn0
    have hne := hn0
    clear hn0
    have hpos : 0 < xn.length := List.length_pos_iff.2 hne
    obtain ⟨gb, gcc, hv, hgl, hgs, hgc, hgm, hcn⟩ := own_get HYN13.out hpos
    simp only [Value.slice.injEq] at hv
    obtain ⟨rfl, _, rfl⟩ := hv
    obtain ⟨cs0, hcs0⟩ := own_block HYN13.out
    have hgb10 : gb < w10.heap.size := (HLYN.out gb rfl).2
    have hgb8 : w8.heap.size ≤ gb := (HLYN.out gb rfl).1
    have hgY : Y ≠ gb := fun e => by
      have h1 : w13.heap[Y]? = some (.cells _ 59 (0, 0)) := HY13.out
      rw [e, hcs0] at h1
      injection h1 with h1
      injection h1 with _ h2
      exact absurd h2 (by decide)
    have HCEL := Lib.hid (show ∀ (j : Nat) x, xn[j]? = some x → cs0[j]? = some (.int .i64 x) from fun j x hx => by
      have h := hcn j (.int .i64 x) (by simp [intCells, hx])
      rw [RowN.cell (show RowN w13 3 gb cs0 from hcs0)] at h
      exact h)
    have HR0 := Lib.hid (show RowN w13 3 gb cs0 from hcs0)
    unfold maxLen at hgm
    clear hcs0 hcn hne
    go_loopw [76] (fun iv wr => ∃ (k : Nat) (cs : Array Value), k ≤ xn.length ∧ iv = .int .i64 k ∧ RowN wr 3 gb cs ∧ (∀ j, k ≤ j → cs[j]? = cs0[j]?) ∧ But gb w13 wr) (fun iv _ => xn.length - (intOf iv).toNat)
    case atStart => exact ⟨0, cs0, Nat.zero_le _, rfl, HR0.out, fun _ _ => rfl, But.refl _ _⟩
    case round =>
      obtain ⟨k, cs, hk, rfl, hR, hrest, hB⟩ := hrel
      have HR := Lib.hid hR
      have HRE := Lib.hid hrest
      have HB := Lib.hid hB
      clear hR hrest hB
      by_cases hlt : k < xn.length
      · obtain ⟨x, hx, _, _⟩ := nth xn k hlt
        have ck : wr.cell? ⟨gb, k, none⟩ = some (.int .i64 x) := by rw [HR.out.cell, HRE.out k (Nat.le_refl _)]; exact HCEL.out k x hx
        have fk := HR.out.free k
        have q1 : (k : Int) < (xn.length : Int) := by omega
        have y1r : wr.cell? ⟨Y, 1, none⟩ = some (.slice (some ⟨gb, 0, none⟩) xn.length m2) := HB.out.cell y1 hgY
        clear hx
        go_wp2
        go_roundw
        case rel => exact ⟨k + 1, _, by omega, by go_num, raw_put HR.out k _, fun j hj => by rw [Array.getElem?_setIfInBounds_ne (by omega)]; exact HRE.out j (by omega), HB.out.set k _⟩
        case measure => simp [intOf]; omega
      · obtain rfl : k = xn.length := by omega
        have hB := HB.out
        have y12r : wr.cell? ⟨Y, 12, none⟩ = some (.slice r2 ([] : List UInt8).length s2) := hB.cell y12 hgY
        simp only [List.length_nil] at y12r
        go_wp2
        have HPr := Lib.hid (HP13.out.but hB (by omega))
        have HZr := Lib.hid (HZ13.out.but hB (by omega))
        have HSx := Lib.hid (show CmSl wr ⟨xv, xn, xe, ([] : List UInt8)⟩ (.slice n1 xn.length m1) (.slice r1 ([] : List UInt8).length s1) from ⟨intRow_own (own_but' HXN13.out hB (fun e => by have := (HLX8.out _ e).2; omega)) HI64.out, brow_own (own_but' HXR13.out hB (fun e => by have := (HLR8.out _ e).2; omega))⟩)
        have HSz := Lib.hid (show CmSl wr ⟨xv, xn, xe, ([] : List UInt8)⟩ (.slice n3 xn.length m3) (.slice r3 ([] : List UInt8).length s3) from ⟨intRow_own (own_but' HZN13.out hB (fun e => by have := (HZN13.out.lt _ e).1; omega)) HI64.out, brow_own (own_but' HZR13.out hB (fun e => by have := (HZR13.out.lt _ e).1; omega))⟩)
        have HBr := Lib.hid (But.below HB13.out hB (by have := HB8z; omega))
        refine wp_loop_rounds 1 ?_
        rw [rounds_succ]
        go_wp2_with (first
          | (with_reducible refine wpList_load_cm rfl (.tmp 14) rfl Z ⟨xv, xn, xe, ([] : List UInt8)⟩ (.slice n3 xn.length m3) (.slice r3 ([] : List UInt8).length s3) rfl HZr.out ?_)
          | (with_reducible refine wpList_load_cm rfl (.tmp 10) rfl P ⟨xv, xn, xe, ([] : List UInt8)⟩ (.slice n1 xn.length m1) (.slice r1 ([] : List UInt8).length s1) rfl HPr.out ?_))
        refine (sameCmd_any ⟨xv, xn, xe, ([] : List UInt8)⟩ (.slice n3 xn.length m3) (.slice r3 ([] : List UInt8).length s3) (.slice n1 xn.length m1) (.slice r1 ([] : List UInt8).length s1) _ HSz.out HSx.out).mono ?_
        rintro x wz ⟨rfl, hbz⟩
        go_wp2
        go_ret
        exact ⟨rfl, Below.next HBr.out hbz⟩


theorem scriptLines_walk (v0 : Value) (a0 : Cmd) (a1 : List UInt8) (w : World) (h0 : RdCmd w v0 a0) (h1 : a1.length ≤ 1048576) (hL : laidMetH Tryz.prog Rows.scriptLinesUptoRow.laid w) (hS : w.ShapedOpen Tryz.prog) :
    Calls Tryz.prog 7 #[v0, .string ⟨a1.toArray⟩] w fun x w' => x = .returned (.bool true) ∧ Below w.heap.size w w' := by
  obtain ⟨nv, rv, rfl, hi, hk⟩ := h0
  exact scriptLines_walk0 a0 nv rv a1 w (libV_of rfl hL hS) h1 hi hk

end Go.Proofs.YtecmpmnidlfgnaaGreatDoor
