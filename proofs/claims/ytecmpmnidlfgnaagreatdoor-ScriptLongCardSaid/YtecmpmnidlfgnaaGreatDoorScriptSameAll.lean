import Derived.Test.YtecmpmnidlfgnaaGreatDoorScriptCopy
import Derived.Test.YtecmpmnidlfgnaaGreatDoorScriptLine
import Derived.Test.YtecmpmnidlfgnaaGreatDoorScriptRefLine
import Derived.Test.YtecmpmnidlfgnaaGreatDoorRead
namespace Go.Proofs.YtecmpmnidlfgnaaGreatDoor
open Go.RowKit

/-! ## Print, both -/

theorem cmdLine_len {c : Cmd} (h : CmOk 1048576 c) : (cmdLine c).1.length ≤ 29360160 := by
  have hv := h.verb
  have hn := numTail_len c.nums h.i64
  have hn2 := h.nums
  have hw := dumpWords_len (v := c.nums.headD 0) (e := c.ev)
  have hr := h.raw
  unfold cmdLine
  generalize dumpWords (c.nums.headD 0) c.ev = D at *
  split
  · simp
  split
  · simp
  split
  · split
    · simp
    · simp; omega
  split
  · split
    · simp
    · simp [hexOf_length]; omega
  · simp; omega

def PrintPost (r : List UInt8 × Int × Int) (w : World) (x : Ending) (w' : World) : Prop := x = .returned (.tuple #[.string ⟨r.1.toArray⟩, .int .i64 r.2.1, .int .i64 r.2.2]) ∧ Below w.heap.size w w'

set_option maxRecDepth 100000 in
set_option maxHeartbeats 8000000 in
theorem printS_any (cs : List Cmd) (v : Value) (w : World) (hv : CmdRow w v cs) (hok : ∀ c ∈ cs, CmOk 1048576 c) (hL : LibV w) : Calls Tryz.prog 35 #[v] w (PrintPost (printOf cs) w) := by
  obtain ⟨oa, cap, rfl, hl1, hl2, hcs⟩ := hv
  have HCS := Lib.hid hcs
  have HOK := Lib.hid hok
  have HT := Lib.hid (addP_nil cs)
  have HL := Lib.hid hL
  have HS := Lib.hid (fresh_builder w)
  clear hL hcs hok
  go_enter Tryz.func35, Tryz.ntmps35
  go_wp2
  go_loopw [12] (fun iv wr => ∃ (k : Nat) (S : List UInt8), k ≤ cs.length ∧ iv = .int .i64 k ∧ Lib.IsBuilder 113 5 w.heap.size w.heap.size (Lib.byteCells S) wr ∧ Below w.heap.size w wr ∧ Hid (printOf cs = addP S (printC k S.length (cs.drop k))) ∧ S.length ≤ 65536) (fun iv _ => cs.length - (intOf iv).toNat)
  case atStart => exact ⟨0, [], Nat.zero_le _, rfl, HS.out, (Below.refl _ _).alloc (Nat.le_refl _) _, HT, Nat.zero_le _⟩
  case round =>
    obtain ⟨k, S, hk, rfl, hbd, hb, HTk, hsl⟩ := hrel
    have HB := Lib.hid hb
    have HD := Lib.hid hbd
    clear hb hbd HT HS
    by_cases hlt : k < cs.length
    · obtain ⟨c, hc, _, hmem⟩ := nth cs k hlt
      have hne : cs ≠ [] := by intro h; rw [h] at hlt; simp at hlt
      obtain ⟨b, off, rfl, hcells⟩ := HCS.out hne
      obtain ⟨nv, rv, hin, hcell⟩ := hcells k c hc
      have HOC := Lib.hid (HOK.out c hmem)
      have HIN := Lib.hid (hin.below HB.out)
      have HCELL := Lib.hid (show ∀ (j : Nat) u, (cmCs c nv rv)[j]? = some u → wr.cell? ⟨b, off + k * 13 + j, none⟩ = some u from fun j u hj => cell_later HB.out (hcell j u hj))
      have HD2 := Lib.hid (drop_cons hc)
      have q1 : (k : Int) < (cs.length : Int) := by omega
      clear hc hmem hne hcells hin hcell
      obtain ⟨on, cn, rfl, _, _⟩ := HIN.out.1.1.at
      obtain ⟨orr, cr, rfl, _⟩ := HIN.out.1.2.at
      have hA := (show Below wr.heap.size wr (wr.alloc (.cells #[.string ⟨c.verb.toArray⟩, .slice on c.nums.length cn, .int .i64 c.ev.kind, .int .i64 c.ev.order, .int .i64 c.ev.item, .int .i64 c.ev.qty, .int .i64 c.ev.price, .int .i64 c.ev.cur, .int .i64 c.ev.tax, .string ⟨c.ev.who.toArray⟩, .int .i64 c.ev.stamp, .string ⟨c.ev.note.toArray⟩, .slice orr c.raw.length cr] 59)) from (Below.refl _ _).alloc (Nat.le_refl _) _)
      have HCa := Lib.hid (show CmBlk (wr.alloc (.cells #[.string ⟨c.verb.toArray⟩, .slice on c.nums.length cn, .int .i64 c.ev.kind, .int .i64 c.ev.order, .int .i64 c.ev.item, .int .i64 c.ev.qty, .int .i64 c.ev.price, .int .i64 c.ev.cur, .int .i64 c.ev.tax, .string ⟨c.ev.who.toArray⟩, .int .i64 c.ev.stamp, .string ⟨c.ev.note.toArray⟩, .slice orr c.raw.length cr] 59)) wr.heap.size c (.slice on c.nums.length cn) (.slice orr c.raw.length cr) from heap_alloc_new wr _)
      have HIa := Lib.hid (HIN.out.below hA)
      have HBa := Lib.hid (Below.next HB.out hA)
      have HDa := Lib.hid (builder_later HD.out hA)
      clear hA
      by_cases h400 : 400 ≤ k
      · have hfin := Lib.hid (show printOf cs = ([], (k : Int) + 1, 102) by rw [HTk.out, HD2.out]; exact addP_many h400)
        have k4 : (400 : Int) ≤ (k : Int) := by omega
        go_wp2_with (with_reducible refine wpList_load_cmAt rfl (.tmp 15) rfl b (off + k * 13) c (.slice on c.nums.length cn) (.slice orr c.raw.length cr) rfl HCELL.out ?_)
        exact bodyPost_ret (v := .tuple #[.string ⟨#[]⟩, .int .i64 ((k : Int) + 1), .int .i64 102]) (by simp [results, Tryz.results35, go_sem]) rfl ⟨by rw [hfin.out], HBa.out⟩
      have k4 : ¬ (400 : Int) ≤ (k : Int) := by omega
      go_wp2_with (first
        | (with_reducible refine wpList_load_cmAt rfl (.tmp 15) rfl b (off + k * 13) c (.slice on c.nums.length cn) (.slice orr c.raw.length cr) rfl HCELL.out ?_)
        | (with_reducible refine wpList_load_cm rfl (.tmp 7) rfl wr.heap.size c (.slice on c.nums.length cn) (.slice orr c.raw.length cr) rfl HCa.out ?_))
      refine (lineS_any c (.slice on c.nums.length cn) (.slice orr c.raw.length cr) _ HIa.out.1 HOC.out (HL.out.below HBa.out)).mono ?_
      rintro x w2 ⟨rfl, hb2⟩
      have HB2 := Lib.hid (Below.next HBa.out hb2)
      have HD3 := Lib.hid (builder_later HDa.out hb2)
      clear hb2 HBa HDa HCa HIa HB HD
      obtain ⟨X, hX⟩ : ∃ X, X = cmdLine c := ⟨_, rfl⟩
      have HX := Lib.hid hX
      rw [← hX]
      clear hX
      obtain ⟨l, e⟩ := X
      simp only at *
      by_cases he : e ≠ 0
      · have hfin := Lib.hid (show printOf cs = ([], (k : Int) + 1, e) by rw [HTk.out, HD2.out, addP_bad h400 (by rw [← HX.out]; exact he), ← HX.out])
        have t3 : (e != 0) = true := by rw [bne_iff_ne]; exact he
        clear he
        go_wp2
        exact bodyPost_ret (v := .tuple #[.string ⟨#[]⟩, .int .i64 ((k : Int) + 1), .int .i64 e]) (by simp [results, Tryz.results35, go_sem]) rfl ⟨by rw [hfin.out], HB2.out⟩
      have he0 : e = 0 := Classical.byContradiction he
      have t3 : (e != 0) = false := by rw [bne_eq_false_iff_eq]; exact he0
      have HE0 := Lib.hid (show (cmdLine c).2 = 0 by rw [← HX.out]; exact he0)
      have hll : l.length ≤ 29360160 := by have := cmdLine_len HOC.out; rw [← HX.out] at this; exact this
      clear he he0
      have hsz := HB2.out.size
      go_wp2_with fail
      refine (Tryz.Builder_Len w.heap.size w.heap.size _ _ HD3.out).mono ?_
      rintro x w3 ⟨rfl, rfl⟩
      rw [Lib.byteCells_length]
      by_cases hbig : 65536 < S.length + l.length + 1
      · have hfin := Lib.hid (show printOf cs = ([], (k : Int) + 1, 102) by rw [HTk.out, HD2.out]; exact addP_big h400 HE0.out (by rw [← HX.out]; exact hbig))
        have kb : (65536 : Int) < (S.length : Int) + (l.length : Int) + 1 := by omega
        go_wp2
        exact bodyPost_ret (v := .tuple #[.string ⟨#[]⟩, .int .i64 ((k : Int) + 1), .int .i64 102]) (by simp [results, Tryz.results35, go_sem]) rfl ⟨by rw [hfin.out], HB2.out⟩
      have kb : ¬ (65536 : Int) < (S.length : Int) + (l.length : Int) + 1 := by omega
      have HN := Lib.hid (show printOf cs = addP (S ++ (l ++ [10])) (printC (k + 1) (S ++ (l ++ [10])).length (cs.drop (k + 1))) by
        rw [HTk.out, HD2.out, addP_good h400 HE0.out (by rw [← HX.out]; exact hbig), ← HX.out])
      have kb2 : S.length + l.length < 65536 := by omega
      have HK2 := Lib.hid kb2
      have HS2 := Lib.hid hsl
      have kd : decide (65536 < (S.length : Int) + (l.length : Int) + 1) = false := by rw [decide_eq_false_iff_not]; exact kb
      have b1 : S.length ≤ 1048576 := by omega
      clear hbig kb kb2 hsl
      go_wp2_with fail
      have kb2 := HK2.out
      have hsl := HS2.out
      refine (WriteString_any w.heap.size w.heap.size _ ⟨l.toArray⟩ _ HD3.out (by rw [Lib.byteCells_length]; simp [ByteArray.size]; omega) hsz).mono ?_
      rintro x w4 ⟨rfl, hd3, hb3⟩
      have HD4 := Lib.hid (show Lib.IsBuilder 113 5 w.heap.size w.heap.size _ w4 from .inr hd3)
      have HB3 := Lib.hid (HB2.out.trans hb3)
      have hsz3 := (HB2.out.trans hb3).size
      clear hd3 hb3
      go_wp2_with fail
      refine (WriteByte_any w.heap.size w.heap.size _ 10 _ HD4.out (by rw [List.length_append, Lib.byteCells_length, Lib.strCells_length]; simp [ByteArray.size]; omega) hsz3).mono ?_
      rintro x w5 ⟨rfl, hd4, hb4⟩
      have HD5 := Lib.hid (show Lib.IsBuilder 113 5 w.heap.size w.heap.size (Lib.byteCells (S ++ (l ++ [10]))) w5 from .inr (by rw [← List.append_assoc, Lib.byteCells_append, Lib.byteCells_append]; exact hd4))
      have HB4 := Lib.hid (HB3.out.trans hb4)
      clear hd4 hb4
      go_wp2
      go_roundw
      case rel => exact ⟨k + 1, S ++ (l ++ [10]), by omega, by go_num, HD5.out, HB4.out, HN, by simp; omega⟩
      case measure => simp [intOf]; omega
    · obtain rfl : k = cs.length := by omega
      have hfin := Lib.hid (show printOf cs = (S, 0, 0) by rw [HTk.out, List.drop_length]; exact addP_end S _ _)
      have hsz := HB.out.size
      go_wp2_with fail
      refine (Tryz.Builder_String_any w.heap.size w.heap.size _ _ HD.out hsz).mono ?_
      rintro e w2 ⟨rfl, hb2⟩
      go_wp2
      exact bodyPost_ret (v := .tuple #[.string ⟨S.toArray⟩, .int .i64 0, .int .i64 0]) (by simp [results, Tryz.results35, go_sem]) rfl ⟨by rw [hfin.out], HB.out.trans hb2⟩

set_option maxRecDepth 100000 in
set_option maxHeartbeats 8000000 in
theorem printR_any (cs : List Cmd) (v : Value) (w : World) (hv : CmdRow w v cs) (hok : ∀ c ∈ cs, CmOk 1048576 c) : Calls Tryz.prog 34 #[v] w (PrintPost (printOf cs) w) := by
  obtain ⟨oa, cap, rfl, hl1, hl2, hcs⟩ := hv
  have HCS := Lib.hid hcs
  have HOK := Lib.hid hok
  have HT := Lib.hid (addP_nil cs)
  clear hcs hok
  go_enter Tryz.func34, Tryz.ntmps34
  go_wp2
  go_loopw [5, 11] (fun sv iv wr => ∃ (k : Nat) (S : List UInt8), k ≤ cs.length ∧ iv = .int .i64 k ∧ sv = .string ⟨S.toArray⟩ ∧ Below w.heap.size w wr ∧ Hid (printOf cs = addP S (printC k S.length (cs.drop k))) ∧ S.length ≤ 65536) (fun _ iv _ => cs.length - (intOf iv).toNat)
  case atStart => exact ⟨0, [], Nat.zero_le _, rfl, rfl, Below.refl _ _, HT, Nat.zero_le _⟩
  case round =>
    obtain ⟨k, S, hk, rfl, rfl, hb, HTk, hsl⟩ := hrel
    have HB := Lib.hid hb
    clear hb HT
    by_cases hlt : k < cs.length
    · obtain ⟨c, hc, _, hmem⟩ := nth cs k hlt
      have hne : cs ≠ [] := by intro h; rw [h] at hlt; simp at hlt
      obtain ⟨b, off, rfl, hcells⟩ := HCS.out hne
      obtain ⟨nv, rv, hin, hcell⟩ := hcells k c hc
      have HOC := Lib.hid (HOK.out c hmem)
      have HIN := Lib.hid (hin.below HB.out)
      have HCELL := Lib.hid (show ∀ (j : Nat) u, (cmCs c nv rv)[j]? = some u → wr.cell? ⟨b, off + k * 13 + j, none⟩ = some u from fun j u hj => cell_later HB.out (hcell j u hj))
      have HD2 := Lib.hid (drop_cons hc)
      have q1 : (k : Int) < (cs.length : Int) := by omega
      clear hc hmem hne hcells hin hcell
      obtain ⟨on, cn, rfl, _, _⟩ := HIN.out.1.1.at
      obtain ⟨orr, cr, rfl, _⟩ := HIN.out.1.2.at
      by_cases h400 : 400 ≤ k
      · have hfin := Lib.hid (show printOf cs = ([], (k : Int) + 1, 102) by rw [HTk.out, HD2.out]; exact addP_many h400)
        have k4 : (400 : Int) ≤ (k : Int) := by omega
        go_wp2
        exact bodyPost_ret (v := .tuple #[.string ⟨#[]⟩, .int .i64 ((k : Int) + 1), .int .i64 102]) (by simp [results, Tryz.results34, go_sem]) rfl ⟨by rw [hfin.out], HB.out⟩
      have k4 : ¬ (400 : Int) ≤ (k : Int) := by omega
      go_wp2_with (with_reducible refine wpList_load_cmAt rfl (.tmp 21) rfl b (off + k * 13) c (.slice on c.nums.length cn) (.slice orr c.raw.length cr) rfl HCELL.out ?_)
      refine (lineR_any c (.slice on c.nums.length cn) (.slice orr c.raw.length cr) _ HIN.out.1 HOC.out).mono ?_
      rintro x w2 ⟨rfl, hb2⟩
      have HB2 := Lib.hid (Below.next HB.out hb2)
      clear hb2 HB
      obtain ⟨X, hX⟩ : ∃ X, X = cmdLine c := ⟨_, rfl⟩
      have HX := Lib.hid hX
      rw [← hX]
      clear hX
      obtain ⟨l, e⟩ := X
      simp only at *
      by_cases he : e ≠ 0
      · have hfin := Lib.hid (show printOf cs = ([], (k : Int) + 1, e) by rw [HTk.out, HD2.out, addP_bad h400 (by rw [← HX.out]; exact he), ← HX.out])
        have t3 : (e != 0) = true := by rw [bne_iff_ne]; exact he
        clear he
        go_wp2
        exact bodyPost_ret (v := .tuple #[.string ⟨#[]⟩, .int .i64 ((k : Int) + 1), .int .i64 e]) (by simp [results, Tryz.results34, go_sem]) rfl ⟨by rw [hfin.out], HB2.out⟩
      have he0 : e = 0 := Classical.byContradiction he
      have t3 : (e != 0) = false := by rw [bne_eq_false_iff_eq]; exact he0
      have HE0 := Lib.hid (show (cmdLine c).2 = 0 by rw [← HX.out]; exact he0)
      have hll : l.length ≤ 29360160 := by have := cmdLine_len HOC.out; rw [← HX.out] at this; exact this
      clear he he0
      by_cases hbig : 65536 < S.length + l.length + 1
      · have hfin := Lib.hid (show printOf cs = ([], (k : Int) + 1, 102) by rw [HTk.out, HD2.out]; exact addP_big h400 HE0.out (by rw [← HX.out]; exact hbig))
        have kb : (65536 : Int) < (S.length : Int) + (l.length : Int) + 1 := by omega
        go_wp2
        exact bodyPost_ret (v := .tuple #[.string ⟨#[]⟩, .int .i64 ((k : Int) + 1), .int .i64 102]) (by simp [results, Tryz.results34, go_sem]) rfl ⟨by rw [hfin.out], HB2.out⟩
      have kb : ¬ (65536 : Int) < (S.length : Int) + (l.length : Int) + 1 := by omega
      have HN := Lib.hid (show printOf cs = addP (S ++ (l ++ [10])) (printC (k + 1) (S ++ (l ++ [10])).length (cs.drop (k + 1))) by
        rw [HTk.out, HD2.out, addP_good h400 HE0.out (by rw [← HX.out]; exact hbig), ← HX.out])
      obtain ⟨m1, hm1⟩ : ∃ m, m = l ++ [10] := ⟨_, rfl⟩
      obtain ⟨m2, hm2⟩ : ∃ m, m = S ++ m1 := ⟨_, rfl⟩
      have l1 : m1.length = l.length + 1 := by rw [hm1]; simp
      have l2 : m2.length = S.length + m1.length := by rw [hm2]; simp
      have e1 := str_add _ _ _ hm1 (by omega)
      have e2 := str_add _ _ _ hm2 (by omega)
      rw [← hm1, ← hm2] at HN
      clear hm1 hm2
      go_wp2
      go_roundw
      case rel => exact ⟨k + 1, m2, by omega, by go_num, rfl, HB2.out, HN, by omega⟩
      case measure => simp [intOf]; omega
    · obtain rfl : k = cs.length := by omega
      have hfin := Lib.hid (show printOf cs = (S, 0, 0) by rw [HTk.out, List.drop_length]; exact addP_end S _ _)
      go_wp2
      exact bodyPost_ret (v := .tuple #[.string ⟨S.toArray⟩, .int .i64 0, .int .i64 0]) (by simp [results, Tryz.results34, go_sem]) rfl ⟨by rw [hfin.out], HB.out⟩

end Go.Proofs.YtecmpmnidlfgnaaGreatDoor

namespace Go.Proofs.YtecmpmnidlfgnaaGreatDoor
open Go.RowKit

/-! ## the reference's SameAll, at the same commands in two places -/

set_option maxRecDepth 100000 in
set_option maxHeartbeats 16000000 in
theorem sameAll_any (cs : List Cmd) (v1 v2 : Value) (w : World) (h1 : CmdRow w v1 cs) (h2 : CmdRow w v2 cs) :
    Calls Tryz.prog 36 #[v1, v2] w fun x w' => x = .returned (.bool true) ∧ Below w.heap.size w w' := by
  obtain ⟨oa1, cap1, rfl, hl1, hm1, hc1⟩ := h1
  obtain ⟨oa2, cap2, rfl, hl2, hm2, hc2⟩ := h2
  have HC1 := Lib.hid hc1
  have HC2 := Lib.hid hc2
  clear hc1 hc2
  go_enter Tryz.func36, Tryz.ntmps36
  go_wp2
  go_loopw [13] (fun iv wr => ∃ k : Nat, k ≤ cs.length ∧ iv = .int .i64 k ∧ Below w.heap.size w wr) (fun iv _ => cs.length - (intOf iv).toNat)
  case atStart => exact ⟨0, Nat.zero_le _, rfl, Below.refl _ _⟩
  case round =>
    obtain ⟨k, hk, rfl, hb⟩ := hrel
    have HB := Lib.hid hb
    clear hb
    by_cases hlt : k < cs.length
    · obtain ⟨c, hc, _, _⟩ := nth cs k hlt
      have hne : cs ≠ [] := by intro h; rw [h] at hlt; simp at hlt
      obtain ⟨b1, o1, rfl, hcs1⟩ := HC1.out hne
      obtain ⟨b2, o2, rfl, hcs2⟩ := HC2.out hne
      obtain ⟨nv1, rv1, hi1, hx1⟩ := hcs1 k c hc
      obtain ⟨nv2, rv2, hi2, hx2⟩ := hcs2 k c hc
      obtain ⟨n1, m1, rfl, _, _⟩ := hi1.1.1.at
      obtain ⟨r1, s1, rfl, _⟩ := hi1.1.2.at
      obtain ⟨n2, m2, rfl, _, _⟩ := hi2.1.1.at
      obtain ⟨r2, s2, rfl, _⟩ := hi2.1.2.at
      have HI1 := Lib.hid (hi1.1.below HB.out)
      have HI2 := Lib.hid (hi2.1.below HB.out)
      have g1 : ∀ (j : Nat) u, (cmCs c (.slice n1 c.nums.length m1) (.slice r1 c.raw.length s1))[j]? = some u → wr.cell? ⟨b1, o1 + k * 13 + j, none⟩ = some u := fun j u hj => cell_later HB.out (hx1 j u hj)
      have g2 : ∀ (j : Nat) u, (cmCs c (.slice n2 c.nums.length m2) (.slice r2 c.raw.length s2))[j]? = some u → wr.cell? ⟨b2, o2 + k * 13 + j, none⟩ = some u := fun j u hj => cell_later HB.out (hx2 j u hj)
      have c0 : wr.cell? ⟨b1, o1 + k * 13, none⟩ = some (.string ⟨c.verb.toArray⟩) := g1 0 _ rfl
      have c1 : wr.cell? ⟨b1, o1 + k * 13 + 1, none⟩ = some (.slice n1 c.nums.length m1) := g1 1 _ rfl
      have c2 : wr.cell? ⟨b1, o1 + k * 13 + 2, none⟩ = some (.int .i64 c.ev.kind) := g1 2 _ rfl
      have c3 : wr.cell? ⟨b1, o1 + k * 13 + 3, none⟩ = some (.int .i64 c.ev.order) := g1 3 _ rfl
      have c4 : wr.cell? ⟨b1, o1 + k * 13 + 4, none⟩ = some (.int .i64 c.ev.item) := g1 4 _ rfl
      have c5 : wr.cell? ⟨b1, o1 + k * 13 + 5, none⟩ = some (.int .i64 c.ev.qty) := g1 5 _ rfl
      have c6 : wr.cell? ⟨b1, o1 + k * 13 + 6, none⟩ = some (.int .i64 c.ev.price) := g1 6 _ rfl
      have c7 : wr.cell? ⟨b1, o1 + k * 13 + 7, none⟩ = some (.int .i64 c.ev.cur) := g1 7 _ rfl
      have c8 : wr.cell? ⟨b1, o1 + k * 13 + 8, none⟩ = some (.int .i64 c.ev.tax) := g1 8 _ rfl
      have c9 : wr.cell? ⟨b1, o1 + k * 13 + 9, none⟩ = some (.string ⟨c.ev.who.toArray⟩) := g1 9 _ rfl
      have c10 : wr.cell? ⟨b1, o1 + k * 13 + 10, none⟩ = some (.int .i64 c.ev.stamp) := g1 10 _ rfl
      have c11 : wr.cell? ⟨b1, o1 + k * 13 + 11, none⟩ = some (.string ⟨c.ev.note.toArray⟩) := g1 11 _ rfl
      have c12 : wr.cell? ⟨b1, o1 + k * 13 + 12, none⟩ = some (.slice r1 c.raw.length s1) := g1 12 _ rfl
      have d0 : wr.cell? ⟨b2, o2 + k * 13, none⟩ = some (.string ⟨c.verb.toArray⟩) := g2 0 _ rfl
      have d1 : wr.cell? ⟨b2, o2 + k * 13 + 1, none⟩ = some (.slice n2 c.nums.length m2) := g2 1 _ rfl
      have d2 : wr.cell? ⟨b2, o2 + k * 13 + 2, none⟩ = some (.int .i64 c.ev.kind) := g2 2 _ rfl
      have d3 : wr.cell? ⟨b2, o2 + k * 13 + 3, none⟩ = some (.int .i64 c.ev.order) := g2 3 _ rfl
      have d4 : wr.cell? ⟨b2, o2 + k * 13 + 4, none⟩ = some (.int .i64 c.ev.item) := g2 4 _ rfl
      have d5 : wr.cell? ⟨b2, o2 + k * 13 + 5, none⟩ = some (.int .i64 c.ev.qty) := g2 5 _ rfl
      have d6 : wr.cell? ⟨b2, o2 + k * 13 + 6, none⟩ = some (.int .i64 c.ev.price) := g2 6 _ rfl
      have d7 : wr.cell? ⟨b2, o2 + k * 13 + 7, none⟩ = some (.int .i64 c.ev.cur) := g2 7 _ rfl
      have d8 : wr.cell? ⟨b2, o2 + k * 13 + 8, none⟩ = some (.int .i64 c.ev.tax) := g2 8 _ rfl
      have d9 : wr.cell? ⟨b2, o2 + k * 13 + 9, none⟩ = some (.string ⟨c.ev.who.toArray⟩) := g2 9 _ rfl
      have d10 : wr.cell? ⟨b2, o2 + k * 13 + 10, none⟩ = some (.int .i64 c.ev.stamp) := g2 10 _ rfl
      have d11 : wr.cell? ⟨b2, o2 + k * 13 + 11, none⟩ = some (.string ⟨c.ev.note.toArray⟩) := g2 11 _ rfl
      have d12 : wr.cell? ⟨b2, o2 + k * 13 + 12, none⟩ = some (.slice r2 c.raw.length s2) := g2 12 _ rfl
      have q1 : (k : Int) < (cs.length : Int) := by omega
      have keep0 : Hid (wr.drew.cell? ⟨b1, o1 + k * 13, none⟩ = some (.string ⟨c.verb.toArray⟩) ∧ wr.drew.cell? ⟨b1, o1 + k * 13 + 1, none⟩ = some (.slice n1 c.nums.length m1) ∧ wr.drew.cell? ⟨b1, o1 + k * 13 + 2, none⟩ = some (.int .i64 c.ev.kind) ∧ wr.drew.cell? ⟨b1, o1 + k * 13 + 3, none⟩ = some (.int .i64 c.ev.order) ∧ wr.drew.cell? ⟨b1, o1 + k * 13 + 4, none⟩ = some (.int .i64 c.ev.item) ∧ wr.drew.cell? ⟨b1, o1 + k * 13 + 5, none⟩ = some (.int .i64 c.ev.qty) ∧ wr.drew.cell? ⟨b1, o1 + k * 13 + 6, none⟩ = some (.int .i64 c.ev.price) ∧ wr.drew.cell? ⟨b1, o1 + k * 13 + 7, none⟩ = some (.int .i64 c.ev.cur) ∧ wr.drew.cell? ⟨b1, o1 + k * 13 + 8, none⟩ = some (.int .i64 c.ev.tax) ∧ wr.drew.cell? ⟨b1, o1 + k * 13 + 9, none⟩ = some (.string ⟨c.ev.who.toArray⟩) ∧ wr.drew.cell? ⟨b1, o1 + k * 13 + 10, none⟩ = some (.int .i64 c.ev.stamp) ∧ wr.drew.cell? ⟨b1, o1 + k * 13 + 11, none⟩ = some (.string ⟨c.ev.note.toArray⟩) ∧ wr.drew.cell? ⟨b1, o1 + k * 13 + 12, none⟩ = some (.slice r1 c.raw.length s1) ∧ wr.drew.cell? ⟨b2, o2 + k * 13, none⟩ = some (.string ⟨c.verb.toArray⟩) ∧ wr.drew.cell? ⟨b2, o2 + k * 13 + 1, none⟩ = some (.slice n2 c.nums.length m2) ∧ wr.drew.cell? ⟨b2, o2 + k * 13 + 2, none⟩ = some (.int .i64 c.ev.kind) ∧ wr.drew.cell? ⟨b2, o2 + k * 13 + 3, none⟩ = some (.int .i64 c.ev.order) ∧ wr.drew.cell? ⟨b2, o2 + k * 13 + 4, none⟩ = some (.int .i64 c.ev.item) ∧ wr.drew.cell? ⟨b2, o2 + k * 13 + 5, none⟩ = some (.int .i64 c.ev.qty) ∧ wr.drew.cell? ⟨b2, o2 + k * 13 + 6, none⟩ = some (.int .i64 c.ev.price) ∧ wr.drew.cell? ⟨b2, o2 + k * 13 + 7, none⟩ = some (.int .i64 c.ev.cur) ∧ wr.drew.cell? ⟨b2, o2 + k * 13 + 8, none⟩ = some (.int .i64 c.ev.tax) ∧ wr.drew.cell? ⟨b2, o2 + k * 13 + 9, none⟩ = some (.string ⟨c.ev.who.toArray⟩) ∧ wr.drew.cell? ⟨b2, o2 + k * 13 + 10, none⟩ = some (.int .i64 c.ev.stamp) ∧ wr.drew.cell? ⟨b2, o2 + k * 13 + 11, none⟩ = some (.string ⟨c.ev.note.toArray⟩) ∧ wr.drew.cell? ⟨b2, o2 + k * 13 + 12, none⟩ = some (.slice r2 c.raw.length s2) ∧ Below wr.heap.size wr wr.drew) := Lib.hid ⟨c0, c1, c2, c3, c4, c5, c6, c7, c8, c9, c10, c11, c12, d0, d1, d2, d3, d4, d5, d6, d7, d8, d9, d10, d11, d12, (Below.refl _ _).drew⟩
      have keepN : Hid (∀ x y : World, Below x.heap.size x y → Below wr.heap.size wr x → y.cell? ⟨b1, o1 + k * 13, none⟩ = some (.string ⟨c.verb.toArray⟩) ∧ y.cell? ⟨b1, o1 + k * 13 + 1, none⟩ = some (.slice n1 c.nums.length m1) ∧ y.cell? ⟨b1, o1 + k * 13 + 2, none⟩ = some (.int .i64 c.ev.kind) ∧ y.cell? ⟨b1, o1 + k * 13 + 3, none⟩ = some (.int .i64 c.ev.order) ∧ y.cell? ⟨b1, o1 + k * 13 + 4, none⟩ = some (.int .i64 c.ev.item) ∧ y.cell? ⟨b1, o1 + k * 13 + 5, none⟩ = some (.int .i64 c.ev.qty) ∧ y.cell? ⟨b1, o1 + k * 13 + 6, none⟩ = some (.int .i64 c.ev.price) ∧ y.cell? ⟨b1, o1 + k * 13 + 7, none⟩ = some (.int .i64 c.ev.cur) ∧ y.cell? ⟨b1, o1 + k * 13 + 8, none⟩ = some (.int .i64 c.ev.tax) ∧ y.cell? ⟨b1, o1 + k * 13 + 9, none⟩ = some (.string ⟨c.ev.who.toArray⟩) ∧ y.cell? ⟨b1, o1 + k * 13 + 10, none⟩ = some (.int .i64 c.ev.stamp) ∧ y.cell? ⟨b1, o1 + k * 13 + 11, none⟩ = some (.string ⟨c.ev.note.toArray⟩) ∧ y.cell? ⟨b1, o1 + k * 13 + 12, none⟩ = some (.slice r1 c.raw.length s1) ∧ y.cell? ⟨b2, o2 + k * 13, none⟩ = some (.string ⟨c.verb.toArray⟩) ∧ y.cell? ⟨b2, o2 + k * 13 + 1, none⟩ = some (.slice n2 c.nums.length m2) ∧ y.cell? ⟨b2, o2 + k * 13 + 2, none⟩ = some (.int .i64 c.ev.kind) ∧ y.cell? ⟨b2, o2 + k * 13 + 3, none⟩ = some (.int .i64 c.ev.order) ∧ y.cell? ⟨b2, o2 + k * 13 + 4, none⟩ = some (.int .i64 c.ev.item) ∧ y.cell? ⟨b2, o2 + k * 13 + 5, none⟩ = some (.int .i64 c.ev.qty) ∧ y.cell? ⟨b2, o2 + k * 13 + 6, none⟩ = some (.int .i64 c.ev.price) ∧ y.cell? ⟨b2, o2 + k * 13 + 7, none⟩ = some (.int .i64 c.ev.cur) ∧ y.cell? ⟨b2, o2 + k * 13 + 8, none⟩ = some (.int .i64 c.ev.tax) ∧ y.cell? ⟨b2, o2 + k * 13 + 9, none⟩ = some (.string ⟨c.ev.who.toArray⟩) ∧ y.cell? ⟨b2, o2 + k * 13 + 10, none⟩ = some (.int .i64 c.ev.stamp) ∧ y.cell? ⟨b2, o2 + k * 13 + 11, none⟩ = some (.string ⟨c.ev.note.toArray⟩) ∧ y.cell? ⟨b2, o2 + k * 13 + 12, none⟩ = some (.slice r2 c.raw.length s2) ∧ Below wr.heap.size wr y) :=
        Lib.hid fun x y h1 h2 => by
          have h3 := Below.next h2 h1
          exact ⟨cell_later h3 c0, cell_later h3 c1, cell_later h3 c2, cell_later h3 c3, cell_later h3 c4, cell_later h3 c5, cell_later h3 c6, cell_later h3 c7, cell_later h3 c8, cell_later h3 c9, cell_later h3 c10, cell_later h3 c11, cell_later h3 c12, cell_later h3 d0, cell_later h3 d1, cell_later h3 d2, cell_later h3 d3, cell_later h3 d4, cell_later h3 d5, cell_later h3 d6, cell_later h3 d7, cell_later h3 d8, cell_later h3 d9, cell_later h3 d10, cell_later h3 d11, cell_later h3 d12, h3⟩
      clear hc hne hcs1 hcs2 hi1 hi2 hx1 hx2 g1 g2
      go_wp2_with fail
      clear c0 c1 c2 c3 c4 c5 c6 c7 c8 c9 c10 c11 c12 d0 d1 d2 d3 d4 d5 d6 d7 d8 d9 d10 d11 d12
      first | (go_region_held3 (fun w' => w'.cell? ⟨b1, o1 + k * 13, none⟩ = some (.string ⟨c.verb.toArray⟩) ∧ w'.cell? ⟨b1, o1 + k * 13 + 1, none⟩ = some (.slice n1 c.nums.length m1) ∧ w'.cell? ⟨b1, o1 + k * 13 + 2, none⟩ = some (.int .i64 c.ev.kind) ∧ w'.cell? ⟨b1, o1 + k * 13 + 3, none⟩ = some (.int .i64 c.ev.order) ∧ w'.cell? ⟨b1, o1 + k * 13 + 4, none⟩ = some (.int .i64 c.ev.item) ∧ w'.cell? ⟨b1, o1 + k * 13 + 5, none⟩ = some (.int .i64 c.ev.qty) ∧ w'.cell? ⟨b1, o1 + k * 13 + 6, none⟩ = some (.int .i64 c.ev.price) ∧ w'.cell? ⟨b1, o1 + k * 13 + 7, none⟩ = some (.int .i64 c.ev.cur) ∧ w'.cell? ⟨b1, o1 + k * 13 + 8, none⟩ = some (.int .i64 c.ev.tax) ∧ w'.cell? ⟨b1, o1 + k * 13 + 9, none⟩ = some (.string ⟨c.ev.who.toArray⟩) ∧ w'.cell? ⟨b1, o1 + k * 13 + 10, none⟩ = some (.int .i64 c.ev.stamp) ∧ w'.cell? ⟨b1, o1 + k * 13 + 11, none⟩ = some (.string ⟨c.ev.note.toArray⟩) ∧ w'.cell? ⟨b1, o1 + k * 13 + 12, none⟩ = some (.slice r1 c.raw.length s1) ∧ w'.cell? ⟨b2, o2 + k * 13, none⟩ = some (.string ⟨c.verb.toArray⟩) ∧ w'.cell? ⟨b2, o2 + k * 13 + 1, none⟩ = some (.slice n2 c.nums.length m2) ∧ w'.cell? ⟨b2, o2 + k * 13 + 2, none⟩ = some (.int .i64 c.ev.kind) ∧ w'.cell? ⟨b2, o2 + k * 13 + 3, none⟩ = some (.int .i64 c.ev.order) ∧ w'.cell? ⟨b2, o2 + k * 13 + 4, none⟩ = some (.int .i64 c.ev.item) ∧ w'.cell? ⟨b2, o2 + k * 13 + 5, none⟩ = some (.int .i64 c.ev.qty) ∧ w'.cell? ⟨b2, o2 + k * 13 + 6, none⟩ = some (.int .i64 c.ev.price) ∧ w'.cell? ⟨b2, o2 + k * 13 + 7, none⟩ = some (.int .i64 c.ev.cur) ∧ w'.cell? ⟨b2, o2 + k * 13 + 8, none⟩ = some (.int .i64 c.ev.tax) ∧ w'.cell? ⟨b2, o2 + k * 13 + 9, none⟩ = some (.string ⟨c.ev.who.toArray⟩) ∧ w'.cell? ⟨b2, o2 + k * 13 + 10, none⟩ = some (.int .i64 c.ev.stamp) ∧ w'.cell? ⟨b2, o2 + k * 13 + 11, none⟩ = some (.string ⟨c.ev.note.toArray⟩) ∧ w'.cell? ⟨b2, o2 + k * 13 + 12, none⟩ = some (.slice r2 c.raw.length s2) ∧ Below wr.heap.size wr w')
        (first | exact keep0.out | assumption | (go_split_ands; exact keepN.out _ _ hb7 (by assumption)))
        (first
          | (go_at_call 31; go_split_ands; refine (sameCmd_any c (.slice n1 c.nums.length m1) (.slice r1 c.raw.length s1) (.slice n2 c.nums.length m2) (.slice r2 c.raw.length s2) _ (HI1.out.below (by assumption)) (HI2.out.below (by assumption))).mono ?_; rintro x w7 ⟨rfl, hb7⟩))) | fail
      all_goals
        rename_i hHeld
        have hBl := hHeld.2.2.2.2.2.2.2.2.2.2.2.2.2.2.2.2.2.2.2.2.2.2.2.2.2.2
        have HB7 := Lib.hid (Below.next HB.out hBl)
        clear hHeld hBl keep0 keepN
        go_wp2
        go_roundw
        case rel => exact ⟨k + 1, by omega, by go_num, HB7.out⟩
        case measure => simp [intOf]; omega
    · obtain rfl : k = cs.length := by omega
      go_wp2
      go_ret
      exact ⟨rfl, HB.out⟩

end Go.Proofs.YtecmpmnidlfgnaaGreatDoor
