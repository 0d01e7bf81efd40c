import Derived.Test.YtecmpmnidlfgnaaGreatDoorRecRow
import Derived.Test.YtecmpmnidlfgnaaGreatDoorRecord
import Derived.Test.YtecmpmnidlfgnaaGreatDoorHex
namespace Go.Proofs.YtecmpmnidlfgnaaGreatDoor
open Go.RowKit

/-! ## dump.Text -/

theorem builder_later {B b : Nat} {bs : List Value} {w w' : World} (h : Lib.IsBuilder 113 5 B b bs w) (hb : Below w.heap.size w w') : Lib.IsBuilder 113 5 B b bs w' := by
  have key : ∀ p, Lib.BuilderAt 113 5 B b p bs w → Lib.BuilderAt 113 5 B b p bs w' := by
    rintro p ⟨h1, v, h2, h3, h4⟩
    exact ⟨h1, v, by rw [hb.block _ (Array.getElem?_eq_some_iff.1 h2).1]; exact h2, own_later h3 hb, h4⟩
  exact h.imp (key _) (key _)

set_option maxRecDepth 100000 in
set_option maxHeartbeats 4000000 in
theorem dumpText_any (rs : List Rec) (v : Value) (w : World) (hv : RecRow w v rs) (hn : rs.length ≤ 2097152) (hok : ∀ r ∈ rs, RecOk 2097152 r) (hL : LibV w) :
    Calls Tryz.prog 22 #[v] w (WordsPost (textOf rs) w) := by
  have HL := Lib.hid hL
  have HOK := Lib.hid hok
  have HS := Lib.hid (fresh_builder w)
  have HT := Lib.hid (addT_nil rs)
  clear hL hok
  rcases hv.shape with ⟨rfl, oa, cap, rfl⟩ | ⟨b, off, cap, rfl, hlc, hc9, hcs⟩
  · go_enter Tryz.func22, Tryz.ntmps22
    go_wp2
    refine wp_loop_rounds 1 ?_
    rw [rounds_succ]
    go_wp2_with fail
    refine (Tryz.Builder_String_any w.heap.size w.heap.size [] _ HS.out (by simp)).mono ?_
    rintro e w2 ⟨rfl, hb2⟩
    go_wp2
    go_ret2
    exact ⟨rfl, ((Below.refl _ _).alloc (Nat.le_refl _) _).trans hb2⟩
  have HC := Lib.hid hcs
  clear hv hcs
  go_enter Tryz.func22, Tryz.ntmps22
  go_wp2
  go_loopw [11] (fun iv wr => ∃ (k : Nat) (S : List UInt8), k ≤ rs.length ∧ iv = .int .i64 k ∧ Lib.IsBuilder 113 5 w.heap.size w.heap.size (Lib.byteCells S) wr ∧ Below w.heap.size w wr ∧ Hid (textOf rs = addT S (textOf (rs.drop k))) ∧ S.length ≤ k * 29360200) (fun iv _ => rs.length - (intOf iv).toNat)
  case atStart => exact ⟨0, [], Nat.zero_le _, rfl, HS.out, (Below.refl _ _).alloc (Nat.le_refl _) _, HT, Nat.zero_le _⟩
  case round =>
    obtain ⟨k, S, hk, rfl, hbd, hb, HTk, hsl⟩ := hrel
    have HB := Lib.hid hb
    have HD := Lib.hid hbd
    clear hb hbd HT HS
    by_cases hlt : k < rs.length
    · obtain ⟨r, hr, _, hmem⟩ := nth rs k hlt
      have HD2 := Lib.hid (drop_cons hr)
      have HRO := Lib.hid (HOK.out r hmem)
      have q1 : (k : Int) < (rs.length : Int) := by omega
      have HCr := Lib.hid (show ∀ (j : Nat) u, (rcCs r)[j]? = some u → wr.cell? ⟨b, off + k * 11 + j, none⟩ = some u from fun j u hj => cell_later HB.out (HC.out k r hr j u hj))
      clear hr hmem
      go_wp2_with (with_reducible refine wpList_load_rcAt rfl (.tmp 13) rfl b (off + k * 11) r rfl HCr.out ?_)
      refine (dumpLine_any r.1 r.2 _ HRO.out.ev HRO.out.seq ?_).mono ?_
      · exact HL.out.below (Below.alloc HB.out HB.out.size _)
      rintro x w2 ⟨rfl, hb2⟩
      have hbA : Below wr.heap.size wr w2 := Below.next ((Below.refl _ _).alloc (Nat.le_refl _) _) hb2
      have HB2 := Lib.hid (Below.next HB.out hbA)
      have HD3 := Lib.hid (builder_later HD.out hbA)
      have hll := line_len HRO.out
      clear hb2 hbA HB HD
      obtain ⟨X, hX⟩ : ∃ X, X = lineOf r.1 r.2 := ⟨_, rfl⟩
      have HX := Lib.hid hX
      rw [← hX] at hll ⊢
      clear hX
      obtain ⟨l, c⟩ := X
      simp only at *
      by_cases hc : c ≠ 0
      · have hfin := Lib.hid (show textOf rs = ([], c) by rw [HTk.out, HD2.out, addT_bad (by rw [← HX.out]; exact hc), ← HX.out])
        have t3 : (c != 0) = true := by rw [bne_iff_ne]; exact hc
        clear hc
        go_wp2
        go_ret2
        exact ⟨by rw [hfin.out]; rfl, HB2.out⟩
      · have hc0 : c = 0 := Classical.byContradiction hc
        have HN := Lib.hid (show textOf rs = addT (S ++ l ++ [10]) (textOf (rs.drop (k + 1))) by rw [HTk.out, HD2.out, addT_good (by rw [← HX.out]; exact hc0), ← HX.out, List.append_assoc])
        have t3 : (c != 0) = false := by rw [bne_eq_false_iff_eq]; exact hc0
        have hsz := HB2.out.size
        clear hc hc0
        go_wp2_with fail
        refine (WriteString_any w.heap.size w.heap.size _ ⟨l.toArray⟩ _ HD3.out (by rw [Lib.byteCells_length]; simp [ByteArray.size]; omega) hsz).mono ?_
        rintro x w3 ⟨rfl, hd3, hb3⟩
        have HD4 := Lib.hid (show Lib.IsBuilder 113 5 w.heap.size w.heap.size _ w3 from .inr hd3)
        have HB3 := Lib.hid (HB2.out.trans hb3)
        have hsz3 := (HB2.out.trans hb3).size
        clear hd3 hb3
        go_wp2_with fail
        refine (WriteByte_any w.heap.size w.heap.size _ 10 _ HD4.out (by rw [List.length_append, Lib.byteCells_length, Lib.strCells_length]; simp [ByteArray.size]; omega) hsz3).mono ?_
        rintro x w4 ⟨rfl, hd4, hb4⟩
        have HD5 := Lib.hid (show Lib.IsBuilder 113 5 w.heap.size w.heap.size (Lib.byteCells (S ++ l ++ [10])) w4 from .inr (by rw [Lib.byteCells_append, Lib.byteCells_append]; exact hd4))
        have HB4 := Lib.hid (HB3.out.trans hb4)
        clear hd4 hb4
        go_wp2
        go_roundw
        case rel => exact ⟨k + 1, S ++ l ++ [10], by omega, by go_num, HD5.out, HB4.out, HN, by simp; omega⟩
        case measure => simp [intOf]; omega
    · obtain rfl : k = rs.length := by omega
      have hfin := Lib.hid (show textOf rs = (S, 0) by rw [HTk.out, List.drop_length]; exact addT_end S)
      have hsz := HB.out.size
      go_wp2_with fail
      refine (Tryz.Builder_String_any w.heap.size w.heap.size _ _ HD.out hsz).mono ?_
      rintro e w2 ⟨rfl, hb2⟩
      go_wp2
      go_ret2
      exact ⟨by rw [hfin.out]; rfl, HB.out.trans hb2⟩

end Go.Proofs.YtecmpmnidlfgnaaGreatDoor

namespace Go.Proofs.YtecmpmnidlfgnaaGreatDoor
open Go.RowKit

/-! ## dump.Read -/

set_option maxRecDepth 100000 in
set_option maxHeartbeats 8000000 in
theorem dumpRead_gen (s : List UInt8) (w : World) (hs : s.length ≤ 2147483648) (hln : ∀ x ∈ splitOn 10 s, x.length ≤ 2097152) (hL : LibV w) (hgl : ∀ g, (g = 0 ∨ g = 2 ∨ g = 3 ∨ g = 1) → g < w.heap.size) :
    Calls Tryz.prog 25 #[.string ⟨s.toArray⟩] w (ReadPost (readOf s) w) := by
  obtain ⟨i0, hi, hz0, hz1, hz2⟩ := info_parts infoRec
  have HL := Lib.hid hL
  have HGL := Lib.hid hgl
  have HLN := Lib.hid hln
  have HT := Lib.hid (show readOf s = addL [] (linesOf 1 (splitOn 10 s)) from addL_nil 1 (by decide) _)
  clear hL hgl hln
  go_enter Tryz.func25, Tryz.ntmps25
  go_wp2
  go_loopw [0, 5, 6] (fun tv ov nv wr => ∃ (t : List UInt8) (acc : List Rec) (k : Nat), tv = .string ⟨t.toArray⟩ ∧ nv = .int .i64 (k + 1 : Nat) ∧ acc.length = k ∧ t.length + k ≤ s.length ∧ wr.ownsRow w.heap.size 37 11 ov acc.length (recCells acc) ∧ Below w.heap.size w wr ∧ Hid (∀ x ∈ splitOn 10 t, x.length ≤ 2097152) ∧ Hid (readOf s = addL acc (linesOf (k + 1 : Nat) (splitOn 10 t)))) (fun tv _ _ _ => match tv with | .string b => b.size | _ => 0)
  case atStart => exact ⟨s, [], 0, rfl, rfl, rfl, by omega, World.ownsRow_nil _ _ _ _, Below.refl _ _, HLN, HT⟩
  case round =>
    obtain ⟨t, acc, k, rfl, rfl, hacc, htl, hown, hb, HLk, HTk⟩ := hrel
    have HO := Lib.hid hown
    have HB := Lib.hid hb
    clear hown hb HT
    by_cases ht : t = []
    · have hfin := Lib.hid (show readOf s = (acc, 0, 0) by rw [HTk.out, ht]; exact addL_last)
      subst ht
      subst hacc
      obtain ⟨oa, ocap, rfl, _, _⟩ := own_shape HO.out
      go_wp2
      refine bodyPost_ret (v := .tuple #[.slice oa acc.length ocap, .int .i64 0, .int .i64 0]) (by simp [results, Tryz.results25, go_sem]) rfl ⟨_, by rw [hfin.out], by rw [hfin.out]; exact HO.out, HB.out⟩
    · have kt : t.isEmpty = false := by simpa using ht
      have kt2 : (t != []) = true := by rw [bne_iff_ne]; exact ht
      have HTN := Lib.hid ht
      clear ht
      go_wp2_with fail
      refine (Cut_any t 10 _ (HL.out.below HB.out) (by omega)).mono ?_
      rintro x w2 ⟨rfl, hb2⟩
      have HB2 := Lib.hid (Below.next HB.out hb2)
      have HO2 := Lib.hid (own_later HO.out hb2)
      clear hb2 HO HB
      cases hcut : cutAt 10 t with
      | none =>
        have hfin := Lib.hid (show readOf s = ([], ((k + 1 : Nat) : Int), 10) by rw [HTk.out, splitOn_cut, hcut]; exact addL_short HTN.out)
        have hcv := Lib.hid (show cutV 10 t = (t, [], false) by unfold cutV; rw [hcut])
        clear hcut
        rw [hcv.out]
        go_wp2
        exact bodyPost_ret (v := .tuple #[.slice none 0 0, .int .i64 (k + 1 : Nat), .int .i64 10]) (by simp [results, Tryz.results25, go_sem]) rfl ⟨_, by rw [hfin.out], by rw [hfin.out]; exact World.ownsRow_nil _ _ _ _, HB2.out⟩
      | some p =>
        obtain ⟨a, b⟩ := p
        have hcv := Lib.hid (show cutV 10 t = (a, b, true) by unfold cutV; rw [hcut])
        have HSP := Lib.hid (show splitOn 10 t = a :: splitOn 10 b by rw [splitOn_cut, hcut])
        obtain ⟨hsp, _⟩ := cutAt_some hcut
        have hal : a.length + b.length + 1 = t.length := by
          have := congrArg List.length hsp
          simp at this; omega
        have ha2 : a.length ≤ 2097152 := HLk.out a (by rw [HSP.out]; simp)
        have HLb := Lib.hid (show ∀ x ∈ splitOn 10 b, x.length ≤ 2097152 from fun x hx => HLk.out x (by rw [HSP.out]; exact List.mem_cons_of_mem _ hx))
        clear hcut hsp
        rw [hcv.out]
        go_wp2_with fail
        refine (dumpRecord_any a _ (HL.out.below HB2.out) (fun g h => by have := HGL.out g h; have := HB2.out.size; omega) (by omega)).mono ?_
        rintro x w3 ⟨rfl, hb3⟩
        have HB3 := Lib.hid (Below.next HB2.out hb3)
        have HO3 := Lib.hid (own_later HO2.out hb3)
        clear hb3 HB2 HO2
        obtain ⟨X, hX⟩ : ∃ X, X = recordOf a := ⟨_, rfl⟩
        have HX := Lib.hid hX
        rw [← hX]
        clear hX
        obtain ⟨r, c⟩ := X
        simp only at *
        have hbB := (show Below w3.heap.size w3 (w3.alloc (.cells #[.int .i64 r.1, .int .i64 r.2.kind, .int .i64 r.2.order, .int .i64 r.2.item, .int .i64 r.2.qty, .int .i64 r.2.price, .int .i64 r.2.cur, .int .i64 r.2.tax, .string ⟨r.2.who.toArray⟩, .int .i64 r.2.stamp, .string ⟨r.2.note.toArray⟩] 37)) from (Below.refl _ _).alloc (Nat.le_refl _) _)
        have HR4 := Lib.hid (show RcBlk (w3.alloc (.cells #[.int .i64 r.1, .int .i64 r.2.kind, .int .i64 r.2.order, .int .i64 r.2.item, .int .i64 r.2.qty, .int .i64 r.2.price, .int .i64 r.2.cur, .int .i64 r.2.tax, .string ⟨r.2.who.toArray⟩, .int .i64 r.2.stamp, .string ⟨r.2.note.toArray⟩] 37)) w3.heap.size r from rcBlk_alloc w3 r)
        have HB4 := Lib.hid (Below.next HB3.out hbB)
        have HO4 := Lib.hid (own_later HO3.out hbB)
        clear hbB
        by_cases hc : c ≠ 0
        · have hfin := Lib.hid (show readOf s = ([], ((k + 1 : Nat) : Int), c) by
            rw [HTk.out, HSP.out, addL_bad (splitOn_ne _ _) (by rw [← HX.out]; exact hc), ← HX.out])
          have t3 : (c != 0) = true := by rw [bne_iff_ne]; exact hc
          clear hc
          go_wp2
          exact bodyPost_ret (v := .tuple #[.slice none 0 0, .int .i64 (k + 1 : Nat), .int .i64 c]) (by simp [results, Tryz.results25, go_sem]) rfl ⟨_, by rw [hfin.out], by rw [hfin.out]; exact World.ownsRow_nil _ _ _ _, HB4.out⟩
        · have hc0 : c = 0 := Classical.byContradiction hc
          have HN := Lib.hid (show readOf s = addL (acc ++ [r]) (linesOf ((k + 1 : Nat) + 1 : Nat) (splitOn 10 b)) by
            rw [HTk.out, HSP.out, addL_good (splitOn_ne _ _) (by rw [← HX.out]; exact hc0), ← HX.out]; rfl)
          have t3 : (c != 0) = false := by rw [bne_eq_false_iff_eq]; exact hc0
          clear hc hc0
          have hs4 : (w3.alloc (.cells #[.int .i64 r.1, .int .i64 r.2.kind, .int .i64 r.2.order, .int .i64 r.2.item, .int .i64 r.2.qty, .int .i64 r.2.price, .int .i64 r.2.cur, .int .i64 r.2.tax, .string ⟨r.2.who.toArray⟩, .int .i64 r.2.stamp, .string ⟨r.2.note.toArray⟩] 37)).heap.size = w3.heap.size + 1 := by simp
          have hbC := (show Below (w3.alloc (.cells #[.int .i64 r.1, .int .i64 r.2.kind, .int .i64 r.2.order, .int .i64 r.2.item, .int .i64 r.2.qty, .int .i64 r.2.price, .int .i64 r.2.cur, .int .i64 r.2.tax, .string ⟨r.2.who.toArray⟩, .int .i64 r.2.stamp, .string ⟨r.2.note.toArray⟩] 37)).heap.size (w3.alloc (.cells #[.int .i64 r.1, .int .i64 r.2.kind, .int .i64 r.2.order, .int .i64 r.2.item, .int .i64 r.2.qty, .int .i64 r.2.price, .int .i64 r.2.cur, .int .i64 r.2.tax, .string ⟨r.2.who.toArray⟩, .int .i64 r.2.stamp, .string ⟨r.2.note.toArray⟩] 37)) ((w3.alloc (.cells #[.int .i64 r.1, .int .i64 r.2.kind, .int .i64 r.2.order, .int .i64 r.2.item, .int .i64 r.2.qty, .int .i64 r.2.price, .int .i64 r.2.cur, .int .i64 r.2.tax, .string ⟨r.2.who.toArray⟩, .int .i64 r.2.stamp, .string ⟨r.2.note.toArray⟩] 37)).alloc (.cells #[.int .i64 r.1, .int .i64 r.2.kind, .int .i64 r.2.order, .int .i64 r.2.item, .int .i64 r.2.qty, .int .i64 r.2.price, .int .i64 r.2.cur, .int .i64 r.2.tax, .string ⟨r.2.who.toArray⟩, .int .i64 r.2.stamp, .string ⟨r.2.note.toArray⟩] 37)) from (Below.refl _ _).alloc (Nat.le_refl _) _)
          have HB5 := Lib.hid (Below.next HB4.out hbC)
          have HO5 := Lib.hid (own_later HO4.out hbC)
          have hc5 : ∀ (j : Nat) u, (rcCs r)[j]? = some u → ((w3.alloc (.cells #[.int .i64 r.1, .int .i64 r.2.kind, .int .i64 r.2.order, .int .i64 r.2.item, .int .i64 r.2.qty, .int .i64 r.2.price, .int .i64 r.2.cur, .int .i64 r.2.tax, .string ⟨r.2.who.toArray⟩, .int .i64 r.2.stamp, .string ⟨r.2.note.toArray⟩] 37)).alloc (.cells #[.int .i64 r.1, .int .i64 r.2.kind, .int .i64 r.2.order, .int .i64 r.2.item, .int .i64 r.2.qty, .int .i64 r.2.price, .int .i64 r.2.cur, .int .i64 r.2.tax, .string ⟨r.2.who.toArray⟩, .int .i64 r.2.stamp, .string ⟨r.2.note.toArray⟩] 37)).cell? ⟨(w3.alloc (.cells #[.int .i64 r.1, .int .i64 r.2.kind, .int .i64 r.2.order, .int .i64 r.2.item, .int .i64 r.2.qty, .int .i64 r.2.price, .int .i64 r.2.cur, .int .i64 r.2.tax, .string ⟨r.2.who.toArray⟩, .int .i64 r.2.stamp, .string ⟨r.2.note.toArray⟩] 37)).heap.size, j, none⟩ = some u := fun j u h => by rw [World.cell?_alloc_new]; exact h
          clear hbC
          go_wp2_with (first
            | (with_reducible refine wpList_load_rc rfl (.tmp 10) rfl w3.heap.size r rfl HR4.out ?_)
            | (at_builtin; refine wpList_append_own _ rfl _ _ 45 rfl w.heap.size 37 i0 zeroRec 11 104 Tryz.underlying45 hi hz0 hz1 hz2 rfl (by decide) _ _ _ rfl HO5.out _ 1 1 (rcCs r).toList rfl rfl ?c1 ?c2 ?c3 ?c4 ?c5 ?_))
          case c1 =>
            intro j u hj
            have := hc5 j u (by simpa using hj)
            rw [addr_add, Nat.zero_add]
            first | exact this | (rw [hs4] at this; exact this)
          case c2 => intro u hu; exact Array.all_eq_true_iff_forall_mem.1 (rcCs_one r) u (by simpa using hu)
          case c3 => unfold maxLen; omega
          case c4 => omega
          case c5 => exact HB5.out.size
          intro v' w6 hown' hgrow _
          have HO6 := Lib.hid hown'
          have HB6 := Lib.hid (show Below w.heap.size w w6 from HB5.out.grown hgrow HB5.out.size (fun k e => (HO5.out.lt k e).1))
          clear hown' hgrow
          go_wp2
          go_roundw
          case rel => exact ⟨b, acc ++ [r], k + 1, rfl, by go_num, by simp; omega, by omega, by rw [recCells_append, recCells_one]; simpa [hacc] using HO6.out, HB6.out, HLb, HN⟩
          case measure => simp [ByteArray.size]; omega

theorem dumpRead_any (s : List UInt8) (w : World) (hs : s.length ≤ 2097152) (hL : LibV w) (hgl : ∀ g, (g = 0 ∨ g = 2 ∨ g = 3 ∨ g = 1) → g < w.heap.size) :
    Calls Tryz.prog 25 #[.string ⟨s.toArray⟩] w (ReadPost (readOf s) w) :=
  dumpRead_gen s w (by omega) (fun x hx => by have := splitOn_part 10 s x hx; omega) hL hgl

end Go.Proofs.YtecmpmnidlfgnaaGreatDoor
