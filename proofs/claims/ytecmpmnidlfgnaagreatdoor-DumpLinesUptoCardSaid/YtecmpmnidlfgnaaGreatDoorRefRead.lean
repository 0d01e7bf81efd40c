import Derived.Test.YtecmpmnidlfgnaaGreatDoorRecRow
import Derived.Test.YtecmpmnidlfgnaaGreatDoorRefEvent
import Derived.Test.YtecmpmnidlfgnaaGreatDoorRefSplit
namespace Go.Proofs.YtecmpmnidlfgnaaGreatDoor
open Go.RowKit

/-! ## the reference's Record -/

set_option maxRecDepth 100000 in
set_option maxHeartbeats 4000000 in
theorem refRecord_any (s : List UInt8) (w : World) (hs : s.length ≤ 2097152) :
    Calls Tryz.prog 19 #[.string ⟨s.toArray⟩] w (RecPost (recordOf s) w) := by
  have HB0 := Lib.hid (show Below w.heap.size w (w.alloc (.cells #[.int .i64 0, .int .i64 0, .int .i64 0, .int .i64 0, .int .i64 0, .int .i64 0, .int .i64 0, .int .i64 0, .string ⟨#[]⟩, .int .i64 0, .string ⟨#[]⟩] 37)) from (Below.refl _ _).alloc (Nat.le_refl _) _)
  have HR0 := Lib.hid (show RcBlk (w.alloc (.cells #[.int .i64 0, .int .i64 0, .int .i64 0, .int .i64 0, .int .i64 0, .int .i64 0, .int .i64 0, .int .i64 0, .string ⟨#[]⟩, .int .i64 0, .string ⟨#[]⟩] 37)) w.heap.size recNone from rcBlk_alloc w recNone)
  have HC := Lib.hid (fun W => refCut_any s 32 W (by omega))
  go_enter Tryz.func19, Tryz.ntmps19
  go_wp2_with fail
  generalize w.alloc (.cells #[.int .i64 0, .int .i64 0, .int .i64 0, .int .i64 0, .int .i64 0, .int .i64 0, .int .i64 0, .int .i64 0, .string ⟨#[]⟩, .int .i64 0, .string ⟨#[]⟩] 37) = w0 at *
  refine (HC.out _).mono ?_
  rintro x w1 ⟨rfl, hb1⟩
  have HB1 := Lib.hid (Below.next HB0.out hb1)
  have HR1 := Lib.hid (HR0.out.below hb1)
  clear hb1 HB0 HR0
  cases hcut : cutAt 32 s with
  | none =>
    have hfin := Lib.hid (rec_nocut hcut)
    have hcv := Lib.hid (show cutV 32 s = (s, [], false) by unfold cutV; rw [hcut])
    clear hcut
    rw [hcv.out]
    go_wp2_with (with_reducible refine wpList_store_rc rfl (.tmp 2) (.tmp 19) rfl w.heap.size recNone recNone rfl rfl HR1.out ?_)
    exact bodyPost_ret (v := .tuple #[recV recNone, .int .i64 100]) (results_rc rfl _ _ w.heap.size recNone _ rfl rfl (HR1.out.row recNone)) rfl ⟨by rw [hfin.out], Below.row HB1.out (Nat.le_refl _) _⟩
  | some p =>
    obtain ⟨a, b⟩ := p
    have HCUT := Lib.hid hcut
    have hcv := Lib.hid (show cutV 32 s = (a, b, true) by unfold cutV; rw [hcut])
    obtain ⟨hsp, _⟩ := cutAt_some hcut
    have hal : a.length + b.length ≤ 2097152 := by
      have := congrArg List.length hsp
      simp at this; omega
    clear hcut hsp
    rw [hcv.out]
    go_wp2_with fail
    refine (refNumber_any a _ (by omega)).mono ?_
    rintro x w2 ⟨rfl, rfl⟩
    have HB2 := HB1
    have HR2 := HR1
    cases hn : numberOf a with
    | none =>
      have hfin := Lib.hid (rec_nonum HCUT.out hn)
      rw [show numVal a = 0 by unfold numVal; rw [hn]; rfl, show numOk a = false by unfold numOk; rw [hn]; rfl]
      clear hn
      go_wp2_with (with_reducible refine wpList_store_rc rfl (.tmp 2) (.tmp 27) rfl w.heap.size recNone recNone rfl rfl HR2.out ?_)
      exact bodyPost_ret (v := .tuple #[recV recNone, .int .i64 101]) (results_rc rfl _ _ w.heap.size recNone _ rfl rfl (HR2.out.row recNone)) rfl ⟨by rw [hfin.out], Below.row HB2.out (Nat.le_refl _) _⟩
    | some n =>
      have HN := Lib.hid hn
      rw [show numVal a = n by unfold numVal; rw [hn]; rfl, show numOk a = true by unfold numOk; rw [hn]; rfl]
      clear hn
      by_cases h1 : n < 1
      · have hfin := Lib.hid (rec_seq HCUT.out HN.out (Or.inl h1))
        have t1 : decide (n < 1) = true := by rw [decide_eq_true_eq]; exact h1
        go_wp2_with (with_reducible refine wpList_store_rc rfl (.tmp 2) (.tmp 34) rfl w.heap.size recNone recNone rfl rfl HR2.out ?_)
        exact bodyPost_ret (v := .tuple #[recV recNone, .int .i64 1]) (results_rc rfl _ _ w.heap.size recNone _ rfl rfl (HR2.out.row recNone)) rfl ⟨by rw [hfin.out], Below.row HB2.out (Nat.le_refl _) _⟩
      have t1 : decide (n < 1) = false := by rw [decide_eq_false_iff_not]; exact h1
      by_cases h2 : 1099511627776 < n
      · have hfin := Lib.hid (rec_seq HCUT.out HN.out (Or.inr h2))
        have t2 : decide (1099511627776 < n) = true := by rw [decide_eq_true_eq]; exact h2
        go_wp2_with (with_reducible refine wpList_store_rc rfl (.tmp 2) (.tmp 34) rfl w.heap.size recNone recNone rfl rfl HR2.out ?_)
        exact bodyPost_ret (v := .tuple #[recV recNone, .int .i64 1]) (results_rc rfl _ _ w.heap.size recNone _ rfl rfl (HR2.out.row recNone)) rfl ⟨by rw [hfin.out], Below.row HB2.out (Nat.le_refl _) _⟩
      have t2 : decide (1099511627776 < n) = false := by rw [decide_eq_false_iff_not]; exact h2
      have HS := Lib.hid (show ¬ (n < 1 ∨ 1099511627776 < n) by omega)
      clear h1 h2
      go_wp2_with fail
      refine (refEvent_any 5 b _ (by omega)).mono ?_
      rintro x w3 ⟨rfl, hb3⟩
      have HB3 := Lib.hid (Below.next HB2.out hb3)
      have HR3 := Lib.hid (HR2.out.below hb3)
      clear hb3
      obtain ⟨X, hX⟩ : ∃ X, X = eventOf 5 b := ⟨_, rfl⟩
      rw [← hX]
      have HB4 := Lib.hid (Below.next HB3.out (show Below w3.heap.size w3 (w3.alloc (.cells (evCs X.1) 24)) from (Below.refl _ _).alloc (Nat.le_refl _) _))
      have HR4 := Lib.hid (HR3.out.below (show Below w3.heap.size w3 (w3.alloc (.cells (evCs X.1) 24)) from (Below.refl _ _).alloc (Nat.le_refl _) _))
      have HE4 := Lib.hid (show EvBlk (w3.alloc (.cells (evCs X.1) 24)) w3.heap.size X.1 from heap_alloc_new w3 _)
      unfold evCs at HB4 HR4 HE4
      by_cases hx : X.2 ≠ 0
      · have hfin := Lib.hid (show recordOf s = (recNone, X.2) by rw [hX]; exact rec_evbad HCUT.out HN.out HS.out (by rw [← hX]; exact hx))
        have t3 : (X.2 != 0) = true := by rw [bne_iff_ne]; exact hx
        clear hx hX
        go_wp2_with (with_reducible refine wpList_store_rc rfl (.tmp 2) (.tmp 42) rfl w.heap.size recNone recNone rfl rfl HR4.out ?_)
        exact bodyPost_ret (v := .tuple #[recV recNone, .int .i64 X.2]) (results_rc rfl _ _ w.heap.size recNone _ rfl rfl (HR4.out.row recNone)) rfl ⟨by rw [hfin.out], Below.row HB4.out (Nat.le_refl _) _⟩
      · have hx0 : X.2 = 0 := Classical.byContradiction hx
        have hfin := Lib.hid (show recordOf s = ((n, X.1), 0) by rw [hX]; exact rec_good HCUT.out HN.out HS.out (by rw [← hX]; exact hx0))
        have t3 : (X.2 != 0) = false := by rw [bne_eq_false_iff_eq]; exact hx0
        clear hx hx0 hX
        go_wp2_with (first
          | (with_reducible refine wpList_load_ev rfl (.tmp 9) rfl w3.heap.size X.1 rfl HE4.out ?_)
          | (with_reducible refine wpList_store_rc rfl (.tmp 2) (.tmp 46) rfl w.heap.size recNone (n, X.1) rfl rfl HR4.out ?_))
        exact bodyPost_ret (v := .tuple #[recV (n, X.1), .int .i64 0]) (results_rc rfl _ _ w.heap.size (n, X.1) _ rfl rfl (HR4.out.row (n, X.1))) rfl ⟨by rw [hfin.out], Below.row HB4.out (Nat.le_refl _) _⟩

end Go.Proofs.YtecmpmnidlfgnaaGreatDoor

namespace Go.Proofs.YtecmpmnidlfgnaaGreatDoor
open Go.RowKit

/-! ## the reference's Read -/

theorem own_weaken {w : World} {B C size n : Nat} {e : TypeId} {v : Value} {xs : List Value} (h : w.ownsRow B e size v n xs) (hc : C ≤ B) : w.ownsRow C e size v n xs := by
  refine ⟨h.1, ?_⟩
  rcases h.2 with hn | ⟨g, cap, cur, h1, h2, h3⟩
  · exact .inl hn
  · exact .inr ⟨g, cap, cur, h1, Nat.le_trans hc h2, h3⟩

set_option maxRecDepth 100000 in
set_option maxHeartbeats 8000000 in
theorem refRead_any (s : List UInt8) (w : World) (hs : s.length ≤ 2097152) :
    Calls Tryz.prog 24 #[.string ⟨s.toArray⟩] w (ReadPost (readOf s) w) := by
  obtain ⟨i0, hi, hz0, hz1, hz2⟩ := info_parts infoRec
  obtain ⟨ps, hps⟩ : ∃ ps, ps = splitOn 10 s := ⟨_, rfl⟩
  have HT := Lib.hid (show readOf s = addL [] (linesOf 1 ps) by rw [hps]; exact addL_nil 1 (by decide) _)
  have hpl : 0 < ps.length := by rw [hps]; exact List.length_pos_iff.2 (splitOn_ne _ _)
  have hpn : ps.length ≤ 2097153 := by rw [hps]; have := splitOn_length 10 s; omega
  have HPW := Lib.hid (show ∀ x ∈ ps, x.length ≤ 2097152 from fun x hx => by have := splitOn_part 10 s x (by rw [← hps]; exact hx); omega)
  have HSplit := Lib.hid (fun W => refSplit_any s 10 W (by omega))
  rw [← hps] at HSplit
  clear hps
  go_enter Tryz.func24, Tryz.ntmps24
  go_wp2_with fail
  refine (HSplit.out _).mono ?_
  rintro x w1 ⟨sv, rfl, hown, hb1⟩
  obtain ⟨g, cap, rfl, hg0, hg1, hcap, hcm, hcs⟩ := own_get hown hpl
  unfold maxLen at hcm
  have HCS := Lib.hid (show ∀ (j : Nat) t, ps[j]? = some t → w1.cell? ⟨g, j, none⟩ = some (.string ⟨t.toArray⟩) from fun j t h => hcs j _ (strs_get h))
  have hsz1w := hb1.size
  have HB0 := Lib.hid hb1
  have HOe := Lib.hid (own_emptyR w1)
  have hbE := Lib.hid (show Below w1.heap.size w1 (w1.alloc (.cells #[] 37)) from (Below.refl _ _).alloc (Nat.le_refl _) _)
  clear hown hcs hb1
  go_wp2
  go_loopw [6, 15] (fun ov iv wr => ∃ (acc : List Rec) (k : Nat), iv = .int .i64 k ∧ k < ps.length ∧ acc.length = k ∧ wr.ownsRow w1.heap.size 37 11 ov acc.length (recCells acc) ∧ Below w1.heap.size w1 wr ∧ Hid (readOf s = addL acc (linesOf (k + 1 : Nat) (ps.drop k)))) (fun _ iv _ => ps.length - (intOf iv).toNat)
  case atStart => exact ⟨[], 0, rfl, hpl, rfl, HOe.out, hbE.out, HT⟩
  case round =>
    obtain ⟨acc, k, rfl, hk, hacc, hown, hb1, HTk⟩ := hrel
    have HO := Lib.hid hown
    have HB1 := Lib.hid hb1
    clear hown hb1 HT HOe hbE
    obtain ⟨a, ha, _, hmem⟩ := nth ps k hk
    have hal := HPW.out a hmem
    have cs : wr.cell? ⟨g, k, none⟩ = some (.string ⟨a.toArray⟩) := cell_later HB1.out (HCS.out k a ha)
    have HD := Lib.hid (drop_cons ha)
    have q1 : (k : Int) < (ps.length : Int) := by omega
    clear ha hmem
    by_cases hlast : k + 1 = ps.length
    · have t1 : ((k : Int) == (ps.length : Int) - 1) = true := by rw [beq_iff_eq]; omega
      have hd0 : ps.drop (k + 1) = [] := drop_last hlast
      by_cases hae : a = []
      · have hfin := Lib.hid (show readOf s = (acc, 0, 0) by rw [HTk.out, HD.out, hd0, hae]; exact addL_last)
        subst hae
        clear hlast hd0
        subst hacc
        obtain ⟨oa, ocap, rfl, _, _⟩ := own_shape HO.out
        go_wp2
        refine bodyPost_ret (v := .tuple #[.slice oa acc.length ocap, .int .i64 0, .int .i64 0]) (by simp [results, Tryz.results24, go_sem]) rfl ⟨_, by rw [hfin.out], by rw [hfin.out]; exact own_weaken HO.out hsz1w, Below.next HB0.out HB1.out⟩
      · have hfin := Lib.hid (show readOf s = ([], ((k + 1 : Nat) : Int), 10) by rw [HTk.out, HD.out, hd0]; exact addL_short hae)
        have t2 : (a != []) = true := by rw [bne_iff_ne]; exact hae
        have t3 : a.isEmpty = false := by simpa using hae
        clear hlast hd0 hae
        go_wp2
        exact bodyPost_ret (v := .tuple #[.slice none 0 0, .int .i64 (k + 1 : Nat), .int .i64 10]) (by simp [results, Tryz.results24, go_sem]) rfl ⟨_, by rw [hfin.out], by rw [hfin.out]; exact World.ownsRow_nil _ _ _ _, Below.next HB0.out HB1.out⟩
    · have t1 : ((k : Int) == (ps.length : Int) - 1) = false := by rw [beq_eq_false_iff_ne]; omega
      have hne : ps.drop (k + 1) ≠ [] := by intro h; have := congrArg List.length h; simp at this; omega
      have HNE := Lib.hid hne
      clear hne
      go_wp2_with fail
      refine (refRecord_any a _ (by omega)).mono ?_
      rintro x w3 ⟨rfl, hb3⟩
      have HO3 := Lib.hid (own_later HO.out hb3)
      have HC3 := Lib.hid (Below.next HB1.out hb3)
      clear hb3 HO HB1 cs
      obtain ⟨X, hX⟩ : ∃ X, X = recordOf a := ⟨_, rfl⟩
      have HX := Lib.hid hX
      rw [← hX]
      clear hX
      obtain ⟨r, c⟩ := X
      simp only at *
      have hbB := (show Below w3.heap.size w3 (w3.alloc (.cells #[.int .i64 r.1, .int .i64 r.2.kind, .int .i64 r.2.order, .int .i64 r.2.item, .int .i64 r.2.qty, .int .i64 r.2.price, .int .i64 r.2.cur, .int .i64 r.2.tax, .string ⟨r.2.who.toArray⟩, .int .i64 r.2.stamp, .string ⟨r.2.note.toArray⟩] 37)) from (Below.refl _ _).alloc (Nat.le_refl _) _)
      have HR4 := Lib.hid (show RcBlk (w3.alloc (.cells #[.int .i64 r.1, .int .i64 r.2.kind, .int .i64 r.2.order, .int .i64 r.2.item, .int .i64 r.2.qty, .int .i64 r.2.price, .int .i64 r.2.cur, .int .i64 r.2.tax, .string ⟨r.2.who.toArray⟩, .int .i64 r.2.stamp, .string ⟨r.2.note.toArray⟩] 37)) w3.heap.size r from rcBlk_alloc w3 r)
      have HC4 := Lib.hid (Below.next HC3.out hbB)
      have HO4 := Lib.hid (own_later HO3.out hbB)
      clear hbB
      by_cases hc : c ≠ 0
      · have hfin := Lib.hid (show readOf s = ([], ((k + 1 : Nat) : Int), c) by
          rw [HTk.out, HD.out, addL_bad HNE.out (by rw [← HX.out]; exact hc), ← HX.out])
        have t3 : (c != 0) = true := by rw [bne_iff_ne]; exact hc
        clear hc
        go_wp2
        exact bodyPost_ret (v := .tuple #[.slice none 0 0, .int .i64 (k + 1 : Nat), .int .i64 c]) (by simp [results, Tryz.results24, go_sem]) rfl ⟨_, by rw [hfin.out], by rw [hfin.out]; exact World.ownsRow_nil _ _ _ _, Below.next HB0.out HC4.out⟩
      · have hc0 : c = 0 := Classical.byContradiction hc
        have HN := Lib.hid (show readOf s = addL (acc ++ [r]) (linesOf ((k + 1 : Nat) + 1 : Nat) (ps.drop (k + 1))) by
          rw [HTk.out, HD.out, addL_good HNE.out (by rw [← HX.out]; exact hc0), ← HX.out]; rfl)
        have t3 : (c != 0) = false := by rw [bne_eq_false_iff_eq]; exact hc0
        clear hc hc0
        have hs4 : (w3.alloc (.cells #[.int .i64 r.1, .int .i64 r.2.kind, .int .i64 r.2.order, .int .i64 r.2.item, .int .i64 r.2.qty, .int .i64 r.2.price, .int .i64 r.2.cur, .int .i64 r.2.tax, .string ⟨r.2.who.toArray⟩, .int .i64 r.2.stamp, .string ⟨r.2.note.toArray⟩] 37)).heap.size = w3.heap.size + 1 := by simp
        have hbC := (show Below (w3.alloc (.cells #[.int .i64 r.1, .int .i64 r.2.kind, .int .i64 r.2.order, .int .i64 r.2.item, .int .i64 r.2.qty, .int .i64 r.2.price, .int .i64 r.2.cur, .int .i64 r.2.tax, .string ⟨r.2.who.toArray⟩, .int .i64 r.2.stamp, .string ⟨r.2.note.toArray⟩] 37)).heap.size (w3.alloc (.cells #[.int .i64 r.1, .int .i64 r.2.kind, .int .i64 r.2.order, .int .i64 r.2.item, .int .i64 r.2.qty, .int .i64 r.2.price, .int .i64 r.2.cur, .int .i64 r.2.tax, .string ⟨r.2.who.toArray⟩, .int .i64 r.2.stamp, .string ⟨r.2.note.toArray⟩] 37)) ((w3.alloc (.cells #[.int .i64 r.1, .int .i64 r.2.kind, .int .i64 r.2.order, .int .i64 r.2.item, .int .i64 r.2.qty, .int .i64 r.2.price, .int .i64 r.2.cur, .int .i64 r.2.tax, .string ⟨r.2.who.toArray⟩, .int .i64 r.2.stamp, .string ⟨r.2.note.toArray⟩] 37)).alloc (.cells #[.int .i64 r.1, .int .i64 r.2.kind, .int .i64 r.2.order, .int .i64 r.2.item, .int .i64 r.2.qty, .int .i64 r.2.price, .int .i64 r.2.cur, .int .i64 r.2.tax, .string ⟨r.2.who.toArray⟩, .int .i64 r.2.stamp, .string ⟨r.2.note.toArray⟩] 37)) from (Below.refl _ _).alloc (Nat.le_refl _) _)
        have HC5 := Lib.hid (Below.next HC4.out hbC)
        have HO5 := Lib.hid (own_later HO4.out hbC)
        have hc5 : ∀ (j : Nat) u, (rcCs r)[j]? = some u → ((w3.alloc (.cells #[.int .i64 r.1, .int .i64 r.2.kind, .int .i64 r.2.order, .int .i64 r.2.item, .int .i64 r.2.qty, .int .i64 r.2.price, .int .i64 r.2.cur, .int .i64 r.2.tax, .string ⟨r.2.who.toArray⟩, .int .i64 r.2.stamp, .string ⟨r.2.note.toArray⟩] 37)).alloc (.cells #[.int .i64 r.1, .int .i64 r.2.kind, .int .i64 r.2.order, .int .i64 r.2.item, .int .i64 r.2.qty, .int .i64 r.2.price, .int .i64 r.2.cur, .int .i64 r.2.tax, .string ⟨r.2.who.toArray⟩, .int .i64 r.2.stamp, .string ⟨r.2.note.toArray⟩] 37)).cell? ⟨(w3.alloc (.cells #[.int .i64 r.1, .int .i64 r.2.kind, .int .i64 r.2.order, .int .i64 r.2.item, .int .i64 r.2.qty, .int .i64 r.2.price, .int .i64 r.2.cur, .int .i64 r.2.tax, .string ⟨r.2.who.toArray⟩, .int .i64 r.2.stamp, .string ⟨r.2.note.toArray⟩] 37)).heap.size, j, none⟩ = some u := fun j u h => by rw [World.cell?_alloc_new]; exact h
        clear hbC
        go_wp2_with (first
          | (with_reducible refine wpList_load_rc rfl (.tmp 8) rfl w3.heap.size r rfl HR4.out ?_)
          | (at_builtin; refine wpList_append_own _ rfl _ _ 45 rfl w1.heap.size 37 i0 zeroRec 11 104 Tryz.underlying45 hi hz0 hz1 hz2 rfl (by decide) _ _ _ rfl HO5.out _ 1 1 (rcCs r).toList rfl rfl ?c1 ?c2 ?c3 ?c4 ?c5 ?_))
        case c1 =>
          intro j u hj
          have := hc5 j u (by simpa using hj)
          rw [addr_add, Nat.zero_add]
          first | exact this | (rw [hs4] at this; exact this)
        case c2 => intro u hu; exact Array.all_eq_true_iff_forall_mem.1 (rcCs_one r) u (by simpa using hu)
        case c3 => unfold maxLen; omega
        case c4 => omega
        case c5 => exact HC5.out.size
        intro v' w6 hown' hgrow _
        have HO6 := Lib.hid hown'
        have HC6 := Lib.hid (show Below w1.heap.size w1 w6 from HC5.out.grown hgrow HC5.out.size (fun k e => (HO5.out.lt k e).1))
        clear hown' hgrow
        go_wp2
        go_roundw
        case rel => exact ⟨acc ++ [r], k + 1, by go_num, by omega, by simp; omega, by rw [recCells_append, recCells_one]; simpa [hacc] using HO6.out, HC6.out, HN⟩
        case measure => simp [intOf]; omega

end Go.Proofs.YtecmpmnidlfgnaaGreatDoor
