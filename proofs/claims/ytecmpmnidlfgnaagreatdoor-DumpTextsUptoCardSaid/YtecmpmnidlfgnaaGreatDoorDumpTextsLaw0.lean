import Derived.Test.YtecmpmnidlfgnaaGreatDoorHead24
import Derived.Test.YtecmpmnidlfgnaaGreatDoorRead
import Derived.Test.YtecmpmnidlfgnaaGreatDoorRefText
import Derived.Test.YtecmpmnidlfgnaaGreatDoorRefRead
import Derived.Test.YtecmpmnidlfgnaaGreatDoorSameRecs
import Derived.Test.YtecmpmnidlfgnaaGreatDoorDumpOpen
import Derived.Test.YtecmpmnidlfgnaaGreatDoorOpen
namespace Go.Proofs.YtecmpmnidlfgnaaGreatDoor
open Go.RowKit Go.ChangeShapes Go.WideShapes

/-- a row of records' cells, whatever they hold -/
def RowG (w : World) (g n : Nat) : Prop := ∃ cs, w.heap[g]? = some (.cells cs 37 (0, 0)) ∧ cs.size = n
theorem RowG.cell {w : World} {g n k : Nat} (h : RowG w g n) (hk : k < n) : ∃ u, w.cell? ⟨g, k, none⟩ = some u := by
  obtain ⟨cs, h1, h2⟩ := h
  exact ⟨cs[k], by simp [World.cell?, h1, h2, hk]⟩
theorem RowG.free {w : World} {g n : Nat} (h : RowG w g n) (k : Nat) : w.frozen? ⟨g, k, none⟩ = false := by
  obtain ⟨cs, h1, h2⟩ := h
  simp [World.frozen?, h1]
theorem RowG.set {w : World} {g n : Nat} (h : RowG w g n) (k : Nat) (v : Value) : RowG (w.setCell ⟨g, k, none⟩ v) g n := by
  obtain ⟨cs, h1, h2⟩ := h
  refine ⟨cs.setIfInBounds k v, ?_, by simpa using h2⟩
  simp only [World.setCell]
  rw [Array.getElem?_modify]
  simp [h1]
theorem own_but {w w' : World} {B size n g : Nat} {e : TypeId} {v : Value} {xs : List Value} (h : w.ownsRow B e size v n xs) (hb : But g w w') (hg : v.ownBlock ≠ some g) : w'.ownsRow B e size v n xs := by
  refine ⟨h.1, ?_⟩
  rcases h.2 with hn | ⟨g', cap, cur, rfl, hb1, hg', rest⟩
  · exact .inl hn
  · exact .inr ⟨g', cap, cur, rfl, hb1, by rw [hb.block _ (Array.getElem?_eq_some_iff.1 hg').1 (fun e => hg (by rw [← e]; rfl))]; exact hg', rest⟩

set_option maxRecDepth 100000 in
set_option maxHeartbeats 8000000 in
theorem dumpTexts_walk0 (rs : List Rec) (v : Value) (s : List UInt8) (w : World) (hL : LibV w) (hv : RecRow w v rs) (hn : rs.length ≤ 1048576) (hok : ∀ r ∈ rs, RecOk 2097152 r) (hs : s.length ≤ 2097152) :
    Calls Tryz.prog 5 #[v, .string ⟨s.toArray⟩] w fun x w' => x = .returned (.bool true) ∧ Below w.heap.size w w' := by
  have HL := Lib.hid hL
  have HV := Lib.hid hv
  have HOK := Lib.hid hok
  clear hL hv hok
  go_enter Tryz.func5, Tryz.ntmps5
  go_wp2_with fail
  refine (head24_any _ HL.out HL.out.lt).mono ?_
  rintro x w1 ⟨rfl, hb1⟩
  have HB1 := Lib.hid hb1
  have HV1 := Lib.hid (HV.out.below hb1)
  have HE1 := Lib.hid (own_emptyR w1)
  have HbE := Lib.hid (show Below w1.heap.size w1 (w1.alloc (.cells #[] 37)) from (Below.refl _ _).alloc (Nat.le_refl _) _)
  have HVE := Lib.hid (HV1.out.below HbE.out)
  clear hb1 HV
  go_wp2_with (at_builtin; refine wpList_copyRecs rfl _ _ rfl w1.heap.size _ _ rs rfl HE1.out rfl HVE.out (by omega) HbE.out.size ?_)
  intro v2 w2 hown hgrow
  have hb2 : Below w1.heap.size w1 w2 := HbE.out.grown hgrow HbE.out.size (fun k e => (HE1.out.lt k e).1)
  have HB2 := Lib.hid (Below.next HB1.out hb2)
  have HV2 := Lib.hid (HV1.out.below hb2)
  have HM2 := Lib.hid (recRow_own hown)
  clear hown hgrow hb2 HV1 HVE HbE HE1 HB1
  go_wp2_with fail
  refine (refText_any rs _ _ HV2.out (by omega) HOK.out).mono ?_
  rintro x w3 ⟨rfl, hb3⟩
  have HB3 := Lib.hid (Below.next HB2.out hb3)
  have HV3 := Lib.hid (HV2.out.below hb3)
  have HM3 := Lib.hid (HM2.out.below hb3)
  clear hb3 HB2 HV2 HM2
  go_wp2_with fail
  refine (dumpText_any rs _ _ HM3.out (by omega) HOK.out (HL.out.below HB3.out)).mono ?_
  rintro x w4 ⟨rfl, hb4⟩
  have HB4 := Lib.hid (Below.next HB3.out hb4)
  have HV4 := Lib.hid (HV3.out.below hb4)
  have HM4 := Lib.hid (HM3.out.below hb4)
  clear hb4 HB3 HV3 HM3
  obtain ⟨D, hD⟩ : ∃ D, D = textOf rs := ⟨_, rfl⟩
  rw [← hD]
  clear hD
  have t1 : (D.1 != D.1) = false := by simp
  have t2 : (D.2 != D.2) = false := by simp
  go_wp2_with (go_at_call 23; (with_reducible refine (sameRecs_any rs _ _ _ HM4.out HV4.out).mono ?_); rintro x w5 ⟨rfl, hb5⟩; have HB5 := Lib.hid (Below.next HB4.out hb5); clear hb5)
  clear HV4 HM4 HB4
  go_wp2_with fail
  refine (refRead_any s _ hs).mono ?_
  rintro x w6 ⟨vx, rfl, hox, hb6⟩
  obtain ⟨X, hX⟩ : ∃ X, X = readOf s := ⟨_, rfl⟩
  have HX := Lib.hid hX
  rw [← hX] at hox ⊢
  have HB6 := Lib.hid (Below.next HB5.out hb6)
  have HOX6 := Lib.hid hox
  have hs6 := HB6.out.size
  clear hX hox hb6 HB5
  go_wp2_with fail
  refine (dumpRead_any s _ hs (HL.out.below HB6.out) (HL.out.below HB6.out).lt).mono ?_
  rintro x w7 ⟨vy, rfl, hoy, hb7⟩
  rw [← HX.out] at hoy ⊢
  have HB7 := Lib.hid (Below.next HB6.out hb7)
  have HOX7 := Lib.hid (own_later HOX6.out hb7)
  have HOY7 := Lib.hid hoy
  have hs7 := hb7.size
  clear hoy hb7 HB6
  go_wp2_with fail
  refine (dumpRead_any s _ hs (HL.out.below HB7.out) (HL.out.below HB7.out).lt).mono ?_
  rintro x w8 ⟨vz, rfl, hoz, hb8⟩
  rw [← HX.out] at hoz ⊢
  have HB8 := Lib.hid (Below.next HB7.out hb8)
  have HOX8 := Lib.hid (own_later HOX7.out hb8)
  have HOY8 := Lib.hid (own_later HOY7.out hb8)
  have HOZ8 := Lib.hid hoz
  clear hoz hb8 HB7
  obtain ⟨L, n, c⟩ := X
  simp only at *
  have t1 : (n != n) = false := by simp
  have t2 : (c != c) = false := by simp
  by_cases hLn : L = []
  · subst hLn
    have HOY8 : Hid (w8.ownsRow w6.heap.size 37 11 vy 0 (recCells [])) := HOY8
    obtain ⟨oa, cap, rfl, _, _⟩ := own_shape HOY8.out
    have HRY := Lib.hid (recRow_own (rs := []) HOY8.out)
    go_wp2_with (go_at_call 23; (with_reducible refine (sameRecs_any [] _ _ _ (recRow_own HOX8.out) HRY.out).mono ?_); rintro x w9 ⟨rfl, hb9⟩; have HB9 := Lib.hid (Below.next HB8.out hb9); have HOX9 := Lib.hid (own_later HOX8.out hb9); have HOY9 := Lib.hid (own_later HOY8.out hb9); have HOZ9 := Lib.hid (own_later HOZ8.out hb9); clear hb9)
    clear HOX8 HOY8 HOZ8 HB8
    refine wp_loop_rounds 1 ?_
    rw [rounds_succ]
    go_wp2_with fail
    refine (sameRecs_any [] _ _ _ (recRow_own HOZ9.out) (recRow_own HOX9.out)).mono ?_
    rintro x wz ⟨rfl, hbz⟩
    go_wp2
    go_ret
    exact ⟨rfl, Below.next HB9.out hbz⟩
  · have hpos : 0 < L.length := List.length_pos_iff.2 hLn
    obtain ⟨g, cap, rfl, hg0, hg1, hcap, hcm, _⟩ := own_get HOY7.out hpos
    unfold maxLen at hcm
    go_wp2_with (go_at_call 23; (with_reducible refine (sameRecs_any L _ _ _ (recRow_own HOX8.out) (recRow_own HOY8.out)).mono ?_); rintro x w9 ⟨rfl, hb9⟩; have HB9 := Lib.hid (Below.next HB8.out hb9); have HOX9 := Lib.hid (own_later HOX8.out hb9); have HOY9 := Lib.hid (own_later HOY8.out hb9); have HOZ9 := Lib.hid (own_later HOZ8.out hb9); clear hb9)
    clear HOX8 HOY8 HOZ8 HB8
    have HG9 := Lib.hid (show RowG w9 g (cap * 11) by
      rcases HOY9.out.2 with ⟨h, _⟩ | ⟨g', cap', cur, h1, _, h2, _, _, h3, _⟩
      · cases h
      · simp only [Value.slice.injEq, Option.some.injEq, Addr.mk.injEq, and_true, true_and] at h1
        obtain ⟨rfl, rfl⟩ := h1
        exact ⟨cur, h2, h3⟩)
    have HXN := Lib.hid (show vx.ownBlock ≠ some g from fun e => by have := (HOX6.out.lt g e).2; omega)
    have HZN := Lib.hid (show vz.ownBlock ≠ some g from fun e => by have := (HOZ9.out.lt g e).1; omega)
    clear hLn
    go_loopw [83] (fun iv wr => ∃ k : Nat, k ≤ L.length ∧ iv = .int .i64 k ∧ RowG wr g (cap * 11) ∧ But g w9 wr) (fun iv _ => L.length - (intOf iv).toNat)
    case atStart => exact ⟨0, Nat.zero_le _, rfl, HG9.out, But.refl _ _⟩
    case round =>
      obtain ⟨k, hk, rfl, hG, hB⟩ := hrel
      have HG := Lib.hid hG
      have HB := Lib.hid hB
      clear hG hB
      by_cases hlt : k < L.length
      · have q1 : (k : Int) < (L.length : Int) := by omega
        obtain ⟨u, hu⟩ := HG.out.cell (show k * 11 < cap * 11 by omega)
        have hf := HG.out.free (k * 11)
        go_wp2
        go_roundw
        case rel => exact ⟨k + 1, by omega, by go_num, HG.out.set _ _, HB.out.set _ _⟩
        case measure => simp [intOf]; omega
      · obtain rfl : k = L.length := by omega
        go_wp2_with fail
        refine (sameRecs_any L _ _ _ (recRow_own (own_but HOZ9.out HB.out HZN.out)) (recRow_own (own_but HOX9.out HB.out HXN.out))).mono ?_
        rintro x wz ⟨rfl, hbz⟩
        go_wp2
        go_ret
        exact ⟨rfl, Below.next (But.below HB9.out HB.out (by omega)) hbz⟩

theorem dumpTexts_walk (v0 : Value) (a0 : List Rec) (a1 : List UInt8) (w : World) (h0 : RdRecs w v0 a0) (h1 : a1.length ≤ 1048576) (hL : laidMetH Tryz.prog Rows.dumpTextsUptoRow.laid w) (hS : w.ShapedOpen Tryz.prog) :
    Calls Tryz.prog 5 #[v0, .string ⟨a1.toArray⟩] w fun x w' => x = .returned (.bool true) ∧ Below w.heap.size w w' :=
  dumpTexts_walk0 a0 v0 a1 w (libV_of rfl hL hS) h0.1 h0.2.1 (fun r hr => (h0.2.2 r hr).mono (by decide)) (by omega)

end Go.Proofs.YtecmpmnidlfgnaaGreatDoor
