import Derived.Test.YtecmpmnidlfgnaaGreatDoorEvent
import Derived.Test.YtecmpmnidlfgnaaGreatDoorWords
import Derived.Test.YtecmpmnidlfgnaaGreatDoorRefShow
import Derived.Test.YtecmpmnidlfgnaaGreatDoorRefCheck2
namespace Go.Proofs.YtecmpmnidlfgnaaGreatDoor
open Go.RowKit

/-! ## the reference's Kind, Keys, Get, Set -/

set_option maxHeartbeats 4000000 in
theorem refKind_any (k : Nat) (h : k < 11) (w : World) : Calls Tryz.prog 43 #[.int .i64 (k : Int)] w fun x w' => x = .returned (.string ⟨(kindW.getD k []).toArray⟩) ∧ Below w.heap.size w w' := by
  rcases (show k = 0 ∨ k = 1 ∨ k = 2 ∨ k = 3 ∨ k = 4 ∨ k = 5 ∨ k = 6 ∨ k = 7 ∨ k = 8 ∨ k = 9 ∨ k = 10 by omega) with rfl | rfl | rfl | rfl | rfl | rfl | rfl | rfl | rfl | rfl | rfl
  all_goals
    clear h
    go_enter Tryz.func43, Tryz.ntmps43
    go_wp2
    go_ret
    exact ⟨rfl, (Below.refl _ _).alloc (Nat.le_refl _) _⟩
theorem refKind_int (k : Int) (h0 : 0 ≤ k) (h : k ≤ 10) (w : World) : Calls Tryz.prog 43 #[.int .i64 k] w fun x w' => x = .returned (.string ⟨(kindWord k).toArray⟩) ∧ Below w.heap.size w w' := by
  obtain ⟨n, rfl⟩ := Int.eq_ofNat_of_zero_le h0
  exact refKind_any n (by omega) w

/-- the keys, as strings in a block -/
def KeyStrs (w : World) (b : Nat) : Prop := ∀ k, k < 8 → w.cell? ⟨b, k, none⟩ = some (.string ⟨(keyS k).toArray⟩)
theorem KeyStrs.below {w w' : World} {b : Nat} (h : KeyStrs w b) (hb : Below w.heap.size w w') : KeyStrs w' b := fun k hk => cell_later hb (h k hk)

theorem refKeys_any (w : World) : Calls Tryz.prog 44 #[] w fun x w' => x = .returned (.slice (some ⟨w.heap.size, 0, none⟩) 8 8) ∧ KeyStrs w' w.heap.size ∧ Below w.heap.size w w' := by
  go_enter Tryz.func44, Tryz.ntmps44
  go_wp2
  go_ret
  refine ⟨rfl, fun k hk => ?_, (Below.refl _ _).alloc (Nat.le_refl _) _⟩
  rw [World.cell?_alloc_new]
  match k, hk with
  | 0, _ => rfl
  | 1, _ => rfl
  | 2, _ => rfl
  | 3, _ => rfl
  | 4, _ => rfl
  | 5, _ => rfl
  | 6, _ => rfl
  | 7, _ => rfl

set_option maxHeartbeats 4000000 in
theorem refGet_any (e : Ev) (k : Nat) (h : k < 8) (w : World) : Calls Tryz.prog 45 #[evV e, .int .i64 (k : Int)] w fun x w' => x = .returned (.int .i64 (getKey e k)) ∧ Below w.heap.size w w' := by
  unfold evV
  rcases (show k = 0 ∨ k = 1 ∨ k = 2 ∨ k = 3 ∨ k = 4 ∨ k = 5 ∨ k = 6 ∨ k = 7 by omega) with rfl | rfl | rfl | rfl | rfl | rfl | rfl | rfl
  all_goals
    clear h
    go_enter Tryz.func45, Tryz.ntmps45
    go_wp2
    go_ret
    exact ⟨rfl, ((Below.refl _ _).alloc (Nat.le_refl _) _).alloc (by simp) _⟩

set_option maxHeartbeats 4000000 in
theorem refSet_any (e : Ev) (k : Nat) (h : k < 8) (n : Int) (w : World) : Calls Tryz.prog 56 #[evV e, .int .i64 (k : Int), .int .i64 n] w fun x w' => x = .returned (evV (setKey e k n)) ∧ Below w.heap.size w w' := by
  unfold evV
  rcases (show k = 0 ∨ k = 1 ∨ k = 2 ∨ k = 3 ∨ k = 4 ∨ k = 5 ∨ k = 6 ∨ k = 7 by omega) with rfl | rfl | rfl | rfl | rfl | rfl | rfl | rfl
  · go_enter Tryz.func56, Tryz.ntmps56
    go_wp2
    refine bodyPost_ret (v := evV (setKey e 0 n)) (by simp [results, Tryz.results56, go_sem, setKey]) rfl ⟨rfl, ?_⟩
    exact ((Below.refl _ _).alloc (Nat.le_refl _) _).alloc (by simp) _
  · go_enter Tryz.func56, Tryz.ntmps56
    go_wp2
    refine bodyPost_ret (v := evV (setKey e 1 n)) (by simp [results, Tryz.results56, go_sem, setKey]) rfl ⟨rfl, ?_⟩
    exact ((Below.refl _ _).alloc (Nat.le_refl _) _).alloc (by simp) _
  · go_enter Tryz.func56, Tryz.ntmps56
    go_wp2
    refine bodyPost_ret (v := evV (setKey e 2 n)) (by simp [results, Tryz.results56, go_sem, setKey]) rfl ⟨rfl, ?_⟩
    exact ((Below.refl _ _).alloc (Nat.le_refl _) _).alloc (by simp) _
  · go_enter Tryz.func56, Tryz.ntmps56
    go_wp2
    refine bodyPost_ret (v := evV (setKey e 3 n)) (by simp [results, Tryz.results56, go_sem, setKey]) rfl ⟨rfl, ?_⟩
    exact ((Below.refl _ _).alloc (Nat.le_refl _) _).alloc (by simp) _
  · go_enter Tryz.func56, Tryz.ntmps56
    go_wp2
    refine bodyPost_ret (v := evV (setKey e 4 n)) (by simp [results, Tryz.results56, go_sem, setKey]) rfl ⟨rfl, ?_⟩
    exact ((Below.refl _ _).alloc (Nat.le_refl _) _).alloc (by simp) _
  · go_enter Tryz.func56, Tryz.ntmps56
    go_wp2
    refine bodyPost_ret (v := evV (setKey e 5 n)) (by simp [results, Tryz.results56, go_sem, setKey]) rfl ⟨rfl, ?_⟩
    exact ((Below.refl _ _).alloc (Nat.le_refl _) _).alloc (by simp) _
  · go_enter Tryz.func56, Tryz.ntmps56
    go_wp2
    refine bodyPost_ret (v := evV (setKey e 6 n)) (by simp [results, Tryz.results56, go_sem, setKey]) rfl ⟨rfl, ?_⟩
    exact ((Below.refl _ _).alloc (Nat.le_refl _) _).alloc (by simp) _
  · go_enter Tryz.func56, Tryz.ntmps56
    go_wp2
    refine bodyPost_ret (v := evV (setKey e 7 n)) (by simp [results, Tryz.results56, go_sem, setKey]) rfl ⟨rfl, ?_⟩
    exact ((Below.refl _ _).alloc (Nat.le_refl _) _).alloc (by simp) _

end Go.Proofs.YtecmpmnidlfgnaaGreatDoor

namespace Go.Proofs.YtecmpmnidlfgnaaGreatDoor
open Go.RowKit

/-! ## the reference's Words -/

theorem getKey_i64' {N : Nat} {e : Ev} (he : EvOk N e) (k : Nat) : I64 (getKey e k) := by
  unfold getKey
  split
  · exact he.order
  · exact he.item
  · exact he.qty
  · exact he.price
  · exact he.cur
  · exact he.tax
  · exact he.stamp
  · exact ⟨by decide, by decide⟩

set_option maxRecDepth 100000 in
set_option maxHeartbeats 8000000 in
theorem refWords_any (v : Int) (e : Ev) (w : World) (hok : EvOk 2097152 e) :
    Calls Tryz.prog 13 #[.int .i64 v, evV e] w (WordsPost (dumpWords v e) w) := by
  have HC := Lib.hid (fun W => refCheck_any v e W hok)
  have HOK := Lib.hid hok
  have hE := Lib.hid (evAt_alloc w e 24)
  have HG := Lib.hid (fun k hk W => refGet_any e k hk W)
  clear hok
  unfold evV at HC HG ⊢
  by_cases hc : evCheck v e ≠ 0
  · have hfin := Lib.hid (words_bad hc)
    have t1 : (evCheck v e != 0) = true := by rw [bne_iff_ne]; exact hc
    clear hc
    go_enter Tryz.func13, Tryz.ntmps13
    go_wp2_with fail
    refine (HC.out _).mono ?_
    rintro x w2 ⟨rfl, hb⟩
    go_wp2
    go_ret2
    exact ⟨by rw [hfin.out]; rfl, Below.next ((Below.refl _ _).alloc (Nat.le_refl _) _) hb⟩
  · have hc0 : evCheck v e = 0 := Classical.byContradiction hc
    have hfin := Lib.hid (words_good hc0)
    obtain ⟨_, _, hk0, _, hk1, _, hw16, hn120⟩ := check0 hc0
    have t1 : (evCheck v e != 0) = false := by rw [bne_eq_false_iff_eq]; exact hc0
    clear hc hc0
    go_enter Tryz.func13, Tryz.ntmps13
    go_wp2_with fail
    refine (HC.out _).mono ?_
    rintro x w2 ⟨rfl, hb⟩
    have HE2 := Lib.hid (hE.out.below hb)
    have HB2 := Lib.hid (Below.next ((Below.refl _ _).alloc (Nat.le_refl _) _) hb)
    have hsz2 : w.heap.size < w2.heap.size := by have := hb.size; simp at this; omega
    have c0 := HE2.out.c0
    clear hb
    go_wp2_with fail
    refine (refKind_int e.kind (by omega) hk1 _).mono ?_
    rintro x w3 ⟨rfl, hb3⟩
    have HE3 := Lib.hid (HE2.out.below hb3)
    have HB3 := Lib.hid (Below.next HB2.out hb3)
    clear hb3 HE2 HB2 c0
    go_wp2_with fail
    refine (refKeys_any _).mono ?_
    rintro x w4 ⟨rfl, hK, hb4⟩
    have HE4 := Lib.hid (HE3.out.below hb4)
    have HB4 := Lib.hid (Below.next HB3.out hb4)
    have HK := Lib.hid hK
    have hsz4 : w.heap.size < w4.heap.size := by have := World.block_lt_of_cell? _ _ HE4.out.c0; exact this
    obtain ⟨kb, hkb⟩ : ∃ kb, kb = w3.heap.size := ⟨_, rfl⟩
    rw [← hkb] at HK ⊢
    clear hb4 hK HE3 HB3 hkb
    go_wp2
    go_loopw [7, 22] (fun sv iv wr => ∃ k : Nat, k ≤ 8 ∧ iv = .int .i64 k ∧ sv = .string ⟨(kindWord e.kind ++ partsTo e k).toArray⟩ ∧ Below w4.heap.size w4 wr) (fun _ iv _ => 8 - (intOf iv).toNat)
    case atStart => exact ⟨0, by omega, rfl, by simp [partsTo], Below.refl _ _⟩
    case round =>
      obtain ⟨k, hk, rfl, rfl, hb⟩ := hrel
      have HB := Lib.hid hb
      have HEr := Lib.hid (HE4.out.below hb)
      have HKr := Lib.hid (HK.out.below hb)
      have hszr := hb.size
      have hslen : (kindWord e.kind ++ partsTo e k).length ≤ 16777500 := by
        have h1 := kindWord_len e.kind
        have h2 := partsTo_len HOK.out k hk
        rw [List.length_append]
        have : k * (27 + 2097152) ≤ 8 * (27 + 2097152) := Nat.mul_le_mul_right _ hk
        omega
      clear hb
      by_cases hk8 : k < 8
      · have HP := Lib.hid (show kindWord e.kind ++ partsTo e (k + 1) = (kindWord e.kind ++ partsTo e k) ++ partOf e k by rw [partsTo, List.append_assoc])
        obtain ⟨S, hS⟩ : ∃ S, S = kindWord e.kind ++ partsTo e k := ⟨_, rfl⟩
        rw [← hS] at HP hslen ⊢
        clear hS
        have c7 := HEr.out.c7
        obtain ⟨d0, d1, d2, d3, d4, d5, d6, d7, d8, d9⟩ := evCells HEr.out
        by_cases hk6 : k = 6
        · subst hk6
          have HG6 := Lib.hid (HG.out 6 (by omega))
          by_cases hw : e.who = []
          · have HPP := Lib.hid (show S ++ partOf e 6 = S by unfold partOf whoPart; rw [if_pos rfl, if_pos hw, List.append_nil])
            have kw : e.who.isEmpty = true := by rw [hw]; rfl
            have kw2 : (!e.who.isEmpty) = false := by rw [hw]; rfl
            clear hw
            go_wp2_with fail
            refine (HG6.out _).mono ?_
            rintro x w6 ⟨rfl, hb6⟩
            have HB6 := Lib.hid (Below.next HB.out hb6)
            clear hb6
            rw [show getKey e 6 = 0 from rfl]
            go_wp2
            go_roundw
            case rel => exact ⟨7, by omega, rfl, by rw [HP.out, HPP.out], HB6.out⟩
            case measure => simp [intOf]
          · have HPP := Lib.hid (show S ++ partOf e 6 = S ++ ([32, 119, 104, 111, 61] ++ e.who) by unfold partOf whoPart; rw [if_pos rfl, if_neg hw])
            have kw : e.who.isEmpty = false := by simpa using hw
            have kw2 : (!e.who.isEmpty) = true := by simpa using hw
            obtain ⟨m3, hm3⟩ : ∃ m, m = [32, 119, 104, 111, 61] ++ e.who := ⟨_, rfl⟩
            obtain ⟨m4, hm4⟩ : ∃ m, m = S ++ m3 := ⟨_, rfl⟩
            have l3 : m3.length = 5 + e.who.length := by rw [hm3]; simp; omega
            have l4 : m4.length = S.length + m3.length := by rw [hm4]; simp
            have e3 := str_add _ _ _ hm3 (by omega)
            have e4 := str_add _ _ _ hm4 (by omega)
            have HF := Lib.hid (show S ++ partOf e 6 = m4 by rw [HPP.out, hm4, hm3])
            clear hw hm3 hm4 HPP
            go_wp2_with fail
            refine (HG6.out _).mono ?_
            rintro x w6 ⟨rfl, hb6⟩
            have HB6 := Lib.hid (Below.next HB.out hb6)
            clear hb6
            rw [show getKey e 6 = 0 from rfl]
            go_wp2
            go_roundw
            case rel => exact ⟨7, by omega, rfl, by rw [HP.out, HF.out], HB6.out⟩
            case measure => simp [intOf]
        · have t6 : ((k : Int) == 6) = false := by rw [beq_eq_false_iff_ne]; omega
          have HGk := Lib.hid (HG.out k hk8)
          have hni : I64 (getKey e k) := getKey_i64' HOK.out k
          obtain ⟨n, hn⟩ : ∃ n, n = getKey e k := ⟨_, rfl⟩
          rw [← hn] at HGk hni
          by_cases hn0 : n = 0
          · have HPP := Lib.hid (show S ++ partOf e k = S by unfold partOf keyPart; rw [if_neg hk6, if_pos (by rw [← hn]; exact hn0), List.append_nil])
            have kn : (n != 0) = false := by rw [bne_eq_false_iff_eq]; exact hn0
            clear hn hn0
            go_wp2_with fail
            refine (HGk.out _).mono ?_
            rintro x w6 ⟨rfl, hb6⟩
            have HB6 := Lib.hid (Below.next HB.out hb6)
            clear hb6
            go_wp2
            go_roundw
            case rel => exact ⟨k + 1, by omega, by go_num, by rw [HP.out, HPP.out], HB6.out⟩
            case measure => simp [intOf]; omega
          · have HPP := Lib.hid (show S ++ partOf e k = S ++ (([32] ++ keyS k ++ [61]) ++ Lib.itoa n) by
              unfold partOf keyPart; rw [if_neg hk6, if_neg (by rw [← hn]; exact hn0), ← hn]
              show S ++ (32 :: (keyS k ++ 61 :: Lib.itoa n)) = _
              simp)
            have kn : (n != 0) = true := by rw [bne_iff_ne]; exact hn0
            obtain ⟨hni1, hni2⟩ := hni
            have hil : (Lib.itoa n).length ≤ 20 := itoa_le _ hni1 hni2
            have hkl := keyS_len k
            have hkc := HKr.out k hk8
            obtain ⟨K, hK⟩ : ∃ K, K = keyS k := ⟨_, rfl⟩
            rw [← hK] at HPP hkl hkc
            obtain ⟨m1, hm1⟩ : ∃ m, m = [32] ++ K := ⟨_, rfl⟩
            obtain ⟨m2, hm2⟩ : ∃ m, m = m1 ++ [61] := ⟨_, rfl⟩
            obtain ⟨m3, hm3⟩ : ∃ m, m = m2 ++ Lib.itoa n := ⟨_, rfl⟩
            obtain ⟨m4, hm4⟩ : ∃ m, m = S ++ m3 := ⟨_, rfl⟩
            have l1 : m1.length = 1 + K.length := by rw [hm1]; simp; omega
            have l2 : m2.length = m1.length + 1 := by rw [hm2]; simp
            have l3 : m3.length = m2.length + (Lib.itoa n).length := by rw [hm3]; simp
            have l4 : m4.length = S.length + m3.length := by rw [hm4]; simp
            have e1 := str_add _ _ _ hm1 (by omega)
            have e2 := str_add _ _ _ hm2 (by omega)
            have e3 := str_add _ _ _ hm3 (by omega)
            have e4 := str_add _ _ _ hm4 (by omega)
            have HF := Lib.hid (show S ++ partOf e k = m4 by rw [HPP.out, hm4, hm3, hm2, hm1])
            have q1 : (0 : Int) ≤ (k : Int) := by omega
            have q2 : (k : Int) < 8 := by omega
            clear hn hn0 hm1 hm2 hm3 hm4 HPP hK l1 l2 l3 l4
            go_wp2_with fail
            refine (HGk.out _).mono ?_
            rintro x w6 ⟨rfl, hb6⟩
            have HB6 := Lib.hid (Below.next HB.out hb6)
            have HE6 := Lib.hid (HEr.out.below hb6)
            have HKC := Lib.hid (cell_later hb6 hkc)
            clear hb6 d0 d1 d2 d3 d4 d5 d6 d7 d8 d9 c7 hkc
            have hkc := HKC.out
            obtain ⟨d0, d1, d2, d3, d4, d5, d6, d7, d8, d9⟩ := evCells HE6.out
            go_wp2
            have keep0 : Hid ((w6.drew.cell? ⟨w.heap.size, 0, none⟩ = some (.int .i64 e.kind) ∧ w6.drew.cell? ⟨w.heap.size, 1, none⟩ = some (.int .i64 e.order) ∧ w6.drew.cell? ⟨w.heap.size, 2, none⟩ = some (.int .i64 e.item) ∧ w6.drew.cell? ⟨w.heap.size, 3, none⟩ = some (.int .i64 e.qty) ∧ w6.drew.cell? ⟨w.heap.size, 4, none⟩ = some (.int .i64 e.price) ∧ w6.drew.cell? ⟨w.heap.size, 5, none⟩ = some (.int .i64 e.cur) ∧ w6.drew.cell? ⟨w.heap.size, 6, none⟩ = some (.int .i64 e.tax) ∧ w6.drew.cell? ⟨w.heap.size, 7, none⟩ = some (.string ⟨e.who.toArray⟩) ∧ w6.drew.cell? ⟨w.heap.size, 8, none⟩ = some (.int .i64 e.stamp) ∧ w6.drew.cell? ⟨w.heap.size, 9, none⟩ = some (.string ⟨e.note.toArray⟩)) ∧ w6.drew.cell? ⟨kb, k, none⟩ = some (.string ⟨K.toArray⟩) ∧ Below w6.heap.size w6 w6.drew) := Lib.hid ⟨evCells (HE6.out.below (Below.refl _ _).drew), HKC.out, (Below.refl _ _).drew⟩
            have keepN : Hid (∀ a b : World, Below a.heap.size a b → Below w6.heap.size w6 a → (b.cell? ⟨w.heap.size, 0, none⟩ = some (.int .i64 e.kind) ∧ b.cell? ⟨w.heap.size, 1, none⟩ = some (.int .i64 e.order) ∧ b.cell? ⟨w.heap.size, 2, none⟩ = some (.int .i64 e.item) ∧ b.cell? ⟨w.heap.size, 3, none⟩ = some (.int .i64 e.qty) ∧ b.cell? ⟨w.heap.size, 4, none⟩ = some (.int .i64 e.price) ∧ b.cell? ⟨w.heap.size, 5, none⟩ = some (.int .i64 e.cur) ∧ b.cell? ⟨w.heap.size, 6, none⟩ = some (.int .i64 e.tax) ∧ b.cell? ⟨w.heap.size, 7, none⟩ = some (.string ⟨e.who.toArray⟩) ∧ b.cell? ⟨w.heap.size, 8, none⟩ = some (.int .i64 e.stamp) ∧ b.cell? ⟨w.heap.size, 9, none⟩ = some (.string ⟨e.note.toArray⟩)) ∧ b.cell? ⟨kb, k, none⟩ = some (.string ⟨K.toArray⟩) ∧ Below w6.heap.size w6 b) := Lib.hid fun a b h1 h2 => by
              have h3 := Below.next h2 h1
              exact ⟨evCells (HE6.out.below h3), cell_later h3 HKC.out, h3⟩
            clear d0 d1 d2 d3 d4 d5 d6 d7 d8 d9 hkc
            (go_region_held3 (fun w' => (w'.cell? ⟨w.heap.size, 0, none⟩ = some (.int .i64 e.kind) ∧ w'.cell? ⟨w.heap.size, 1, none⟩ = some (.int .i64 e.order) ∧ w'.cell? ⟨w.heap.size, 2, none⟩ = some (.int .i64 e.item) ∧ w'.cell? ⟨w.heap.size, 3, none⟩ = some (.int .i64 e.qty) ∧ w'.cell? ⟨w.heap.size, 4, none⟩ = some (.int .i64 e.price) ∧ w'.cell? ⟨w.heap.size, 5, none⟩ = some (.int .i64 e.cur) ∧ w'.cell? ⟨w.heap.size, 6, none⟩ = some (.int .i64 e.tax) ∧ w'.cell? ⟨w.heap.size, 7, none⟩ = some (.string ⟨e.who.toArray⟩) ∧ w'.cell? ⟨w.heap.size, 8, none⟩ = some (.int .i64 e.stamp) ∧ w'.cell? ⟨w.heap.size, 9, none⟩ = some (.string ⟨e.note.toArray⟩)) ∧ w'.cell? ⟨kb, k, none⟩ = some (.string ⟨K.toArray⟩) ∧ Below w6.heap.size w6 w')
              (first | exact keep0.out | assumption | (go_split_ands; exact keepN.out _ _ hb7 (by assumption)))
              (first
                | (go_at_call 45; (with_reducible refine (HGk.out _).mono ?_); rintro x w7 ⟨rfl, hb7⟩)
                | (go_at_call 46; (with_reducible refine (show_any n _ hni1 hni2).mono ?_); rintro x w7 ⟨rfl, hb7⟩)))
            all_goals go_split_ands
            all_goals go_wp2
            all_goals
              go_roundw
              case rel => exact ⟨k + 1, by omega, by go_num, by rw [HP.out, HF.out], Below.next HB6.out (by assumption)⟩
              case measure => simp [intOf]; omega
      · obtain rfl : k = 8 := by omega
        have c9 := HEr.out.c9
        obtain ⟨S, hS⟩ : ∃ S, S = kindWord e.kind ++ partsTo e 8 := ⟨_, rfl⟩
        have HW := Lib.hid (show wordsOf e = S ++ notePart e.note by rw [hS]; rfl)
        rw [← hS] at hslen ⊢
        clear hS
        by_cases hn : e.note = []
        · have kn : e.note.isEmpty = true := by rw [hn]; rfl
          have kn2 : (!e.note.isEmpty) = false := by rw [hn]; rfl
          have HF := Lib.hid (show wordsOf e = S by rw [HW.out, notePart, if_pos hn, List.append_nil])
          clear hn
          go_wp2
          go_ret2
          exact ⟨by rw [hfin.out, HF.out]; rfl, Below.next HB4.out HB.out⟩
        · have kn : e.note.isEmpty = false := by simpa using hn
          have kn2 : (!e.note.isEmpty) = true := by simpa using hn
          obtain ⟨c, wq, hcv, hbq, hszq, hcapq, hcellsq⟩ := conv_bytes wr e.note
          have HBR : Hid (BRow wq (.slice (some ⟨wr.heap.size, 0, none⟩) e.note.length c) e.note) := Lib.hid ⟨_, c, rfl, hcapq, fun _ => ⟨_, 0, rfl, fun i x hx => by rw [Nat.zero_add]; exact hcellsq i x hx⟩⟩
          have HBQ := Lib.hid (Below.next HB4.out (Below.next HB.out hbq))
          obtain ⟨m3, hm3⟩ : ∃ m, m = [32, 110, 111, 116, 101, 61] ++ hexOf e.note := ⟨_, rfl⟩
          obtain ⟨m4, hm4⟩ : ∃ m, m = S ++ m3 := ⟨_, rfl⟩
          have l3 : m3.length = 6 + 2 * e.note.length := by rw [hm3, List.length_append, hexOf_length]; rfl
          have l4 : m4.length = S.length + m3.length := by rw [hm4]; simp
          have e3 := str_add _ _ _ hm3 (by omega)
          have e4 := str_add _ _ _ hm4 (by omega)
          have HF := Lib.hid (show wordsOf e = m4 by rw [HW.out, notePart, if_neg hn, hm4, hm3])
          clear hn hm3 hm4 hbq hszq hcapq hcellsq
          go_wp2_with fail
          refine (refHex_any e.note _ _ HBR.out (by omega)).mono ?_
          rintro x w8 ⟨rfl, hb8⟩
          go_wp2
          go_ret2
          exact ⟨by rw [hfin.out, HF.out]; rfl, Below.next HBQ.out hb8⟩

end Go.Proofs.YtecmpmnidlfgnaaGreatDoor
