import Derived.Test.YtecmpmnidlfgnaaGreatDoorEvent2
import Derived.Test.YtecmpmnidlfgnaaGreatDoorHex
import Derived.Deep.RegionHeld3
namespace Go.Proofs.YtecmpmnidlfgnaaGreatDoor
open Go.RowKit

/-! ## dump.Words -/

def WordsPost (r : List UInt8 × Int) (w : World) (x : Ending) (w' : World) : Prop := x = .returned (.tuple #[.string ⟨r.1.toArray⟩, .int .i64 r.2]) ∧ Below w.heap.size w w'

theorem fnNeqNil (w : World) : (binOp .neq 93 .nilFunc .nilFunc).run Tryz.prog w = .ok (.bool false) w := by kernel_rfl
theorem fnNeq (f : Nat) (w : World) : (binOp .neq 93 (.func (.func f) #[] #[]) .nilFunc).run Tryz.prog w = .ok (.bool true) w := by kernel_rfl

theorem kindsAt' {k : Int} (h0 : 0 ≤ k) (h1 : k ≤ 10) (w : World) : (Instr.index 89 kindsV (.int .i64 k)).run Tryz.prog w = .ok (.string ⟨(kindWord k).toArray⟩) w := by
  obtain ⟨n, rfl⟩ := Int.eq_ofNat_of_zero_le h0
  exact kindsAt n (by omega) w

theorem kindWord_len (k : Int) : (kindWord k).length ≤ 7 := by
  unfold kindWord
  rw [List.getD_eq_getElem?_getD]
  have h : ∀ t ∈ kindW, t.length ≤ 7 := by decide
  cases hx : kindW[k.toNat]? with
  | none => simp
  | some t => exact h t (List.mem_of_getElem? hx)
theorem keyS_len (k : Nat) : (keyS k).length ≤ 5 := by
  unfold keyS
  rw [List.getD_eq_getElem?_getD]
  have h : ∀ t ∈ keyW, t.length ≤ 5 := by decide
  cases hx : keyW[k]? with
  | none => simp
  | some t => exact h t (List.mem_of_getElem? hx)
theorem partOf_len {N : Nat} {e : Ev} (he : EvOk N e) (k : Nat) (hk : k < 8) : (partOf e k).length ≤ 27 + N := by
  unfold partOf
  split
  · unfold whoPart
    have := he.who
    split
    · simp
    · simp; omega
  · rename_i h6
    unfold keyPart
    have h1 := keyS_len k
    unfold keyS at h1
    have h2 : (Lib.itoa (getKey e k)).length ≤ 20 := by
      have : I64 (getKey e k) := by
        unfold getKey
        split
        · exact he.order
        · exact he.item
        · exact he.qty
        · exact he.price
        · exact he.cur
        · exact he.tax
        · exact he.stamp
        · exact ⟨by decide, by decide⟩
      exact itoa_le _ this.1 this.2
    split
    · simp
    · simp only [List.length_cons, List.length_append]; omega
theorem partsTo_len {N : Nat} {e : Ev} (he : EvOk N e) : ∀ k, k ≤ 8 → (partsTo e k).length ≤ k * (27 + N)
  | 0, _ => by simp [partsTo]
  | k + 1, hk => by
    have h1 := partsTo_len he k (by omega)
    have h2 := partOf_len he k (by omega)
    rw [partsTo, List.length_append, Nat.succ_mul]; omega

theorem words_bad {v : Int} {e : Ev} (h : evCheck v e ≠ 0) : dumpWords v e = ([], evCheck v e) := by unfold dumpWords; rw [if_neg h]
theorem words_good {v : Int} {e : Ev} (h : evCheck v e = 0) : dumpWords v e = (wordsOf e, 0) := by unfold dumpWords; rw [if_pos h]


set_option maxRecDepth 100000 in
set_option maxHeartbeats 8000000 in
theorem dumpWords_any (v : Int) (e : Ev) (w : World) (hok : EvOk 2097152 e) (hL : LibV w) :
    Calls Tryz.prog 14 #[.int .i64 v, evV e] w (WordsPost (dumpWords v e) w) := by
  have HC := Lib.hid (fun W => schemaCheck_any v e W hok)
  have HOK := Lib.hid hok
  have HL := Lib.hid hL
  have hE := Lib.hid (evAt_alloc w e 24)
  clear hok hL
  unfold evV at HC ⊢
  by_cases hc : evCheck v e ≠ 0
  · have hfin := Lib.hid (words_bad hc)
    have t1 : (evCheck v e != 0) = true := by rw [bne_iff_ne]; exact hc
    clear hc
    go_enter Tryz.func14, Tryz.ntmps14
    go_wp2_with fail
    refine (HC.out _).mono ?_
    rintro x w2 ⟨rfl, hb⟩
    go_wp2
    go_ret2
    exact ⟨by rw [hfin.out]; rfl, Below.next ((Below.refl _ _).alloc (Nat.le_refl _) _) hb⟩
  · have hc0 : evCheck v e = 0 := Classical.byContradiction hc
    have hfin := Lib.hid (words_good hc0)
    obtain ⟨_, _, hk0, _, hk1, _, hw16, hn120⟩ := check0 hc0
    have t1 : (evCheck v e != 0) = false := by rw [bne_eq_false_iff_eq]; exact hc0
    clear hc hc0
    have kin := kindsAt' (show 0 ≤ e.kind by omega) hk1
    go_enter Tryz.func14, Tryz.ntmps14
    go_wp2_with fail
    refine (HC.out _).mono ?_
    rintro x w2 ⟨rfl, hb⟩
    have HE2 := Lib.hid (hE.out.below hb)
    have HB2 := Lib.hid (Below.next ((Below.refl _ _).alloc (Nat.le_refl _) _) hb)
    have hsz2 : w.heap.size < w2.heap.size := by have := hb.size; simp at this; omega
    have c0 := HE2.out.c0
    clear hb
    go_wp2
    first | (go_region_held3 (fun w' => w'.cell? ⟨w.heap.size, 0, none⟩ = some (.int .i64 e.kind)) (first | assumption | exact cell_later hb3 c0 | go_keep)
      (first | (go_at_call 48; refine (kinds_any _).mono ?_; rintro x w3 ⟨rfl, hb3⟩))) | fail
    rename_i hHeld
    have hb3' := Below.next ((Below.refl _ _).drew) hb3
    have HE3 := Lib.hid (HE2.out.below hb3')
    have HB3 := Lib.hid (Below.next HB2.out hb3')
    clear hb3 hb3' hHeld HE2 HB2 c0 kin
    go_wp2_with fail
    refine (keys_any _).mono ?_
    rintro x w4 ⟨rfl, hK, hb4⟩
    have HE4 := Lib.hid (HE3.out.below hb4)
    have HB4 := Lib.hid (Below.next HB3.out hb4)
    have HK := Lib.hid hK
    have HL4 := Lib.hid (HL.out.below HB4.out)
    have hsz4 : w.heap.size < w4.heap.size := by have := hb4.size; have := HB3.out.size; have := World.block_lt_of_cell? _ _ HE4.out.c0; exact this
    have hsz43 : w3.heap.size < w4.heap.size := by have := World.block_lt_of_cell? _ _ (hK 0 (by omega)).1; exact this
    obtain ⟨kb, hkb⟩ : ∃ kb, kb = w3.heap.size := ⟨_, rfl⟩
    rw [← hkb] at HK ⊢
    clear hb4 hK HE3 HB3 hkb hsz43
    go_wp2
    go_loopw [7, 22] (fun sv iv wr => ∃ k : Nat, k ≤ 8 ∧ iv = .int .i64 k ∧ sv = .string ⟨(kindWord e.kind ++ partsTo e k).toArray⟩ ∧ Below w4.heap.size w4 wr) (fun _ iv _ => 8 - (intOf iv).toNat)
    case atStart => exact ⟨0, by omega, rfl, by simp [partsTo], Below.refl _ _⟩
    case round =>
      obtain ⟨k, hk, rfl, rfl, hb⟩ := hrel
      have HB := Lib.hid hb
      have HEr := Lib.hid (HE4.out.below hb)
      have HKr := Lib.hid (HK.out.below hb)
      have HLr := Lib.hid (HL4.out.below hb)
      have hszr := hb.size
      have hslen : (kindWord e.kind ++ partsTo e k).length ≤ 16777500 := by
        have h1 := kindWord_len e.kind
        have h2 := partsTo_len HOK.out k hk
        rw [List.length_append]
        have : k * (27 + 2097152) ≤ 8 * (27 + 2097152) := Nat.mul_le_mul_right _ hk
        omega
      clear hb
      by_cases hk8 : k < 8
      · have HP := Lib.hid (show kindWord e.kind ++ partsTo e (k + 1) = (kindWord e.kind ++ partsTo e k) ++ partOf e k by rw [partsTo, List.append_assoc])
        obtain ⟨S, hS⟩ : ∃ S, S = kindWord e.kind ++ partsTo e k := ⟨_, rfl⟩
        rw [← hS] at HP hslen ⊢
        clear hS
        have hkk : k = 0 ∨ k = 1 ∨ k = 2 ∨ k = 3 ∨ k = 4 ∨ k = 5 ∨ k = 6 ∨ k = 7 := by omega
        clear hk hk8
        rcases hkk with rfl | rfl | rfl | rfl | rfl | rfl | rfl | rfl
        · have k0 := (HKr.out 0 (by omega)).1
          have k1 := (HKr.out 0 (by omega)).2
          rw [show keyS 0 = [111, 114, 100, 101, 114] from rfl] at k0
          rw [show fnV 0 = Value.func (.func 77) #[] #[] from rfl] at k1
          have fe := fnEq
          have fn := fnNeq
          have HF0 := Lib.hid (keyFn0 w.heap.size)
          have hcE : ∀ C, (wr.alloc C).cell? ⟨w.heap.size, 1, none⟩ = some (.int .i64 e.order) := fun C => (HEr.out.below ((Below.refl _ _).alloc (Nat.le_refl _) C)).c1
          by_cases hn : e.order = 0
          · have HPP := Lib.hid (show S ++ partOf e 0 = S by unfold partOf keyPart; rw [if_neg (by decide), show getKey e 0 = e.order from rfl, if_pos hn, List.append_nil])
            have kn : (e.order != 0) = false := by rw [bne_eq_false_iff_eq]; exact hn
            clear hn
            go_wp2_with fail
            refine (HF0.out _).mono ?_
            rintro x w6 ⟨rfl, rfl⟩
            go_wp2
            go_roundw
            case rel => exact ⟨1, by omega, rfl, by rw [HP.out, HPP.out], Below.next HB.out ((Below.refl _ _).alloc (Nat.le_refl _) _)⟩
            case measure => simp [intOf]
          · have HPP := Lib.hid (show S ++ partOf e 0 = S ++ ([32, 111, 114, 100, 101, 114, 61] ++ Lib.itoa e.order) by unfold partOf keyPart; rw [if_neg (by decide), show getKey e 0 = e.order from rfl, if_neg hn]; rfl)
            have kn : (e.order != 0) = true := by rw [bne_iff_ne]; exact hn
            have hil : (Lib.itoa e.order).length ≤ 20 := itoa_le _ HOK.out.order.1 HOK.out.order.2
            obtain ⟨m3, hm3⟩ : ∃ m, m = [32, 111, 114, 100, 101, 114, 61] ++ Lib.itoa e.order := ⟨_, rfl⟩
            obtain ⟨m4, hm4⟩ : ∃ m, m = S ++ m3 := ⟨_, rfl⟩
            have l3 : m3.length ≤ 30 := by rw [hm3]; simp; omega
            have l4 : m4.length = S.length + m3.length := by rw [hm4]; simp
            have e1 := str_add [32] [111, 114, 100, 101, 114] [32, 111, 114, 100, 101, 114] rfl (by simp)
            have e2 := str_add [32, 111, 114, 100, 101, 114] [61] [32, 111, 114, 100, 101, 114, 61] rfl (by simp)
            have e3 := str_add _ _ _ hm3 (by omega)
            have e4 := str_add _ _ _ hm4 (by omega)
            have HF := Lib.hid (show S ++ partOf e 0 = m4 by rw [HPP.out, hm4, hm3])
            clear hn hm3 hm4 HPP
            go_wp2_with fail
            refine (HF0.out _).mono ?_
            rintro x w6 ⟨rfl, rfl⟩
            go_wp2
            have d0 := World.cell?_alloc_new wr #[.string ⟨#[111, 114, 100, 101, 114]⟩, .func (.func 77) #[] #[]] 95 0
            have d1 := World.cell?_alloc_new wr #[.string ⟨#[111, 114, 100, 101, 114]⟩, .func (.func 77) #[] #[]] 95 1
            have d2 := hcE (.cells #[.string ⟨#[111, 114, 100, 101, 114]⟩, .func (.func 77) #[] #[]] 95)
            have HL5 := Lib.hid (HLr.out.below ((Below.refl _ _).alloc (Nat.le_refl _) (.cells #[.string ⟨#[111, 114, 100, 101, 114]⟩, .func (.func 77) #[] #[]] 95)))
            have HB5 := Lib.hid (Below.next HB.out ((Below.refl _ _).alloc (Nat.le_refl _) (.cells #[.string ⟨#[111, 114, 100, 101, 114]⟩, .func (.func 77) #[] #[]] 95)))
            have hsz5 : wr.heap.size < (wr.alloc (.cells #[.string ⟨#[111, 114, 100, 101, 114]⟩, .func (.func 77) #[] #[]] 95)).heap.size := by simp
            generalize wr.alloc (.cells #[.string ⟨#[111, 114, 100, 101, 114]⟩, .func (.func 77) #[] #[]] 95) = w5 at *
            have keep0 : Hid (w5.drew.cell? ⟨wr.heap.size, 0, none⟩ = some (.string ⟨#[111, 114, 100, 101, 114]⟩) ∧ w5.drew.cell? ⟨wr.heap.size, 1, none⟩ = some (.func (.func 77) #[] #[]) ∧ w5.drew.cell? ⟨w.heap.size, 1, none⟩ = some (.int .i64 e.order) ∧ Below w5.heap.size w5 w5.drew) :=
              Lib.hid ⟨d0, d1, d2, (Below.refl _ _).drew⟩
            have keepN : Hid (∀ a b : World, Below a.heap.size a b → Below w5.heap.size w5 a → b.cell? ⟨wr.heap.size, 0, none⟩ = some (.string ⟨#[111, 114, 100, 101, 114]⟩) ∧ b.cell? ⟨wr.heap.size, 1, none⟩ = some (.func (.func 77) #[] #[]) ∧ b.cell? ⟨w.heap.size, 1, none⟩ = some (.int .i64 e.order) ∧ Below w5.heap.size w5 b) :=
              Lib.hid fun a b h1 h2 => by
                have h3 := Below.next h2 h1
                exact ⟨cell_later h3 d0, cell_later h3 d1, cell_later h3 d2, h3⟩
            clear d0 d1 d2 hcE
            first | (go_region_held3 (fun w' => w'.cell? ⟨wr.heap.size, 0, none⟩ = some (.string ⟨#[111, 114, 100, 101, 114]⟩) ∧ w'.cell? ⟨wr.heap.size, 1, none⟩ = some (.func (.func 77) #[] #[]) ∧ w'.cell? ⟨w.heap.size, 1, none⟩ = some (.int .i64 e.order) ∧ Below w5.heap.size w5 w')
              (first | exact keep0.out | assumption | (go_split_ands; exact keepN.out _ _ hb7 (by assumption)))
              (first
                | (go_at_call 50; go_split_ands; refine (Itoa_lib e.order _ (HL5.out.below (by assumption)) HOK.out.order).mono ?_; rintro x w7 ⟨rfl, hb7⟩)
                | (go_at_call 77; (with_reducible refine (HF0.out _).mono ?_); rintro x w7 ⟨rfl, rfl⟩))) | fail
            all_goals go_split_ands
            all_goals go_wp2
            all_goals
              go_roundw
              case rel => exact ⟨1, by omega, rfl, by rw [HP.out, HF.out], Below.next HB5.out (by assumption)⟩
              case measure => simp [intOf]
        · have k0 := (HKr.out 1 (by omega)).1
          have k1 := (HKr.out 1 (by omega)).2
          rw [show keyS 1 = [105, 116, 101, 109] from rfl] at k0
          rw [show fnV 1 = Value.func (.func 78) #[] #[] from rfl] at k1
          have fe := fnEq
          have fn := fnNeq
          have HF0 := Lib.hid (keyFn1 w.heap.size)
          have hcE : ∀ C, (wr.alloc C).cell? ⟨w.heap.size, 2, none⟩ = some (.int .i64 e.item) := fun C => (HEr.out.below ((Below.refl _ _).alloc (Nat.le_refl _) C)).c2
          by_cases hn : e.item = 0
          · have HPP := Lib.hid (show S ++ partOf e 1 = S by unfold partOf keyPart; rw [if_neg (by decide), show getKey e 1 = e.item from rfl, if_pos hn, List.append_nil])
            have kn : (e.item != 0) = false := by rw [bne_eq_false_iff_eq]; exact hn
            clear hn
            go_wp2_with fail
            refine (HF0.out _).mono ?_
            rintro x w6 ⟨rfl, rfl⟩
            go_wp2
            go_roundw
            case rel => exact ⟨2, by omega, rfl, by rw [HP.out, HPP.out], Below.next HB.out ((Below.refl _ _).alloc (Nat.le_refl _) _)⟩
            case measure => simp [intOf]
          · have HPP := Lib.hid (show S ++ partOf e 1 = S ++ ([32, 105, 116, 101, 109, 61] ++ Lib.itoa e.item) by unfold partOf keyPart; rw [if_neg (by decide), show getKey e 1 = e.item from rfl, if_neg hn]; rfl)
            have kn : (e.item != 0) = true := by rw [bne_iff_ne]; exact hn
            have hil : (Lib.itoa e.item).length ≤ 20 := itoa_le _ HOK.out.item.1 HOK.out.item.2
            obtain ⟨m3, hm3⟩ : ∃ m, m = [32, 105, 116, 101, 109, 61] ++ Lib.itoa e.item := ⟨_, rfl⟩
            obtain ⟨m4, hm4⟩ : ∃ m, m = S ++ m3 := ⟨_, rfl⟩
            have l3 : m3.length ≤ 30 := by rw [hm3]; simp; omega
            have l4 : m4.length = S.length + m3.length := by rw [hm4]; simp
            have e1 := str_add [32] [105, 116, 101, 109] [32, 105, 116, 101, 109] rfl (by simp)
            have e2 := str_add [32, 105, 116, 101, 109] [61] [32, 105, 116, 101, 109, 61] rfl (by simp)
            have e3 := str_add _ _ _ hm3 (by omega)
            have e4 := str_add _ _ _ hm4 (by omega)
            have HF := Lib.hid (show S ++ partOf e 1 = m4 by rw [HPP.out, hm4, hm3])
            clear hn hm3 hm4 HPP
            go_wp2_with fail
            refine (HF0.out _).mono ?_
            rintro x w6 ⟨rfl, rfl⟩
            go_wp2
            have d0 := World.cell?_alloc_new wr #[.string ⟨#[105, 116, 101, 109]⟩, .func (.func 78) #[] #[]] 95 0
            have d1 := World.cell?_alloc_new wr #[.string ⟨#[105, 116, 101, 109]⟩, .func (.func 78) #[] #[]] 95 1
            have d2 := hcE (.cells #[.string ⟨#[105, 116, 101, 109]⟩, .func (.func 78) #[] #[]] 95)
            have HL5 := Lib.hid (HLr.out.below ((Below.refl _ _).alloc (Nat.le_refl _) (.cells #[.string ⟨#[105, 116, 101, 109]⟩, .func (.func 78) #[] #[]] 95)))
            have HB5 := Lib.hid (Below.next HB.out ((Below.refl _ _).alloc (Nat.le_refl _) (.cells #[.string ⟨#[105, 116, 101, 109]⟩, .func (.func 78) #[] #[]] 95)))
            have hsz5 : wr.heap.size < (wr.alloc (.cells #[.string ⟨#[105, 116, 101, 109]⟩, .func (.func 78) #[] #[]] 95)).heap.size := by simp
            generalize wr.alloc (.cells #[.string ⟨#[105, 116, 101, 109]⟩, .func (.func 78) #[] #[]] 95) = w5 at *
            have keep0 : Hid (w5.drew.cell? ⟨wr.heap.size, 0, none⟩ = some (.string ⟨#[105, 116, 101, 109]⟩) ∧ w5.drew.cell? ⟨wr.heap.size, 1, none⟩ = some (.func (.func 78) #[] #[]) ∧ w5.drew.cell? ⟨w.heap.size, 2, none⟩ = some (.int .i64 e.item) ∧ Below w5.heap.size w5 w5.drew) :=
              Lib.hid ⟨d0, d1, d2, (Below.refl _ _).drew⟩
            have keepN : Hid (∀ a b : World, Below a.heap.size a b → Below w5.heap.size w5 a → b.cell? ⟨wr.heap.size, 0, none⟩ = some (.string ⟨#[105, 116, 101, 109]⟩) ∧ b.cell? ⟨wr.heap.size, 1, none⟩ = some (.func (.func 78) #[] #[]) ∧ b.cell? ⟨w.heap.size, 2, none⟩ = some (.int .i64 e.item) ∧ Below w5.heap.size w5 b) :=
              Lib.hid fun a b h1 h2 => by
                have h3 := Below.next h2 h1
                exact ⟨cell_later h3 d0, cell_later h3 d1, cell_later h3 d2, h3⟩
            clear d0 d1 d2 hcE
            first | (go_region_held3 (fun w' => w'.cell? ⟨wr.heap.size, 0, none⟩ = some (.string ⟨#[105, 116, 101, 109]⟩) ∧ w'.cell? ⟨wr.heap.size, 1, none⟩ = some (.func (.func 78) #[] #[]) ∧ w'.cell? ⟨w.heap.size, 2, none⟩ = some (.int .i64 e.item) ∧ Below w5.heap.size w5 w')
              (first | exact keep0.out | assumption | (go_split_ands; exact keepN.out _ _ hb7 (by assumption)))
              (first
                | (go_at_call 50; go_split_ands; refine (Itoa_lib e.item _ (HL5.out.below (by assumption)) HOK.out.item).mono ?_; rintro x w7 ⟨rfl, hb7⟩)
                | (go_at_call 78; (with_reducible refine (HF0.out _).mono ?_); rintro x w7 ⟨rfl, rfl⟩))) | fail
            all_goals go_split_ands
            all_goals go_wp2
            all_goals
              go_roundw
              case rel => exact ⟨2, by omega, rfl, by rw [HP.out, HF.out], Below.next HB5.out (by assumption)⟩
              case measure => simp [intOf]
        · have k0 := (HKr.out 2 (by omega)).1
          have k1 := (HKr.out 2 (by omega)).2
          rw [show keyS 2 = [113, 116, 121] from rfl] at k0
          rw [show fnV 2 = Value.func (.func 79) #[] #[] from rfl] at k1
          have fe := fnEq
          have fn := fnNeq
          have HF0 := Lib.hid (keyFn2 w.heap.size)
          have hcE : ∀ C, (wr.alloc C).cell? ⟨w.heap.size, 3, none⟩ = some (.int .i64 e.qty) := fun C => (HEr.out.below ((Below.refl _ _).alloc (Nat.le_refl _) C)).c3
          by_cases hn : e.qty = 0
          · have HPP := Lib.hid (show S ++ partOf e 2 = S by unfold partOf keyPart; rw [if_neg (by decide), show getKey e 2 = e.qty from rfl, if_pos hn, List.append_nil])
            have kn : (e.qty != 0) = false := by rw [bne_eq_false_iff_eq]; exact hn
            clear hn
            go_wp2_with fail
            refine (HF0.out _).mono ?_
            rintro x w6 ⟨rfl, rfl⟩
            go_wp2
            go_roundw
            case rel => exact ⟨3, by omega, rfl, by rw [HP.out, HPP.out], Below.next HB.out ((Below.refl _ _).alloc (Nat.le_refl _) _)⟩
            case measure => simp [intOf]
          · have HPP := Lib.hid (show S ++ partOf e 2 = S ++ ([32, 113, 116, 121, 61] ++ Lib.itoa e.qty) by unfold partOf keyPart; rw [if_neg (by decide), show getKey e 2 = e.qty from rfl, if_neg hn]; rfl)
            have kn : (e.qty != 0) = true := by rw [bne_iff_ne]; exact hn
            have hil : (Lib.itoa e.qty).length ≤ 20 := itoa_le _ HOK.out.qty.1 HOK.out.qty.2
            obtain ⟨m3, hm3⟩ : ∃ m, m = [32, 113, 116, 121, 61] ++ Lib.itoa e.qty := ⟨_, rfl⟩
            obtain ⟨m4, hm4⟩ : ∃ m, m = S ++ m3 := ⟨_, rfl⟩
            have l3 : m3.length ≤ 30 := by rw [hm3]; simp; omega
            have l4 : m4.length = S.length + m3.length := by rw [hm4]; simp
            have e1 := str_add [32] [113, 116, 121] [32, 113, 116, 121] rfl (by simp)
            have e2 := str_add [32, 113, 116, 121] [61] [32, 113, 116, 121, 61] rfl (by simp)
            have e3 := str_add _ _ _ hm3 (by omega)
            have e4 := str_add _ _ _ hm4 (by omega)
            have HF := Lib.hid (show S ++ partOf e 2 = m4 by rw [HPP.out, hm4, hm3])
            clear hn hm3 hm4 HPP
            go_wp2_with fail
            refine (HF0.out _).mono ?_
            rintro x w6 ⟨rfl, rfl⟩
            go_wp2
            have d0 := World.cell?_alloc_new wr #[.string ⟨#[113, 116, 121]⟩, .func (.func 79) #[] #[]] 95 0
            have d1 := World.cell?_alloc_new wr #[.string ⟨#[113, 116, 121]⟩, .func (.func 79) #[] #[]] 95 1
            have d2 := hcE (.cells #[.string ⟨#[113, 116, 121]⟩, .func (.func 79) #[] #[]] 95)
            have HL5 := Lib.hid (HLr.out.below ((Below.refl _ _).alloc (Nat.le_refl _) (.cells #[.string ⟨#[113, 116, 121]⟩, .func (.func 79) #[] #[]] 95)))
            have HB5 := Lib.hid (Below.next HB.out ((Below.refl _ _).alloc (Nat.le_refl _) (.cells #[.string ⟨#[113, 116, 121]⟩, .func (.func 79) #[] #[]] 95)))
            have hsz5 : wr.heap.size < (wr.alloc (.cells #[.string ⟨#[113, 116, 121]⟩, .func (.func 79) #[] #[]] 95)).heap.size := by simp
            generalize wr.alloc (.cells #[.string ⟨#[113, 116, 121]⟩, .func (.func 79) #[] #[]] 95) = w5 at *
            have keep0 : Hid (w5.drew.cell? ⟨wr.heap.size, 0, none⟩ = some (.string ⟨#[113, 116, 121]⟩) ∧ w5.drew.cell? ⟨wr.heap.size, 1, none⟩ = some (.func (.func 79) #[] #[]) ∧ w5.drew.cell? ⟨w.heap.size, 3, none⟩ = some (.int .i64 e.qty) ∧ Below w5.heap.size w5 w5.drew) :=
              Lib.hid ⟨d0, d1, d2, (Below.refl _ _).drew⟩
            have keepN : Hid (∀ a b : World, Below a.heap.size a b → Below w5.heap.size w5 a → b.cell? ⟨wr.heap.size, 0, none⟩ = some (.string ⟨#[113, 116, 121]⟩) ∧ b.cell? ⟨wr.heap.size, 1, none⟩ = some (.func (.func 79) #[] #[]) ∧ b.cell? ⟨w.heap.size, 3, none⟩ = some (.int .i64 e.qty) ∧ Below w5.heap.size w5 b) :=
              Lib.hid fun a b h1 h2 => by
                have h3 := Below.next h2 h1
                exact ⟨cell_later h3 d0, cell_later h3 d1, cell_later h3 d2, h3⟩
            clear d0 d1 d2 hcE
            first | (go_region_held3 (fun w' => w'.cell? ⟨wr.heap.size, 0, none⟩ = some (.string ⟨#[113, 116, 121]⟩) ∧ w'.cell? ⟨wr.heap.size, 1, none⟩ = some (.func (.func 79) #[] #[]) ∧ w'.cell? ⟨w.heap.size, 3, none⟩ = some (.int .i64 e.qty) ∧ Below w5.heap.size w5 w')
              (first | exact keep0.out | assumption | (go_split_ands; exact keepN.out _ _ hb7 (by assumption)))
              (first
                | (go_at_call 50; go_split_ands; refine (Itoa_lib e.qty _ (HL5.out.below (by assumption)) HOK.out.qty).mono ?_; rintro x w7 ⟨rfl, hb7⟩)
                | (go_at_call 79; (with_reducible refine (HF0.out _).mono ?_); rintro x w7 ⟨rfl, rfl⟩))) | fail
            all_goals go_split_ands
            all_goals go_wp2
            all_goals
              go_roundw
              case rel => exact ⟨3, by omega, rfl, by rw [HP.out, HF.out], Below.next HB5.out (by assumption)⟩
              case measure => simp [intOf]
        · have k0 := (HKr.out 3 (by omega)).1
          have k1 := (HKr.out 3 (by omega)).2
          rw [show keyS 3 = [112, 114, 105, 99, 101] from rfl] at k0
          rw [show fnV 3 = Value.func (.func 80) #[] #[] from rfl] at k1
          have fe := fnEq
          have fn := fnNeq
          have HF0 := Lib.hid (keyFn3 w.heap.size)
          have hcE : ∀ C, (wr.alloc C).cell? ⟨w.heap.size, 4, none⟩ = some (.int .i64 e.price) := fun C => (HEr.out.below ((Below.refl _ _).alloc (Nat.le_refl _) C)).c4
          by_cases hn : e.price = 0
          · have HPP := Lib.hid (show S ++ partOf e 3 = S by unfold partOf keyPart; rw [if_neg (by decide), show getKey e 3 = e.price from rfl, if_pos hn, List.append_nil])
            have kn : (e.price != 0) = false := by rw [bne_eq_false_iff_eq]; exact hn
            clear hn
            go_wp2_with fail
            refine (HF0.out _).mono ?_
            rintro x w6 ⟨rfl, rfl⟩
            go_wp2
            go_roundw
            case rel => exact ⟨4, by omega, rfl, by rw [HP.out, HPP.out], Below.next HB.out ((Below.refl _ _).alloc (Nat.le_refl _) _)⟩
            case measure => simp [intOf]
          · have HPP := Lib.hid (show S ++ partOf e 3 = S ++ ([32, 112, 114, 105, 99, 101, 61] ++ Lib.itoa e.price) by unfold partOf keyPart; rw [if_neg (by decide), show getKey e 3 = e.price from rfl, if_neg hn]; rfl)
            have kn : (e.price != 0) = true := by rw [bne_iff_ne]; exact hn
            have hil : (Lib.itoa e.price).length ≤ 20 := itoa_le _ HOK.out.price.1 HOK.out.price.2
            obtain ⟨m3, hm3⟩ : ∃ m, m = [32, 112, 114, 105, 99, 101, 61] ++ Lib.itoa e.price := ⟨_, rfl⟩
            obtain ⟨m4, hm4⟩ : ∃ m, m = S ++ m3 := ⟨_, rfl⟩
            have l3 : m3.length ≤ 30 := by rw [hm3]; simp; omega
            have l4 : m4.length = S.length + m3.length := by rw [hm4]; simp
            have e1 := str_add [32] [112, 114, 105, 99, 101] [32, 112, 114, 105, 99, 101] rfl (by simp)
            have e2 := str_add [32, 112, 114, 105, 99, 101] [61] [32, 112, 114, 105, 99, 101, 61] rfl (by simp)
            have e3 := str_add _ _ _ hm3 (by omega)
            have e4 := str_add _ _ _ hm4 (by omega)
            have HF := Lib.hid (show S ++ partOf e 3 = m4 by rw [HPP.out, hm4, hm3])
            clear hn hm3 hm4 HPP
            go_wp2_with fail
            refine (HF0.out _).mono ?_
            rintro x w6 ⟨rfl, rfl⟩
            go_wp2
            have d0 := World.cell?_alloc_new wr #[.string ⟨#[112, 114, 105, 99, 101]⟩, .func (.func 80) #[] #[]] 95 0
            have d1 := World.cell?_alloc_new wr #[.string ⟨#[112, 114, 105, 99, 101]⟩, .func (.func 80) #[] #[]] 95 1
            have d2 := hcE (.cells #[.string ⟨#[112, 114, 105, 99, 101]⟩, .func (.func 80) #[] #[]] 95)
            have HL5 := Lib.hid (HLr.out.below ((Below.refl _ _).alloc (Nat.le_refl _) (.cells #[.string ⟨#[112, 114, 105, 99, 101]⟩, .func (.func 80) #[] #[]] 95)))
            have HB5 := Lib.hid (Below.next HB.out ((Below.refl _ _).alloc (Nat.le_refl _) (.cells #[.string ⟨#[112, 114, 105, 99, 101]⟩, .func (.func 80) #[] #[]] 95)))
            have hsz5 : wr.heap.size < (wr.alloc (.cells #[.string ⟨#[112, 114, 105, 99, 101]⟩, .func (.func 80) #[] #[]] 95)).heap.size := by simp
            generalize wr.alloc (.cells #[.string ⟨#[112, 114, 105, 99, 101]⟩, .func (.func 80) #[] #[]] 95) = w5 at *
            have keep0 : Hid (w5.drew.cell? ⟨wr.heap.size, 0, none⟩ = some (.string ⟨#[112, 114, 105, 99, 101]⟩) ∧ w5.drew.cell? ⟨wr.heap.size, 1, none⟩ = some (.func (.func 80) #[] #[]) ∧ w5.drew.cell? ⟨w.heap.size, 4, none⟩ = some (.int .i64 e.price) ∧ Below w5.heap.size w5 w5.drew) :=
              Lib.hid ⟨d0, d1, d2, (Below.refl _ _).drew⟩
            have keepN : Hid (∀ a b : World, Below a.heap.size a b → Below w5.heap.size w5 a → b.cell? ⟨wr.heap.size, 0, none⟩ = some (.string ⟨#[112, 114, 105, 99, 101]⟩) ∧ b.cell? ⟨wr.heap.size, 1, none⟩ = some (.func (.func 80) #[] #[]) ∧ b.cell? ⟨w.heap.size, 4, none⟩ = some (.int .i64 e.price) ∧ Below w5.heap.size w5 b) :=
              Lib.hid fun a b h1 h2 => by
                have h3 := Below.next h2 h1
                exact ⟨cell_later h3 d0, cell_later h3 d1, cell_later h3 d2, h3⟩
            clear d0 d1 d2 hcE
            first | (go_region_held3 (fun w' => w'.cell? ⟨wr.heap.size, 0, none⟩ = some (.string ⟨#[112, 114, 105, 99, 101]⟩) ∧ w'.cell? ⟨wr.heap.size, 1, none⟩ = some (.func (.func 80) #[] #[]) ∧ w'.cell? ⟨w.heap.size, 4, none⟩ = some (.int .i64 e.price) ∧ Below w5.heap.size w5 w')
              (first | exact keep0.out | assumption | (go_split_ands; exact keepN.out _ _ hb7 (by assumption)))
              (first
                | (go_at_call 50; go_split_ands; refine (Itoa_lib e.price _ (HL5.out.below (by assumption)) HOK.out.price).mono ?_; rintro x w7 ⟨rfl, hb7⟩)
                | (go_at_call 80; (with_reducible refine (HF0.out _).mono ?_); rintro x w7 ⟨rfl, rfl⟩))) | fail
            all_goals go_split_ands
            all_goals go_wp2
            all_goals
              go_roundw
              case rel => exact ⟨4, by omega, rfl, by rw [HP.out, HF.out], Below.next HB5.out (by assumption)⟩
              case measure => simp [intOf]
        · have k0 := (HKr.out 4 (by omega)).1
          have k1 := (HKr.out 4 (by omega)).2
          rw [show keyS 4 = [99, 117, 114] from rfl] at k0
          rw [show fnV 4 = Value.func (.func 81) #[] #[] from rfl] at k1
          have fe := fnEq
          have fn := fnNeq
          have HF0 := Lib.hid (keyFn4 w.heap.size)
          have hcE : ∀ C, (wr.alloc C).cell? ⟨w.heap.size, 5, none⟩ = some (.int .i64 e.cur) := fun C => (HEr.out.below ((Below.refl _ _).alloc (Nat.le_refl _) C)).c5
          by_cases hn : e.cur = 0
          · have HPP := Lib.hid (show S ++ partOf e 4 = S by unfold partOf keyPart; rw [if_neg (by decide), show getKey e 4 = e.cur from rfl, if_pos hn, List.append_nil])
            have kn : (e.cur != 0) = false := by rw [bne_eq_false_iff_eq]; exact hn
            clear hn
            go_wp2_with fail
            refine (HF0.out _).mono ?_
            rintro x w6 ⟨rfl, rfl⟩
            go_wp2
            go_roundw
            case rel => exact ⟨5, by omega, rfl, by rw [HP.out, HPP.out], Below.next HB.out ((Below.refl _ _).alloc (Nat.le_refl _) _)⟩
            case measure => simp [intOf]
          · have HPP := Lib.hid (show S ++ partOf e 4 = S ++ ([32, 99, 117, 114, 61] ++ Lib.itoa e.cur) by unfold partOf keyPart; rw [if_neg (by decide), show getKey e 4 = e.cur from rfl, if_neg hn]; rfl)
            have kn : (e.cur != 0) = true := by rw [bne_iff_ne]; exact hn
            have hil : (Lib.itoa e.cur).length ≤ 20 := itoa_le _ HOK.out.cur.1 HOK.out.cur.2
            obtain ⟨m3, hm3⟩ : ∃ m, m = [32, 99, 117, 114, 61] ++ Lib.itoa e.cur := ⟨_, rfl⟩
            obtain ⟨m4, hm4⟩ : ∃ m, m = S ++ m3 := ⟨_, rfl⟩
            have l3 : m3.length ≤ 30 := by rw [hm3]; simp; omega
            have l4 : m4.length = S.length + m3.length := by rw [hm4]; simp
            have e1 := str_add [32] [99, 117, 114] [32, 99, 117, 114] rfl (by simp)
            have e2 := str_add [32, 99, 117, 114] [61] [32, 99, 117, 114, 61] rfl (by simp)
            have e3 := str_add _ _ _ hm3 (by omega)
            have e4 := str_add _ _ _ hm4 (by omega)
            have HF := Lib.hid (show S ++ partOf e 4 = m4 by rw [HPP.out, hm4, hm3])
            clear hn hm3 hm4 HPP
            go_wp2_with fail
            refine (HF0.out _).mono ?_
            rintro x w6 ⟨rfl, rfl⟩
            go_wp2
            have d0 := World.cell?_alloc_new wr #[.string ⟨#[99, 117, 114]⟩, .func (.func 81) #[] #[]] 95 0
            have d1 := World.cell?_alloc_new wr #[.string ⟨#[99, 117, 114]⟩, .func (.func 81) #[] #[]] 95 1
            have d2 := hcE (.cells #[.string ⟨#[99, 117, 114]⟩, .func (.func 81) #[] #[]] 95)
            have HL5 := Lib.hid (HLr.out.below ((Below.refl _ _).alloc (Nat.le_refl _) (.cells #[.string ⟨#[99, 117, 114]⟩, .func (.func 81) #[] #[]] 95)))
            have HB5 := Lib.hid (Below.next HB.out ((Below.refl _ _).alloc (Nat.le_refl _) (.cells #[.string ⟨#[99, 117, 114]⟩, .func (.func 81) #[] #[]] 95)))
            have hsz5 : wr.heap.size < (wr.alloc (.cells #[.string ⟨#[99, 117, 114]⟩, .func (.func 81) #[] #[]] 95)).heap.size := by simp
            generalize wr.alloc (.cells #[.string ⟨#[99, 117, 114]⟩, .func (.func 81) #[] #[]] 95) = w5 at *
            have keep0 : Hid (w5.drew.cell? ⟨wr.heap.size, 0, none⟩ = some (.string ⟨#[99, 117, 114]⟩) ∧ w5.drew.cell? ⟨wr.heap.size, 1, none⟩ = some (.func (.func 81) #[] #[]) ∧ w5.drew.cell? ⟨w.heap.size, 5, none⟩ = some (.int .i64 e.cur) ∧ Below w5.heap.size w5 w5.drew) :=
              Lib.hid ⟨d0, d1, d2, (Below.refl _ _).drew⟩
            have keepN : Hid (∀ a b : World, Below a.heap.size a b → Below w5.heap.size w5 a → b.cell? ⟨wr.heap.size, 0, none⟩ = some (.string ⟨#[99, 117, 114]⟩) ∧ b.cell? ⟨wr.heap.size, 1, none⟩ = some (.func (.func 81) #[] #[]) ∧ b.cell? ⟨w.heap.size, 5, none⟩ = some (.int .i64 e.cur) ∧ Below w5.heap.size w5 b) :=
              Lib.hid fun a b h1 h2 => by
                have h3 := Below.next h2 h1
                exact ⟨cell_later h3 d0, cell_later h3 d1, cell_later h3 d2, h3⟩
            clear d0 d1 d2 hcE
            first | (go_region_held3 (fun w' => w'.cell? ⟨wr.heap.size, 0, none⟩ = some (.string ⟨#[99, 117, 114]⟩) ∧ w'.cell? ⟨wr.heap.size, 1, none⟩ = some (.func (.func 81) #[] #[]) ∧ w'.cell? ⟨w.heap.size, 5, none⟩ = some (.int .i64 e.cur) ∧ Below w5.heap.size w5 w')
              (first | exact keep0.out | assumption | (go_split_ands; exact keepN.out _ _ hb7 (by assumption)))
              (first
                | (go_at_call 50; go_split_ands; refine (Itoa_lib e.cur _ (HL5.out.below (by assumption)) HOK.out.cur).mono ?_; rintro x w7 ⟨rfl, hb7⟩)
                | (go_at_call 81; (with_reducible refine (HF0.out _).mono ?_); rintro x w7 ⟨rfl, rfl⟩))) | fail
            all_goals go_split_ands
            all_goals go_wp2
            all_goals
              go_roundw
              case rel => exact ⟨5, by omega, rfl, by rw [HP.out, HF.out], Below.next HB5.out (by assumption)⟩
              case measure => simp [intOf]
        · have k0 := (HKr.out 5 (by omega)).1
          have k1 := (HKr.out 5 (by omega)).2
          rw [show keyS 5 = [116, 97, 120] from rfl] at k0
          rw [show fnV 5 = Value.func (.func 82) #[] #[] from rfl] at k1
          have fe := fnEq
          have fn := fnNeq
          have HF0 := Lib.hid (keyFn5 w.heap.size)
          have hcE : ∀ C, (wr.alloc C).cell? ⟨w.heap.size, 6, none⟩ = some (.int .i64 e.tax) := fun C => (HEr.out.below ((Below.refl _ _).alloc (Nat.le_refl _) C)).c6
          by_cases hn : e.tax = 0
          · have HPP := Lib.hid (show S ++ partOf e 5 = S by unfold partOf keyPart; rw [if_neg (by decide), show getKey e 5 = e.tax from rfl, if_pos hn, List.append_nil])
            have kn : (e.tax != 0) = false := by rw [bne_eq_false_iff_eq]; exact hn
            clear hn
            go_wp2_with fail
            refine (HF0.out _).mono ?_
            rintro x w6 ⟨rfl, rfl⟩
            go_wp2
            go_roundw
            case rel => exact ⟨6, by omega, rfl, by rw [HP.out, HPP.out], Below.next HB.out ((Below.refl _ _).alloc (Nat.le_refl _) _)⟩
            case measure => simp [intOf]
          · have HPP := Lib.hid (show S ++ partOf e 5 = S ++ ([32, 116, 97, 120, 61] ++ Lib.itoa e.tax) by unfold partOf keyPart; rw [if_neg (by decide), show getKey e 5 = e.tax from rfl, if_neg hn]; rfl)
            have kn : (e.tax != 0) = true := by rw [bne_iff_ne]; exact hn
            have hil : (Lib.itoa e.tax).length ≤ 20 := itoa_le _ HOK.out.tax.1 HOK.out.tax.2
            obtain ⟨m3, hm3⟩ : ∃ m, m = [32, 116, 97, 120, 61] ++ Lib.itoa e.tax := ⟨_, rfl⟩
            obtain ⟨m4, hm4⟩ : ∃ m, m = S ++ m3 := ⟨_, rfl⟩
            have l3 : m3.length ≤ 30 := by rw [hm3]; simp; omega
            have l4 : m4.length = S.length + m3.length := by rw [hm4]; simp
            have e1 := str_add [32] [116, 97, 120] [32, 116, 97, 120] rfl (by simp)
            have e2 := str_add [32, 116, 97, 120] [61] [32, 116, 97, 120, 61] rfl (by simp)
            have e3 := str_add _ _ _ hm3 (by omega)
            have e4 := str_add _ _ _ hm4 (by omega)
            have HF := Lib.hid (show S ++ partOf e 5 = m4 by rw [HPP.out, hm4, hm3])
            clear hn hm3 hm4 HPP
            go_wp2_with fail
            refine (HF0.out _).mono ?_
            rintro x w6 ⟨rfl, rfl⟩
            go_wp2
            have d0 := World.cell?_alloc_new wr #[.string ⟨#[116, 97, 120]⟩, .func (.func 82) #[] #[]] 95 0
            have d1 := World.cell?_alloc_new wr #[.string ⟨#[116, 97, 120]⟩, .func (.func 82) #[] #[]] 95 1
            have d2 := hcE (.cells #[.string ⟨#[116, 97, 120]⟩, .func (.func 82) #[] #[]] 95)
            have HL5 := Lib.hid (HLr.out.below ((Below.refl _ _).alloc (Nat.le_refl _) (.cells #[.string ⟨#[116, 97, 120]⟩, .func (.func 82) #[] #[]] 95)))
            have HB5 := Lib.hid (Below.next HB.out ((Below.refl _ _).alloc (Nat.le_refl _) (.cells #[.string ⟨#[116, 97, 120]⟩, .func (.func 82) #[] #[]] 95)))
            have hsz5 : wr.heap.size < (wr.alloc (.cells #[.string ⟨#[116, 97, 120]⟩, .func (.func 82) #[] #[]] 95)).heap.size := by simp
            generalize wr.alloc (.cells #[.string ⟨#[116, 97, 120]⟩, .func (.func 82) #[] #[]] 95) = w5 at *
            have keep0 : Hid (w5.drew.cell? ⟨wr.heap.size, 0, none⟩ = some (.string ⟨#[116, 97, 120]⟩) ∧ w5.drew.cell? ⟨wr.heap.size, 1, none⟩ = some (.func (.func 82) #[] #[]) ∧ w5.drew.cell? ⟨w.heap.size, 6, none⟩ = some (.int .i64 e.tax) ∧ Below w5.heap.size w5 w5.drew) :=
              Lib.hid ⟨d0, d1, d2, (Below.refl _ _).drew⟩
            have keepN : Hid (∀ a b : World, Below a.heap.size a b → Below w5.heap.size w5 a → b.cell? ⟨wr.heap.size, 0, none⟩ = some (.string ⟨#[116, 97, 120]⟩) ∧ b.cell? ⟨wr.heap.size, 1, none⟩ = some (.func (.func 82) #[] #[]) ∧ b.cell? ⟨w.heap.size, 6, none⟩ = some (.int .i64 e.tax) ∧ Below w5.heap.size w5 b) :=
              Lib.hid fun a b h1 h2 => by
                have h3 := Below.next h2 h1
                exact ⟨cell_later h3 d0, cell_later h3 d1, cell_later h3 d2, h3⟩
            clear d0 d1 d2 hcE
            first | (go_region_held3 (fun w' => w'.cell? ⟨wr.heap.size, 0, none⟩ = some (.string ⟨#[116, 97, 120]⟩) ∧ w'.cell? ⟨wr.heap.size, 1, none⟩ = some (.func (.func 82) #[] #[]) ∧ w'.cell? ⟨w.heap.size, 6, none⟩ = some (.int .i64 e.tax) ∧ Below w5.heap.size w5 w')
              (first | exact keep0.out | assumption | (go_split_ands; exact keepN.out _ _ hb7 (by assumption)))
              (first
                | (go_at_call 50; go_split_ands; refine (Itoa_lib e.tax _ (HL5.out.below (by assumption)) HOK.out.tax).mono ?_; rintro x w7 ⟨rfl, hb7⟩)
                | (go_at_call 82; (with_reducible refine (HF0.out _).mono ?_); rintro x w7 ⟨rfl, rfl⟩))) | fail
            all_goals go_split_ands
            all_goals go_wp2
            all_goals
              go_roundw
              case rel => exact ⟨6, by omega, rfl, by rw [HP.out, HF.out], Below.next HB5.out (by assumption)⟩
              case measure => simp [intOf]
        · have k0 := (HKr.out 6 (by omega)).1
          have k1 := (HKr.out 6 (by omega)).2
          rw [show keyS 6 = [119, 104, 111] from rfl] at k0
          rw [show fnV 6 = Value.nilFunc from rfl] at k1
          have fe := fnEqNil
          have fn := fnNeqNil
          have c7 : ∀ C, (wr.alloc C).cell? ⟨w.heap.size, 7, none⟩ = some (.string ⟨e.who.toArray⟩) := fun C => (HEr.out.below ((Below.refl _ _).alloc (Nat.le_refl _) C)).c7
          by_cases hw : e.who = []
          · have HPP := Lib.hid (show S ++ partOf e 6 = S by unfold partOf whoPart; rw [if_pos rfl, if_pos hw, List.append_nil])
            have kw : e.who.isEmpty = true := by rw [hw]; rfl
            have kw2 : (!e.who.isEmpty) = false := by rw [hw]; rfl
            clear hw
            go_wp2
            go_roundw
            case rel => exact ⟨7, by omega, rfl, by rw [HP.out, HPP.out], Below.next HB.out ((Below.refl _ _).alloc (Nat.le_refl _) _)⟩
            case measure => simp [intOf]
          · have HPP := Lib.hid (show S ++ partOf e 6 = S ++ ([32, 119, 104, 111, 61] ++ e.who) by unfold partOf whoPart; rw [if_pos rfl, if_neg hw])
            have kw : e.who.isEmpty = false := by simpa using hw
            have kw2 : (!e.who.isEmpty) = true := by simpa using hw
            obtain ⟨m3, hm3⟩ : ∃ m, m = [32, 119, 104, 111, 61] ++ e.who := ⟨_, rfl⟩
            obtain ⟨m4, hm4⟩ : ∃ m, m = S ++ m3 := ⟨_, rfl⟩
            have l3 : m3.length = 5 + e.who.length := by rw [hm3]; simp; omega
            have l4 : m4.length = S.length + m3.length := by rw [hm4]; simp
            have e1 := str_add [32] [119, 104, 111] [32, 119, 104, 111] rfl (by simp)
            have e2 := str_add [32, 119, 104, 111] [61] [32, 119, 104, 111, 61] rfl (by simp)
            have e3 := str_add _ _ _ hm3 (by omega)
            have e4 := str_add _ _ _ hm4 (by omega)
            have HF := Lib.hid (show S ++ partOf e 6 = m4 by rw [HPP.out, hm4, hm3])
            clear hw hm3 hm4 HPP
            go_wp2
            go_roundw
            case rel => exact ⟨7, by omega, rfl, by rw [HP.out, HF.out], Below.next HB.out ((Below.refl _ _).alloc (Nat.le_refl _) _)⟩
            case measure => simp [intOf]
        · have k0 := (HKr.out 7 (by omega)).1
          have k1 := (HKr.out 7 (by omega)).2
          rw [show keyS 7 = [115, 116, 97, 109, 112] from rfl] at k0
          rw [show fnV 7 = Value.func (.func 83) #[] #[] from rfl] at k1
          have fe := fnEq
          have fn := fnNeq
          have HF0 := Lib.hid (keyFn7 w.heap.size)
          have hcE : ∀ C, (wr.alloc C).cell? ⟨w.heap.size, 8, none⟩ = some (.int .i64 e.stamp) := fun C => (HEr.out.below ((Below.refl _ _).alloc (Nat.le_refl _) C)).c8
          by_cases hn : e.stamp = 0
          · have HPP := Lib.hid (show S ++ partOf e 7 = S by unfold partOf keyPart; rw [if_neg (by decide), show getKey e 7 = e.stamp from rfl, if_pos hn, List.append_nil])
            have kn : (e.stamp != 0) = false := by rw [bne_eq_false_iff_eq]; exact hn
            clear hn
            go_wp2_with fail
            refine (HF0.out _).mono ?_
            rintro x w6 ⟨rfl, rfl⟩
            go_wp2
            go_roundw
            case rel => exact ⟨8, by omega, rfl, by rw [HP.out, HPP.out], Below.next HB.out ((Below.refl _ _).alloc (Nat.le_refl _) _)⟩
            case measure => simp [intOf]
          · have HPP := Lib.hid (show S ++ partOf e 7 = S ++ ([32, 115, 116, 97, 109, 112, 61] ++ Lib.itoa e.stamp) by unfold partOf keyPart; rw [if_neg (by decide), show getKey e 7 = e.stamp from rfl, if_neg hn]; rfl)
            have kn : (e.stamp != 0) = true := by rw [bne_iff_ne]; exact hn
            have hil : (Lib.itoa e.stamp).length ≤ 20 := itoa_le _ HOK.out.stamp.1 HOK.out.stamp.2
            obtain ⟨m3, hm3⟩ : ∃ m, m = [32, 115, 116, 97, 109, 112, 61] ++ Lib.itoa e.stamp := ⟨_, rfl⟩
            obtain ⟨m4, hm4⟩ : ∃ m, m = S ++ m3 := ⟨_, rfl⟩
            have l3 : m3.length ≤ 30 := by rw [hm3]; simp; omega
            have l4 : m4.length = S.length + m3.length := by rw [hm4]; simp
            have e1 := str_add [32] [115, 116, 97, 109, 112] [32, 115, 116, 97, 109, 112] rfl (by simp)
            have e2 := str_add [32, 115, 116, 97, 109, 112] [61] [32, 115, 116, 97, 109, 112, 61] rfl (by simp)
            have e3 := str_add _ _ _ hm3 (by omega)
            have e4 := str_add _ _ _ hm4 (by omega)
            have HF := Lib.hid (show S ++ partOf e 7 = m4 by rw [HPP.out, hm4, hm3])
            clear hn hm3 hm4 HPP
            go_wp2_with fail
            refine (HF0.out _).mono ?_
            rintro x w6 ⟨rfl, rfl⟩
            go_wp2
            have d0 := World.cell?_alloc_new wr #[.string ⟨#[115, 116, 97, 109, 112]⟩, .func (.func 83) #[] #[]] 95 0
            have d1 := World.cell?_alloc_new wr #[.string ⟨#[115, 116, 97, 109, 112]⟩, .func (.func 83) #[] #[]] 95 1
            have d2 := hcE (.cells #[.string ⟨#[115, 116, 97, 109, 112]⟩, .func (.func 83) #[] #[]] 95)
            have HL5 := Lib.hid (HLr.out.below ((Below.refl _ _).alloc (Nat.le_refl _) (.cells #[.string ⟨#[115, 116, 97, 109, 112]⟩, .func (.func 83) #[] #[]] 95)))
            have HB5 := Lib.hid (Below.next HB.out ((Below.refl _ _).alloc (Nat.le_refl _) (.cells #[.string ⟨#[115, 116, 97, 109, 112]⟩, .func (.func 83) #[] #[]] 95)))
            have hsz5 : wr.heap.size < (wr.alloc (.cells #[.string ⟨#[115, 116, 97, 109, 112]⟩, .func (.func 83) #[] #[]] 95)).heap.size := by simp
            generalize wr.alloc (.cells #[.string ⟨#[115, 116, 97, 109, 112]⟩, .func (.func 83) #[] #[]] 95) = w5 at *
            have keep0 : Hid (w5.drew.cell? ⟨wr.heap.size, 0, none⟩ = some (.string ⟨#[115, 116, 97, 109, 112]⟩) ∧ w5.drew.cell? ⟨wr.heap.size, 1, none⟩ = some (.func (.func 83) #[] #[]) ∧ w5.drew.cell? ⟨w.heap.size, 8, none⟩ = some (.int .i64 e.stamp) ∧ Below w5.heap.size w5 w5.drew) :=
              Lib.hid ⟨d0, d1, d2, (Below.refl _ _).drew⟩
            have keepN : Hid (∀ a b : World, Below a.heap.size a b → Below w5.heap.size w5 a → b.cell? ⟨wr.heap.size, 0, none⟩ = some (.string ⟨#[115, 116, 97, 109, 112]⟩) ∧ b.cell? ⟨wr.heap.size, 1, none⟩ = some (.func (.func 83) #[] #[]) ∧ b.cell? ⟨w.heap.size, 8, none⟩ = some (.int .i64 e.stamp) ∧ Below w5.heap.size w5 b) :=
              Lib.hid fun a b h1 h2 => by
                have h3 := Below.next h2 h1
                exact ⟨cell_later h3 d0, cell_later h3 d1, cell_later h3 d2, h3⟩
            clear d0 d1 d2 hcE
            first | (go_region_held3 (fun w' => w'.cell? ⟨wr.heap.size, 0, none⟩ = some (.string ⟨#[115, 116, 97, 109, 112]⟩) ∧ w'.cell? ⟨wr.heap.size, 1, none⟩ = some (.func (.func 83) #[] #[]) ∧ w'.cell? ⟨w.heap.size, 8, none⟩ = some (.int .i64 e.stamp) ∧ Below w5.heap.size w5 w')
              (first | exact keep0.out | assumption | (go_split_ands; exact keepN.out _ _ hb7 (by assumption)))
              (first
                | (go_at_call 50; go_split_ands; refine (Itoa_lib e.stamp _ (HL5.out.below (by assumption)) HOK.out.stamp).mono ?_; rintro x w7 ⟨rfl, hb7⟩)
                | (go_at_call 83; (with_reducible refine (HF0.out _).mono ?_); rintro x w7 ⟨rfl, rfl⟩))) | fail
            all_goals go_split_ands
            all_goals go_wp2
            all_goals
              go_roundw
              case rel => exact ⟨8, by omega, rfl, by rw [HP.out, HF.out], Below.next HB5.out (by assumption)⟩
              case measure => simp [intOf]
      · obtain rfl : k = 8 := by omega
        have c9 := HEr.out.c9
        obtain ⟨S, hS⟩ : ∃ S, S = kindWord e.kind ++ partsTo e 8 := ⟨_, rfl⟩
        have HW := Lib.hid (show wordsOf e = S ++ notePart e.note by rw [hS]; rfl)
        rw [← hS] at hslen ⊢
        clear hS
        by_cases hn : e.note = []
        · have kn : e.note.isEmpty = true := by rw [hn]; rfl
          have kn2 : (!e.note.isEmpty) = false := by rw [hn]; rfl
          have HF := Lib.hid (show wordsOf e = S by rw [HW.out, notePart, if_pos hn, List.append_nil])
          clear hn
          go_wp2
          go_ret2
          exact ⟨by rw [hfin.out, HF.out]; rfl, Below.next HB4.out HB.out⟩
        · have kn : e.note.isEmpty = false := by simpa using hn
          have kn2 : (!e.note.isEmpty) = true := by simpa using hn
          obtain ⟨c, wq, hcv, hbq, hszq, hcapq, hcellsq⟩ := conv_bytes wr e.note
          have HBR : Hid (BRow wq (.slice (some ⟨wr.heap.size, 0, none⟩) e.note.length c) e.note) := Lib.hid ⟨_, c, rfl, hcapq, fun _ => ⟨_, 0, rfl, fun i x hx => by rw [Nat.zero_add]; exact hcellsq i x hx⟩⟩
          have HBQ := Lib.hid (Below.next HB4.out (Below.next HB.out hbq))
          obtain ⟨m3, hm3⟩ : ∃ m, m = [32, 110, 111, 116, 101, 61] ++ hexOf e.note := ⟨_, rfl⟩
          obtain ⟨m4, hm4⟩ : ∃ m, m = S ++ m3 := ⟨_, rfl⟩
          have l3 : m3.length = 6 + 2 * e.note.length := by rw [hm3, List.length_append, hexOf_length]; rfl
          have l4 : m4.length = S.length + m3.length := by rw [hm4]; simp
          have e3 := str_add _ _ _ hm3 (by omega)
          have e4 := str_add _ _ _ hm4 (by omega)
          have HF := Lib.hid (show wordsOf e = m4 by rw [HW.out, notePart, if_neg hn, hm4, hm3])
          clear hn hm3 hm4 hbq hszq hcapq hcellsq
          go_wp2_with fail
          refine (dumpHex_any e.note _ _ HBR.out (by omega)).mono ?_
          rintro x w8 ⟨rfl, hb8⟩
          go_wp2
          go_ret2
          exact ⟨by rw [hfin.out, HF.out]; rfl, Below.next HBQ.out hb8⟩

end Go.Proofs.YtecmpmnidlfgnaaGreatDoor
