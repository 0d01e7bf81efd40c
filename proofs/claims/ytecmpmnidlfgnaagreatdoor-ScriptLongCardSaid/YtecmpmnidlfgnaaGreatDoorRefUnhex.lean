import Derived.Test.YtecmpmnidlfgnaaGreatDoorUnhex
namespace Go.Proofs.YtecmpmnidlfgnaaGreatDoor
open Go.RowKit

/-! ## the reference's Unhex -/

theorem hexOf_pair {p q : UInt8} {X : Nat} (hX : X < 256) (h : hexOf [UInt8.ofNat X] = [p, q]) : ∃ a b, unhx p = some a ∧ unhx q = some b ∧ UInt8.ofNat (16 * a + b) = UInt8.ofNat X := by
  have hx1 : (UInt8.ofNat X).toNat = X := by rw [UInt8.toNat_ofNat']; omega
  simp only [hexOf, hx1, List.cons.injEq, and_true] at h
  obtain ⟨h1, h2⟩ := h
  refine ⟨X / 16, X % 16, by rw [← h1, unhx_hx _ (by omega)], by rw [← h2, unhx_hx _ (by omega)], by congr 1; omega⟩
theorem hexOf_pair_ne {p q : UInt8} (h : ∀ X, X < 256 → hexOf [UInt8.ofNat X] ≠ [p, q]) : unhx p = none ∨ unhx q = none := by
  cases hp : unhx p with
  | none => exact .inl rfl
  | some a =>
    cases hq : unhx q with
    | none => exact .inr rfl
    | some b =>
      obtain ⟨h1, h2⟩ := unhx_some hp
      obtain ⟨h3, h4⟩ := unhx_some hq
      refine absurd ?_ (h (16 * a + b) (by omega))
      have hx1 : (UInt8.ofNat (16 * a + b)).toNat = 16 * a + b := by rw [UInt8.toNat_ofNat']; omega
      simp only [hexOf, hx1]
      rw [show (16 * a + b) / 16 = a by omega, show (16 * a + b) % 16 = b by omega, h2, h4]

theorem brow_one (W w : World) (x : UInt8) (hc : w.cell? ⟨W.heap.size, 0, none⟩ = some (.int .u8 (x.toNat : Int))) : BRow w (.slice (some ⟨W.heap.size, 0, none⟩) 1 1) [x] :=
  ⟨_, 1, rfl, Nat.le_refl _, fun _ => ⟨W.heap.size, 0, rfl, fun i y hy => by
    have := getElem?_lt hy
    simp at this
    subst this
    simp at hy
    subst hy
    simpa using hc⟩⟩

theorem own_empty (w : World) (e : TypeId) (size : Nat) : (w.alloc (.cells #[] e)).ownsRow w.heap.size e size (.slice (some ⟨w.heap.size, 0, none⟩) 0 0) 0 [] :=
  ⟨by simp, .inr ⟨w.heap.size, 0, #[], rfl, Nat.le_refl _, heap_alloc_new w _, Nat.le_refl _, by decide, by simp, by simp⟩⟩

/-- of the first X bytes none is written as this pair -/
def NoneTo (p q : UInt8) (X : Nat) : Prop := ∀ Y, Y < X → hexOf [UInt8.ofNat Y] ≠ [p, q]

set_option maxRecDepth 100000 in
set_option maxHeartbeats 4000000 in
theorem refUnhex_any (l : List UInt8) (w : World) (hl : l.length ≤ 2097152) :
    Calls Tryz.prog 54 #[.string ⟨l.toArray⟩] w (UnhexPost l w) := by
  obtain ⟨i0, hi, hz0, hz1, hz2⟩ := info_parts infoByteU
  by_cases hodd : l.length % 2 = 1
  · have hn := Lib.hid (unhex_odd l hodd)
    have k1 : (((l.length : Int) % 2) == 1) = true := by rw [beq_iff_eq]; omega
    clear hodd
    go_enter Tryz.func54, Tryz.ntmps54
    go_wp2
    go_ret2
    exact unhex_bad hn.out ((Below.refl _ _).alloc (Nat.le_refl _) _)
  have k1 : (((l.length : Int) % 2) == 1) = false := by rw [beq_eq_false_iff_ne]; omega
  have heven : Hid (l.length % 2 = 0) := Lib.hid (by omega)
  clear hodd
  go_enter Tryz.func54, Tryz.ntmps54
  go_wp2
  go_loopw [4, 5] (fun b i wr => ∃ (j : Nat) (bs : List UInt8), 2 * j ≤ l.length ∧ i = .int .i64 (2 * j : Nat) ∧ bs.length = j ∧ wr.ownsRow w.heap.size 5 1 b bs.length (Lib.byteCells bs) ∧ Hid (unhexOf l = (unhexOf (l.drop (2 * j))).map (bs ++ ·)) ∧ Below w.heap.size w wr) (fun _ i _ => l.length - (intOf i).toNat)
  case atStart => exact ⟨0, [], by omega, rfl, rfl, own_empty _ _ _, Lib.hid (by simp), (Below.refl _ _).alloc (Nat.le_refl _) _⟩
  case round =>
    obtain ⟨j, bs, hj, rfl, hbl, hown, HU, hb⟩ := hrel
    have HO := Lib.hid hown
    have HB := Lib.hid hb
    have HBL := Lib.hid hbl
    have hbl' : bs.length ≤ 1048576 := by omega
    clear hown hb hbl
    obtain ⟨m, hm⟩ : ∃ m, m = 2 * j := ⟨_, rfl⟩
    rw [← hm] at hj ⊢
    have HM := Lib.hid hm
    obtain ⟨wo, hwo⟩ : ∃ wo : World, wo = wr := ⟨_, rfl⟩
    subst hwo
    by_cases hlt : m < l.length
    · have hlt2 : m + 1 < l.length := by have := heven.out; omega
      obtain ⟨x, hx, _, _⟩ := nth l m hlt
      obtain ⟨y, hy, _, _⟩ := nth l (m + 1) hlt2
      have hdr := Lib.hid (unhex_pair hx hy)
      clear hx hy hm hj
      go_wp2
      go_loopw [4, 6, 7] (fun b f i wr => ∃ (X : Nat), X ≤ 256 ∧ i = .int .i64 X ∧ Below w.heap.size w wr ∧
          ((f = .bool false ∧ Hid (NoneTo x y X) ∧ wr.ownsRow w.heap.size 5 1 b bs.length (Lib.byteCells bs)) ∨
           (f = .bool true ∧ ∃ Z, Z < 256 ∧ Hid (hexOf [UInt8.ofNat Z] = [x, y]) ∧ wr.ownsRow w.heap.size 5 1 b (bs.length + 1) (Lib.byteCells (bs ++ [UInt8.ofNat Z]))))) (fun _ _ i _ => 256 - (intOf i).toNat)
      case atStart => exact ⟨0, by omega, rfl, HB.out, .inl ⟨rfl, Lib.hid (fun Y h => by omega), HO.out⟩⟩
      case round =>
        clear HO HB
        obtain ⟨X, hX, rfl, hb, hcase⟩ := hrel
        have HB := Lib.hid hb
        clear hb
        rcases hcase with ⟨rfl, HN, hown⟩ | ⟨rfl, Z, hZ, HZ, hown⟩
        · have HO := Lib.hid hown
          clear hown
          by_cases hX2 : X < 256
          · have d0 : decide ((X : Int) < 256) = true := by simp; omega
            have hsz := HB.out.size
            have q1 : IntKind.i64.wrap ((m : Int) + 2) = (m : Int) + 2 := IntWalk.i64_in _ (by omega)
            have q2 : ((m : Int) + 2).toNat = m + 2 := by omega
            have q3 : (0 : Int) ≤ (m : Int) + 2 := by omega
            have q4 : IntKind.u8.wrap (X : Int) = (X : Int) := IntWalk.u8_in _ (by omega)
            have q5 : (X : Int) % 256 = X := by omega
            have q6 : (m : Int) ≤ (m : Int) + 2 := by omega
            have q7 : (m : Int) + 2 ≤ (l.length : Int) := by omega
            have BR : Hid (∀ W : World, W.cell? ⟨wr.heap.size, 0, none⟩ = some (.int .u8 ((UInt8.ofNat X).toNat : Int)) → BRow W (.slice (some ⟨wr.heap.size, 0, none⟩) 1 1) [UInt8.ofNat X]) := Lib.hid fun W h => brow_one wr W _ h
            have hX3 : Hid (((UInt8.ofNat X).toNat : Int) = (X : Int)) := Lib.hid (by rw [UInt8.toNat_ofNat']; omega)
            have hext : (⟨l.toArray⟩ : ByteArray).extract m (m + 2) = ⟨[x, y].toArray⟩ := by
              rw [Lib.extract_eq]; simp only; rw [hdr.out]; simp
            by_cases hpair : hexOf [UInt8.ofNat X] = [x, y]
            · have HP := Lib.hid hpair
              have htest : (hexOf [UInt8.ofNat X] == [x, y]) = true := by rw [beq_iff_eq]; exact HP.out
              clear hpair
              go_wp2
              go_region_with (go_at_call 47; refine (refHex_any [UInt8.ofNat X] _ _ (BR.out _ (by rw [hX3.out]; simp)) (by simp)).mono ?_; rintro e w3 ⟨rfl, hb3⟩)
              have hb4 := Below.next (((Below.refl _ _).alloc (Nat.le_refl _) _).drew) hb3
              have HB1 := Lib.hid (HB.out.trans (hb4.mono hsz))
              have HO1 := Lib.hid (own_later HO.out hb4)
              have hsz1 := HB1.out.size
              have HLT := Lib.hid HO1.out.lt
              clear hb4 hb3 hext
              have e2 : Hid (Lib.byteCells (bs ++ [UInt8.ofNat X]) = Lib.byteCells bs ++ [.int .u8 (X : Int)]) := Lib.hid (by
                rw [Lib.byteCells_append]; simp only [Lib.byteCells, List.map_cons, List.map_nil]; rw [hX3.out])
              go_wp2_with (at_builtin; refine wpList_append_own _ rfl _ _ 57 rfl w.heap.size 5 i0 (.int .u8 0) 1 1 Tryz.underlying57 hi hz0 hz1 hz2 rfl (by decide) _ _ _ rfl (HO1.out.alloc _) ⟨w3.heap.size, 0, none⟩ 1 1 [.int .u8 (X : Int)] rfl rfl ?c1 ?c2 ?c3 ?c4 ?c5 ?_)
              case c1 =>
                intro j u hj
                match j, hj with
                | 0, hj => simp at hj; subst hj; simp [Addr.add]
              case c2 => intro u hu; simp at hu; subst hu; rfl
              case c3 => unfold maxLen; omega
              case c4 => omega
              case c5 => simp; omega
              intro v' w4 hown' hgrow _
              have HO3 := Lib.hid hown'
              have HB3 := Lib.hid (show Below w.heap.size w w4 from (Below.alloc HB1.out HB1.out.size _).grown hgrow (by simp; omega) (fun k e => (HLT.out k e).1))
              clear hown' hgrow
              go_wp2
              go_roundw
              case rel => exact ⟨X + 1, by omega, by go_num, HB3.out, .inr ⟨rfl, X, hX2, HP, by rw [e2.out]; exact HO3.out⟩⟩
              case measure => simp [intOf]; omega
            · have htest : (hexOf [UInt8.ofNat X] == [x, y]) = false := by rw [beq_eq_false_iff_ne]; exact hpair
              have HN2 := Lib.hid (show NoneTo x y (X + 1) by
                intro Y hY
                by_cases hYX : Y = X
                · subst hYX; exact hpair
                · exact HN.out Y (by omega))
              clear hpair
              go_wp2
              go_region_with (go_at_call 47; refine (refHex_any [UInt8.ofNat X] _ _ (BR.out _ (by rw [hX3.out]; simp)) (by simp)).mono ?_; rintro e w3 ⟨rfl, hb3⟩)
              have hb4 := Below.next (((Below.refl _ _).alloc (Nat.le_refl _) _).drew) hb3
              have HB1 := Lib.hid (HB.out.trans (hb4.mono hsz))
              have HO1 := Lib.hid (own_later HO.out hb4)
              clear hb4 hb3 hext
              go_wp2
              go_roundw
              case rel => exact ⟨X + 1, by omega, by go_num, HB1.out, .inl ⟨rfl, HN2, HO1.out⟩⟩
              case measure => simp [intOf]; omega
          · have d0 : decide ((X : Int) < 256) = false := by simp; omega
            have hbad := Lib.hid (show unhexOf l = none by
              rw [HU.out, ← HM.out, hdr.out, unhexOf]
              rcases hexOf_pair_ne (fun Y hY => HN.out Y (by omega)) with h | h
              · rw [h]; rfl
              · rw [h]; cases unhx x <;> rfl)
            go_wp2
            go_ret2
            exact unhex_bad hbad.out HB.out
        · have HO := Lib.hid hown
          clear hown
          have hnext := Lib.hid (show unhexOf l = (unhexOf (l.drop (m + 2))).map (bs ++ [UInt8.ofNat Z] ++ ·) by
            obtain ⟨a, b, h1, h2, h3⟩ := hexOf_pair hZ HZ.out
            rw [HU.out, ← HM.out, hdr.out, ← h3]; exact unhex_step h1 h2 bs _)
          go_wp2
          all_goals
            go_roundw
            case rel =>
              refine ⟨j + 1, bs ++ [UInt8.ofNat Z], by have := HM.out; omega, by have := HM.out; congr 1; omega, by simp [HBL.out], ?_, Lib.hid (by rw [hnext.out, show 2 * (j + 1) = m + 2 by have := HM.out; omega]), HB.out⟩
              rw [show (bs ++ [UInt8.ofNat Z]).length = bs.length + 1 by simp]
              exact HO.out
            case measure => simp [intOf]; omega
    · obtain rfl : m = l.length := by omega
      have hsome := Lib.hid (show unhexOf l = some bs by rw [HU.out, ← HM.out, List.drop_length]; simp [unhexOf])
      clear hm
      go_wp2
      go_ret2
      exact unhex_good hsome.out HB.out HO.out

end Go.Proofs.YtecmpmnidlfgnaaGreatDoor
