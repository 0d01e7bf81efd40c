import Derived.Test.YtecmpmnidlfgnaaGreatDoorRefHex
import Derived.Test.YtecmpmnidlfgnaaGreatDoorShelf
import Derived.Test.YtecmpmnidlfgnaaGreatDoorOwn
import Derived.Laws.AppendOwn
import Derived.Lib.UnsafeStr
namespace Go.Proofs.YtecmpmnidlfgnaaGreatDoor
open Go.RowKit

/-! ## Unhex -/

theorem indexHex_fin : ∀ c : Fin 256, Lib.indexByte [48, 49, 50, 51, 52, 53, 54, 55, 56, 57, 97, 98, 99, 100, 101, 102] (UInt8.ofNat c.val) = (match unhx (UInt8.ofNat c.val) with | some d => (d : Int) | none => -1) := by decide +kernel
theorem indexHex (c : UInt8) : Lib.indexByte [48, 49, 50, 51, 52, 53, 54, 55, 56, 57, 97, 98, 99, 100, 101, 102] c = (match unhx c with | some d => (d : Int) | none => -1) := by
  have := indexHex_fin ⟨c.toNat, c.toNat_lt⟩
  simpa [UInt8.ofNat_toNat] using this

theorem indexHex_any (c : UInt8) (w : World) :
    Calls Tryz.prog 92 #[.string ⟨#[48, 49, 50, 51, 52, 53, 54, 55, 56, 57, 97, 98, 99, 100, 101, 102]⟩, .int .u8 (c.toNat : Int)] w
      fun e w' => e = .returned (.int .i64 (match unhx c with | some d => (d : Int) | none => -1)) ∧ w' = w :=
  (Tryz.strings_IndexByte _ _ w).mono fun e w' ⟨he, hw⟩ => ⟨by rw [he]; simp only [Int.toNat_natCast]; rw [show (c.toNat).toUInt8 = c from UInt8.ofNat_toNat]; exact ret_int (indexHex c), hw⟩

theorem indexHex_some {c : UInt8} {d : Nat} (h : unhx c = some d) (w : World) :
    Calls Tryz.prog 92 #[.string ⟨#[48, 49, 50, 51, 52, 53, 54, 55, 56, 57, 97, 98, 99, 100, 101, 102]⟩, .int .u8 (c.toNat : Int)] w fun e w' => e = .returned (.int .i64 (d : Int)) ∧ w' = w :=
  (indexHex_any c w).mono fun e w' ⟨he, hw⟩ => ⟨by rw [he, h], hw⟩
theorem indexHex_none {c : UInt8} (h : unhx c = none) (w : World) :
    Calls Tryz.prog 92 #[.string ⟨#[48, 49, 50, 51, 52, 53, 54, 55, 56, 57, 97, 98, 99, 100, 101, 102]⟩, .int .u8 (c.toNat : Int)] w fun e w' => e = .returned (.int .i64 (-1)) ∧ w' = w :=
  (indexHex_any c w).mono fun e w' ⟨he, hw⟩ => ⟨by rw [he, h], hw⟩

theorem unhex_pair {l : List UInt8} {j : Nat} {x y : UInt8} (hx : l[j]? = some x) (hy : l[j + 1]? = some y) : l.drop j = x :: y :: l.drop (j + 2) := by
  have h1 := getElem?_lt hx
  have h2 := getElem?_lt hy
  rw [List.drop_eq_getElem_cons h1, List.drop_eq_getElem_cons h2]
  rw [List.getElem?_eq_getElem h1] at hx
  rw [List.getElem?_eq_getElem h2] at hy
  simp only [Option.some.injEq] at hx hy
  rw [hx, hy]

def uVal (s : List UInt8) : List UInt8 := (unhexOf s).getD []
def uErr (s : List UInt8) : Int := if (unhexOf s).isSome then 0 else 101
/-- a slice of the call's own (or nil), and a number -/
def UnhexPost (s : List UInt8) (w : World) (e : Ending) (w' : World) : Prop :=
  ∃ v, e = .returned (.tuple #[v, .int .i64 (uErr s)]) ∧ w'.ownsRow w.heap.size 5 1 v (uVal s).length (Lib.byteCells (uVal s)) ∧ Below w.heap.size w w'

theorem unhex_bad {s : List UInt8} (h : unhexOf s = none) {w w' : World} (hb : Below w.heap.size w w') : UnhexPost s w (.returned (.tuple #[.slice none 0 0, .int .i64 101])) w' :=
  ⟨.slice none 0 0, by simp [uErr, h], by simp only [uVal, h]; exact World.ownsRow_nil _ _ _ _, hb⟩
theorem unhex_good {s b : List UInt8} (h : unhexOf s = some b) {w w' : World} {v : Value} (hb : Below w.heap.size w w') (ho : w'.ownsRow w.heap.size 5 1 v b.length (Lib.byteCells b)) :
    UnhexPost s w (.returned (.tuple #[v, .int .i64 0])) w' :=
  ⟨v, by simp [uErr, h], by simp only [uVal, h, Option.getD_some]; exact ho, hb⟩

theorem unhex_odd : ∀ (s : List UInt8), s.length % 2 = 1 → unhexOf s = none
  | [], h => by simp at h
  | [_], _ => rfl
  | a :: b :: l, h => by
    rw [unhexOf, unhex_odd l (by simp at h; omega)]
    split <;> rfl
theorem infoByteU : (Tryz.prog.info? 5).map (fun i => (i.zero, i.size, i.bytes)) = some (some (.int .u8 0), 1, 1) := by kernel_rfl

theorem or_tab : ∀ a b : Fin 16, bits .or .i64 ((a.val : Int) * 16) (b.val : Int) = 16 * (a.val : Int) + (b.val : Int) := by decide +kernel
theorem or_hex {a b : Nat} (ha : a < 16) (hb : b < 16) : bits .or .i64 ((a : Int) * 16) (b : Int) = 16 * (a : Int) + (b : Int) := or_tab ⟨a, ha⟩ ⟨b, hb⟩

theorem unhex_step {x y : UInt8} {a b : Nat} (h1 : unhx x = some a) (h2 : unhx y = some b) (bs r : List UInt8) :
    (unhexOf (x :: y :: r)).map (bs ++ ·) = (unhexOf r).map (bs ++ [UInt8.ofNat (16 * a + b)] ++ ·) := by
  rw [unhexOf, h1, h2]
  cases unhexOf r with
  | none => rfl
  | some q => simp

set_option maxRecDepth 100000 in
set_option maxHeartbeats 2000000 in
theorem dumpUnhex_any (l : List UInt8) (w : World) (hl : l.length ≤ 2097152) :
    Calls Tryz.prog 70 #[.string ⟨l.toArray⟩] w (UnhexPost l w) := by
  obtain ⟨i0, hi, hz0, hz1, hz2⟩ := info_parts infoByteU
  by_cases hodd : l.length % 2 = 1
  · have hn := Lib.hid (unhex_odd l hodd)
    have k1 : (((l.length : Int) % 2) != 0) = true := by rw [bne_iff_ne]; omega
    clear hodd
    go_enter Tryz.func70, Tryz.ntmps70
    go_wp2
    go_ret2
    exact unhex_bad hn.out (Below.refl _ _)
  have k1 : (((l.length : Int) % 2) != 0) = false := by rw [bne_eq_false_iff_eq]; omega
  have heven : Hid (l.length % 2 = 0) := Lib.hid (by omega)
  clear hodd
  go_enter Tryz.func70, Tryz.ntmps70
  go_wp2
  go_loopw [4, 5] (fun b i wr => ∃ (j : Nat) (bs : List UInt8), 2 * j ≤ l.length ∧ i = .int .i64 (2 * j : Nat) ∧ bs.length = j ∧ wr.ownsRow w.heap.size 5 1 b bs.length (Lib.byteCells bs) ∧ Hid (unhexOf l = (unhexOf (l.drop (2 * j))).map (bs ++ ·)) ∧ Below w.heap.size w wr) (fun _ i _ => l.length - (intOf i).toNat)
  case atStart => exact ⟨0, [], by omega, rfl, rfl, World.ownsRow_nil _ _ _ _, Lib.hid (by simp), Below.refl _ _⟩
  case round =>
    obtain ⟨j, bs, hj, rfl, hbl, hown, HU, hb⟩ := hrel
    have HO := Lib.hid hown
    have HB := Lib.hid hb
    have HBL := Lib.hid hbl
    have hbl' : bs.length ≤ 1048576 := by omega
    clear hown hb hbl
    obtain ⟨m, hm⟩ : ∃ m, m = 2 * j := ⟨_, rfl⟩
    rw [← hm] at hj ⊢
    have HM := Lib.hid hm
    by_cases hlt : m < l.length
    · have hlt2 : m + 1 < l.length := by have := heven.out; omega
      obtain ⟨x, hx, _, _⟩ := nth l m hlt
      obtain ⟨y, hy, _, _⟩ := nth l (m + 1) hlt2
      have gx : ∀ hh, (⟨l.toArray⟩ : ByteArray)[m]'hh = x := ba_get hx
      have gy : ∀ hh, (⟨l.toArray⟩ : ByteArray)[m + 1]'hh = y := ba_get hy
      have hdr := Lib.hid (unhex_pair hx hy)
      have q1 : IntKind.i64.wrap ((m : Int) + 1) = (m : Int) + 1 := IntWalk.i64_in _ (by omega)
      have q2 : ((m : Int) + 1).toNat = m + 1 := by omega
      have q3 : (0 : Int) ≤ (m : Int) + 1 := by omega
      clear hx hy hm hj
      cases hux : unhx x with
      | none =>
        have C1 := Lib.hid (indexHex_none hux)
        have hnone := Lib.hid (show unhexOf l = none by rw [HU.out, ← HM.out, hdr.out, unhexOf, hux]; rfl)
        cases huy : unhx y with
        | none =>
          have C2 := Lib.hid (indexHex_none huy)
          clear hux huy
          go_wp2
          go_quiet ((go_at_call 92; first | (with_reducible exact Calls.quiet_of_same (C1.out _)) | (with_reducible exact Calls.quiet_of_same (C2.out _))))
          clear q1 q2 q3
          go_wp2
          go_ret2
          exact unhex_bad hnone.out (Below.next HB.out (below_drewN' _ _))
        | some b =>
          have C2 := Lib.hid (indexHex_some huy)
          clear hux huy
          go_wp2
          go_quiet ((go_at_call 92; first | (with_reducible exact Calls.quiet_of_same (C1.out _)) | (with_reducible exact Calls.quiet_of_same (C2.out _))))
          clear q1 q2 q3
          go_wp2
          go_ret2
          exact unhex_bad hnone.out (Below.next HB.out (below_drewN' _ _))
      | some a =>
        have C1 := Lib.hid (indexHex_some hux)
        have ha := (unhx_some hux).1
        cases huy : unhx y with
        | none =>
          have C2 := Lib.hid (indexHex_none huy)
          have hnone := Lib.hid (show unhexOf l = none by rw [HU.out, ← HM.out, hdr.out, unhexOf, hux, huy]; rfl)
          clear hux huy
          go_wp2
          go_quiet ((go_at_call 92; first | (with_reducible exact Calls.quiet_of_same (C1.out _)) | (with_reducible exact Calls.quiet_of_same (C2.out _))))
          clear q1 q2 q3
          go_wp2
          go_ret2
          exact unhex_bad hnone.out (Below.next HB.out (below_drewN' _ _))
        | some b =>
          have C2 := Lib.hid (indexHex_some huy)
          have hb := (unhx_some huy).1
          have hnext := Lib.hid (show unhexOf l = (unhexOf (l.drop (m + 2))).map (bs ++ [UInt8.ofNat (16 * a + b)] ++ ·) by
            rw [HU.out, ← HM.out, hdr.out]; exact unhex_step hux huy bs _)
          clear hux huy
          have e0 := or_hex ha hb
          have e1 : (16 * (a : Int) + b) % 256 = 16 * a + b := by omega
          have e2 : Hid (Lib.byteCells (bs ++ [UInt8.ofNat (16 * a + b)]) = Lib.byteCells bs ++ [.int .u8 (16 * (a : Int) + b)]) := Lib.hid (by
            rw [Lib.byteCells_append]; simp only [Lib.byteCells, List.map_cons, List.map_nil]; rw [UInt8.toNat_ofNat', show (16 * a + b) % 2 ^ 8 = 16 * a + b by omega]; rfl)
          have d1 : decide ((a : Int) < 0) = false := by simp
          have d2 : decide ((b : Int) < 0) = false := by simp
          have HL := HO.out.lt
          have HLT := Lib.hid HL
          clear HL
          go_wp2
          go_quiet ((go_at_call 92; first | (with_reducible exact Calls.quiet_of_same (C1.out _)) | (with_reducible exact Calls.quiet_of_same (C2.out _))))
          clear q1 q2 q3
          have HB1 := Lib.hid (Below.next HB.out (below_drewN' wr nq))
          have HO1 := Lib.hid (own_later HO.out (below_drewN' wr nq))
          have hsz := HB1.out.size
          generalize wr.drewN nq = w1 at *
          go_wp2_with (at_builtin; refine wpList_append_own _ rfl _ _ 57 rfl w.heap.size 5 i0 (.int .u8 0) 1 1 Tryz.underlying57 hi hz0 hz1 hz2 rfl (by decide) _ _ _ rfl (HO1.out.alloc _) ⟨w1.heap.size, 0, none⟩ 1 1 [.int .u8 (16 * (a : Int) + b)] rfl rfl ?c1 ?c2 ?c3 ?c4 ?c5 ?_)
          case c1 =>
            intro j u hj
            match j, hj with
            | 0, hj => simp at hj; subst hj; simp [Addr.add]
          case c2 => intro u hu; simp at hu; subst hu; rfl
          case c3 => unfold maxLen; omega
          case c4 => omega
          case c5 => simp; omega
          intro v' w3 hown' hgrow _
          have HO3 := Lib.hid hown'
          have HB3 := Lib.hid (show Below w.heap.size w w3 from (Below.alloc HB1.out HB1.out.size _).grown hgrow (by simp; omega) (fun k e => (HLT.out k e).1))
          clear hown' hgrow
          go_wp2
          go_roundw
          case rel =>
            refine ⟨j + 1, bs ++ [UInt8.ofNat (16 * a + b)], by have := HM.out; omega, by have := HM.out; congr 1; omega, by simp [HBL.out], ?_, Lib.hid (by rw [hnext.out, show 2 * (j + 1) = m + 2 by have := HM.out; omega]), HB3.out⟩
            rw [e2.out, show (bs ++ [UInt8.ofNat (16 * a + b)]).length = bs.length + 1 by simp]
            exact HO3.out
          case measure => simp [intOf]; omega
    · obtain rfl : m = l.length := by omega
      have hsome := Lib.hid (show unhexOf l = some bs by rw [HU.out, ← HM.out, List.drop_length]; simp [unhexOf])
      clear hm
      go_wp2
      go_ret2
      exact unhex_good hsome.out HB.out HO.out

end Go.Proofs.YtecmpmnidlfgnaaGreatDoor
