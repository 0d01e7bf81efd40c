import Derived.Test.YtecmpmnidlfgnaaGreatDoorOwn
import Derived.Test.YtecmpmnidlfgnaaGreatDoorRefHex
import Derived.Test.YtecmpmnidlfgnaaGreatDoorDumpPlain
import Derived.Laws.AppendOwn
namespace Go.Proofs.YtecmpmnidlfgnaaGreatDoor
open Go.RowKit

/-! ## the reference's Split and cut -/

theorem own_emptyS (w : World) (e : TypeId) (size : Nat) : (w.alloc (.cells #[] e)).ownsRow w.heap.size e size (.slice (some ⟨w.heap.size, 0, none⟩) 0 0) 0 [] :=
  ⟨by simp, .inr ⟨w.heap.size, 0, #[], rfl, Nat.le_refl _, heap_alloc_new w _, Nat.le_refl _, by decide, by simp, by simp⟩⟩

theorem splitOn_length (c : UInt8) : ∀ s : List UInt8, (splitOn c s).length ≤ s.length + 1
  | [] => by simp [splitOn]
  | x :: l => by
    by_cases h : x = c
    · rw [splitOn, if_pos h]; have := splitOn_length c l; simp; omega
    · obtain ⟨w, ws, e1, e2⟩ := splitOn_cons_ne h l
      have := splitOn_length c l
      rw [e1] at this
      rw [e2]
      simp at this ⊢; omega

/-- a slice of strings of the call's own -/
def StrsPost (ws : List (List UInt8)) (w : World) (e : Ending) (w' : World) : Prop :=
  ∃ v, e = .returned v ∧ w'.ownsRow w.heap.size 9 1 v ws.length (strs ws) ∧ Below w.heap.size w w'

theorem infoStrS : (Tryz.prog.info? 9).map (fun i => (i.zero, i.size, i.bytes)) = some (some (.string ByteArray.empty), 1, 16) := by kernel_rfl

theorem extract_mid {l : List UInt8} (a b : Nat) : (⟨l.toArray⟩ : ByteArray).extract a b = ⟨((l.drop a).take (b - a)).toArray⟩ := by rw [Lib.extract_eq]

/-- the pieces that are done, and where the next begins -/
structure SplitAt (c : UInt8) (l : List UInt8) (ws : List (List UInt8)) (f i : Nat) : Prop where
  fi : f ≤ i
  no : c ∉ (l.drop f).take (i - f)
  eq : splitOn c l = ws ++ splitOn c (l.drop f)
  len : ws.length ≤ i

theorem SplitAt.skip {c : UInt8} {l : List UInt8} {ws : List (List UInt8)} {f i : Nat} {x : UInt8} (h : SplitAt c l ws f i) (hx : l[i]? = some x) (hne : x ≠ c) : SplitAt c l ws f (i + 1) := by
  refine ⟨by have := h.fi; omega, ?_, h.eq, by have := h.len; omega⟩
  have hi := getElem?_lt hx
  have hfi := h.fi
  have : (l.drop f).take (i + 1 - f) = (l.drop f).take (i - f) ++ [x] := by
    rw [show i + 1 - f = (i - f) + 1 by omega, take_snoc (l.drop f) (i - f) (by rw [List.length_drop]; omega)]
    congr 2
    rw [List.getElem_drop]
    rw [List.getElem?_eq_getElem hi] at hx
    simp only [show f + (i - f) = i by omega]
    simpa using hx
  rw [this]
  intro hm
  rcases List.mem_append.1 hm with hm | hm
  · exact h.no hm
  · exact hne (List.mem_singleton.1 hm).symm

theorem SplitAt.cut {c : UInt8} {l : List UInt8} {ws : List (List UInt8)} {f i : Nat} (h : SplitAt c l ws f i) (hx : l[i]? = some c) : SplitAt c l (ws ++ [(l.drop f).take (i - f)]) (i + 1) (i + 1) := by
  have hi := getElem?_lt hx
  have hfi := h.fi
  refine ⟨Nat.le_refl _, by simp, ?_, by have := h.len; simp; omega⟩
  have e : l.drop f = (l.drop f).take (i - f) ++ c :: l.drop (i + 1) := by
    conv => lhs; rw [← List.take_append_drop (i - f) (l.drop f)]
    congr 1
    rw [List.drop_drop, show f + (i - f) = i by omega, List.drop_eq_getElem_cons hi]
    congr 1
    rw [List.getElem?_eq_getElem hi] at hx
    simpa using hx
  rw [h.eq]
  conv => lhs; rw [e, splitOn_mk _ _ h.no]
  simp

theorem SplitAt.last {c : UInt8} {l : List UInt8} {ws : List (List UInt8)} {f : Nat} (h : SplitAt c l ws f l.length) : splitOn c l = ws ++ [l.drop f] := by
  rw [h.eq]
  congr 1
  have := h.no
  rw [List.take_of_length_le (by rw [List.length_drop]; exact Nat.le_refl _)] at this
  exact splitOn_one _ this

set_option maxRecDepth 100000 in
set_option maxHeartbeats 2000000 in
theorem refSplit_any (l : List UInt8) (c : UInt8) (w : World) (hl : l.length ≤ 8388608) :
    Calls Tryz.prog 52 #[.string ⟨l.toArray⟩, .int .u8 (c.toNat : Int)] w (StrsPost (splitOn c l) w) := by
  obtain ⟨i0, hi, hz0, hz1, hz2⟩ := info_parts infoStrS
  go_enter Tryz.func52, Tryz.ntmps52
  go_wp2
  go_loopw [5, 6, 7] (fun o f i wr => ∃ (ws : List (List UInt8)) (fn k : Nat), fn ≤ k ∧ k ≤ l.length ∧ ws.length ≤ k ∧ f = .int .i64 fn ∧ i = .int .i64 k ∧ Hid (SplitAt c l ws fn k) ∧ wr.ownsRow w.heap.size 9 1 o ws.length (strs ws) ∧ Below w.heap.size w wr) (fun _ _ i _ => l.length - (intOf i).toNat)
  case atStart => exact ⟨[], 0, 0, by omega, by omega, by simp, rfl, rfl, Lib.hid ⟨Nat.le_refl _, by simp, by simp, by simp⟩, own_emptyS _ _ _, (Below.refl _ _).alloc (Nat.le_refl _) _⟩
  case round =>
    obtain ⟨ws, f, k, hfk, hk, hwk, rfl, rfl, HSA, hown, hb⟩ := hrel
    have HO := Lib.hid hown
    have HB := Lib.hid hb
    have hsz := hb.size
    have HLT := Lib.hid hown.lt
    clear hown hb
    by_cases hlt : k < l.length
    · obtain ⟨x, hx, _, _⟩ := nth l k hlt
      have gx : ∀ hh, (⟨l.toArray⟩ : ByteArray)[k]'hh = x := ba_get hx
      by_cases hxc : x = c
      · subst hxc
        have HC := Lib.hid (HSA.out.cut hx)
        have t0 : ((x.toNat : Int) == (x.toNat : Int)) = true := by simp
        have hext : (⟨l.toArray⟩ : ByteArray).extract f k = ⟨((l.drop f).take (k - f)).toArray⟩ := extract_mid f k
        obtain ⟨p, hp⟩ : ∃ p, p = (l.drop f).take (k - f) := ⟨_, rfl⟩
        rw [← hp] at hext HC
        clear hx hp
        go_wp2_with (at_builtin; refine wpList_append_own _ rfl _ _ 81 rfl w.heap.size 9 i0 (.string ByteArray.empty) 1 16 Tryz.underlying81 hi hz0 hz1 hz2 rfl (by decide) _ _ _ rfl (HO.out.alloc _) ⟨wr.heap.size, 0, none⟩ 1 1 [.string ⟨p.toArray⟩] rfl rfl ?c1 ?c2 ?c3 ?c4 ?c5 ?_)
        case c1 =>
          intro j u hj
          match j, hj with
          | 0, hj => simp at hj; subst hj; simp [Addr.add]
        case c2 => intro u hu; simp at hu; subst hu; rfl
        case c3 => unfold maxLen; omega
        case c4 => omega
        case c5 => simp; omega
        intro v' w3 hown' hgrow _
        have HO3 := Lib.hid hown'
        have HB3 := Lib.hid (show Below w.heap.size w w3 from (Below.alloc HB.out HB.out.size _).grown hgrow (by simp; omega) (fun k e => (HLT.out k e).1))
        clear hown' hgrow hext
        go_wp2
        go_roundw
        case rel => exact ⟨ws ++ [p], k + 1, k + 1, Nat.le_refl _, by omega, by simp; omega, by go_num, by go_num, HC, by simpa [strs] using HO3.out, HB3.out⟩
        case measure => simp [intOf]; omega
      · have t0 : ((x.toNat : Int) == (c.toNat : Int)) = false := by
          rw [beq_eq_false_iff_ne]; intro h; exact hxc (UInt8.toNat_inj.1 (by omega))
        have HC := Lib.hid (HSA.out.skip hx hxc)
        clear hx
        go_wp2
        go_roundw
        case rel => exact ⟨ws, f, k + 1, by omega, by omega, by omega, rfl, by go_num, HC, HO.out, HB.out⟩
        case measure => simp [intOf]; omega
    · obtain rfl : k = l.length := by omega
      have hfin := Lib.hid HSA.out.last
      have hext : (⟨l.toArray⟩ : ByteArray).extract f l.length = ⟨(l.drop f).toArray⟩ := by
        rw [extract_mid]; congr 2; rw [List.take_of_length_le (by rw [List.length_drop]; exact Nat.le_refl _)]
      obtain ⟨p, hp⟩ : ∃ p, p = l.drop f := ⟨_, rfl⟩
      rw [← hp] at hext hfin
      clear hp
      go_wp2_with (at_builtin; refine wpList_append_own _ rfl _ _ 81 rfl w.heap.size 9 i0 (.string ByteArray.empty) 1 16 Tryz.underlying81 hi hz0 hz1 hz2 rfl (by decide) _ _ _ rfl (HO.out.alloc _) ⟨wr.heap.size, 0, none⟩ 1 1 [.string ⟨p.toArray⟩] rfl rfl ?d1 ?d2 ?d3 ?d4 ?d5 ?_)
      case d1 =>
        intro j u hj
        match j, hj with
        | 0, hj => simp at hj; subst hj; simp [Addr.add]
      case d2 => intro u hu; simp at hu; subst hu; rfl
      case d3 => unfold maxLen; omega
      case d4 => omega
      case d5 => simp; omega
      intro v' w3 hown' hgrow _
      have HO3 := Lib.hid hown'
      have HB3 := Lib.hid (show Below w.heap.size w w3 from (Below.alloc HB.out HB.out.size _).grown hgrow (by simp; omega) (fun k e => (HLT.out k e).1))
      clear hown' hgrow hext
      go_wp2
      go_ret
      refine ⟨_, rfl, ?_, HB3.out⟩
      rw [hfin.out]
      simpa [strs] using HO3.out

/-- what cut says -/
def cutV (c : UInt8) (l : List UInt8) : List UInt8 × List UInt8 × Bool := match cutAt c l with | some (a, b) => (a, b, true) | none => (l, [], false)

theorem cutAt_at {c : UInt8} {l : List UInt8} {i : Nat} (hx : l[i]? = some c) (hno : c ∉ l.take i) : cutAt c l = some (l.take i, l.drop (i + 1)) := by
  have hi := getElem?_lt hx
  have e : l = l.take i ++ c :: l.drop (i + 1) := by
    conv => lhs; rw [← List.take_append_drop i l]
    congr 1
    rw [List.drop_eq_getElem_cons hi]
    congr 1
    rw [List.getElem?_eq_getElem hi] at hx
    simpa using hx
  conv => lhs; rw [e]
  exact cutAt_mk _ _ hno

set_option maxHeartbeats 1000000 in
theorem refCut_any (l : List UInt8) (c : UInt8) (w : World) (hl : l.length ≤ 9223372036854775000) :
    Calls Tryz.prog 53 #[.string ⟨l.toArray⟩, .int .u8 (c.toNat : Int)] w fun e w' =>
      e = .returned (.tuple #[.string ⟨(cutV c l).1.toArray⟩, .string ⟨(cutV c l).2.1.toArray⟩, .bool (cutV c l).2.2]) ∧ Below w.heap.size w w' := by
  go_enter Tryz.func53, Tryz.ntmps53
  go_wp2
  go_loopw [7] (fun i wr => ∃ (k : Nat), k ≤ l.length ∧ i = .int .i64 k ∧ Hid (c ∉ l.take k) ∧ Below w.heap.size w wr) (fun i _ => l.length - (intOf i).toNat)
  case atStart => exact ⟨0, by omega, rfl, Lib.hid (by simp), Below.refl _ _⟩
  case round =>
    obtain ⟨k, hk, rfl, HN, hb⟩ := hrel
    have HB := Lib.hid hb
    clear hb
    by_cases hlt : k < l.length
    · obtain ⟨x, hx, ht, _⟩ := nth l k hlt
      have gx : ∀ hh, (⟨l.toArray⟩ : ByteArray)[k]'hh = x := ba_get hx
      by_cases hxc : x = c
      · subst hxc
        have HC := Lib.hid (show cutV x l = (l.take k, l.drop (k + 1), true) by unfold cutV; rw [cutAt_at hx HN.out])
        have t0 : ((x.toNat : Int) == (x.toNat : Int)) = true := by simp
        have e1 : (⟨l.toArray⟩ : ByteArray).extract 0 k = ⟨(l.take k).toArray⟩ := by rw [extract_mid]; simp
        have e2 : (⟨l.toArray⟩ : ByteArray).extract (k + 1) l.length = ⟨(l.drop (k + 1)).toArray⟩ := by
          rw [extract_mid]; congr 2; rw [List.take_of_length_le (by rw [List.length_drop]; exact Nat.le_refl _)]
        have q1 : IntKind.i64.wrap ((k : Int) + 1) = (k : Int) + 1 := IntWalk.i64_in _ (by omega)
        have q2 : ((k : Int) + 1).toNat = k + 1 := by omega
        have q3 : (0 : Int) ≤ (k : Int) + 1 := by omega
        have q4 : (k : Int) + 1 ≤ (l.length : Int) := by omega
        clear hx ht
        go_wp2
        go_quiet (fail)
        go_wp2
        go_ret3
        exact ⟨by rw [HC.out]; rfl, Below.next HB.out (below_drewN' _ _)⟩
      · have t0 : ((x.toNat : Int) == (c.toNat : Int)) = false := by
          rw [beq_eq_false_iff_ne]; intro h; exact hxc (UInt8.toNat_inj.1 (by omega))
        have HC := Lib.hid (show c ∉ l.take (k + 1) by
          rw [ht]; intro hm
          rcases List.mem_append.1 hm with hm | hm
          · exact HN.out hm
          · exact hxc (List.mem_singleton.1 hm).symm)
        clear hx ht
        go_wp2
        go_roundw
        case rel => exact ⟨k + 1, by omega, by go_num, HC, HB.out⟩
        case measure => simp [intOf]; omega
    · obtain rfl : k = l.length := by omega
      have HC := Lib.hid (show cutV c l = (l, [], false) by
        unfold cutV; rw [cutAt_none.2 (by simpa using HN.out)])
      go_wp2
      go_ret3
      exact ⟨by rw [HC.out]; rfl, HB.out⟩

end Go.Proofs.YtecmpmnidlfgnaaGreatDoor
