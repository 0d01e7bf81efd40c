import Derived.Test.YtecmpmnidlfgnaaGreatDoorScriptCmd
import Derived.Test.YtecmpmnidlfgnaaGreatDoorRefSplit
import Derived.Test.YtecmpmnidlfgnaaGreatDoorCutLib
import Derived.Test.YtecmpmnidlfgnaaGreatDoorEvent
namespace Go.Proofs.YtecmpmnidlfgnaaGreatDoor
open Go.RowKit

theorem own_but' {w w' : World} {B size n g : Nat} {e : TypeId} {v : Value} {xs : List Value} (h : w.ownsRow B e size v n xs) (hb : But g w w') (hg : v.ownBlock ≠ some g) : w'.ownsRow B e size v n xs := by
  refine ⟨h.1, ?_⟩
  rcases h.2 with hn | ⟨g', cap, cur, rfl, hb1, hg', rest⟩
  · exact .inl hn
  · exact .inr ⟨g', cap, cur, rfl, hb1, by rw [hb.block _ (Array.getElem?_eq_some_iff.1 hg').1 (fun e => hg (by rw [← e]; rfl))]; exact hg', rest⟩
theorem own_row {w : World} {B size n : Nat} {e : TypeId} {v : Value} {xs : List Value} (h : w.ownsRow B e size v n xs) (k : Nat) (cs : Array Value) (hg : v.ownBlock ≠ some k) : (w.setRow k cs).ownsRow B e size v n xs := by
  refine ⟨h.1, ?_⟩
  rcases h.2 with hn | ⟨g', cap, cur, rfl, hb1, hg', rest⟩
  · exact .inl hn
  · exact .inr ⟨g', cap, cur, rfl, hb1, by rw [setRow_other _ _ _ _ (fun e => hg (by rw [← e]; rfl))]; exact hg', rest⟩
theorem own_mono {w : World} {A B size n : Nat} {e : TypeId} {v : Value} {xs : List Value} (h : w.ownsRow B e size v n xs) (hb : A ≤ B) : w.ownsRow A e size v n xs := by
  refine ⟨h.1, ?_⟩
  rcases h.2 with hn | ⟨g', cap, cur, rfl, hb1, rest⟩
  · exact .inl hn
  · exact .inr ⟨g', cap, cur, rfl, Nat.le_trans hb hb1, rest⟩

/-! ## script's numbers -/

/-- a slice value that reads as these strings -/
def SRow (w : World) (v : Value) (ws : List (List UInt8)) : Prop :=
  ∃ oa cap, v = .slice oa ws.length cap ∧ ws.length ≤ cap ∧ cap ≤ 9223372036854775807 ∧ (ws ≠ [] → ∃ b off, oa = some ⟨b, off, none⟩ ∧ ∀ (i : Nat) s, ws[i]? = some s → w.cell? ⟨b, off + i, none⟩ = some (.string ⟨s.toArray⟩))
def nVal (ws : List (List UInt8)) : List Int := (numsOf ws).getD []
def nErr (ws : List (List UInt8)) : Int := if (numsOf ws).isSome then 0 else 101
def NumsPost (ws : List (List UInt8)) (w : World) (x : Ending) (w' : World) : Prop :=
  ∃ v, x = .returned (.tuple #[v, .int .i64 (nErr ws)]) ∧ w'.ownsRow w.heap.size 3 1 v (nVal ws).length (intCells (nVal ws)) ∧ Below w.heap.size w w'
theorem nums_bad {ws : List (List UInt8)} (h : numsOf ws = none) : nVal ws = [] ∧ nErr ws = 101 := by simp [nVal, nErr, h]
theorem nums_good {ws : List (List UInt8)} {ns : List Int} (h : numsOf ws = some ns) : nVal ws = ns ∧ nErr ws = 0 := by simp [nVal, nErr, h]
theorem infoInt : (Tryz.prog.info? 3).map (fun i => (i.zero, i.size, i.bytes)) = some (some (.int .i64 0), 1, 8) := by kernel_rfl
theorem intCells_snoc (ns : List Int) (n : Int) : intCells ns ++ [.int .i64 n] = intCells (ns ++ [n]) := by simp [intCells]

set_option maxRecDepth 100000 in
set_option maxHeartbeats 4000000 in
theorem numbers_any (ws : List (List UInt8)) (v : Value) (w : World) (hv : SRow w v ws) (hw : ∀ s ∈ ws, s.length ≤ 2097152) (hn : ws.length ≤ 2097153) (hL : LibV w) :
    Calls Tryz.prog 68 #[v] w (NumsPost ws w) := by
  obtain ⟨oa, cap, rfl, hl1, hl2, hcs⟩ := hv
  obtain ⟨i0, hi, hz0, hz1, hz2⟩ := info_parts infoInt
  have HL := Lib.hid hL
  have HCS := Lib.hid hcs
  have HW := Lib.hid hw
  clear hL hcs hw
  go_enter Tryz.func68, Tryz.ntmps68
  go_wp2
  go_loopw [4, 11] (fun ov iv wr => ∃ (k : Nat) (acc : List Int), k ≤ ws.length ∧ acc.length = k ∧ iv = .int .i64 k ∧ wr.ownsRow w.heap.size 3 1 ov acc.length (intCells acc) ∧ Below w.heap.size w wr ∧ Hid (numsOf ws = addN acc (numsOf (ws.drop k)))) (fun _ iv _ => ws.length - (intOf iv).toNat)
  case atStart => exact ⟨0, [], Nat.zero_le _, rfl, rfl, World.ownsRow_nil _ _ _ _, Below.refl _ _, Lib.hid (by rw [List.drop_zero]; exact addN_nil _)⟩
  case round =>
    obtain ⟨k, acc, hk, hacc, rfl, hown, hb, HT⟩ := hrel
    have HO := Lib.hid hown
    have HB := Lib.hid hb
    clear hown hb
    by_cases hlt : k < ws.length
    · obtain ⟨s, hs, _, hmem⟩ := nth ws k hlt
      have hne : ws ≠ [] := by intro h; rw [h] at hlt; simp at hlt
      obtain ⟨b, off, rfl, hcs⟩ := HCS.out hne
      have c0 := cell_later HB.out (hcs k s hs)
      have q1 : (k : Int) < (ws.length : Int) := by omega
      have hsl := HW.out s hmem
      have HD := Lib.hid (drop_cons hs)
      clear hcs hne hmem hs
      go_wp2_with fail
      refine (dumpNumber_any s _ (HL.out.below HB.out) (by omega)).mono ?_
      rintro x w2 ⟨rfl, hb2⟩
      have HB2 := Lib.hid (Below.next HB.out hb2)
      have HO2 := Lib.hid (own_later HO.out hb2)
      clear hb2 HB HO
      cases hnum : numberOf s with
      | none =>
        have hfin := Lib.hid (nums_bad (show numsOf ws = none by rw [HT.out, HD.out]; exact addN_bad hnum))
        rw [show numErr s = 101 by simp [numErr, hnum], show numVal s = 0 by simp [numVal, hnum]]
        clear hnum
        go_wp2
        go_ret2
        exact ⟨_, by rw [hfin.out.2]; rfl, by rw [hfin.out.1]; exact World.ownsRow_nil _ _ _ _, HB2.out⟩
      | some n =>
        have HN := Lib.hid (show numsOf ws = addN (acc ++ [n]) (numsOf (ws.drop (k + 1))) by rw [HT.out, HD.out]; exact addN_good hnum)
        rw [show numErr s = 0 by simp [numErr, hnum], show numVal s = n by simp [numVal, hnum]]
        clear hnum
        have HLT := Lib.hid HO2.out.lt
        have hsz := HB2.out.size
        go_wp2_with (at_builtin; refine wpList_append_own _ rfl _ _ 56 rfl w.heap.size 3 i0 (.int .i64 0) 1 8 Tryz.underlying56 hi hz0 hz1 hz2 rfl (by decide) _ _ _ rfl (HO2.out.alloc _) ⟨w2.heap.size, 0, none⟩ 1 1 [.int .i64 n] rfl rfl ?c1 ?c2 ?c3 ?c4 ?c5 ?_)
        case c1 =>
          intro j u hj
          match j, hj with
          | 0, hj => simp at hj; subst hj; simp [Addr.add]
        case c2 => intro u hu; simp at hu; subst hu; rfl
        case c3 => unfold maxLen; omega
        case c4 => omega
        case c5 => simp; omega
        intro v' w3 hown' hgrow _
        have HO3 := Lib.hid hown'
        have HB3 := Lib.hid (show Below w.heap.size w w3 from (Below.alloc HB2.out HB2.out.size _).grown hgrow (by simp; omega) (fun k e => (HLT.out k e).1))
        clear hown' hgrow
        go_wp2
        go_roundw
        case rel => exact ⟨k + 1, acc ++ [n], by omega, by simp; omega, by go_num, by have h := HO3.out; rw [intCells_snoc] at h; simpa [hacc] using h, HB3.out, HN⟩
        case measure => simp [intOf]; omega
    · obtain rfl : k = ws.length := by omega
      have hfin := Lib.hid (nums_good (show numsOf ws = some acc by rw [HT.out, List.drop_length]; exact addN_end))
      go_wp2
      go_ret2
      exact ⟨_, by rw [hfin.out.2]; rfl, by rw [hfin.out.1]; exact HO.out, HB.out⟩

end Go.Proofs.YtecmpmnidlfgnaaGreatDoor
