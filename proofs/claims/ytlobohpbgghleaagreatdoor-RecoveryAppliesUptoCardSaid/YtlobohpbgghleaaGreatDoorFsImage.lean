import Derived.Test.YtlobohpbgghleaaGreatDoorSlots
import Derived.Test.YtlobohpbgghleaaGreatDoorApp
import Derived.Test.YtlobohpbgghleaaGreatDoorShelfSort
import Derived.Shelf.Slices.In.SortNone
import Derived.Sort.KeysCollected
import Derived.Sort.OwnSorted
import Derived.Maps.RangeWalk
import Derived.Test.YtlobohpbgghleaaGreatDoorRowD
import Derived.Test.YtlobohpbgghleaaGreatDoorBars
import Derived.Test.YtlobohpbgghleaaGreatDoorFsDir
namespace Go.Proofs.YtlobohpbgghleaaGreatDoor
open Go.RowKit Go.Maps Go.Sort

/-! ## the names of a disk's files, sorted -/

theorem sortNone (p : Option Addr) (cap : Nat) (w : World) :
    Calls Tryz.prog 85 #[.slice p 0 cap] w fun e w' => e = .returned (.tuple #[]) ∧ w' = w := Any.slices_Sort_string_none Tryz.lays190 p cap w
def ptrV : Option Nat → Value
  | none => .pointer none
  | some g => .pointer (some ⟨g, 0, none⟩)
theorem ptrElem_inv {v : Value} {y : DataW Unit × List MemPlace} (h : ptrElem v = some y) : ∃ c, v = ptrV c := by
  unfold ptrElem at h
  split at h
  · exact ⟨none, rfl⟩
  · exact ⟨some _, rfl⟩
  · cases h
theorem before_le : ∀ {a b : List UInt8}, bytesBefore a b = true → a ≤ b
  | [], _, _ => List.nil_le _
  | x :: a, [], h => by simp [bytesBefore] at h
  | x :: a, y :: b, h => by
    rw [bytesBefore] at h
    rcases Nat.lt_trichotomy x.toNat y.toNat with h1 | h1 | h1
    · exact List.cons_le_cons_iff.2 (.inl (by rw [UInt8.lt_iff_toNat_lt]; exact h1))
    · have e : x = y := UInt8.toNat_inj.1 h1
      subst e
      simp at h
      exact List.cons_le_cons_iff.2 (.inr ⟨rfl, before_le h⟩)
    · exfalso
      simp at h
      rcases h with h | h
      · have := UInt8.lt_iff_toNat_lt.1 h; omega
      · rw [h.1] at h1; omega
def namesL (L : List Slot) : List (List UInt8) := L.map fun s => s.fil.name
theorem names_sorted {L : List Slot} {ss : List (List UInt8)} (h : Rise (fils L)) (hp : ss.Perm (namesL L)) : ss.mergeSort (fun x y => decide (x ≤ y)) = namesL L := by
  refine List.Perm.eq_of_pairwise (le := fun a b => decide (a ≤ b) = true) (fun a b _ _ h1 h2 => ?_) (List.pairwise_mergeSort (fun a b c h1 h2 => ?_) (fun a b => ?_) _) ?_ ((List.mergeSort_perm _ _).trans hp)
  · exact List.le_antisymm (of_decide_eq_true h1) (of_decide_eq_true h2)
  · exact decide_eq_true (List.le_trans (of_decide_eq_true h1) (of_decide_eq_true h2))
  · rw [Bool.or_eq_true, decide_eq_true_eq, decide_eq_true_eq]; exact List.le_total a b
  · unfold Rise fils at h
    rw [List.pairwise_map] at h
    unfold namesL
    rw [List.pairwise_map]
    exact h.imp fun hab => decide_eq_true (before_le hab)
theorem strKeys_ents (L : List Slot) : strKeys (DataW.map (ents L)) = namesL L := by
  simp [strKeys, ents, namesL, strOf, Function.comp]

set_option maxRecDepth 100000 in
set_option maxHeartbeats 1000000 in
theorem fsNames_any (w : World) (f m : Nat) (d : Disk) (L : List Slot) (h : FsAt w f m d L) (hL : L.length ≤ 1000000) :
    Calls Tryz.prog 45 #[.pointer (some ⟨f, 0, none⟩)] w fun e w' => ∃ v, e = .returned v ∧ w'.ownsRow w.heap.size 9 1 v L.length ((namesL L).map encStr) ∧ Below w.heap.size w w' := by
  obtain ⟨i0, hi, hz0, hz1, hz2⟩ := info_parts (show (Tryz.prog.info? 9).map (fun i => (i.zero, i.size, i.bytes)) = some (some (.string ⟨#[]⟩), 1, 16) by kernel_rfl)
  have c0 := h.hd.c0
  have HOWN := Lib.hid h.body.map
  have HR := Lib.hid h.body.rise
  have hml := h.body.map.lt
  have HML := Lib.hid hml
  have hsz : Maps.size (DataW.map (ents L)) = L.length := by simp [Maps.size, ents_length]
  clear h
  go_enter Tryz.func45, Tryz.ntmps45
  go_wp2_with (first
    | (at_range; refine wpList_range_own _ rfl _ 77 rfl 9 76 (string_keyed Tryz.underlying9) Tryz.underlying77 ptrElem m L.length _ rfl HOWN.out ?_; intro w0 hrg0 hg0 hs0))
  go_frame
  go_loopw [3, 4] (fun v _ wr => ∃ (left : Lit → Bool) (cnt : Nat) (ss : List (List UInt8)), wr.ranges Tryz.prog 9 ptrElem m w.heap.size L.length (.map (ents L)) left cnt ∧ ss.length + cnt ≤ L.length ∧
      wr.ownsRow w.heap.size 9 1 v ss.length (ss.map encStr) ∧ Hid (Collected (DataW.map (ents L)) left ss) ∧ RowKit.Below w.heap.size w wr)
    (fun _ _ wr => wr.rangeLeft m w.heap.size)
  case atStart =>
    exact ⟨_, _, [], hrg0, by simp [hsz], World.ownsRow_nil _ _ _ _, Lib.hid (Collected.start _), (RowKit.Below.refl _ _).grown hg0 (Nat.le_refl _) (fun j hj => by cases hj)⟩
  case round =>
    obtain ⟨left, cnt, ss, hrg, hcs, hrow, HC, hnx⟩ := hrel
    have HNX := Lib.hid hnx
    go_wp2_with (first
      | (at_next; refine wpList_next_ranges _ rfl _ rfl 9 (string_keyed Tryz.underlying9) ptrElem encStr ptrV (fun key kl hk => by obtain ⟨x, hx, _⟩ := Maps.keyOf_str Tryz.underlying9 hk; exact ⟨x, hx⟩) (fun v y hv => ptrElem_inv hv) m w.heap.size L.length _ _ _ rfl hrg ?_ ?_))
    · -- nothing is left: the slice is sorted
      intro hc0 hl0
      have hperm : ss.Perm (namesL L) := by rw [← strKeys_ents]; exact HC.out.perm HOWN.out (string_keyed Tryz.underlying9) Tryz.underlying9 hl0
      have hlen : ss.length = L.length := by rw [hperm.length_eq]; simp [namesL]
      have HSO := Lib.hid (names_sorted HR.out hperm)
      clear hperm HC hl0
      rcases hrow.2 with ⟨rfl, hnil⟩ | ⟨g, cap, cur, rfl, hbase, hb, h1, h2, h3, h4⟩
      · have hn : namesL L = [] := List.length_eq_zero_iff.1 (by rw [show (namesL L).length = L.length by simp [namesL], ← hlen]; exact hnil)
        have HR0 := Lib.hid (show wr.ownsRow w.heap.size 9 1 (.slice none 0 0) L.length ((namesL L).map encStr) by rw [hn, ← hlen, hnil]; exact World.ownsRow_nil _ _ _ _)
        clear hrow hnil hn hlen
        go_wp2_with (go_at_call 85; refine (sortNone none 0 wr).mono ?_; rintro e w1 ⟨rfl, rfl⟩)
        go_ret
        exact ⟨_, rfl, HR0.out, HNX.out⟩
      · have HH := Lib.hid (holds_of_block (ss := ss) hb (by simpa using h4))
        have HGL := Lib.hid (Array.getElem?_eq_some_iff.1 hb).1
        have HOS := Lib.hid (fun (n : Nat) (os : Array Obj) => ownsRow_sorted (n := n) (os := os) (base := w.heap.size) (cap := cap) (ss := ss) (ts := namesL L) (by simp [namesL, hlen]) hbase hb h1 h2 h3)
        have HBS := Lib.hid hbase
        have hll : ss.length < 4611686018427387904 := by omega
        have HLEN := Lib.hid hlen
        clear hrow hb h4 h3 h2 hbase hlen
        go_wp2_with fail
        refine (Tryz.slices_Sort_string g 0 cap ss wr HH.out HGL.out hll).mono ?_
        rintro e w1 ⟨rfl, nn, os, hw1⟩
        rw [HSO.out] at hw1
        have HB := Lib.hid (show RowKit.Below w.heap.size w w1 by rw [hw1]; exact HNX.out.grown (grownBy_sorted (g := g) (n := nn) (os := os) (namesL L).toArray) HNX.out.size (fun k e => by cases e; exact HBS.out))
        have HW := Lib.hid (show w1.ownsRow w.heap.size 9 1 (.slice (some ⟨g, 0, none⟩) ss.length cap) ss.length ((namesL L).map encStr) by rw [hw1]; exact HOS.out nn os)
        clear hw1
        go_wp2
        go_ret
        exact ⟨_, rfl, by rw [← HLEN.out]; exact HW.out, HB.out⟩
    · -- a name has come
      intro x c kl yd yp w2 cnt2 hkey hlk hv hat hrg2 hlt hg2 hs2 hen
      obtain ⟨x', ex, rfl, _⟩ := Maps.keyOf_str Tryz.underlying9 hkey
      obtain rfl : x = x' := encStr_inj ex
      have hrow2 := hrow.kept hg2 (Or.inr (row_ne_iter hrow hrg).symm)
      clear hs2
      go_wp2_with (first
        | (at_builtin; refine wpList_append_own _ rfl _ _ 32 rfl w.heap.size 9 i0 (.string ⟨#[]⟩) 1 16 Tryz.underlying32 hi hz0 hz1 hz2 rfl (by decide) _ _ _ rfl (hrow2.alloc _) ⟨w2.heap.size, 0, none⟩ 1 1 [encStr x] rfl rfl (cell_one_new _ _ _) (by simp [Value.oneCell', encStr]) (by unfold maxLen at *; omega) (by omega) (by have := hnx.size; have := hg2.size; simp; omega) ?_; intro v' w3 hown' hg3 hnil3; go_frame))
      have hrg3 := (hrg2.alloc _).kept hg3 (row_ne_low hrow2 hml) (row_ne_iter hrow2 hrg2)
      go_roundw
      case rel =>
        refine ⟨_, cnt2, ss ++ [x], hrg3, by simp; omega, by simpa using hown', Lib.hid (HC.out.step hlk hat), ?_⟩
        exact ((hnx.grown hg2 hnx.size (fun j hj => by cases hj; exact Nat.le_refl _)).alloc (by have := hnx.size; have := hg2.size; omega) _).grown hg3 (by have := hnx.size; have := hg2.size; simp; omega) (fun j hj => (hrow2.lt j hj).1)
      case measure => rw [hrg3.left_eq, hrg.left_eq]; exact hlt

end Go.Proofs.YtlobohpbgghleaaGreatDoor

namespace Go.Proofs.YtlobohpbgghleaaGreatDoor
open Go.RowKit

/-! ## an empty disk; slices.Clone -/

theorem slice_none_eq (w : World) (n cap : Nat) : (binOp .eql 47 (.slice none n cap) (.slice none 0 0)).run Tryz.prog w = .ok (.bool true) w := by kernel_rfl
theorem slice_some_eq (w : World) (ad : Addr) (n cap : Nat) : (binOp .eql 47 (.slice (some ad) n cap) (.slice none 0 0)).run Tryz.prog w = .ok (.bool false) w := by kernel_rfl

set_option maxRecDepth 100000 in
theorem clone_any (l : List UInt8) (v : Value) (w : World) (hv : BRow w v l) (hn : l.length ≤ 140737488355328) :
    Calls Tryz.prog 36 #[v] w fun e w' => ∃ v', e = .returned v' ∧ OwnB w' w.heap.size v' l ∧ Below w.heap.size w w' := by
  obtain ⟨oa, cap, rfl, hl, hc⟩ := hv
  rcases oa with _ | ad
  · have hz : l = [] := by
      by_cases h : l = []
      · exact h
      · obtain ⟨b, off, e, _⟩ := hc h; cases e
    subst hz
    have h1 := slice_none_eq w 0 cap
    clear hc hl hn
    go_enter Tryz.func36, Tryz.ntmps36
    go_wp2
    go_ret
    exact ⟨_, rfl, OwnB.nil _ _, Below.refl _ _⟩
  · have HV := Lib.hid (show BRow w (.slice (some ad) l.length cap) l from ⟨_, cap, rfl, hl, hc⟩)
    have h1 := slice_some_eq w ad l.length cap
    have hln : ([] : List UInt8).length + l.length ≤ 140737488355328 := by simpa using hn
    have HO := Lib.hid (show OwnB (w.alloc (.cells #[] 5)) w.heap.size (.slice (some ⟨w.heap.size, 0, none⟩) 0 0) [] from own_fresh w 5 1 w.heap.size (Nat.le_refl _))
    have HB := Lib.hid (below_alloc w (.cells #[] 5))
    have HV1 := Lib.hid (show BRow (w.alloc (.cells #[] 5)) (.slice (some ad) l.length cap) l from by
      obtain ⟨oa, cp, e, h3, h4⟩ := HV.out
      exact ⟨oa, cp, e, h3, fun hn => by obtain ⟨b, off, e1, hcc⟩ := h4 hn; exact ⟨b, off, e1, fun i x hx => cell_later HB.out (hcc i x hx)⟩⟩)
    clear hc hn hl
    go_enter Tryz.func36, Tryz.ntmps36
    go_wp2_with (at_builtin; refine wpList_appB rfl _ _ rfl rfl rfl HO.out ?c1 HV1.out hln ?_)
    case c1 => exact HB.out.size
    intro v' w' h2 h3
    have HF := Lib.hid h2
    have HG := Lib.hid (HB.out.trans h3)
    clear h2 h3
    go_wp2
    go_ret
    exact ⟨_, rfl, HF.out, HG.out⟩

theorem fsNew_any (room : Int) (w : World) :
    Calls Tryz.prog 34 #[.int .i64 room] w fun e w' => ∃ f m, e = .returned (.pointer (some ⟨f, 0, none⟩)) ∧ FsAt w' f m (newD room) [] ∧ w.heap.size ≤ f ∧ w.heap.size ≤ m ∧ Below w.heap.size w w' := by
  have hmk : (Instr.makeMap 77 none).run Tryz.prog w = .ok (.map (some w.heap.size)) (w.alloc (.map #[] 0)) := rfl
  have sz : (w.alloc (.map #[] 0)).heap.size = w.heap.size + 1 := by simp
  have hm : min (max 0 room) 67108864 = clampRoom room := by unfold clampRoom; split <;> (try split) <;> omega
  have HH := Lib.hid (show HdAt ((w.alloc (.map #[] 0)).alloc (.cells (hdCs w.heap.size (hdOf (newD room))) 79)) (w.heap.size + 1) w.heap.size (hdOf (newD room)) by
    rw [← sz]; exact heap_alloc_new _ _)
  have HM := Lib.hid ((w.ownsMap_made Tryz.prog 9 ptrElem).alloc (.cells (hdCs w.heap.size (hdOf (newD room))) 79))
  have HB := Lib.hid (Below.next (below_alloc w (.map #[] 0)) (below_alloc _ (.cells (hdCs w.heap.size (hdOf (newD room))) 79)))
  clear sz
  go_enter Tryz.func34, Tryz.ntmps34
  go_wp2
  go_ret
  have hbd : Body ((w.alloc (.map #[] 0)).alloc (.cells (hdCs w.heap.size (hdOf (newD room))) 79)) (w.heap.size + 1) w.heap.size [] :=
    { map := HM.out, slot := fun s hs => (List.not_mem_nil hs).elim, rise := List.Pairwise.nil, apart := And.intro (by omega) (And.intro (fun s hs => (List.not_mem_nil hs).elim) List.Pairwise.nil) }
  refine ⟨w.heap.size + 1, w.heap.size, rfl, ?_, by omega, by omega, ?_⟩
  · exact ⟨HH.out, hbd, rfl, newD_ok room⟩
  · exact HB.out

end Go.Proofs.YtlobohpbgghleaaGreatDoor

namespace Go.Proofs.YtlobohpbgghleaaGreatDoor
open Go.RowKit

/-! ## a disk's image -/

theorem fils_take_succ {L : List Slot} {k : Nat} {s : Slot} (h : L[k]? = some s) : (fils L).take (k + 1) = (fils L).take k ++ [s.fil] := by
  obtain ⟨h1, h2⟩ := List.getElem?_eq_some_iff.1 h
  unfold fils
  rw [← List.map_take, ← List.map_take, List.take_succ_eq_append_getElem h1, h2]
  simp

set_option maxRecDepth 100000 in
set_option maxHeartbeats 2000000 in
theorem fsImage_any (w : World) (f m : Nat) (d : Disk) (L : List Slot) (h : FsAt w f m d L) :
    Calls Tryz.prog 16 #[.pointer (some ⟨f, 0, none⟩)] w fun e w' => ∃ v, e = .returned v ∧ FilesIn (fun k => w.heap.size ≤ k) w' v d.files ∧ Below w.heap.size w w' := by
  have hL : L.length ≤ 700 := by have := h.ok.count; rw [← h.fil] at this; simpa [fils] using this
  have HN := Lib.hid (fsNames_any w f m d L h (by omega))
  have HFI := Lib.hid h.fil
  have HUS := Lib.hid (fun (s : Slot) (hs : s ∈ L) => show s.fil.data.length ≤ 140737488355328 by
    have h1 := len_le_used (show s.fil ∈ d.files by rw [← h.fil]; exact List.mem_map.2 ⟨s, hs, rfl⟩)
    have h2 := h.ok.used
    have h3 := h.ok.room
    omega)
  have HH := Lib.hid h
  clear h
  go_enter Tryz.func16, Tryz.ntmps16
  go_wp2_with fail
  go_at_call 45
  refine HN.out.mono ?_
  rintro e w1 ⟨v1, rfl, hrow, hb1⟩
  obtain ⟨oa, cap, rfl, hl1, hl2⟩ := own_shape hrow
  have HROW := Lib.hid hrow
  have HB1 := Lib.hid hb1
  clear hrow hb1 HN
  go_wp2
  go_loopw [3, 5, 6, 12] (fun v _ _ iv wr => ∃ (k : Nat) (ps : List (Fil × Value)), k ≤ L.length ∧ iv = .int .i64 k ∧ ps.length = k ∧ OwnG wr w1.heap.size v ps ∧ Hid (ps.map (·.1) = (fils L).take k) ∧ Below w1.heap.size w1 wr) (fun _ _ _ iv _ => L.length - (intOf iv).toNat)
  case atStart => exact ⟨0, [], Nat.zero_le _, rfl, rfl, ownD_nil _ _, Lib.hid rfl, Below.refl _ _⟩
  case round =>
    obtain ⟨k, ps, hk, rfl, hpl, hown, HP, hbr⟩ := hrel
    have HO := Lib.hid hown
    have HBR := Lib.hid hbr
    have HB := Lib.hid (Below.next HB1.out hbr)
    clear hown hbr
    by_cases hlt : k < L.length
    · obtain ⟨s, hs, _, hsm⟩ := nth L k hlt
      have q1 : (k : Int) < (L.length : Int) := by omega
      obtain ⟨g, cap', e1, _, _, _, _, hcell⟩ := own_get HROW.out (by omega)
      simp only [Value.slice.injEq] at e1
      obtain ⟨rfl, _, rfl⟩ := e1
      have cn : wr.cell? ⟨g, k, none⟩ = some (.string ⟨s.fil.name.toArray⟩) := cell_later HBR.out (hcell k _ (by rw [List.getElem?_map]; unfold namesL; rw [List.getElem?_map, hs]; rfl))
      have hfs := HH.out.below HB.out
      have c0 := hfs.hd.c0
      have hlook := hfs.body.look (n := s.fil.name) (right_len (HH.out.ok.names s.fil (by rw [← HH.out.fil]; exact List.mem_map.2 ⟨s, hsm, rfl⟩)))
      have hsa : slotAt L s.fil.name = some s := by
        rcases hx : slotAt L s.fil.name with _ | t
        · have := List.find?_eq_none.1 hx s hsm
          simp at this
        · rw [HH.out.body.one hx hsm rfl]
      rw [hsa] at hlook
      simp only at hlook
      have hsl := (HH.out.below HB1.out).body.slot s hsm
      have HSL := Lib.hid (fun W (hW : Below w1.heap.size w1 W) => show W.cell? ⟨s.blk, 0, none⟩ = some s.sl ∧ W.cell? ⟨s.blk, 1, none⟩ = some (.int .i64 s.fil.safe) ∧ DatAt W s.sl s.fil.data from ⟨cell_later hW hsl.c0, cell_later hW hsl.c1, hsl.2.later hW⟩)
      have HLEN := Lib.hid (HUS.out s hsm)
      have HTK := Lib.hid (fils_take_succ hs)
      clear hsl hfs hs hsm hsa hcell
      obtain ⟨sv, hsv⟩ : ∃ sv, sv = s.sl := ⟨_, rfl⟩
      rw [← hsv] at HSL
      clear hsv
      go_wp2_with fail
      refine wp_region_held_drew (S := fun w' => Below w1.heap.size w1 w') (by kernel_rfl) (Below.next HBR.out (show Below wr.heap.size wr wr.drew from below_drewN' wr 1)) (fun hHeld => ?_)
      clear c0 cn hlook
      refine tk 0 rfl ?v_172 ?hy_172 ?r_172
      case hy_172 => intro w hSw; have c0 := (HSL.out _ hSw).1; have c1 := (HSL.out _ hSw).2.1; go_simp; try with_reducible rfl
      simp only [pA, pB, pC, pD]
      refine tk 1 rfl ?v_173 ?hy_173 ?r_173
      case hy_173 => intro w hSw; have c0 := (HSL.out _ hSw).1; have c1 := (HSL.out _ hSw).2.1; go_simp; try with_reducible rfl
      simp only [pA, pB, pC, pD]
      refine tk 2 rfl ?v_174 ?hy_174 ?r_174
      case hy_174 => intro w hSw; have c0 := (HSL.out _ hSw).1; have c1 := (HSL.out _ hSw).2.1; go_simp; try with_reducible rfl
      simp only [pA, pB, pC, pD]
      refine tk 3 rfl ?v_175 ?hy_175 ?r_175
      case hy_175 => intro w hSw; have c0 := (HSL.out _ hSw).1; have c1 := (HSL.out _ hSw).2.1; go_simp; try with_reducible rfl
      simp only [pA, pB, pC, pD]
      refine tk 4 rfl ?v_176 ?hy_176 ?r_176
      case hy_176 => intro w hSw; have c0 := (HSL.out _ hSw).1; have c1 := (HSL.out _ hSw).2.1; go_simp; try with_reducible rfl
      simp only [pA, pB, pC, pD]
      refine tk 5 rfl ?v_177 ?hy_177 ?r_177
      case hy_177 => intro w hSw; have c0 := (HSL.out _ hSw).1; have c1 := (HSL.out _ hSw).2.1; go_simp; try with_reducible rfl
      simp only [pA, pB, pC, pD]
      refine tk 7 rfl ?v_178 ?hy_178 ?r_178
      case hy_178 => intro w hSw; have c0 := (HSL.out _ hSw).1; have c1 := (HSL.out _ hSw).2.1; go_simp; try with_reducible rfl
      simp only [pA, pB, pC, pD]
      refine tk 8 rfl ?v_179 ?hy_179 ?r_179
      case hy_179 => intro w hSw; have c0 := (HSL.out _ hSw).1; have c1 := (HSL.out _ hSw).2.1; go_simp; try with_reducible rfl
      simp only [pA, pB, pC, pD]
      refine tk 9 rfl ?v_180 ?hy_180 ?r_180
      case hy_180 => intro w hSw; have c0 := (HSL.out _ hSw).1; have c1 := (HSL.out _ hSw).2.1; go_simp; try with_reducible rfl
      simp only [pA, pB, pC, pD]
      refine tk 10 rfl ?v_181 ?hy_181 ?r_181
      case hy_181 => intro w hSw; have c0 := (HSL.out _ hSw).1; have c1 := (HSL.out _ hSw).2.1; go_simp; try with_reducible rfl
      simp only [pA, pB, pC, pD]
      have HOd := Lib.hid (HO.out.later (show Below wr.heap.size wr wr.drew from below_drewN' wr 1))
      have HBRd := Lib.hid (Below.next HBR.out (show Below wr.heap.size wr wr.drew from below_drewN' wr 1))
      clear HO HB HBR
      generalize World.drew _ = Wd at *
      refine wpAnyH_ready (rs := [6]) (by kernel_rfl) (by simp) ?_
      refine AllReadyH.cons rfl (fun K hK => ?_) AllReadyH.nil
      go_simp
      go_at_call 36
      refine (clone_any s.fil.data sv _ (HSL.out _ hHeld).2.2.brow HLEN.out).mono ?_
      rintro e w2 ⟨v2, rfl, ho2, hb2⟩
      have HD2 := Lib.hid (datAt_own ho2)
      obtain ⟨o2, cap2, rfl, _, _⟩ := own_shape ho2
      have HO2 := Lib.hid (HOd.out.later hb2)
      have HBR2 := Lib.hid (Below.next HBRd.out hb2)
      have HGE := Lib.hid HBRd.out.size
      clear ho2 hb2 hHeld HOd HBRd
      go_wp2_with fail
      refine hK.out _ _ HBR2.out (fun hHeld => ?_)
      clear hK K
      refine tk 11 rfl ?v_182 ?hy_182 ?r_182
      case hy_182 => intro w hSw; go_simp; try with_reducible rfl
      simp only [pA, pB, pC, pD]
      refine wpAnyH_ready (rs := [12]) (by kernel_rfl) (by simp) ?_
      refine AllReadyH.cons rfl (fun K hK => ?_) AllReadyH.nil
      go_simp
      refine hK.out _ _ (Below.next HBR2.out (below_alloc w2 _)) (fun hHeld => ?_)
      clear hK K
      have hB2 : w1.heap.size ≤ w2.heap.size := HBR2.out.size
      refine wpAnyH_ready (rs := [13]) (by kernel_rfl) (by simp) ?_
      refine AllReadyH.cons rfl (fun K hK => ?_) AllReadyH.nil
      rw [if_pos (by kernel_rfl)]
      refine wp_appG (f := s.fil) (dv := .slice o2 s.fil.data.length cap2) (.tmp 22) (.tmp 34) rfl rfl rfl HO2.out hB2 HD2.out.1 (fun g' hg' => Nat.le_trans HGE.out (HD2.out.2 g' hg')) (by omega) ?_
      intro v3 w3 h3 h4 h5
      have HO3 := Lib.hid h3
      have HB3 := Lib.hid (HBR2.out.trans h4)
      clear h3 h4 h5 hB2
      refine hK.out _ _ HB3.out (fun hHeld => ?_)
      clear hK K
      refine tk 14 rfl ?v_183 ?hy_183 ?r_183
      case hy_183 => intro w hSw; go_simp; try with_reducible rfl
      simp only [pA]
      refine wpAnyH_done (by kernel_rfl) ?_ _
      go_wp2
      go_roundw
      case rel => exact ⟨k + 1, ps ++ [(s.fil, .slice o2 s.fil.data.length cap2)], by omega, by go_num, by simp; omega, HO3.out, Lib.hid (by rw [List.map_append, HP.out, HTK.out]; rfl), HB3.out⟩
      case measure => simp [intOf]; omega
    · obtain rfl : k = L.length := by omega
      have HE := Lib.hid (show ps.map (·.1) = d.files by rw [HP.out, ← HFI.out, List.take_of_length_le (by simp [fils])])
      have HF := Lib.hid (HO.out.files (A := fun k => w.heap.size ≤ k) (fun k hk => Nat.le_trans HB1.out.size hk))
      go_wp2
      go_ret
      exact ⟨_, rfl, by rw [← HE.out]; exact HF.out, HB.out⟩

end Go.Proofs.YtlobohpbgghleaaGreatDoor
