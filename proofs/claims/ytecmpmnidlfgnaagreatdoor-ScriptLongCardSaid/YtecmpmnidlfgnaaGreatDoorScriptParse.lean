import Derived.Test.YtecmpmnidlfgnaaGreatDoorScriptCopy
import Derived.Test.YtecmpmnidlfgnaaGreatDoorScriptCommand2
import Derived.Test.YtecmpmnidlfgnaaGreatDoorScriptRefCmd3
namespace Go.Proofs.YtecmpmnidlfgnaaGreatDoor
open Go.RowKit

/-! ## Parse, both -/

def ParsePost (r : List Cmd × Int × Int) (w : World) (x : Ending) (w' : World) : Prop :=
  ∃ v xs, x = .returned (.tuple #[v, .int .i64 r.2.1, .int .i64 r.2.2]) ∧ xs.map (·.1) = r.1 ∧ w'.ownsRow w.heap.size 59 13 v xs.length (cmCells xs) ∧ (∀ x ∈ xs, ElOwn w' w.heap.size x) ∧ Below w.heap.size w w'
theorem parse_long {s : List UInt8} (h : 65536 < s.length) : parseOf s = ([], 0, 102) := by unfold parseOf; rw [if_pos h]
theorem parse_short {s : List UInt8} (h : ¬ 65536 < s.length) : parseOf s = linesC 1 (splitOn 10 s) := by unfold parseOf; rw [if_neg h]

set_option maxRecDepth 100000 in
set_option maxHeartbeats 8000000 in
theorem parseS_any (s : List UInt8) (w : World) (hs : s.length ≤ 1048576) (hL : LibV w) : Calls Tryz.prog 38 #[.string ⟨s.toArray⟩] w (ParsePost (parseOf s) w) := by
  by_cases hl : 65536 < s.length
  · have hfin := Lib.hid (parse_long hl)
    go_enter Tryz.func38, Tryz.ntmps38
    go_wp2
    exact bodyPost_ret (v := .tuple #[.slice none 0 0, .int .i64 0, .int .i64 102]) (by simp [results, Tryz.results38, go_sem]) rfl ⟨_, [], by rw [hfin.out], by rw [hfin.out]; rfl, World.ownsRow_nil _ _ _ _, by simp, Below.refl _ _⟩
  obtain ⟨i0, hi, hz0, hz1, hz2⟩ := info_parts infoCm
  have HL := Lib.hid hL
  have HT := Lib.hid (show parseOf s = addC [] (linesC 1 (splitOn 10 s)) by rw [parse_short hl]; exact addC_nil 1 _)
  have hsl : s.length ≤ 65536 := by omega
  clear hL
  go_enter Tryz.func38, Tryz.ntmps38
  go_wp2
  go_loopw [0, 5, 6] (fun tv ov nv wr => ∃ (t : List UInt8) (xs : List CmX) (k : Nat), tv = .string ⟨t.toArray⟩ ∧ nv = .int .i64 (k + 1 : Nat) ∧ xs.length = k ∧ t.length + k ≤ s.length ∧ wr.ownsRow w.heap.size 59 13 ov xs.length (cmCells xs) ∧ (∀ x ∈ xs, ElOwn wr w.heap.size x) ∧ Below w.heap.size w wr ∧ Hid (parseOf s = addC (xs.map (·.1)) (linesC (k + 1 : Nat) (splitOn 10 t)))) (fun tv _ _ _ => match tv with | .string b => b.size | _ => 0)
  case atStart => exact ⟨s, [], 0, rfl, rfl, rfl, by omega, World.ownsRow_nil _ _ _ _, by simp, Below.refl _ _, HT⟩
  case round =>
    obtain ⟨t, xs, k, rfl, rfl, hxl, htl, hO, hE, hB, HTk⟩ := hrel
    have HO := Lib.hid hO
    have HE := Lib.hid hE
    have HB := Lib.hid hB
    have HXL := Lib.hid hxl
    have hxk : xs.length ≤ k := by omega
    clear hO hE hB hxl HT
    by_cases ht : t = []
    · have hfin := Lib.hid (show parseOf s = (xs.map (·.1), 0, 0) by rw [HTk.out, ht]; exact addC_last)
      subst ht
      obtain ⟨oa, ocap, rfl, _, _⟩ := own_shape HO.out
      go_wp2
      exact bodyPost_ret (v := .tuple #[.slice oa xs.length ocap, .int .i64 0, .int .i64 0]) (by simp [results, Tryz.results38, go_sem]) rfl ⟨_, xs, by rw [hfin.out], by rw [hfin.out], HO.out, HE.out, HB.out⟩
    · have kt : t.isEmpty = false := by simpa using ht
      have kt2 : (t != []) = true := by rw [bne_iff_ne]; exact ht
      have HTN := Lib.hid ht
      clear ht
      go_wp2_with fail
      refine (Cut_any t 10 _ (HL.out.below HB.out) (by omega)).mono ?_
      rintro x w2 ⟨rfl, hb2⟩
      have HB2 := Lib.hid (Below.next HB.out hb2)
      have HO2 := Lib.hid (own_later HO.out hb2)
      have HE2 := Lib.hid (show ∀ x ∈ xs, ElOwn w2 w.heap.size x from fun x hx => ⟨own_later (HE.out x hx).1 hb2, own_later (HE.out x hx).2 hb2⟩)
      clear hb2 HO HB HE
      by_cases h400 : 400 < k + 1
      · have hfin := Lib.hid (show parseOf s = ([], ((k + 1 : Nat) : Int), 102) by
          rw [HTk.out]
          obtain ⟨p, ps, hp⟩ : ∃ p ps, splitOn 10 t = p :: ps := by
            cases h : splitOn 10 t with
            | nil => exact absurd h (splitOn_ne _ _)
            | cons a b => exact ⟨a, b, rfl⟩
          rw [hp]
          refine addC_many (by omega) ?_
          cases ps with
          | cons q qs => exact .inl (by simp)
          | nil =>
            refine .inr fun hpe => HTN.out ?_
            have := join_split 10 t
            rw [hp, hpe] at this
            exact this.symm)
        have k4 : (400 : Int) < ((k + 1 : Nat) : Int) := by omega
        go_wp2
        exact bodyPost_ret (v := .tuple #[.slice none 0 0, .int .i64 (k + 1 : Nat), .int .i64 102]) (by simp [results, Tryz.results38, go_sem]) rfl ⟨_, [], by rw [hfin.out], by rw [hfin.out]; rfl, World.ownsRow_nil _ _ _ _, by simp, HB2.out⟩
      have k4 : ¬ (400 : Int) < ((k + 1 : Nat) : Int) := by omega
      cases hcut : cutAt 10 t with
      | none =>
        have hfin := Lib.hid (show parseOf s = ([], ((k + 1 : Nat) : Int), 10) by rw [HTk.out, splitOn_cut, hcut]; exact addC_short (by omega) HTN.out)
        have hcv := Lib.hid (show cutV 10 t = (t, [], false) by unfold cutV; rw [hcut])
        clear hcut
        rw [hcv.out]
        go_wp2
        exact bodyPost_ret (v := .tuple #[.slice none 0 0, .int .i64 (k + 1 : Nat), .int .i64 10]) (by simp [results, Tryz.results38, go_sem]) rfl ⟨_, [], by rw [hfin.out], by rw [hfin.out]; rfl, World.ownsRow_nil _ _ _ _, by simp, HB2.out⟩
      | some p =>
        obtain ⟨a, b⟩ := p
        have hcv := Lib.hid (show cutV 10 t = (a, b, true) by unfold cutV; rw [hcut])
        have HSP := Lib.hid (show splitOn 10 t = a :: splitOn 10 b by rw [splitOn_cut, hcut])
        obtain ⟨hsp, _⟩ := cutAt_some hcut
        have hal : a.length + b.length + 1 = t.length := by
          have := congrArg List.length hsp
          simp at this; omega
        clear hcut hsp
        rw [hcv.out]
        go_wp2_with fail
        refine (cmdS_any a _ (by omega) (HL.out.below HB2.out)).mono ?_
        rintro x w3 ⟨nv, rv, rfl, hnx, hrx, hb3⟩
        have HB3 := Lib.hid (Below.next HB2.out hb3)
        have HO3 := Lib.hid (own_later HO2.out hb3)
        have HE3 := Lib.hid (show ∀ x ∈ xs, ElOwn w3 w.heap.size x from fun x hx => ⟨own_later (HE2.out x hx).1 hb3, own_later (HE2.out x hx).2 hb3⟩)
        have hs2 := HB2.out.size
        clear hb3 HB2 HO2 HE2
        obtain ⟨R, hR⟩ : ∃ R, R = cmdOf a := ⟨_, rfl⟩
        have HX := Lib.hid hR
        rw [← hR] at hnx hrx ⊢
        clear hR
        obtain ⟨X, ec⟩ := R
        simp only at hnx hrx HX ⊢
        obtain ⟨n1, m1, rfl, _, _⟩ := own_shape hnx
        obtain ⟨r1, s1, rfl, _, _⟩ := own_shape hrx
        have HNX := Lib.hid hnx
        have HRX := Lib.hid hrx
        clear hnx hrx
        have hA := (show Below w3.heap.size w3 (w3.alloc (.cells #[.string ⟨X.verb.toArray⟩, .slice n1 X.nums.length m1, .int .i64 X.ev.kind, .int .i64 X.ev.order, .int .i64 X.ev.item, .int .i64 X.ev.qty, .int .i64 X.ev.price, .int .i64 X.ev.cur, .int .i64 X.ev.tax, .string ⟨X.ev.who.toArray⟩, .int .i64 X.ev.stamp, .string ⟨X.ev.note.toArray⟩, .slice r1 X.raw.length s1] 59)) from (Below.refl _ _).alloc (Nat.le_refl _) _)
        have HB4 := Lib.hid (Below.next HB3.out hA)
        have HC4 := Lib.hid (show CmBlk (w3.alloc (.cells #[.string ⟨X.verb.toArray⟩, .slice n1 X.nums.length m1, .int .i64 X.ev.kind, .int .i64 X.ev.order, .int .i64 X.ev.item, .int .i64 X.ev.qty, .int .i64 X.ev.price, .int .i64 X.ev.cur, .int .i64 X.ev.tax, .string ⟨X.ev.who.toArray⟩, .int .i64 X.ev.stamp, .string ⟨X.ev.note.toArray⟩, .slice r1 X.raw.length s1] 59)) w3.heap.size X (.slice n1 X.nums.length m1) (.slice r1 X.raw.length s1) from heap_alloc_new w3 _)
        have HO4 := Lib.hid (own_later HO3.out hA)
        have HE4 := Lib.hid (show ∀ x ∈ xs, ElOwn (w3.alloc (.cells #[.string ⟨X.verb.toArray⟩, .slice n1 X.nums.length m1, .int .i64 X.ev.kind, .int .i64 X.ev.order, .int .i64 X.ev.item, .int .i64 X.ev.qty, .int .i64 X.ev.price, .int .i64 X.ev.cur, .int .i64 X.ev.tax, .string ⟨X.ev.who.toArray⟩, .int .i64 X.ev.stamp, .string ⟨X.ev.note.toArray⟩, .slice r1 X.raw.length s1] 59)) w.heap.size x from fun x hx => ⟨own_later (HE3.out x hx).1 hA, own_later (HE3.out x hx).2 hA⟩)
        have HN4 := Lib.hid (own_later HNX.out hA)
        have HR4 := Lib.hid (own_later HRX.out hA)
        clear hA HB3 HO3 HE3 HNX HRX
        by_cases hec : ec ≠ 0
        · have hfin := Lib.hid (show parseOf s = ([], ((k + 1 : Nat) : Int), ec) by
            rw [HTk.out, HSP.out, addC_bad (by omega) (splitOn_ne _ _) (by rw [← HX.out]; exact hec), ← HX.out])
          have t3 : (ec != 0) = true := by rw [bne_iff_ne]; exact hec
          clear hec
          go_wp2
          exact bodyPost_ret (v := .tuple #[.slice none 0 0, .int .i64 (k + 1 : Nat), .int .i64 ec]) (by simp [results, Tryz.results38, go_sem]) rfl ⟨_, [], by rw [hfin.out], by rw [hfin.out]; rfl, World.ownsRow_nil _ _ _ _, by simp, HB4.out⟩
        · have hec0 : ec = 0 := Classical.byContradiction hec
          have HN := Lib.hid (show parseOf s = addC (xs.map (·.1) ++ [X]) (linesC ((k + 1 : Nat) + 1 : Nat) (splitOn 10 b)) by
            rw [HTk.out, HSP.out, addC_good (by omega) (splitOn_ne _ _) (by rw [← HX.out]; exact hec0), ← HX.out]; rfl)
          have t3 : (ec != 0) = false := by rw [bne_eq_false_iff_eq]; exact hec0
          clear hec hec0
          have hs4 : (w3.alloc (.cells #[.string ⟨X.verb.toArray⟩, .slice n1 X.nums.length m1, .int .i64 X.ev.kind, .int .i64 X.ev.order, .int .i64 X.ev.item, .int .i64 X.ev.qty, .int .i64 X.ev.price, .int .i64 X.ev.cur, .int .i64 X.ev.tax, .string ⟨X.ev.who.toArray⟩, .int .i64 X.ev.stamp, .string ⟨X.ev.note.toArray⟩, .slice r1 X.raw.length s1] 59)).heap.size = w3.heap.size + 1 := by simp
          have hAT := (show Below (w3.alloc (.cells #[.string ⟨X.verb.toArray⟩, .slice n1 X.nums.length m1, .int .i64 X.ev.kind, .int .i64 X.ev.order, .int .i64 X.ev.item, .int .i64 X.ev.qty, .int .i64 X.ev.price, .int .i64 X.ev.cur, .int .i64 X.ev.tax, .string ⟨X.ev.who.toArray⟩, .int .i64 X.ev.stamp, .string ⟨X.ev.note.toArray⟩, .slice r1 X.raw.length s1] 59)).heap.size _ ((w3.alloc (.cells #[.string ⟨X.verb.toArray⟩, .slice n1 X.nums.length m1, .int .i64 X.ev.kind, .int .i64 X.ev.order, .int .i64 X.ev.item, .int .i64 X.ev.qty, .int .i64 X.ev.price, .int .i64 X.ev.cur, .int .i64 X.ev.tax, .string ⟨X.ev.who.toArray⟩, .int .i64 X.ev.stamp, .string ⟨X.ev.note.toArray⟩, .slice r1 X.raw.length s1] 59)).alloc (.cells #[.string ⟨X.verb.toArray⟩, .slice n1 X.nums.length m1, .int .i64 X.ev.kind, .int .i64 X.ev.order, .int .i64 X.ev.item, .int .i64 X.ev.qty, .int .i64 X.ev.price, .int .i64 X.ev.cur, .int .i64 X.ev.tax, .string ⟨X.ev.who.toArray⟩, .int .i64 X.ev.stamp, .string ⟨X.ev.note.toArray⟩, .slice r1 X.raw.length s1] 59)) from (Below.refl _ _).alloc (Nat.le_refl _) _)
          have HO5 := Lib.hid (own_later HO4.out hAT)
          have HN5 := Lib.hid (own_later HN4.out hAT)
          have HR5 := Lib.hid (own_later HR4.out hAT)
          have HE5 := Lib.hid (show ∀ x ∈ xs, ElOwn ((w3.alloc (.cells #[.string ⟨X.verb.toArray⟩, .slice n1 X.nums.length m1, .int .i64 X.ev.kind, .int .i64 X.ev.order, .int .i64 X.ev.item, .int .i64 X.ev.qty, .int .i64 X.ev.price, .int .i64 X.ev.cur, .int .i64 X.ev.tax, .string ⟨X.ev.who.toArray⟩, .int .i64 X.ev.stamp, .string ⟨X.ev.note.toArray⟩, .slice r1 X.raw.length s1] 59)).alloc (.cells #[.string ⟨X.verb.toArray⟩, .slice n1 X.nums.length m1, .int .i64 X.ev.kind, .int .i64 X.ev.order, .int .i64 X.ev.item, .int .i64 X.ev.qty, .int .i64 X.ev.price, .int .i64 X.ev.cur, .int .i64 X.ev.tax, .string ⟨X.ev.who.toArray⟩, .int .i64 X.ev.stamp, .string ⟨X.ev.note.toArray⟩, .slice r1 X.raw.length s1] 59)) w.heap.size x from fun x hx => ⟨own_later (HE4.out x hx).1 hAT, own_later (HE4.out x hx).2 hAT⟩)
          have HB5 := Lib.hid (Below.next HB4.out hAT)
          have hc5 : ∀ (j : Nat) u, (cmCs X (.slice n1 X.nums.length m1) (.slice r1 X.raw.length s1))[j]? = some u → ((w3.alloc (.cells #[.string ⟨X.verb.toArray⟩, .slice n1 X.nums.length m1, .int .i64 X.ev.kind, .int .i64 X.ev.order, .int .i64 X.ev.item, .int .i64 X.ev.qty, .int .i64 X.ev.price, .int .i64 X.ev.cur, .int .i64 X.ev.tax, .string ⟨X.ev.who.toArray⟩, .int .i64 X.ev.stamp, .string ⟨X.ev.note.toArray⟩, .slice r1 X.raw.length s1] 59)).alloc (.cells #[.string ⟨X.verb.toArray⟩, .slice n1 X.nums.length m1, .int .i64 X.ev.kind, .int .i64 X.ev.order, .int .i64 X.ev.item, .int .i64 X.ev.qty, .int .i64 X.ev.price, .int .i64 X.ev.cur, .int .i64 X.ev.tax, .string ⟨X.ev.who.toArray⟩, .int .i64 X.ev.stamp, .string ⟨X.ev.note.toArray⟩, .slice r1 X.raw.length s1] 59)).cell? ⟨(w3.alloc (.cells #[.string ⟨X.verb.toArray⟩, .slice n1 X.nums.length m1, .int .i64 X.ev.kind, .int .i64 X.ev.order, .int .i64 X.ev.item, .int .i64 X.ev.qty, .int .i64 X.ev.price, .int .i64 X.ev.cur, .int .i64 X.ev.tax, .string ⟨X.ev.who.toArray⟩, .int .i64 X.ev.stamp, .string ⟨X.ev.note.toArray⟩, .slice r1 X.raw.length s1] 59)).heap.size, j, none⟩ = some u := fun j u hj => by
            rw [CmBlk.cell (show CmBlk ((w3.alloc (.cells #[.string ⟨X.verb.toArray⟩, .slice n1 X.nums.length m1, .int .i64 X.ev.kind, .int .i64 X.ev.order, .int .i64 X.ev.item, .int .i64 X.ev.qty, .int .i64 X.ev.price, .int .i64 X.ev.cur, .int .i64 X.ev.tax, .string ⟨X.ev.who.toArray⟩, .int .i64 X.ev.stamp, .string ⟨X.ev.note.toArray⟩, .slice r1 X.raw.length s1] 59)).alloc (.cells #[.string ⟨X.verb.toArray⟩, .slice n1 X.nums.length m1, .int .i64 X.ev.kind, .int .i64 X.ev.order, .int .i64 X.ev.item, .int .i64 X.ev.qty, .int .i64 X.ev.price, .int .i64 X.ev.cur, .int .i64 X.ev.tax, .string ⟨X.ev.who.toArray⟩, .int .i64 X.ev.stamp, .string ⟨X.ev.note.toArray⟩, .slice r1 X.raw.length s1] 59)) (w3.alloc (.cells #[.string ⟨X.verb.toArray⟩, .slice n1 X.nums.length m1, .int .i64 X.ev.kind, .int .i64 X.ev.order, .int .i64 X.ev.item, .int .i64 X.ev.qty, .int .i64 X.ev.price, .int .i64 X.ev.cur, .int .i64 X.ev.tax, .string ⟨X.ev.who.toArray⟩, .int .i64 X.ev.stamp, .string ⟨X.ev.note.toArray⟩, .slice r1 X.raw.length s1] 59)).heap.size X (.slice n1 X.nums.length m1) (.slice r1 X.raw.length s1) from heap_alloc_new _ _)]; exact hj
          clear hAT
          go_wp2_with (first
            | (with_reducible refine wpList_load_cm rfl (.tmp 10) rfl w3.heap.size X (.slice n1 X.nums.length m1) (.slice r1 X.raw.length s1) rfl HC4.out ?_)
            | (at_builtin; refine wpList_append_own _ rfl _ _ 60 rfl w.heap.size 59 i0 zeroCm 13 160 Tryz.underlying60 hi hz0 hz1 hz2 rfl (by decide) _ _ _ rfl HO5.out _ 1 1 (cmCs X (.slice n1 X.nums.length m1) (.slice r1 X.raw.length s1)).toList rfl rfl ?c1 ?c2 ?c3 ?c4 ?c5 ?_))
          case c1 =>
            intro j u hj
            have := hc5 j u (by simpa using hj)
            rw [addr_add, Nat.zero_add]
            first | exact this | (rw [hs4] at this; exact this)
          case c2 => intro u hu; exact Array.all_eq_true_iff_forall_mem.1 (cmCs_one X (.slice n1 X.nums.length m1) (.slice r1 X.raw.length s1) rfl rfl) u (by simpa using hu)
          case c3 => unfold maxLen; omega
          case c4 => omega
          case c5 => exact HB5.out.size
          intro v' w6 hown6 hgrow6 _
          have hN6 : ElOwn w6 w.heap.size (X, (.slice n1 X.nums.length m1), (.slice r1 X.raw.length s1)) := ⟨own_mono (own_grown HN5.out hgrow6 (fun k hk => own_ne HN5.out HO5.out (by decide) hk)) (by omega), own_mono (own_grown HR5.out hgrow6 (fun k hk => own_ne HR5.out HO5.out (by decide) hk)) (by omega)⟩
          have hE6 : ∀ x ∈ xs, ElOwn w6 w.heap.size x := fun x hx => ⟨own_grown (HE5.out x hx).1 hgrow6 (fun k hk => own_ne (HE5.out x hx).1 HO5.out (by decide) hk), own_grown (HE5.out x hx).2 hgrow6 (fun k hk => own_ne (HE5.out x hx).2 HO5.out (by decide) hk)⟩
          have HO6 := Lib.hid hown6
          have HE6 := Lib.hid (show ∀ x ∈ xs ++ [((X, (.slice n1 X.nums.length m1), (.slice r1 X.raw.length s1)) : CmX)], ElOwn w6 w.heap.size x from fun x hx => by
            rcases List.mem_append.1 hx with hx | hx
            · exact hE6 x hx
            · rw [List.mem_singleton.1 hx]; exact hN6)
          have HB6 := Lib.hid (show Below w.heap.size w w6 from HB5.out.grown hgrow6 HB5.out.size (fun k e => (HO5.out.lt k e).1))
          clear hown6 hgrow6 hN6 hE6 hc5
          go_wp2
          go_roundw
          case rel => exact ⟨b, xs ++ [((X, (.slice n1 X.nums.length m1), (.slice r1 X.raw.length s1)) : CmX)], k + 1, rfl, by go_num, by have := HXL.out; simp; omega, by omega, by rw [← cmCells_snoc]; simpa using HO6.out, HE6.out, HB6.out, by rw [List.map_append]; exact HN⟩
          case measure => simp [ByteArray.size]; omega

set_option maxRecDepth 100000 in
set_option maxHeartbeats 8000000 in
theorem parseR_any (s : List UInt8) (w : World) (hs : s.length ≤ 1048576) : Calls Tryz.prog 37 #[.string ⟨s.toArray⟩] w (ParsePost (parseOf s) w) := by
  by_cases hl : 65536 < s.length
  · have hfin := Lib.hid (parse_long hl)
    go_enter Tryz.func37, Tryz.ntmps37
    go_wp2
    exact bodyPost_ret (v := .tuple #[.slice none 0 0, .int .i64 0, .int .i64 102]) (by simp [results, Tryz.results37, go_sem]) rfl ⟨_, [], by rw [hfin.out], by rw [hfin.out]; rfl, World.ownsRow_nil _ _ _ _, by simp, Below.refl _ _⟩
  obtain ⟨i0, hi, hz0, hz1, hz2⟩ := info_parts infoCm
  have HT := Lib.hid (show parseOf s = addC [] (linesC 1 (splitOn 10 s)) by rw [parse_short hl]; exact addC_nil 1 _)
  have hcount := splitOn_length 10 s
  have hwl : Hid (∀ x ∈ splitOn 10 s, x.length ≤ 1048576) := Lib.hid fun x hx => by
    have := splitOn_part 10 s x hx
    omega
  have hne : splitOn 10 s ≠ [] := splitOn_ne _ _
  go_enter Tryz.func37, Tryz.ntmps37
  go_wp2_with fail
  refine (refSplit_any s 10 _ (by omega)).mono ?_
  rintro x w1 ⟨sv, rfl, hown, hb1⟩
  obtain ⟨ls, hls⟩ : ∃ ls, ls = splitOn 10 s := ⟨_, rfl⟩
  rw [← hls] at HT hcount hwl hown hne
  obtain ⟨g, cap, rfl, hg0, hg1, hcap, hcm, hcs⟩ := own_get hown (List.length_pos_iff.2 hne)
  have HCS := Lib.hid (show ∀ (j : Nat) t, ls[j]? = some t → w1.cell? ⟨g, j, none⟩ = some (.string ⟨t.toArray⟩) from fun j t h => hcs j _ (strs_get h))
  have HB1 := Lib.hid hb1
  have hs1 := hb1.size
  have HE0 := Lib.hid (own_emptyS w1 59 13)
  have HBE := Lib.hid (show Below w1.heap.size w1 (w1.alloc (.cells #[] 59)) from (Below.refl _ _).alloc (Nat.le_refl _) _)
  unfold maxLen at hcm
  clear hown hcs hb1 hls hne hg0 hg1
  go_wp2
  go_loopw [6, 18] (fun ov iv wr => ∃ (k : Nat) (xs : List CmX), k ≤ ls.length ∧ iv = .int .i64 k ∧ xs.length = k ∧ wr.ownsRow w1.heap.size 59 13 ov xs.length (cmCells xs) ∧ (∀ x ∈ xs, ElOwn wr w1.heap.size x) ∧ Below w1.heap.size w1 wr ∧ Hid (parseOf s = addC (xs.map (·.1)) (linesC (k + 1 : Nat) (ls.drop k)))) (fun _ iv _ => ls.length - (intOf iv).toNat)
  case atStart => exact ⟨0, [], Nat.zero_le _, rfl, rfl, HE0.out, by simp, HBE.out, HT⟩
  case round =>
    obtain ⟨k, xs, hk, rfl, hxl, hO, hE, hB, HTk⟩ := hrel
    have HO := Lib.hid hO
    have HE := Lib.hid hE
    have HB := Lib.hid hB
    have HXL := Lib.hid hxl
    have hxk : xs.length ≤ k := by omega
    clear hO hE hB hxl HT
    by_cases hlt : k < ls.length
    · obtain ⟨t, ht, _, hmem⟩ := nth ls k hlt
      have c0 := cell_later HB.out (HCS.out k t ht)
      have q1 : (k : Int) < (ls.length : Int) := by omega
      have htl := hwl.out t hmem
      have HD := Lib.hid (drop_cons ht)
      clear ht hmem
      by_cases hlast : k + 1 = ls.length
      · have kl : ((k : Int) == (ls.length : Int) - 1) = true := by rw [beq_iff_eq]; omega
        have HDL := Lib.hid (show ls.drop (k + 1) = [] from drop_last hlast)
        by_cases ht0 : t = []
        · have hfin := Lib.hid (show parseOf s = (xs.map (·.1), 0, 0) by rw [HTk.out, HD.out, HDL.out, ht0]; exact addC_last)
          have kt : t.isEmpty = true := by rw [ht0]; rfl
          have kt2 : (t == []) = true := by rw [ht0]; rfl
          obtain ⟨oa, ocap, rfl, _, _⟩ := own_shape HO.out
          clear hlast ht0
          go_wp2
          exact bodyPost_ret (v := .tuple #[.slice oa xs.length ocap, .int .i64 0, .int .i64 0]) (by simp [results, Tryz.results37, go_sem]) rfl ⟨_, xs, by rw [hfin.out], by rw [hfin.out], own_mono HO.out hs1, fun x hx => ⟨own_mono (HE.out x hx).1 hs1, own_mono (HE.out x hx).2 hs1⟩, Below.next HB1.out HB.out⟩
        · have kt : t.isEmpty = false := by simpa using ht0
          have kt2 : (t == []) = false := by rw [beq_eq_false_iff_ne]; exact ht0
          by_cases h400 : 400 ≤ k
          · have hfin := Lib.hid (show parseOf s = ([], ((k + 1 : Nat) : Int), 102) by rw [HTk.out, HD.out]; exact addC_many (by omega) (.inr ht0))
            have k4 : (400 : Int) ≤ (k : Int) := by omega
            clear hlast ht0
            go_wp2
            exact bodyPost_ret (v := .tuple #[.slice none 0 0, .int .i64 (k + 1 : Nat), .int .i64 102]) (by simp [results, Tryz.results37, go_sem]) rfl ⟨_, [], by rw [hfin.out], by rw [hfin.out]; rfl, World.ownsRow_nil _ _ _ _, by simp, Below.next HB1.out HB.out⟩
          · have hfin := Lib.hid (show parseOf s = ([], ((k + 1 : Nat) : Int), 10) by rw [HTk.out, HD.out, HDL.out]; exact addC_short (by omega) ht0)
            have k4 : ¬ (400 : Int) ≤ (k : Int) := by omega
            clear hlast ht0
            go_wp2
            exact bodyPost_ret (v := .tuple #[.slice none 0 0, .int .i64 (k + 1 : Nat), .int .i64 10]) (by simp [results, Tryz.results37, go_sem]) rfl ⟨_, [], by rw [hfin.out], by rw [hfin.out]; rfl, World.ownsRow_nil _ _ _ _, by simp, Below.next HB1.out HB.out⟩
      have kl : ((k : Int) == (ls.length : Int) - 1) = false := by rw [beq_eq_false_iff_ne]; omega
      have HDN := Lib.hid (show ls.drop (k + 1) ≠ [] from fun h => by have := congrArg List.length h; simp at this; omega)
      clear hlast
      by_cases h400 : 400 ≤ k
      · have hfin := Lib.hid (show parseOf s = ([], ((k + 1 : Nat) : Int), 102) by rw [HTk.out, HD.out]; exact addC_many (by omega) (.inl HDN.out))
        have k4 : (400 : Int) ≤ (k : Int) := by omega
        go_wp2
        exact bodyPost_ret (v := .tuple #[.slice none 0 0, .int .i64 (k + 1 : Nat), .int .i64 102]) (by simp [results, Tryz.results37, go_sem]) rfl ⟨_, [], by rw [hfin.out], by rw [hfin.out]; rfl, World.ownsRow_nil _ _ _ _, by simp, Below.next HB1.out HB.out⟩
      have k4 : ¬ (400 : Int) ≤ (k : Int) := by omega
      go_wp2_with fail
      refine (cmdR_any t _ htl).mono ?_
      rintro x w3 ⟨nv, rv, rfl, hnx, hrx, hb3⟩
      have HB3 := Lib.hid (Below.next HB.out hb3)
      have HO3 := Lib.hid (own_later HO.out hb3)
      have HE3 := Lib.hid (show ∀ x ∈ xs, ElOwn w3 w1.heap.size x from fun x hx => ⟨own_later (HE.out x hx).1 hb3, own_later (HE.out x hx).2 hb3⟩)
      have hs2 := HB.out.size
      clear hb3 HB HO HE c0
      obtain ⟨R, hR⟩ : ∃ R, R = cmdOf t := ⟨_, rfl⟩
      have HX := Lib.hid hR
      rw [← hR] at hnx hrx ⊢
      clear hR
      obtain ⟨X, ec⟩ := R
      simp only at hnx hrx HX ⊢
      obtain ⟨n1, m1, rfl, _, _⟩ := own_shape hnx
      obtain ⟨r1, s1, rfl, _, _⟩ := own_shape hrx
      have HNX := Lib.hid hnx
      have HRX := Lib.hid hrx
      clear hnx hrx
      have hA := (show Below w3.heap.size w3 (w3.alloc (.cells #[.string ⟨X.verb.toArray⟩, .slice n1 X.nums.length m1, .int .i64 X.ev.kind, .int .i64 X.ev.order, .int .i64 X.ev.item, .int .i64 X.ev.qty, .int .i64 X.ev.price, .int .i64 X.ev.cur, .int .i64 X.ev.tax, .string ⟨X.ev.who.toArray⟩, .int .i64 X.ev.stamp, .string ⟨X.ev.note.toArray⟩, .slice r1 X.raw.length s1] 59)) from (Below.refl _ _).alloc (Nat.le_refl _) _)
      have HB4 := Lib.hid (Below.next HB3.out hA)
      have HC4 := Lib.hid (show CmBlk (w3.alloc (.cells #[.string ⟨X.verb.toArray⟩, .slice n1 X.nums.length m1, .int .i64 X.ev.kind, .int .i64 X.ev.order, .int .i64 X.ev.item, .int .i64 X.ev.qty, .int .i64 X.ev.price, .int .i64 X.ev.cur, .int .i64 X.ev.tax, .string ⟨X.ev.who.toArray⟩, .int .i64 X.ev.stamp, .string ⟨X.ev.note.toArray⟩, .slice r1 X.raw.length s1] 59)) w3.heap.size X (.slice n1 X.nums.length m1) (.slice r1 X.raw.length s1) from heap_alloc_new w3 _)
      have HO4 := Lib.hid (own_later HO3.out hA)
      have HE4 := Lib.hid (show ∀ x ∈ xs, ElOwn (w3.alloc (.cells #[.string ⟨X.verb.toArray⟩, .slice n1 X.nums.length m1, .int .i64 X.ev.kind, .int .i64 X.ev.order, .int .i64 X.ev.item, .int .i64 X.ev.qty, .int .i64 X.ev.price, .int .i64 X.ev.cur, .int .i64 X.ev.tax, .string ⟨X.ev.who.toArray⟩, .int .i64 X.ev.stamp, .string ⟨X.ev.note.toArray⟩, .slice r1 X.raw.length s1] 59)) w1.heap.size x from fun x hx => ⟨own_later (HE3.out x hx).1 hA, own_later (HE3.out x hx).2 hA⟩)
      have HN4 := Lib.hid (own_later HNX.out hA)
      have HR4 := Lib.hid (own_later HRX.out hA)
      clear hA HB3 HO3 HE3 HNX HRX
      by_cases hec : ec ≠ 0
      · have hfin := Lib.hid (show parseOf s = ([], ((k + 1 : Nat) : Int), ec) by
          rw [HTk.out, HD.out, addC_bad (by omega) HDN.out (by rw [← HX.out]; exact hec), ← HX.out])
        have t3 : (ec != 0) = true := by rw [bne_iff_ne]; exact hec
        clear hec
        go_wp2
        exact bodyPost_ret (v := .tuple #[.slice none 0 0, .int .i64 (k + 1 : Nat), .int .i64 ec]) (by simp [results, Tryz.results37, go_sem]) rfl ⟨_, [], by rw [hfin.out], by rw [hfin.out]; rfl, World.ownsRow_nil _ _ _ _, by simp, Below.next HB1.out HB4.out⟩
      · have hec0 : ec = 0 := Classical.byContradiction hec
        have HN := Lib.hid (show parseOf s = addC (xs.map (·.1) ++ [X]) (linesC ((k + 1 : Nat) + 1 : Nat) (ls.drop (k + 1))) by
          rw [HTk.out, HD.out, addC_good (by omega) HDN.out (by rw [← HX.out]; exact hec0), ← HX.out]; rfl)
        have t3 : (ec != 0) = false := by rw [bne_eq_false_iff_eq]; exact hec0
        clear hec hec0
        have hs4 : (w3.alloc (.cells #[.string ⟨X.verb.toArray⟩, .slice n1 X.nums.length m1, .int .i64 X.ev.kind, .int .i64 X.ev.order, .int .i64 X.ev.item, .int .i64 X.ev.qty, .int .i64 X.ev.price, .int .i64 X.ev.cur, .int .i64 X.ev.tax, .string ⟨X.ev.who.toArray⟩, .int .i64 X.ev.stamp, .string ⟨X.ev.note.toArray⟩, .slice r1 X.raw.length s1] 59)).heap.size = w3.heap.size + 1 := by simp
        have hAT := (show Below (w3.alloc (.cells #[.string ⟨X.verb.toArray⟩, .slice n1 X.nums.length m1, .int .i64 X.ev.kind, .int .i64 X.ev.order, .int .i64 X.ev.item, .int .i64 X.ev.qty, .int .i64 X.ev.price, .int .i64 X.ev.cur, .int .i64 X.ev.tax, .string ⟨X.ev.who.toArray⟩, .int .i64 X.ev.stamp, .string ⟨X.ev.note.toArray⟩, .slice r1 X.raw.length s1] 59)).heap.size _ ((w3.alloc (.cells #[.string ⟨X.verb.toArray⟩, .slice n1 X.nums.length m1, .int .i64 X.ev.kind, .int .i64 X.ev.order, .int .i64 X.ev.item, .int .i64 X.ev.qty, .int .i64 X.ev.price, .int .i64 X.ev.cur, .int .i64 X.ev.tax, .string ⟨X.ev.who.toArray⟩, .int .i64 X.ev.stamp, .string ⟨X.ev.note.toArray⟩, .slice r1 X.raw.length s1] 59)).alloc (.cells #[.string ⟨X.verb.toArray⟩, .slice n1 X.nums.length m1, .int .i64 X.ev.kind, .int .i64 X.ev.order, .int .i64 X.ev.item, .int .i64 X.ev.qty, .int .i64 X.ev.price, .int .i64 X.ev.cur, .int .i64 X.ev.tax, .string ⟨X.ev.who.toArray⟩, .int .i64 X.ev.stamp, .string ⟨X.ev.note.toArray⟩, .slice r1 X.raw.length s1] 59)) from (Below.refl _ _).alloc (Nat.le_refl _) _)
        have HO5 := Lib.hid (own_later HO4.out hAT)
        have HN5 := Lib.hid (own_later HN4.out hAT)
        have HR5 := Lib.hid (own_later HR4.out hAT)
        have HE5 := Lib.hid (show ∀ x ∈ xs, ElOwn ((w3.alloc (.cells #[.string ⟨X.verb.toArray⟩, .slice n1 X.nums.length m1, .int .i64 X.ev.kind, .int .i64 X.ev.order, .int .i64 X.ev.item, .int .i64 X.ev.qty, .int .i64 X.ev.price, .int .i64 X.ev.cur, .int .i64 X.ev.tax, .string ⟨X.ev.who.toArray⟩, .int .i64 X.ev.stamp, .string ⟨X.ev.note.toArray⟩, .slice r1 X.raw.length s1] 59)).alloc (.cells #[.string ⟨X.verb.toArray⟩, .slice n1 X.nums.length m1, .int .i64 X.ev.kind, .int .i64 X.ev.order, .int .i64 X.ev.item, .int .i64 X.ev.qty, .int .i64 X.ev.price, .int .i64 X.ev.cur, .int .i64 X.ev.tax, .string ⟨X.ev.who.toArray⟩, .int .i64 X.ev.stamp, .string ⟨X.ev.note.toArray⟩, .slice r1 X.raw.length s1] 59)) w1.heap.size x from fun x hx => ⟨own_later (HE4.out x hx).1 hAT, own_later (HE4.out x hx).2 hAT⟩)
        have HB5 := Lib.hid (Below.next HB4.out hAT)
        have hc5 : ∀ (j : Nat) u, (cmCs X (.slice n1 X.nums.length m1) (.slice r1 X.raw.length s1))[j]? = some u → ((w3.alloc (.cells #[.string ⟨X.verb.toArray⟩, .slice n1 X.nums.length m1, .int .i64 X.ev.kind, .int .i64 X.ev.order, .int .i64 X.ev.item, .int .i64 X.ev.qty, .int .i64 X.ev.price, .int .i64 X.ev.cur, .int .i64 X.ev.tax, .string ⟨X.ev.who.toArray⟩, .int .i64 X.ev.stamp, .string ⟨X.ev.note.toArray⟩, .slice r1 X.raw.length s1] 59)).alloc (.cells #[.string ⟨X.verb.toArray⟩, .slice n1 X.nums.length m1, .int .i64 X.ev.kind, .int .i64 X.ev.order, .int .i64 X.ev.item, .int .i64 X.ev.qty, .int .i64 X.ev.price, .int .i64 X.ev.cur, .int .i64 X.ev.tax, .string ⟨X.ev.who.toArray⟩, .int .i64 X.ev.stamp, .string ⟨X.ev.note.toArray⟩, .slice r1 X.raw.length s1] 59)).cell? ⟨(w3.alloc (.cells #[.string ⟨X.verb.toArray⟩, .slice n1 X.nums.length m1, .int .i64 X.ev.kind, .int .i64 X.ev.order, .int .i64 X.ev.item, .int .i64 X.ev.qty, .int .i64 X.ev.price, .int .i64 X.ev.cur, .int .i64 X.ev.tax, .string ⟨X.ev.who.toArray⟩, .int .i64 X.ev.stamp, .string ⟨X.ev.note.toArray⟩, .slice r1 X.raw.length s1] 59)).heap.size, j, none⟩ = some u := fun j u hj => by
          rw [CmBlk.cell (show CmBlk ((w3.alloc (.cells #[.string ⟨X.verb.toArray⟩, .slice n1 X.nums.length m1, .int .i64 X.ev.kind, .int .i64 X.ev.order, .int .i64 X.ev.item, .int .i64 X.ev.qty, .int .i64 X.ev.price, .int .i64 X.ev.cur, .int .i64 X.ev.tax, .string ⟨X.ev.who.toArray⟩, .int .i64 X.ev.stamp, .string ⟨X.ev.note.toArray⟩, .slice r1 X.raw.length s1] 59)).alloc (.cells #[.string ⟨X.verb.toArray⟩, .slice n1 X.nums.length m1, .int .i64 X.ev.kind, .int .i64 X.ev.order, .int .i64 X.ev.item, .int .i64 X.ev.qty, .int .i64 X.ev.price, .int .i64 X.ev.cur, .int .i64 X.ev.tax, .string ⟨X.ev.who.toArray⟩, .int .i64 X.ev.stamp, .string ⟨X.ev.note.toArray⟩, .slice r1 X.raw.length s1] 59)) (w3.alloc (.cells #[.string ⟨X.verb.toArray⟩, .slice n1 X.nums.length m1, .int .i64 X.ev.kind, .int .i64 X.ev.order, .int .i64 X.ev.item, .int .i64 X.ev.qty, .int .i64 X.ev.price, .int .i64 X.ev.cur, .int .i64 X.ev.tax, .string ⟨X.ev.who.toArray⟩, .int .i64 X.ev.stamp, .string ⟨X.ev.note.toArray⟩, .slice r1 X.raw.length s1] 59)).heap.size X (.slice n1 X.nums.length m1) (.slice r1 X.raw.length s1) from heap_alloc_new _ _)]; exact hj
        clear hAT
        go_wp2_with (first
          | (with_reducible refine wpList_load_cm rfl (.tmp 8) rfl w3.heap.size X (.slice n1 X.nums.length m1) (.slice r1 X.raw.length s1) rfl HC4.out ?_)
          | (at_builtin; refine wpList_append_own _ rfl _ _ 60 rfl w1.heap.size 59 i0 zeroCm 13 160 Tryz.underlying60 hi hz0 hz1 hz2 rfl (by decide) _ _ _ rfl HO5.out _ 1 1 (cmCs X (.slice n1 X.nums.length m1) (.slice r1 X.raw.length s1)).toList rfl rfl ?c1 ?c2 ?c3 ?c4 ?c5 ?_))
        case c1 =>
          intro j u hj
          have := hc5 j u (by simpa using hj)
          rw [addr_add, Nat.zero_add]
          first | exact this | (rw [hs4] at this; exact this)
        case c2 => intro u hu; exact Array.all_eq_true_iff_forall_mem.1 (cmCs_one X (.slice n1 X.nums.length m1) (.slice r1 X.raw.length s1) rfl rfl) u (by simpa using hu)
        case c3 => unfold maxLen; omega
        case c4 => omega
        case c5 => exact HB5.out.size
        intro v' w6 hown6 hgrow6 _
        have hN6 : ElOwn w6 w1.heap.size (X, (.slice n1 X.nums.length m1), (.slice r1 X.raw.length s1)) := ⟨own_mono (own_grown HN5.out hgrow6 (fun k hk => own_ne HN5.out HO5.out (by decide) hk)) (by omega), own_mono (own_grown HR5.out hgrow6 (fun k hk => own_ne HR5.out HO5.out (by decide) hk)) (by omega)⟩
        have hE6 : ∀ x ∈ xs, ElOwn w6 w1.heap.size x := fun x hx => ⟨own_grown (HE5.out x hx).1 hgrow6 (fun k hk => own_ne (HE5.out x hx).1 HO5.out (by decide) hk), own_grown (HE5.out x hx).2 hgrow6 (fun k hk => own_ne (HE5.out x hx).2 HO5.out (by decide) hk)⟩
        have HO6 := Lib.hid hown6
        have HE6 := Lib.hid (show ∀ x ∈ xs ++ [((X, (.slice n1 X.nums.length m1), (.slice r1 X.raw.length s1)) : CmX)], ElOwn w6 w1.heap.size x from fun x hx => by
          rcases List.mem_append.1 hx with hx | hx
          · exact hE6 x hx
          · rw [List.mem_singleton.1 hx]; exact hN6)
        have HB6 := Lib.hid (show Below w1.heap.size w1 w6 from HB5.out.grown hgrow6 HB5.out.size (fun k e => (HO5.out.lt k e).1))
        clear hown6 hgrow6 hN6 hE6 hc5
        go_wp2
        go_roundw
        case rel => exact ⟨k + 1, xs ++ [((X, (.slice n1 X.nums.length m1), (.slice r1 X.raw.length s1)) : CmX)], by omega, by go_num, by have := HXL.out; simp; omega, by rw [← cmCells_snoc]; simpa using HO6.out, HE6.out, HB6.out, by rw [List.map_append]; exact HN⟩
        case measure => simp [intOf]; omega
    · obtain rfl : k = ls.length := by omega
      have hfin := Lib.hid (show parseOf s = (xs.map (·.1), 0, 0) by rw [HTk.out, List.drop_length]; unfold addC; simp [linesC])
      obtain ⟨oa, ocap, rfl, _, _⟩ := own_shape HO.out
      go_wp2
      exact bodyPost_ret (v := .tuple #[.slice oa xs.length ocap, .int .i64 0, .int .i64 0]) (by simp [results, Tryz.results37, go_sem]) rfl ⟨_, xs, by rw [hfin.out], by rw [hfin.out], own_mono HO.out hs1, fun x hx => ⟨own_mono (HE.out x hx).1 hs1, own_mono (HE.out x hx).2 hs1⟩, Below.next HB1.out HB.out⟩

end Go.Proofs.YtecmpmnidlfgnaaGreatDoor
