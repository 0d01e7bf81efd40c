import Derived.Test.YtkapjnlhkchpiaaDoorAuditWords2
import Derived.Test.YtkapjnlhkchpiaaDoorOpenBy
namespace Go.Proofs.YtkapjnlhkchpiaaDoor
open Go.RowKit Go.ChangeShapes Go.WideShapes

/-- a finding: name, place, number -/
def RdFinding (_ : World) (v : Value) (a : List UInt8 × Int × Int) : Prop :=
  v = .agg #[.string ⟨a.1.toArray⟩, .int .i64 a.2.1, .int .i64 a.2.2] ∧ a.1.length ≤ reachBytes ∧ (Lit.int .i64 a.2.1).wf = true ∧ (Lit.int .i64 a.2.2).wf = true

theorem opens_Finding : Opens Tryd.prog 39 3 (RCons 1 RStr (RCons 1 (RInt .i64) (RCons 1 (RInt .i64) RNil))) :=
  opens_struct Tryd.underlying39 (by kernel_rfl) (opens_cons rfl (by kernel_rfl) (opens_str Tryd.underlying9) (opens_cons rfl (by kernel_rfl) (opens_int Tryd.underlying3) (opens_cons rfl (by kernel_rfl) (opens_int Tryd.underlying27) opens_nil)))

set_option maxRecDepth 100000 in
theorem open_api_Finding {H : Type} {enc : TypeId × Value → H} {W : World} {base : Nat} {v : Value} {d : DataW H} {p : List MemPlace}
    (hok : Value.okWide Tryd.prog W .any base 39 v) (h : DataW.Trod enc Tryd.prog W 0 (fun _ => true) true 39 v d p) (hz : (d.weights Tryd.prog 39).all (· ≤ reachBytes) = true) :
    ∃ a, RdFinding W v a := by
  obtain ⟨cs, ⟨nm, at_, code, _⟩, rfl, hl, h1, h2, h3, _⟩ := open_struct_by (P := Tryd.prog) opens_Finding Tryd.underlying39 hok h hz
  refine ⟨(nm, at_, code), ?_, h1.2, h2.2, h3.2⟩
  obtain ⟨l⟩ := cs
  match l, hl with
  | [x, y, z], _ =>
    have e1 := h1.1
    have e2 := h2.1
    have e3 := h3.1
    simp at e1 e2 e3
    simp [e1, e2, e3]

theorem itoa_parts (p : Int) : Lib.itoa p = if p < 0 then 45 :: Lib.decDigits (-p).toNat else Lib.decDigits p.toNat := by
  unfold Lib.itoa
  split
  · rw [show p.natAbs = (-p).toNat by omega]
  · rfl

set_option maxHeartbeats 4000000 in
set_option maxRecDepth 100000 in
theorem auditWords_walk0 (nm : List UInt8) (p e : Int) (w : World) (ads : List Addr) (hS : Sents w ads) (hP : PowTab w) (hl : nm.length ≤ reachBytes) (hp0 : -9223372036854775808 ≤ p) (hp1 : p ≤ 9223372036854775807) :
    Calls Tryd.prog 6 #[.agg #[.string ⟨nm.toArray⟩, .int .i64 p, .int .i64 e]] w fun x w' => x = .returned (.bool true) ∧ Below w.heap.size w w' := by
  have hl' : nm.length ≤ 140737488355328 := Nat.le_trans hl (by decide)
  have hw0 := Lib.hid (show wordsOf [115, 101, 103, 45, 48, 48, 48, 48, 48, 49] 43 62 = [115, 101, 103, 45, 48, 48, 48, 48, 48, 49, 32, 97, 116, 32, 52, 51, 58, 32, 115, 117, 109] by
    rw [wordsOf, Lib.itoa, if_neg (by decide), show (43 : Int).toNat = 43 from rfl, Lib.decDigits_two (by decide) (by decide)]; decide)
  have hi := itoa_le p hp0 hp1
  have hn := nameOf_le e
  obtain ⟨m1, hm1⟩ : ∃ m, m = nm ++ [32, 97, 116, 32] := ⟨_, rfl⟩
  obtain ⟨m2, hm2⟩ : ∃ m, m = m1 ++ Lib.itoa p := ⟨_, rfl⟩
  obtain ⟨m3, hm3⟩ : ∃ m, m = m2 ++ [58, 32] := ⟨_, rfl⟩
  obtain ⟨m4, hm4⟩ : ∃ m, m = m3 ++ nameOf e := ⟨_, rfl⟩
  have k1 : m1.length = nm.length + 4 := by rw [hm1]; simp
  have k2 : m2.length = m1.length + (Lib.itoa p).length := by rw [hm2]; simp
  have k3 : m3.length = m2.length + 2 := by rw [hm3]; simp
  have k4 : m4.length = m3.length + (nameOf e).length := by rw [hm4]; simp
  have e1 := str_add _ _ _ hm1 (by omega)
  have e3 := str_add _ _ _ hm3 (by omega)
  have e4 := str_add _ _ _ hm4 (by omega)
  have hfin : Hid (wordsOf nm p e = m4) := Lib.hid (by rw [hm4, hm3, hm2, hm1, wordsOf])
  have HS := Lib.hid hS
  have HP := Lib.hid hP
  have hlen2 : m2.length ≤ 140737488355400 := by omega
  have hlen1 : m1.length ≤ 140737488355400 := by omega
  have HM2 := Lib.hid hm2
  have HL := Lib.hid hl
  clear hS hP hl hm1 hm2 hm3 hm4 k1 k2 k3 k4 hi hn
  by_cases hneg : p < 0
  · have hd := Lib.hid (show m1 ++ (45 :: Lib.decDigits (-(p + 1) + 1).toNat) = m2 by rw [HM2.out, itoa_parts, if_pos hneg, show -(p + 1) + 1 = -p by omega])
    go_enter Tryd.func6, Tryd.ntmps6
    go_wp2_with fail
    have hb1 : Below w.heap.size w (w.alloc (.cells #[.string ⟨nm.toArray⟩, .int .i64 p, .int .i64 e] 39)) := (Below.refl _ _).alloc (Nat.le_refl _) _
    have c0 : (w.alloc (.cells #[.string ⟨nm.toArray⟩, .int .i64 p, .int .i64 e] 39)).cell? ⟨w.heap.size, 0, none⟩ = some (.string ⟨nm.toArray⟩) := by rw [World.cell?_alloc_new]; rfl
    have c1 : (w.alloc (.cells #[.string ⟨nm.toArray⟩, .int .i64 p, .int .i64 e] 39)).cell? ⟨w.heap.size, 1, none⟩ = some (.int .i64 p) := by rw [World.cell?_alloc_new]; rfl
    have c2 : (w.alloc (.cells #[.string ⟨nm.toArray⟩, .int .i64 p, .int .i64 e] 39)).cell? ⟨w.heap.size, 2, none⟩ = some (.int .i64 e) := by rw [World.cell?_alloc_new]; rfl
    generalize w.alloc (.cells #[.string ⟨nm.toArray⟩, .int .i64 p, .int .i64 e] 39) = w1 at *
    refine (auditWords_any [115, 101, 103, 45, 48, 48, 48, 48, 48, 49] 43 62 _ ads (HS.out.below hb1) (HP.out.below hb1) (by decide) (by decide) (by decide)).mono ?_
    rw [hw0.out]
    rintro x w2 ⟨rfl, hb2⟩
    have C0 := Lib.hid (cell_later hb2 c0)
    have C1 := Lib.hid (cell_later hb2 c1)
    have C2 := Lib.hid (cell_later hb2 c2)
    have HB2 := Lib.hid (Below.next hb1 hb2)
    clear hb1 hb2 c0 c1 c2
    have d0 := C0.out
    have d1 := C1.out
    go_wp2_with fail
    refine (digits22_any (-(p + 1) + 1) _ (by omega) (by omega)).mono ?_
    rintro x w3 ⟨rfl, hb3⟩
    have D0 := Lib.hid (cell_later hb3 C0.out)
    have D1 := Lib.hid (cell_later hb3 C1.out)
    have D2 := Lib.hid (cell_later hb3 C2.out)
    have HB3 := Lib.hid (Below.next HB2.out hb3)
    clear d0 d1 hb3 w1 C0 C1 C2 HB2
    have hm : (Lib.decDigits (-(p + 1) + 1).toNat).length ≤ 20 := decDigits_le 19 _ (by omega)
    obtain ⟨q, hq⟩ : ∃ q, q = [45] ++ Lib.decDigits (-(p + 1) + 1).toNat := ⟨_, rfl⟩
    have f1 := str_add [45] _ q hq (by rw [hq]; simp; omega)
    have f2 := str_add m1 q m2 (by rw [hq]; exact hd.out.symm) (by omega)
    clear hq
    have keep0 : Hid (w3.drew.cell? ⟨w.heap.size, 0, none⟩ = some (.string ⟨nm.toArray⟩) ∧ w3.drew.cell? ⟨w.heap.size, 1, none⟩ = some (.int .i64 p) ∧ w3.drew.cell? ⟨w.heap.size, 2, none⟩ = some (.int .i64 e) ∧ Below w3.heap.size w3 w3.drew) :=
      Lib.hid ⟨D0.out, D1.out, D2.out, (Below.refl _ _).drew⟩
    have keepN : Hid (∀ x y : World, Below x.heap.size x y → Below w3.heap.size w3 x → y.cell? ⟨w.heap.size, 0, none⟩ = some (.string ⟨nm.toArray⟩) ∧ y.cell? ⟨w.heap.size, 1, none⟩ = some (.int .i64 p) ∧ y.cell? ⟨w.heap.size, 2, none⟩ = some (.int .i64 e) ∧ Below w3.heap.size w3 y) :=
      Lib.hid fun x y h1 h2 => by
        have h3 := Below.next h2 h1
        exact ⟨cell_later h3 D0.out, cell_later h3 D1.out, cell_later h3 D2.out, h3⟩
    have pows : Hid (∀ x, Below w3.heap.size w3 x → PowTab x) := Lib.hid fun x h => (HP.out.below HB3.out).below h
    have sents : Hid (∀ x, Below w3.heap.size w3 x → Sents x ads) := Lib.hid fun x h => (HS.out.below HB3.out).below h
    have D0' := D0.out
    have D1' := D1.out
    go_wp2
    clear D0' D1'
    go_region_held3 (fun w' => w'.cell? ⟨w.heap.size, 0, none⟩ = some (.string ⟨nm.toArray⟩) ∧ w'.cell? ⟨w.heap.size, 1, none⟩ = some (.int .i64 p) ∧ w'.cell? ⟨w.heap.size, 2, none⟩ = some (.int .i64 e) ∧ Below w3.heap.size w3 w')
      (first | exact keep0.out | assumption | (go_split_ands; exact keepN.out _ _ hb4 (by assumption)))
      (first | (go_at_call 16; go_split_ands; refine (auditWords_any nm p e _ ads ?_ ?_ HL.out hp0 hp1).mono ?_; exact sents.out _ (by assumption); exact pows.out _ (by assumption); rw [hfin.out]; rintro x w4 ⟨rfl, hb4⟩) | (go_at_call 15; go_split_ands; refine (refName_any e _).mono ?_; rintro x w4 ⟨rfl, hb4⟩))
    go_wp2
    go_ret
    go_split_ands
    exact ⟨rfl, Below.next HB3.out (by assumption)⟩
  · have hd := Lib.hid (show m1 ++ Lib.decDigits p.toNat = m2 by rw [HM2.out, itoa_parts, if_neg hneg])
    go_enter Tryd.func6, Tryd.ntmps6
    go_wp2_with fail
    have hb1 : Below w.heap.size w (w.alloc (.cells #[.string ⟨nm.toArray⟩, .int .i64 p, .int .i64 e] 39)) := (Below.refl _ _).alloc (Nat.le_refl _) _
    have c0 : (w.alloc (.cells #[.string ⟨nm.toArray⟩, .int .i64 p, .int .i64 e] 39)).cell? ⟨w.heap.size, 0, none⟩ = some (.string ⟨nm.toArray⟩) := by rw [World.cell?_alloc_new]; rfl
    have c1 : (w.alloc (.cells #[.string ⟨nm.toArray⟩, .int .i64 p, .int .i64 e] 39)).cell? ⟨w.heap.size, 1, none⟩ = some (.int .i64 p) := by rw [World.cell?_alloc_new]; rfl
    have c2 : (w.alloc (.cells #[.string ⟨nm.toArray⟩, .int .i64 p, .int .i64 e] 39)).cell? ⟨w.heap.size, 2, none⟩ = some (.int .i64 e) := by rw [World.cell?_alloc_new]; rfl
    generalize w.alloc (.cells #[.string ⟨nm.toArray⟩, .int .i64 p, .int .i64 e] 39) = w1 at *
    refine (auditWords_any [115, 101, 103, 45, 48, 48, 48, 48, 48, 49] 43 62 _ ads (HS.out.below hb1) (HP.out.below hb1) (by decide) (by decide) (by decide)).mono ?_
    rw [hw0.out]
    rintro x w2 ⟨rfl, hb2⟩
    have C0 := Lib.hid (cell_later hb2 c0)
    have C1 := Lib.hid (cell_later hb2 c1)
    have C2 := Lib.hid (cell_later hb2 c2)
    have HB2 := Lib.hid (Below.next hb1 hb2)
    clear hb1 hb2 c0 c1 c2
    have d0 := C0.out
    have d1 := C1.out
    go_wp2_with fail
    refine (digits22_any p _ (by omega) (by omega)).mono ?_
    rintro x w3 ⟨rfl, hb3⟩
    have D0 := Lib.hid (cell_later hb3 C0.out)
    have D1 := Lib.hid (cell_later hb3 C1.out)
    have D2 := Lib.hid (cell_later hb3 C2.out)
    have HB3 := Lib.hid (Below.next HB2.out hb3)
    clear d0 d1 hb3 w1 C0 C1 C2 HB2
    have hm : (Lib.decDigits p.toNat).length ≤ 20 := decDigits_le 19 _ (by omega)
    have f2 := str_add m1 (Lib.decDigits p.toNat) m2 hd.out.symm (by omega)
    have keep0 : Hid (w3.drew.cell? ⟨w.heap.size, 0, none⟩ = some (.string ⟨nm.toArray⟩) ∧ w3.drew.cell? ⟨w.heap.size, 1, none⟩ = some (.int .i64 p) ∧ w3.drew.cell? ⟨w.heap.size, 2, none⟩ = some (.int .i64 e) ∧ Below w3.heap.size w3 w3.drew) :=
      Lib.hid ⟨D0.out, D1.out, D2.out, (Below.refl _ _).drew⟩
    have keepN : Hid (∀ x y : World, Below x.heap.size x y → Below w3.heap.size w3 x → y.cell? ⟨w.heap.size, 0, none⟩ = some (.string ⟨nm.toArray⟩) ∧ y.cell? ⟨w.heap.size, 1, none⟩ = some (.int .i64 p) ∧ y.cell? ⟨w.heap.size, 2, none⟩ = some (.int .i64 e) ∧ Below w3.heap.size w3 y) :=
      Lib.hid fun x y h1 h2 => by
        have h3 := Below.next h2 h1
        exact ⟨cell_later h3 D0.out, cell_later h3 D1.out, cell_later h3 D2.out, h3⟩
    have pows : Hid (∀ x, Below w3.heap.size w3 x → PowTab x) := Lib.hid fun x h => (HP.out.below HB3.out).below h
    have sents : Hid (∀ x, Below w3.heap.size w3 x → Sents x ads) := Lib.hid fun x h => (HS.out.below HB3.out).below h
    have D0' := D0.out
    have D1' := D1.out
    go_wp2
    clear D0' D1'
    go_region_held3 (fun w' => w'.cell? ⟨w.heap.size, 0, none⟩ = some (.string ⟨nm.toArray⟩) ∧ w'.cell? ⟨w.heap.size, 1, none⟩ = some (.int .i64 p) ∧ w'.cell? ⟨w.heap.size, 2, none⟩ = some (.int .i64 e) ∧ Below w3.heap.size w3 w')
      (first | exact keep0.out | assumption | (go_split_ands; exact keepN.out _ _ hb4 (by assumption)))
      (first | (go_at_call 16; go_split_ands; refine (auditWords_any nm p e _ ads ?_ ?_ HL.out hp0 hp1).mono ?_; exact sents.out _ (by assumption); exact pows.out _ (by assumption); rw [hfin.out]; rintro x w4 ⟨rfl, hb4⟩) | (go_at_call 15; go_split_ands; refine (refName_any e _).mono ?_; rintro x w4 ⟨rfl, hb4⟩))
    go_wp2
    go_ret
    go_split_ands
    exact ⟨rfl, Below.next HB3.out (by assumption)⟩

theorem auditWords_walk (v : Value) (a : List UInt8 × Int × Int) (w : World) (hv : RdFinding w v a) (hL : laidMetH Tryd.prog Rows.auditWordsRow.laid w) :
    Calls Tryd.prog 6 #[v] w fun x w' => x = .returned (.bool true) ∧ Below w.heap.size w w' := by
  obtain ⟨rfl, hl, hp, he⟩ := hv
  have hL0 : laidMet Tryd.prog Rows.auditWordsRow.laid w := hL
  have hL1 := hL0.tail.tail
  have hP : PowTab w := Lib.tabIs_of_head (g := 43) (t := 96) (e := 42) (by kernel_rfl) (by kernel_rfl) Tryd.underlying96 Tryd.underlying42 (by kernel_rfl) (by kernel_rfl) hL1
  obtain ⟨ads, hS⟩ := sents_of_met hL1.tail (by kernel_rfl) sntTypes (by kernel_rfl)
  have hp' : -9223372036854775808 ≤ a.2.1 ∧ a.2.1 ≤ 9223372036854775807 := by simpa [Lit.wf, show IntKind.i64.min = -9223372036854775808 from by decide] using hp
  exact auditWords_walk0 a.1 a.2.1 a.2.2 w ads hS hP hl hp'.1 hp'.2

end Go.Proofs.YtkapjnlhkchpiaaDoor
