import Derived.Test.YtkapjnlhkchpiaaDoorBase
import Derived.LaidLaws
import Derived.LaidEql
import Derived.Stop.LaidErr
import Derived.RowKitTokens
namespace Go.Proofs.YtkapjnlhkchpiaaDoor
open Go.RowKit Go.ChangeShapes

theorem typeName_errStr (u : TypeId) (h : Tryd.prog.typeName? 3 u = some ("*" ++ "errors.errorString")) : u = 59 :=
  typeName_ptr_named (nm := "errors.errorString") (by kernel_rfl) (by kernel_rfl) (by decide) u h
theorem cellsErrStr : Tryd.prog.cellsOf 61 = 1 := by kernel_rfl
theorem cellsStr : Tryd.prog.cellsOf 9 = 1 := by kernel_rfl

/-- a sentinel, as the row lists it -/
def errD (t : List UInt8) : DataW Unit := .iface ("*" ++ "errors.errorString") (.ptr (.agg [.lit (.string t)]))

set_option maxRecDepth 100000 in
/-- what a row's list of sentinels gives: an address for each, no two of them one -/
theorem sents_list (W : World) : ∀ (l : List (String × DataW Unit)) (gs : List Nat) (ts : List (List UInt8)) (ps : List MemPlace),
    l.map (fun x => Tryd.prog.globalNamed x.1) = gs.map some → gs.map (fun g => (Tryd.prog.globals[g]?).map (·.type)) = gs.map (fun _ => some 25) → l.map (·.2) = ts.map errD →
    DataW.LaidVars Tryd.prog W l ps → ps.Nodup →
    (∀ b off, MemPlace.cell b off ∈ ps → (∃ c t, W.heap[b]? = some (.cells c t (0, 0))) ∧ ∀ u v, W.cell? ⟨b, off, none⟩ = some (.iface u v) → Value.okWide Tryd.prog W .any 0 u v) →
    ∃ ads : List Addr, ads.length = ts.length ∧ ads.Nodup ∧ (∀ a ∈ ads, MemPlace.cell a.block a.off ∈ ps ∧ a.spot = none) ∧
      ∀ (i : Nat) g t a, gs[i]? = some g → ts[i]? = some t → ads[i]? = some a →
        W.cell? ⟨g, 0, none⟩ = some (.iface 59 (.pointer (some a))) ∧ W.cell? a = some (.string ⟨t.toArray⟩) ∧ ∃ c t, W.heap[a.block]? = some (.cells c t (0, 0))
  | [], gs, ts, ps, _, _, h2, _, _, _ => by
    have : ts = [] := by cases ts <;> simp_all
    subst this
    exact ⟨[], rfl, List.nodup_nil, by simp, fun i g t a _ _ h => by simp at h⟩
  | (n, d) :: l, gs, ts, ps, h1, hty, h2, hv, hnd, hrows => by
    cases gs with
    | nil => simp at h1
    | cons g gs =>
     cases ts with
     | nil => simp at h2
     | cons t ts =>
      simp only [List.map_cons, List.cons.injEq] at h1 hty h2
      obtain ⟨h1, h1r⟩ := h1
      obtain ⟨hty, htyr⟩ := hty
      obtain ⟨h2, h2r⟩ := h2
      subst h2
      obtain ⟨g0, t0, cs, fuel, p, q, hg0, ht0, hv0, hd0, hq, e0⟩ := hv
      obtain rfl := Option.some.inj (h1.symm.trans hg0)
      obtain rfl := Option.some.inj (hty.symm.trans ht0)
      subst e0
      obtain ⟨l0⟩ := cs
      have ok0 : ∀ u v, l0 = [.iface u v] → Value.okWide Tryd.prog W .any 0 u v := fun u v e => by
        subst e
        exact (hrows g 0 (by simp [MemPlace.row])).2 u v (by simpa using World.var?_cell hg0 hv0 0)
      obtain ⟨a0, s0, rfl, hc0, hs0, hz0, rfl⟩ := errorString_of_trod Tryd.underlying25 typeName_errStr Tryd.underlying59 Tryd.underlying61 rfl rfl Tryd.underlying9 cellsErrStr cellsStr hd0 ok0
      have hsp : a0.spot = none := World.cell?_spot hc0
      obtain ⟨ads, ha1, ha2, ha3, ha4⟩ := sents_list W l gs ts q h1r htyr h2r hq (List.Nodup.sublist (List.sublist_append_right _ _) hnd) (fun b off hm => hrows b off (List.mem_append_right _ hm))
      have hin : MemPlace.cell a0.block a0.off ∈ MemPlace.row a0 1 := by simp [MemPlace.row]
      have hnot : a0 ∉ ads := fun hm => by
        rw [List.append_assoc, List.nodup_append] at hnd
        have := hnd.2.1
        rw [List.nodup_append] at this
        exact this.2.2 _ hin _ (ha3 a0 hm).1 rfl
      refine ⟨a0 :: ads, by simp [ha1], List.nodup_cons.2 ⟨hnot, ha2⟩, ?_, ?_⟩
      · intro a hm
        rcases List.mem_cons.1 hm with rfl | hm
        · exact ⟨List.mem_append_left _ (List.mem_append_right _ hin), hsp⟩
        · exact ⟨List.mem_append_right _ (ha3 a hm).1, (ha3 a hm).2⟩
      · intro i g' t' a h1 h2 h3
        cases i with
        | zero =>
          simp only [List.getElem?_cons_zero, Option.some.injEq] at h1 h2 h3
          subst h1; subst h2; subst h3
          refine ⟨by simpa using World.var?_cell hg0 hv0 0, ?_, (hrows a0.block a0.off (List.mem_append_left _ (List.mem_append_right _ hin))).1⟩
          rw [hc0, ← hs0]
        | succ i => exact ha4 i g' t' a (by simpa using h1) (by simpa using h2) (by simpa using h3)

/-- the sentinels' variables, numbers and words, in the order of the text -/
def sntG : List Nat := [0, 1, 2, 3, 4, 5, 6, 7, 8, 9, 10, 11, 12, 13, 14, 15, 16, 17, 18, 19, 20, 21, 22, 23, 24, 25, 26, 27, 28, 29, 30, 31, 32, 33, 34, 35, 36, 37, 38, 39, 40, 41]
def sntE : List Int := [1, 2, 3, 4, 10, 11, 12, 20, 21, 22, 23, 24, 30, 31, 32, 33, 40, 50, 51, 52, 53, 54, 60, 61, 62, 63, 70, 71, 72, 73, 80, 81, 90, 91, 92, 93, 94, 95, 100, 101, 102, 103]
def sntT : List (List UInt8) := [[97, 114, 103, 117, 109, 101, 110, 116],
  [99, 108, 111, 115, 101, 100],
  [112, 111, 119, 101, 114, 32, 111, 102, 102],
  [99, 111, 114, 114, 117, 112, 116],
  [101, 110, 100, 115, 32, 101, 97, 114, 108, 121],
  [111, 118, 101, 114, 108, 111, 110, 103],
  [116, 111, 111, 32, 119, 105, 100, 101],
  [116, 97, 103],
  [111, 114, 100, 101, 114, 32, 111, 102, 32, 116, 97, 103, 115],
  [101, 109, 112, 116, 121, 32, 102, 105, 101, 108, 100],
  [108, 111, 110, 103, 32, 116, 101, 120, 116],
  [116, 111, 111, 32, 98, 105, 103],
  [118, 101, 114, 115, 105, 111, 110],
  [107, 105, 110, 100],
  [102, 105, 101, 108, 100],
  [102, 111, 114, 109],
  [115, 116, 97, 116, 101],
  [110, 97, 109, 101],
  [110, 111, 32, 102, 105, 108, 101],
  [101, 120, 105, 115, 116, 115],
  [102, 105, 108, 101, 115],
  [100, 105, 115, 107, 32, 102, 117, 108, 108],
  [116, 111, 114, 110],
  [109, 97, 114, 107],
  [115, 117, 109],
  [114, 97, 110, 103, 101],
  [105, 110, 100, 101, 120],
  [104, 101, 97, 100, 101, 114],
  [115, 101, 97, 108, 101, 100],
  [109, 105, 115, 115, 105, 110, 103],
  [109, 97, 110, 105, 102, 101, 115, 116],
  [98, 111, 111, 107],
  [115, 101, 103, 109, 101, 110, 116, 115],
  [110, 117, 109, 98, 101, 114, 115],
  [115, 101, 113, 117, 101, 110, 99, 101],
  [101, 109, 112, 116, 121],
  [110, 111, 32, 115, 110, 97, 112, 115, 104, 111, 116],
  [99, 111, 109, 112, 97, 99, 116, 101, 100],
  [108, 105, 110, 101],
  [119, 111, 114, 100],
  [108, 105, 110, 101, 115],
  [111, 117, 116, 112, 117, 116]]

/-- the place of a number's sentinel -/
def sIdx (e : Int) : Option Nat := sntE.findIdx? (· == e)
/-- the one error value of a number -/
def sentV (ads : List Addr) (e : Int) : Value := match sIdx e with | some i => .iface 59 (.pointer (ads[i]?)) | none => .nilIface

/-- the sentinels lie at 'ads' -/
structure Sents (w : World) (ads : List Addr) : Prop where
  len : ads.length = 42
  nodup : ads.Nodup
  all : ∀ (i : Nat) g t a, sntG[i]? = some g → sntT[i]? = some t → ads[i]? = some a →
        w.cell? ⟨g, 0, none⟩ = some (.iface 59 (.pointer (some a))) ∧ w.cell? a = some (.string ⟨t.toArray⟩) ∧ ∃ c t, w.heap[a.block]? = some (.cells c t (0, 0))

theorem Sents.below {w w' : World} {ads : List Addr} (h : Sents w ads) (hb : Below w.heap.size w w') : Sents w' ads :=
  ⟨h.len, h.nodup, fun i g t a h1 h2 h3 => by
    obtain ⟨c1, c2, c, t', c3⟩ := h.all i g t a h1 h2 h3
    exact ⟨cell_later hb c1, cell_later hb c2, c, t', by rw [hb.block _ (lt_of_block c3)]; exact c3⟩⟩

theorem Sents.get {w : World} {ads : List Addr} (h : Sents w ads) (i : Nat) (g : Nat) (t : List UInt8) (h1 : sntG[i]? = some g) (h2 : sntT[i]? = some t) :
    ∃ a, ads[i]? = some a ∧ w.cell? ⟨g, 0, none⟩ = some (.iface 59 (.pointer (some a))) ∧ w.cell? a = some (.string ⟨t.toArray⟩) ∧ ∃ c t, w.heap[a.block]? = some (.cells c t (0, 0)) := by
  have hi : i < ads.length := by rw [h.len]; exact (show sntG.length = 42 from rfl) ▸ (List.getElem?_eq_some_iff.1 h1).1
  exact ⟨ads[i], List.getElem?_eq_getElem hi, h.all i g t _ h1 h2 (List.getElem?_eq_getElem hi)⟩

theorem sents_of_met {W : World} {l : List (String × DataW Unit)} (h : laidMet Tryd.prog l W) (h1 : l.map (fun x => Tryd.prog.globalNamed x.1) = sntG.map some)
    (hty : sntG.map (fun g => (Tryd.prog.globals[g]?).map (·.type)) = sntG.map (fun _ => some 25)) (h2 : l.map (·.2) = sntT.map errD) : ∃ ads, Sents W ads := by
  obtain ⟨ps, hv, hnd, hrows⟩ := h
  obtain ⟨ads, a1, a2, _, a4⟩ := sents_list W l sntG sntT ps h1 hty h2 hv hnd hrows
  exact ⟨ads, a1.trans rfl, a2, a4⟩
theorem sntTypes : sntG.map (fun g => (Tryd.prog.globals[g]?).map (·.type)) = sntG.map (fun _ => some 25) := by kernel_rfl

set_option maxHeartbeats 1000000 in
theorem sentinelLow_any (e : Int) (w : World) (ads : List Addr) (hS : Sents w ads) (h : e < 20) :
    Calls Tryd.prog 23 #[.int .i64 e] w fun x w' => x = .returned (sentV ads e) ∧ w = w' := by
  obtain ⟨a0, ha0, hc0, _⟩ := hS.get 0 _ _ rfl rfl
  obtain ⟨a1, ha1, hc1, _⟩ := hS.get 1 _ _ rfl rfl
  obtain ⟨a2, ha2, hc2, _⟩ := hS.get 2 _ _ rfl rfl
  obtain ⟨a3, ha3, hc3, _⟩ := hS.get 3 _ _ rfl rfl
  obtain ⟨a4, ha4, hc4, _⟩ := hS.get 4 _ _ rfl rfl
  obtain ⟨a5, ha5, hc5, _⟩ := hS.get 5 _ _ rfl rfl
  obtain ⟨a6, ha6, hc6, _⟩ := hS.get 6 _ _ rfl rfl
  have h0 := Lib.hid ha0
  have h1 := Lib.hid ha1
  have h2 := Lib.hid ha2
  have h3 := Lib.hid ha3
  have h4 := Lib.hid ha4
  have h5 := Lib.hid ha5
  have h6 := Lib.hid ha6
  clear ha0 ha1 ha2 ha3 ha4 ha5 ha6 hS
  go_enter Tryd.func23, Tryd.ntmps23
  go_wp2
  · obtain rfl : e = 1 := by simp only [beq_iff_eq] at *; omega
    go_ret
    exact ⟨by rw [show sentV ads 1 = .iface 59 (.pointer (ads[0]?)) from rfl, h0.out]; rfl, rfl⟩
  · obtain rfl : e = 2 := by simp only [beq_iff_eq] at *; omega
    go_ret
    exact ⟨by rw [show sentV ads 2 = .iface 59 (.pointer (ads[1]?)) from rfl, h1.out]; rfl, rfl⟩
  · obtain rfl : e = 3 := by simp only [beq_iff_eq] at *; omega
    go_ret
    exact ⟨by rw [show sentV ads 3 = .iface 59 (.pointer (ads[2]?)) from rfl, h2.out]; rfl, rfl⟩
  · obtain rfl : e = 4 := by simp only [beq_iff_eq] at *; omega
    go_ret
    exact ⟨by rw [show sentV ads 4 = .iface 59 (.pointer (ads[3]?)) from rfl, h3.out]; rfl, rfl⟩
  · obtain rfl : e = 10 := by simp only [beq_iff_eq] at *; omega
    go_ret
    exact ⟨by rw [show sentV ads 10 = .iface 59 (.pointer (ads[4]?)) from rfl, h4.out]; rfl, rfl⟩
  · obtain rfl : e = 11 := by simp only [beq_iff_eq] at *; omega
    go_ret
    exact ⟨by rw [show sentV ads 11 = .iface 59 (.pointer (ads[5]?)) from rfl, h5.out]; rfl, rfl⟩
  · obtain rfl : e = 12 := by simp only [beq_iff_eq] at *; omega
    go_ret
    exact ⟨by rw [show sentV ads 12 = .iface 59 (.pointer (ads[6]?)) from rfl, h6.out]; rfl, rfl⟩
  · simp only [beq_eq_false_iff_ne] at *
    go_ret
    have : sIdx e = none := by
      rw [sIdx, List.findIdx?_eq_none_iff]
      intro x hx
      simp only [sntE, List.mem_cons, List.not_mem_nil, or_false] at hx
      rw [beq_eq_false_iff_ne]
      omega
    exact ⟨by rw [sentV, this]; rfl, rfl⟩

set_option maxHeartbeats 1000000 in
theorem sentinelMid_any (e : Int) (w : World) (ads : List Addr) (hS : Sents w ads) (h0 : 20 ≤ e) (h : e < 60) :
    Calls Tryd.prog 24 #[.int .i64 e] w fun x w' => x = .returned (sentV ads e) ∧ w = w' := by
  obtain ⟨a7, ha7, hc7, _⟩ := hS.get 7 _ _ rfl rfl
  obtain ⟨a8, ha8, hc8, _⟩ := hS.get 8 _ _ rfl rfl
  obtain ⟨a9, ha9, hc9, _⟩ := hS.get 9 _ _ rfl rfl
  obtain ⟨a10, ha10, hc10, _⟩ := hS.get 10 _ _ rfl rfl
  obtain ⟨a11, ha11, hc11, _⟩ := hS.get 11 _ _ rfl rfl
  obtain ⟨a12, ha12, hc12, _⟩ := hS.get 12 _ _ rfl rfl
  obtain ⟨a13, ha13, hc13, _⟩ := hS.get 13 _ _ rfl rfl
  obtain ⟨a14, ha14, hc14, _⟩ := hS.get 14 _ _ rfl rfl
  obtain ⟨a15, ha15, hc15, _⟩ := hS.get 15 _ _ rfl rfl
  obtain ⟨a16, ha16, hc16, _⟩ := hS.get 16 _ _ rfl rfl
  obtain ⟨a17, ha17, hc17, _⟩ := hS.get 17 _ _ rfl rfl
  obtain ⟨a18, ha18, hc18, _⟩ := hS.get 18 _ _ rfl rfl
  obtain ⟨a19, ha19, hc19, _⟩ := hS.get 19 _ _ rfl rfl
  obtain ⟨a20, ha20, hc20, _⟩ := hS.get 20 _ _ rfl rfl
  obtain ⟨a21, ha21, hc21, _⟩ := hS.get 21 _ _ rfl rfl
  have h7 := Lib.hid ha7
  have h8 := Lib.hid ha8
  have h9 := Lib.hid ha9
  have h10 := Lib.hid ha10
  have h11 := Lib.hid ha11
  have h12 := Lib.hid ha12
  have h13 := Lib.hid ha13
  have h14 := Lib.hid ha14
  have h15 := Lib.hid ha15
  have h16 := Lib.hid ha16
  have h17 := Lib.hid ha17
  have h18 := Lib.hid ha18
  have h19 := Lib.hid ha19
  have h20 := Lib.hid ha20
  have h21 := Lib.hid ha21
  clear ha7 ha8 ha9 ha10 ha11 ha12 ha13 ha14 ha15 ha16 ha17 ha18 ha19 ha20 ha21 hS
  go_enter Tryd.func24, Tryd.ntmps24
  go_wp2
  · obtain rfl : e = 20 := by simp only [beq_iff_eq] at *; omega
    go_ret
    exact ⟨by rw [show sentV ads 20 = .iface 59 (.pointer (ads[7]?)) from rfl, h7.out]; rfl, rfl⟩
  · obtain rfl : e = 21 := by simp only [beq_iff_eq] at *; omega
    go_ret
    exact ⟨by rw [show sentV ads 21 = .iface 59 (.pointer (ads[8]?)) from rfl, h8.out]; rfl, rfl⟩
  · obtain rfl : e = 22 := by simp only [beq_iff_eq] at *; omega
    go_ret
    exact ⟨by rw [show sentV ads 22 = .iface 59 (.pointer (ads[9]?)) from rfl, h9.out]; rfl, rfl⟩
  · obtain rfl : e = 23 := by simp only [beq_iff_eq] at *; omega
    go_ret
    exact ⟨by rw [show sentV ads 23 = .iface 59 (.pointer (ads[10]?)) from rfl, h10.out]; rfl, rfl⟩
  · obtain rfl : e = 24 := by simp only [beq_iff_eq] at *; omega
    go_ret
    exact ⟨by rw [show sentV ads 24 = .iface 59 (.pointer (ads[11]?)) from rfl, h11.out]; rfl, rfl⟩
  · obtain rfl : e = 30 := by simp only [beq_iff_eq] at *; omega
    go_ret
    exact ⟨by rw [show sentV ads 30 = .iface 59 (.pointer (ads[12]?)) from rfl, h12.out]; rfl, rfl⟩
  · obtain rfl : e = 31 := by simp only [beq_iff_eq] at *; omega
    go_ret
    exact ⟨by rw [show sentV ads 31 = .iface 59 (.pointer (ads[13]?)) from rfl, h13.out]; rfl, rfl⟩
  · obtain rfl : e = 32 := by simp only [beq_iff_eq] at *; omega
    go_ret
    exact ⟨by rw [show sentV ads 32 = .iface 59 (.pointer (ads[14]?)) from rfl, h14.out]; rfl, rfl⟩
  · obtain rfl : e = 33 := by simp only [beq_iff_eq] at *; omega
    go_ret
    exact ⟨by rw [show sentV ads 33 = .iface 59 (.pointer (ads[15]?)) from rfl, h15.out]; rfl, rfl⟩
  · obtain rfl : e = 40 := by simp only [beq_iff_eq] at *; omega
    go_ret
    exact ⟨by rw [show sentV ads 40 = .iface 59 (.pointer (ads[16]?)) from rfl, h16.out]; rfl, rfl⟩
  · obtain rfl : e = 50 := by simp only [beq_iff_eq] at *; omega
    go_ret
    exact ⟨by rw [show sentV ads 50 = .iface 59 (.pointer (ads[17]?)) from rfl, h17.out]; rfl, rfl⟩
  · obtain rfl : e = 51 := by simp only [beq_iff_eq] at *; omega
    go_ret
    exact ⟨by rw [show sentV ads 51 = .iface 59 (.pointer (ads[18]?)) from rfl, h18.out]; rfl, rfl⟩
  · obtain rfl : e = 52 := by simp only [beq_iff_eq] at *; omega
    go_ret
    exact ⟨by rw [show sentV ads 52 = .iface 59 (.pointer (ads[19]?)) from rfl, h19.out]; rfl, rfl⟩
  · obtain rfl : e = 53 := by simp only [beq_iff_eq] at *; omega
    go_ret
    exact ⟨by rw [show sentV ads 53 = .iface 59 (.pointer (ads[20]?)) from rfl, h20.out]; rfl, rfl⟩
  · obtain rfl : e = 54 := by simp only [beq_iff_eq] at *; omega
    go_ret
    exact ⟨by rw [show sentV ads 54 = .iface 59 (.pointer (ads[21]?)) from rfl, h21.out]; rfl, rfl⟩
  · simp only [beq_eq_false_iff_ne] at *
    go_ret
    have : sIdx e = none := by
      rw [sIdx, List.findIdx?_eq_none_iff]
      intro x hx
      simp only [sntE, List.mem_cons, List.not_mem_nil, or_false] at hx
      rw [beq_eq_false_iff_ne]
      omega
    exact ⟨by rw [sentV, this]; rfl, rfl⟩

set_option maxHeartbeats 1000000 in
theorem sentinelHigh_any (e : Int) (w : World) (ads : List Addr) (hS : Sents w ads) (h : 60 ≤ e) :
    Calls Tryd.prog 25 #[.int .i64 e] w fun x w' => x = .returned (sentV ads e) ∧ w = w' := by
  obtain ⟨a22, ha22, hc22, _⟩ := hS.get 22 _ _ rfl rfl
  obtain ⟨a23, ha23, hc23, _⟩ := hS.get 23 _ _ rfl rfl
  obtain ⟨a24, ha24, hc24, _⟩ := hS.get 24 _ _ rfl rfl
  obtain ⟨a25, ha25, hc25, _⟩ := hS.get 25 _ _ rfl rfl
  obtain ⟨a26, ha26, hc26, _⟩ := hS.get 26 _ _ rfl rfl
  obtain ⟨a27, ha27, hc27, _⟩ := hS.get 27 _ _ rfl rfl
  obtain ⟨a28, ha28, hc28, _⟩ := hS.get 28 _ _ rfl rfl
  obtain ⟨a29, ha29, hc29, _⟩ := hS.get 29 _ _ rfl rfl
  obtain ⟨a30, ha30, hc30, _⟩ := hS.get 30 _ _ rfl rfl
  obtain ⟨a31, ha31, hc31, _⟩ := hS.get 31 _ _ rfl rfl
  obtain ⟨a32, ha32, hc32, _⟩ := hS.get 32 _ _ rfl rfl
  obtain ⟨a33, ha33, hc33, _⟩ := hS.get 33 _ _ rfl rfl
  obtain ⟨a34, ha34, hc34, _⟩ := hS.get 34 _ _ rfl rfl
  obtain ⟨a35, ha35, hc35, _⟩ := hS.get 35 _ _ rfl rfl
  obtain ⟨a36, ha36, hc36, _⟩ := hS.get 36 _ _ rfl rfl
  obtain ⟨a37, ha37, hc37, _⟩ := hS.get 37 _ _ rfl rfl
  obtain ⟨a38, ha38, hc38, _⟩ := hS.get 38 _ _ rfl rfl
  obtain ⟨a39, ha39, hc39, _⟩ := hS.get 39 _ _ rfl rfl
  obtain ⟨a40, ha40, hc40, _⟩ := hS.get 40 _ _ rfl rfl
  obtain ⟨a41, ha41, hc41, _⟩ := hS.get 41 _ _ rfl rfl
  have h22 := Lib.hid ha22
  have h23 := Lib.hid ha23
  have h24 := Lib.hid ha24
  have h25 := Lib.hid ha25
  have h26 := Lib.hid ha26
  have h27 := Lib.hid ha27
  have h28 := Lib.hid ha28
  have h29 := Lib.hid ha29
  have h30 := Lib.hid ha30
  have h31 := Lib.hid ha31
  have h32 := Lib.hid ha32
  have h33 := Lib.hid ha33
  have h34 := Lib.hid ha34
  have h35 := Lib.hid ha35
  have h36 := Lib.hid ha36
  have h37 := Lib.hid ha37
  have h38 := Lib.hid ha38
  have h39 := Lib.hid ha39
  have h40 := Lib.hid ha40
  have h41 := Lib.hid ha41
  clear ha22 ha23 ha24 ha25 ha26 ha27 ha28 ha29 ha30 ha31 ha32 ha33 ha34 ha35 ha36 ha37 ha38 ha39 ha40 ha41 hS
  go_enter Tryd.func25, Tryd.ntmps25
  go_wp2
  · obtain rfl : e = 60 := by simp only [beq_iff_eq] at *; omega
    go_ret
    exact ⟨by rw [show sentV ads 60 = .iface 59 (.pointer (ads[22]?)) from rfl, h22.out]; rfl, rfl⟩
  · obtain rfl : e = 61 := by simp only [beq_iff_eq] at *; omega
    go_ret
    exact ⟨by rw [show sentV ads 61 = .iface 59 (.pointer (ads[23]?)) from rfl, h23.out]; rfl, rfl⟩
  · obtain rfl : e = 62 := by simp only [beq_iff_eq] at *; omega
    go_ret
    exact ⟨by rw [show sentV ads 62 = .iface 59 (.pointer (ads[24]?)) from rfl, h24.out]; rfl, rfl⟩
  · obtain rfl : e = 63 := by simp only [beq_iff_eq] at *; omega
    go_ret
    exact ⟨by rw [show sentV ads 63 = .iface 59 (.pointer (ads[25]?)) from rfl, h25.out]; rfl, rfl⟩
  · obtain rfl : e = 70 := by simp only [beq_iff_eq] at *; omega
    go_ret
    exact ⟨by rw [show sentV ads 70 = .iface 59 (.pointer (ads[26]?)) from rfl, h26.out]; rfl, rfl⟩
  · obtain rfl : e = 71 := by simp only [beq_iff_eq] at *; omega
    go_ret
    exact ⟨by rw [show sentV ads 71 = .iface 59 (.pointer (ads[27]?)) from rfl, h27.out]; rfl, rfl⟩
  · obtain rfl : e = 72 := by simp only [beq_iff_eq] at *; omega
    go_ret
    exact ⟨by rw [show sentV ads 72 = .iface 59 (.pointer (ads[28]?)) from rfl, h28.out]; rfl, rfl⟩
  · obtain rfl : e = 73 := by simp only [beq_iff_eq] at *; omega
    go_ret
    exact ⟨by rw [show sentV ads 73 = .iface 59 (.pointer (ads[29]?)) from rfl, h29.out]; rfl, rfl⟩
  · obtain rfl : e = 80 := by simp only [beq_iff_eq] at *; omega
    go_ret
    exact ⟨by rw [show sentV ads 80 = .iface 59 (.pointer (ads[30]?)) from rfl, h30.out]; rfl, rfl⟩
  · obtain rfl : e = 81 := by simp only [beq_iff_eq] at *; omega
    go_ret
    exact ⟨by rw [show sentV ads 81 = .iface 59 (.pointer (ads[31]?)) from rfl, h31.out]; rfl, rfl⟩
  · obtain rfl : e = 90 := by simp only [beq_iff_eq] at *; omega
    go_ret
    exact ⟨by rw [show sentV ads 90 = .iface 59 (.pointer (ads[32]?)) from rfl, h32.out]; rfl, rfl⟩
  · obtain rfl : e = 91 := by simp only [beq_iff_eq] at *; omega
    go_ret
    exact ⟨by rw [show sentV ads 91 = .iface 59 (.pointer (ads[33]?)) from rfl, h33.out]; rfl, rfl⟩
  · obtain rfl : e = 92 := by simp only [beq_iff_eq] at *; omega
    go_ret
    exact ⟨by rw [show sentV ads 92 = .iface 59 (.pointer (ads[34]?)) from rfl, h34.out]; rfl, rfl⟩
  · obtain rfl : e = 93 := by simp only [beq_iff_eq] at *; omega
    go_ret
    exact ⟨by rw [show sentV ads 93 = .iface 59 (.pointer (ads[35]?)) from rfl, h35.out]; rfl, rfl⟩
  · obtain rfl : e = 94 := by simp only [beq_iff_eq] at *; omega
    go_ret
    exact ⟨by rw [show sentV ads 94 = .iface 59 (.pointer (ads[36]?)) from rfl, h36.out]; rfl, rfl⟩
  · obtain rfl : e = 95 := by simp only [beq_iff_eq] at *; omega
    go_ret
    exact ⟨by rw [show sentV ads 95 = .iface 59 (.pointer (ads[37]?)) from rfl, h37.out]; rfl, rfl⟩
  · obtain rfl : e = 100 := by simp only [beq_iff_eq] at *; omega
    go_ret
    exact ⟨by rw [show sentV ads 100 = .iface 59 (.pointer (ads[38]?)) from rfl, h38.out]; rfl, rfl⟩
  · obtain rfl : e = 101 := by simp only [beq_iff_eq] at *; omega
    go_ret
    exact ⟨by rw [show sentV ads 101 = .iface 59 (.pointer (ads[39]?)) from rfl, h39.out]; rfl, rfl⟩
  · obtain rfl : e = 102 := by simp only [beq_iff_eq] at *; omega
    go_ret
    exact ⟨by rw [show sentV ads 102 = .iface 59 (.pointer (ads[40]?)) from rfl, h40.out]; rfl, rfl⟩
  · obtain rfl : e = 103 := by simp only [beq_iff_eq] at *; omega
    go_ret
    exact ⟨by rw [show sentV ads 103 = .iface 59 (.pointer (ads[41]?)) from rfl, h41.out]; rfl, rfl⟩
  · simp only [beq_eq_false_iff_ne] at *
    go_ret
    have : sIdx e = none := by
      rw [sIdx, List.findIdx?_eq_none_iff]
      intro x hx
      simp only [sntE, List.mem_cons, List.not_mem_nil, or_false] at hx
      rw [beq_eq_false_iff_ne]
      omega
    exact ⟨by rw [sentV, this]; rfl, rfl⟩

theorem Sentinel_any (e : Int) (w : World) (ads : List Addr) (hS : Sents w ads) :
    Calls Tryd.prog 10 #[.int .i64 e] w fun x w' => x = .returned (sentV ads e) ∧ w = w' := by
  by_cases h1 : e < 20
  · go_enter Tryd.func10, Tryd.ntmps10
    go_wp2_with (go_at_call 23; (with_reducible refine (sentinelLow_any e _ ads hS h1).mono ?_); rintro x w' ⟨rfl, rfl⟩)
    go_ret
    exact ⟨rfl, rfl⟩
  · by_cases h2 : e < 60
    · go_enter Tryd.func10, Tryd.ntmps10
      go_wp2_with (go_at_call 24; (with_reducible refine (sentinelMid_any e _ ads hS (by omega) h2).mono ?_); rintro x w' ⟨rfl, rfl⟩)
      go_ret
      exact ⟨rfl, rfl⟩
    · go_enter Tryd.func10, Tryd.ntmps10
      go_wp2_with (go_at_call 25; (with_reducible refine (sentinelHigh_any e _ ads hS (by omega)).mono ?_); rintro x w' ⟨rfl, rfl⟩)
      go_ret
      exact ⟨rfl, rfl⟩

end Go.Proofs.YtkapjnlhkchpiaaDoor
