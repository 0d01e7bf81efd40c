import Derived.Test.YtkapjnlhkchpiaaDoorSents
namespace Go.Proofs.YtkapjnlhkchpiaaDoor
open Go.RowKit

def rfE : List Int := 0 :: sntE
def rfT : List (List UInt8) := [111, 107] :: sntT
/-- the word of a number -/
def nameOf (e : Int) : List UInt8 := match rfE.findIdx? (· == e) with | some k => rfT.getD k [] | none => []

theorem nameOf_at (e : Int) (k : Nat) (hk : rfE[k]? = some e) (hno : ∀ j, j < k → rfE[j]? ≠ some e) : nameOf e = rfT.getD k [] := by
  have hlt := getElem?_lt hk
  have : rfE.findIdx? (· == e) = some k := by
    rw [List.findIdx?_eq_some_iff_getElem]
    refine ⟨hlt, ?_, fun j hj => ?_⟩
    · rw [List.getElem?_eq_getElem hlt] at hk
      simpa using hk
    · have h := hno j hj
      rw [List.getElem?_eq_getElem (by omega)] at h
      simpa using h
  rw [nameOf, this]
theorem nameOf_none (e : Int) (hno : ∀ j, j < rfE.length → rfE[j]? ≠ some e) : nameOf e = [] := by
  have : rfE.findIdx? (· == e) = none := by
    rw [List.findIdx?_eq_none_iff]
    intro x hx
    obtain ⟨j, hj, rfl⟩ := List.mem_iff_getElem.1 hx
    have := hno j hj
    rw [List.getElem?_eq_getElem hj] at this
    simpa using this
  rw [nameOf, this]
theorem sIdx_name (e : Int) (h0 : e ≠ 0) : nameOf e = match sIdx e with | some i => sntT.getD i [] | none => [] := by
  have h : (((0 : Int)) == e) = false := by simpa using Ne.symm h0
  rw [nameOf, sIdx, rfE, List.findIdx?_cons, h]
  cases List.findIdx? (fun x => x == e) sntE <;> rfl
theorem sIdx_lt (e : Int) (i : Nat) (h : sIdx e = some i) : i < 42 ∧ sntE[i]? = some e := by
  obtain ⟨h1, h2, _⟩ := List.findIdx?_eq_some_iff_getElem.1 h
  exact ⟨h1, by rw [List.getElem?_eq_getElem h1]; simpa using h2⟩

set_option maxHeartbeats 2000000 in
set_option maxRecDepth 100000 in
theorem refName_any (e : Int) (w : World) :
    Calls Tryd.prog 15 #[.int .i64 e] w fun x w' => x = .returned (.string ⟨(nameOf e).toArray⟩) ∧ Below w.heap.size w w' := by
  go_enter Tryd.func15, Tryd.ntmps15
  go_wp2
  change Code.wp _ _ _ _ ((w.alloc (.cells (rfT.map fun t => Value.string ⟨t.toArray⟩).toArray 9)).alloc (.cells (rfE.map (Value.int .i64)).toArray 3))
  have c1 : ∀ (k : Nat) x, rfE[k]? = some x → ((w.alloc (.cells (rfT.map fun t => Value.string ⟨t.toArray⟩).toArray 9)).alloc (.cells (rfE.map (Value.int .i64)).toArray 3)).cell? ⟨w.heap.size + 1, k, none⟩ = some (.int .i64 x) := fun k x h => by
    have := World.cell?_alloc_new (w.alloc (.cells (rfT.map fun t => Value.string ⟨t.toArray⟩).toArray 9)) (rfE.map (Value.int .i64)).toArray 3 k
    rw [World.size_alloc] at this
    rw [this]; simp [h]
  have c2 : ∀ (k : Nat) t, rfT[k]? = some t → ((w.alloc (.cells (rfT.map fun t => Value.string ⟨t.toArray⟩).toArray 9)).alloc (.cells (rfE.map (Value.int .i64)).toArray 3)).cell? ⟨w.heap.size, k, none⟩ = some (.string ⟨t.toArray⟩) := fun k t h => by
    rw [World.cell?_alloc_lt _ _ _ (by simp), World.cell?_alloc_new]; simp [h]
  have hb : Below w.heap.size w ((w.alloc (.cells (rfT.map fun t => Value.string ⟨t.toArray⟩).toArray 9)).alloc (.cells (rfE.map (Value.int .i64)).toArray 3)) :=
    ((Below.refl _ _).alloc (Nat.le_refl _) _).alloc (by simp) _
  generalize (w.alloc (.cells (rfT.map fun t => Value.string ⟨t.toArray⟩).toArray 9)).alloc (.cells (rfE.map (Value.int .i64)).toArray 3) = W at *
  have hlE : rfE.length = 43 := rfl
  go_loop [10] (fun iv => ∃ k : Nat, k ≤ 43 ∧ iv = .int .i64 k ∧ ∀ j, j < k → rfE[j]? ≠ some e) (fun iv => (43 - intOf iv).toNat)
  case atStart => exact ⟨0, by omega, rfl, fun j hj => by omega⟩
  case round =>
    obtain ⟨k, hk, rfl, hno⟩ := hrel
    have HN := Lib.hid hno
    clear hno
    by_cases hk6 : k < 43
    · obtain ⟨x, hx, _⟩ := nth rfE k hk6
      obtain ⟨t, ht, _⟩ := nth rfT k hk6
      have g1 := c1 k x hx
      have g2 := c2 k t ht
      have HX := Lib.hid hx
      have HT := Lib.hid ht
      have HB := Lib.hid hb
      have HL := Lib.hid hlE
      clear hx ht c1 c2 hb hlE
      by_cases he : x = e
      · subst he
        have hr := Lib.hid ((nameOf_at x k HX.out HN.out).trans (by rw [List.getD_eq_getElem?_getD, HT.out]; rfl : _ = t))
        go_wp2
        go_ret
        exact ⟨by rw [hr.out]; rfl, HB.out⟩
      · have he' : (x == e) = false := by simpa using he
        go_wp2
        go_round
        case rel => exact ⟨k + 1, by omega, by go_num, fun j hj => by
          by_cases hjk : j = k
          · subst hjk; rw [HX.out]; simpa using he
          · exact HN.out j (by omega)⟩
        case measure => simp [intOf]; omega
    · obtain rfl : k = 43 := by omega
      have hr := Lib.hid (nameOf_none e HN.out)
      have HB := Lib.hid hb
      clear c1 c2 hb hlE HN
      go_wp2
      go_ret
      exact ⟨by rw [hr.out]; rfl, HB.out⟩

end Go.Proofs.YtkapjnlhkchpiaaDoor
