import Derived.Test.YtkapjnlhkchpiaaDoorErrIs
namespace Go.Proofs.YtkapjnlhkchpiaaDoor
open Go.RowKit

theorem sents_same {w : World} {ads : List Addr} (hS : Sents w ads) {e f : Int} {i j : Nat} (hi : sIdx e = some i) (hj : sIdx f = some j) {a b : Addr} (ha : ads[i]? = some a) (hb : ads[j]? = some b) :
    decide (a = b) = (e == f) := by
  have h1 := (sIdx_lt e i hi).2
  have h2 := (sIdx_lt f j hj).2
  by_cases h : e = f
  · subst h
    rw [hi] at hj
    obtain rfl := Option.some.inj hj
    rw [ha] at hb
    simp [Option.some.inj hb]
  · have hab : a ≠ b := by
      rintro rfl
      apply h
      have hl := getElem?_lt ha
      have hl2 := getElem?_lt hb
      rw [List.getElem?_eq_getElem hl] at ha
      rw [List.getElem?_eq_getElem hl2] at hb
      have : i = j := (List.getElem_inj hS.nodup).1 ((Option.some.inj ha).trans (Option.some.inj hb).symm)
      subst this
      rw [h1] at h2
      exact Option.some.inj h2
    simp [hab, h]

theorem sntE_bd : ∀ x ∈ sntE, 1 ≤ x ∧ x ≤ 103 := by decide
theorem sIdx_bd {e : Int} {i : Nat} (h : sIdx e = some i) : 1 ≤ e ∧ e ≤ 103 := sntE_bd e (List.mem_of_getElem? (sIdx_lt e i h).2)

/-- the number of the errorString at a -/
def CodeOf (ads : List Addr) (a : Addr) (r : Int) : Prop := (∃ i, sIdx r = some i ∧ ads[i]? = some a) ∨ ((∀ i : Nat, ads[i]? ≠ some a) ∧ r = 1)

theorem CodeOf.found {w : World} {ads : List Addr} (hS : Sents w ads) {a : Addr} {r e : Int} {i : Nat} (h : CodeOf ads a r) (he : sIdx e = some i) (hi : ads[i]? = some a) : r = e := by
  rcases h with ⟨j, h1, h2⟩ | ⟨h1, _⟩
  · have := sents_same hS h1 he h2 hi
    simpa using this
  · exact absurd hi (h1 i)

set_option maxHeartbeats 2000000 in
theorem Code_chain (a : Addr) (r : Int) (w : World) (ads : List Addr) (hS : Sents w ads) (hr : CodeOf ads a r) (ca : Array Value) (ta : TypeId) (ha : w.heap[a.block]? = some (.cells ca ta (0, 0)))
    (v : Value) (fs : List (List UInt8 × Int)) (hv : ErrChain w (.iface 59 (.pointer (some a))) v fs) :
    Calls Tryd.prog 19 #[v] w fun e w' => e = .returned (.int .i64 r) ∧ w = w' := by
  obtain ⟨t', x', rfl⟩ := hv.iface
  have HV := Lib.hid hv
  have HA := Lib.hid ha
  have HS := Lib.hid hS
  have HR := Lib.hid hr
  clear hv ha hS hr
  go_enter Tryd.func19, Tryd.ntmps19
  go_wp2
  go_loopg [3] 103 (fun k ev wr => w = wr ∧ k ≤ 103 ∧ ev = .int .i64 (104 - (k : Int)) ∧ ∀ (e : Int) (i : Nat), sIdx e = some i → e < 104 - (k : Int) → ads[i]? ≠ some a)
  case atStart => exact ⟨rfl, by omega, by go_num, fun e i hi he => by have := sIdx_bd hi; omega⟩
  case round =>
    obtain ⟨rfl, hk, rfl, hno⟩ := hrel
    have HN := Lib.hid hno
    clear hno
    cases gk with
    | zero =>
      have hr1 : r = 1 := by
        rcases HR.out with ⟨i, h1, h2⟩ | ⟨_, h⟩
        · exact absurd h2 (HN.out r i h1 (by have := sIdx_bd h1; omega))
        · exact h
      have HR1 := Lib.hid hr1
      clear hr1
      go_wp2
      go_ret
      exact ⟨by rw [HR1.out]; rfl, rfl⟩
    | succ k =>
      obtain ⟨e, he⟩ : ∃ e : Int, e = 104 - ((k + 1 : Nat) : Int) := ⟨_, rfl⟩
      have he1 : 1 ≤ e := by omega
      have he2 : e ≤ 103 := by omega
      rw [← he]
      have HE := Lib.hid he
      clear he
      have hnext : Hid ((∀ i : Nat, sIdx e = some i → ads[i]? ≠ some a) → ∀ (e' : Int) (i : Nat), sIdx e' = some i → e' < 104 - (k : Int) → ads[i]? ≠ some a) := Lib.hid fun h e' i hi hlt => by
        have := HE.out
        by_cases hee : e' = e
        · subst hee; exact h i hi
        · exact HN.out e' i hi (by omega)
      have hval : Hid (Value.int .i64 (e + 1) = .int .i64 (104 - (k : Int))) := Lib.hid (by have := HE.out; congr 1; omega)
      go_wp2_with fail
      refine (Sentinel_any e _ ads HS.out).mono ?_
      cases hi : sIdx e with
      | none =>
        rw [sentV_none hi]
        rintro x w' ⟨rfl, rfl⟩
        have HI := Lib.hid hi
        clear hi
        go_wp2
        go_roundg k
        case measure => omega
        case rel => exact ⟨rfl, by omega, hval.out, hnext.out fun i h => by rw [HI.out] at h; cases h⟩
      | some i =>
        obtain ⟨b, hb, hvb, cb, tb, hbb⟩ := sentV_some HS.out hi
        rw [hvb]
        rintro x w' ⟨rfl, rfl⟩
        have HI := Lib.hid hi
        have HB := Lib.hid hb
        have HBB := Lib.hid hbb
        clear hi hb hbb hvb
        by_cases hab : a = b
        · have hre : Hid (r = e) := Lib.hid (HR.out.found HS.out HI.out (by rw [HB.out, hab]))
          have hd := Lib.hid (show true = decide (a = b) by simp [hab])
          clear hab
          go_wp2_with fail
          refine (Is_chain a b true _ ca cb ta tb hd.out HA.out HBB.out _ _ HV.out).mono ?_
          rintro x w' ⟨rfl, rfl⟩
          go_wp2
          go_ret
          exact ⟨by rw [hre.out]; rfl, rfl⟩
        · have hd := Lib.hid (show false = decide (a = b) by simp [hab])
          have hab' := Lib.hid hab
          clear hab
          go_wp2_with fail
          refine (Is_chain a b false _ ca cb ta tb hd.out HA.out HBB.out _ _ HV.out).mono ?_
          rintro x w' ⟨rfl, rfl⟩
          go_wp2
          go_roundg k
          case measure => omega
          case rel => exact ⟨rfl, by omega, hval.out, hnext.out fun j h => by
            rw [HI.out] at h
            obtain rfl := Option.some.inj h
            rw [HB.out]
            intro h
            exact hab'.out (Option.some.inj h).symm⟩

theorem Code_nil (w : World) : Calls Tryd.prog 19 #[.nilIface] w fun e w' => e = .returned (.int .i64 0) ∧ w = w' := by
  go_enter Tryd.func19, Tryd.ntmps19
  go_wp2
  go_ret
  exact ⟨rfl, rfl⟩

theorem errNew_any (s : List UInt8) (w : World) : Calls Tryd.prog 20 #[.string ⟨s.toArray⟩] w fun e w' =>
    e = .returned (.iface 59 (.pointer (some ⟨w.heap.size, 0, none⟩))) ∧ w' = w.alloc (.cells #[.string ⟨s.toArray⟩] 61) := by
  go_enter Tryd.func20, Tryd.ntmps20
  go_wp2
  go_ret
  exact ⟨rfl, rfl⟩

theorem head01_any (w : World) (ads : List Addr) (hS : Sents w ads) : Calls Tryd.prog 18 #[] w fun e w' => e = .returned (.bool true) ∧ w = w' := by
  have HS := Lib.hid hS
  have hn := Lib.hid (show nameOf 54 = [100, 105, 115, 107, 32, 102, 117, 108, 108] by decide)
  clear hS
  go_enter Tryd.func18, Tryd.ntmps18
  go_wp2_with fail
  refine (Name_any 54 _ ads HS.out).mono ?_
  rw [hn.out]
  rintro x w' ⟨rfl, rfl⟩
  go_wp2
  go_ret
  exact ⟨rfl, rfl⟩

end Go.Proofs.YtkapjnlhkchpiaaDoor
