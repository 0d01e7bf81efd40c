import Derived.Test.YtkapjnlhkchpiaaDoorFaultNames
namespace Go.Proofs.YtkapjnlhkchpiaaDoor
open Go.RowKit

theorem meth_errStr (k : Nat) (a : Addr) (w : World) : (method (k + 1) 59 (.pointer (some a)) "Error").run Tryd.prog w = .ok (66, .pointer (some a)) w := by kernel_rfl

theorem errStr_Error (a : Addr) (s : ByteArray) (w : World) (h : w.cell? a = some (.string s)) :
    Calls Tryd.prog 66 #[.pointer (some a)] w fun x w' => x = .returned (.string s) ∧ w = w' := by
  go_enter Tryd.func66, Tryd.ntmps66
  go_wp2
  go_ret
  exact ⟨rfl, rfl⟩

set_option maxHeartbeats 1000000 in
theorem Name_some (e : Int) (i : Nat) (w : World) (ads : List Addr) (hS : Sents w ads) (h0 : e ≠ 0) (hi : sIdx e = some i) :
    Calls Tryd.prog 14 #[.int .i64 e] w fun x w' => x = .returned (.string ⟨(nameOf e).toArray⟩) ∧ w = w' := by
  obtain ⟨hlt, hE⟩ := sIdx_lt e i hi
  obtain ⟨g, hg, -⟩ := nth sntG i hlt
  obtain ⟨t, ht, -⟩ := nth sntT i hlt
  obtain ⟨a, ha, hc, hct, -⟩ := hS.get i g t hg ht
  have hv : sentV ads e = .iface 59 (.pointer (some a)) := by rw [sentV, hi]; simp [ha]
  have hn := Lib.hid (show nameOf e = t by rw [sIdx_name e h0, hi]; simp [List.getD_eq_getElem?_getD, ht])
  have h0' : (e == 0) = false := by simpa using h0
  clear hi hE hg ht ha hc
  have HS := Lib.hid hS
  clear hS
  go_enter Tryd.func14, Tryd.ntmps14
  have hm := fun k => meth_errStr k a w
  go_wp2_with (first | (go_at_call 10; (with_reducible refine (Sentinel_any e _ ads HS.out).mono ?_); rw [hv]; rintro x w' ⟨rfl, rfl⟩) | (go_at_call 66; (with_reducible refine (errStr_Error a _ _ hct).mono ?_); rintro x w' ⟨rfl, rfl⟩))
  go_ret
  exact ⟨by rw [hn.out]; rfl, rfl⟩

theorem Name_zero (w : World) : Calls Tryd.prog 14 #[.int .i64 0] w fun x w' => x = .returned (.string ⟨(nameOf 0).toArray⟩) ∧ w = w' := by
  rw [show nameOf 0 = [111, 107] from rfl]
  go_enter Tryd.func14, Tryd.ntmps14
  go_wp2
  go_ret
  exact ⟨rfl, rfl⟩
theorem Name_none (e : Int) (w : World) (ads : List Addr) (hS : Sents w ads) (h0 : e ≠ 0) (hi : sIdx e = none) :
    Calls Tryd.prog 14 #[.int .i64 e] w fun x w' => x = .returned (.string ⟨(nameOf e).toArray⟩) ∧ w = w' := by
  have hv : sentV ads e = .nilIface := by rw [sentV, hi]
  have hn := Lib.hid (show nameOf e = [] by rw [sIdx_name e h0, hi])
  have h0' : (e == 0) = false := by simpa using h0
  have HS := Lib.hid hS
  clear hS hi
  go_enter Tryd.func14, Tryd.ntmps14
  go_wp2_with (go_at_call 10; (with_reducible refine (Sentinel_any e _ ads HS.out).mono ?_); rw [hv]; rintro x w' ⟨rfl, rfl⟩)
  go_ret
  exact ⟨by rw [hn.out]; rfl, rfl⟩
/-- the word of a number -/
theorem Name_any (e : Int) (w : World) (ads : List Addr) (hS : Sents w ads) :
    Calls Tryd.prog 14 #[.int .i64 e] w fun x w' => x = .returned (.string ⟨(nameOf e).toArray⟩) ∧ w = w' := by
  by_cases h0 : e = 0
  · subst h0; exact Name_zero w
  · cases hi : sIdx e with
    | none => exact Name_none e w ads hS h0 hi
    | some i => exact Name_some e i w ads hS h0 hi

end Go.Proofs.YtkapjnlhkchpiaaDoor
