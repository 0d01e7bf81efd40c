import Derived.Test.YtkapjnlhkchpiaaDoorFaultName
import Derived.Stop.Asserts
namespace Go.Proofs.YtkapjnlhkchpiaaDoor
open Go.RowKit Go.Extern.Stop Go.Stop Go.Extern

/-- an error value that leads through faults (operation, place) to the value at its end -/
def ErrChain (w : World) (tv : Value) : Value → List (List UInt8 × Int) → Prop
  | v, [] => v = tv
  | v, (op, p) :: fs => ∃ b inner, v = .iface 52 (.pointer (some ⟨b, 0, none⟩)) ∧ w.heap[b]? = some (.cells #[.string ⟨op.toArray⟩, .int .i64 p, inner] 54 (0, 0)) ∧ ErrChain w tv inner fs

theorem ErrChain.below {w w' : World} {tv : Value} (hb : Below w.heap.size w w') : ∀ {fs : List (List UInt8 × Int)} {v : Value}, ErrChain w tv v fs → ErrChain w' tv v fs
  | [], _, h => h
  | _ :: _, _, ⟨b, inner, h1, h2, h3⟩ => ⟨b, inner, h1, by rw [hb.block _ (lt_of_block h2)]; exact h2, ErrChain.below hb h3⟩

theorem ErrChain.iface {w : World} {t : TypeId} {x : Value} {fs : List (List UInt8 × Int)} {v : Value} (h : ErrChain w (.iface t x) v fs) : ∃ t' x', v = .iface t' x' := by
  cases fs with
  | nil => exact ⟨t, x, h⟩
  | cons f fs => obtain ⟨b, inner, h1, _⟩ := h; exact ⟨_, _, h1⟩

/-- the sentinel of a number that has one -/
theorem sentV_some {w : World} {ads : List Addr} (hS : Sents w ads) {e : Int} {i : Nat} (hi : sIdx e = some i) : ∃ a, ads[i]? = some a ∧ sentV ads e = .iface 59 (.pointer (some a)) ∧ ∃ c t, w.heap[a.block]? = some (.cells c t (0, 0)) := by
  obtain ⟨hlt, _⟩ := sIdx_lt e i hi
  obtain ⟨g, hg, -⟩ := nth sntG i hlt
  obtain ⟨t, ht, -⟩ := nth sntT i hlt
  obtain ⟨a, ha, _, _, hb⟩ := hS.get i g t hg ht
  exact ⟨a, ha, by rw [sentV, hi]; simp [ha], hb⟩
theorem sentV_none {ads : List Addr} {e : Int} (hi : sIdx e = none) : sentV ads e = .nilIface := by rw [sentV, hi]

set_option maxHeartbeats 1000000 in
theorem New_none (op : List UInt8) (p e : Int) (w : World) (ads : List Addr) (hS : Sents w ads) (hi : sIdx e = none) :
    Calls Tryd.prog 9 #[.string ⟨op.toArray⟩, .int .i64 p, .int .i64 e] w fun x w' => x = .returned .nilIface ∧ w = w' := by
  have hv := sentV_none (ads := ads) hi
  have HS := Lib.hid hS
  clear hS hi
  go_enter Tryd.func9, Tryd.ntmps9
  go_wp2_with (go_at_call 10; (with_reducible refine (Sentinel_any e _ ads HS.out).mono ?_); rw [hv]; rintro x w' ⟨rfl, rfl⟩)
  go_ret
  exact ⟨rfl, rfl⟩

set_option maxHeartbeats 1000000 in
theorem New_some (op : List UInt8) (p e : Int) (i : Nat) (w : World) (ads : List Addr) (hS : Sents w ads) (hi : sIdx e = some i) :
    Calls Tryd.prog 9 #[.string ⟨op.toArray⟩, .int .i64 p, .int .i64 e] w fun x w' => ∃ v, x = .returned v ∧ ErrChain w' (sentV ads e) v [(op, p)] ∧ Below w.heap.size w w' := by
  obtain ⟨a, _, hv, _⟩ := sentV_some hS hi
  have HS := Lib.hid hS
  clear hS hi
  rw [hv]
  go_enter Tryd.func9, Tryd.ntmps9
  go_wp2_with (go_at_call 10; (with_reducible refine (Sentinel_any e _ ads HS.out).mono ?_); rw [hv]; rintro x w' ⟨rfl, rfl⟩)
  go_ret
  exact ⟨_, rfl, ⟨_, _, rfl, heap_alloc_new w _, rfl⟩, (Below.refl _ _).alloc (Nat.le_refl _) _⟩

theorem Wrap_nil (op : List UInt8) (w : World) : Calls Tryd.prog 12 #[.string ⟨op.toArray⟩, .nilIface] w fun x w' => x = .returned .nilIface ∧ w = w' := by
  go_enter Tryd.func12, Tryd.ntmps12
  go_wp2
  go_ret
  exact ⟨rfl, rfl⟩

theorem Wrap_some (op : List UInt8) (t : TypeId) (x : Value) (v : Value) (fs : List (List UInt8 × Int)) (w : World) (h : ErrChain w (.iface t x) v fs) :
    Calls Tryd.prog 12 #[.string ⟨op.toArray⟩, v] w fun y w' => ∃ v', y = .returned v' ∧ ErrChain w' (.iface t x) v' ((op, -1) :: fs) ∧ Below w.heap.size w w' := by
  obtain ⟨t', x', rfl⟩ := h.iface
  have H := Lib.hid h
  clear h
  go_enter Tryd.func12, Tryd.ntmps12
  go_wp2
  go_ret
  have hb : Below w.heap.size w (w.alloc (.cells #[.string ⟨op.toArray⟩, .int .i64 (-1), .iface t' x'] 54)) := (Below.refl _ _).alloc (Nat.le_refl _) _
  exact ⟨_, rfl, ⟨_, _, rfl, heap_alloc_new w _, H.out.below hb⟩, hb⟩

theorem Fault_Unwrap (b : Nat) (op : List UInt8) (p : Int) (inner : Value) (w : World) (h : w.heap[b]? = some (.cells #[.string ⟨op.toArray⟩, .int .i64 p, inner] 54 (0, 0))) (hi : ∃ t x, inner = .iface t x) :
    Calls Tryd.prog 65 #[.pointer (some ⟨b, 0, none⟩)] w fun y w' => y = .returned inner ∧ w = w' := by
  obtain ⟨t, x, rfl⟩ := hi
  have hc : w.cell? ⟨b, 2, none⟩ = some (.iface t x) := by simp [World.cell?, h]
  clear h
  go_enter Tryd.func65, Tryd.ntmps65
  go_wp2
  go_ret
  exact ⟨rfl, rfl⟩

end Go.Proofs.YtkapjnlhkchpiaaDoor
