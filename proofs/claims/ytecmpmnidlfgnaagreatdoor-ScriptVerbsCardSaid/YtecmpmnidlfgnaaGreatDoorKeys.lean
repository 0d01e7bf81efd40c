import Derived.Test.YtecmpmnidlfgnaaGreatDoorRefCheck
import Derived.Test.YtecmpmnidlfgnaaGreatDoorOwn
import Derived.Test.YtecmpmnidlfgnaaGreatDoorLibV
import Derived.Laws.EntriesVeiled
namespace Go.Proofs.YtecmpmnidlfgnaaGreatDoor
open Go.RowKit

/-! ## the words of the kinds and the keys -/

def fnV (k : Nat) : Value :=
  match k with
  | 0 => .func (.func 77) #[] #[] | 1 => .func (.func 78) #[] #[] | 2 => .func (.func 79) #[] #[] | 3 => .func (.func 80) #[] #[]
  | 4 => .func (.func 81) #[] #[] | 5 => .func (.func 82) #[] #[] | 7 => .func (.func 83) #[] #[] | _ => .nilFunc
def keyS (k : Nat) : List UInt8 := keyW.getD k []

/-- the keys in a block -/
def KeysAt (w : World) (b : Nat) : Prop := ∀ k, k < 8 → w.cell? ⟨b, k * 2, none⟩ = some (.string ⟨(keyS k).toArray⟩) ∧ w.cell? ⟨b, k * 2 + 1, none⟩ = some (fnV k)
theorem KeysAt.below {w w' : World} {b : Nat} (h : KeysAt w b) (hb : Below w.heap.size w w') : KeysAt w' b := fun k hk => ⟨cell_later hb (h k hk).1, cell_later hb (h k hk).2⟩

theorem keys_any (w : World) : Calls Tryz.prog 49 #[] w fun x w' => x = .returned (.slice (some ⟨w.heap.size, 0, none⟩) 8 8) ∧ KeysAt w' w.heap.size ∧ Below w.heap.size w w' := by
  go_enter Tryz.func49, Tryz.ntmps49
  go_wp2
  go_ret
  refine ⟨rfl, fun k hk => ?_, (Below.refl _ _).alloc (Nat.le_refl _) _⟩
  rw [World.cell?_alloc_new, World.cell?_alloc_new]
  match k, hk with
  | 0, _ => exact ⟨rfl, rfl⟩
  | 1, _ => exact ⟨rfl, rfl⟩
  | 2, _ => exact ⟨rfl, rfl⟩
  | 3, _ => exact ⟨rfl, rfl⟩
  | 4, _ => exact ⟨rfl, rfl⟩
  | 5, _ => exact ⟨rfl, rfl⟩
  | 6, _ => exact ⟨rfl, rfl⟩
  | 7, _ => exact ⟨rfl, rfl⟩

def kindsV : Value := .agg #[.string ⟨#[]⟩, .string ⟨#[112, 108, 97, 99, 101]⟩, .string ⟨#[97, 100, 100]⟩, .string ⟨#[112, 97, 121]⟩, .string ⟨#[115, 104, 105, 112]⟩, .string ⟨#[99, 97, 110, 99, 101, 108]⟩, .string ⟨#[100, 114, 111, 112]⟩, .string ⟨#[114, 101, 102, 117, 110, 100]⟩, .string ⟨#[104, 111, 108, 100]⟩, .string ⟨#[114, 101, 108, 101, 97, 115, 101]⟩, .string ⟨#[99, 108, 101, 97, 114]⟩]
theorem kinds_any (w : World) : Calls Tryz.prog 48 #[] w fun x w' => x = .returned kindsV ∧ Below w.heap.size w w' := by
  go_enter Tryz.func48, Tryz.ntmps48
  go_wp2
  refine bodyPost_ret (v := kindsV) (by simp [results, Tryz.results48, go_sem, kindsV]) rfl ⟨rfl, ?_⟩
  exact (Below.refl _ _).alloc (Nat.le_refl _) _

theorem keyFn0 (b : Nat) (w : World) : Calls Tryz.prog 77 #[.pointer (some ⟨b, 0, none⟩)] w fun x w' => x = .returned (.pointer (some ⟨b, 1, none⟩)) ∧ w = w' := by
  go_enter Tryz.func77, Tryz.ntmps77
  go_wp2
  go_ret
  exact ⟨rfl, rfl⟩
theorem keyFn1 (b : Nat) (w : World) : Calls Tryz.prog 78 #[.pointer (some ⟨b, 0, none⟩)] w fun x w' => x = .returned (.pointer (some ⟨b, 2, none⟩)) ∧ w = w' := by
  go_enter Tryz.func78, Tryz.ntmps78
  go_wp2
  go_ret
  exact ⟨rfl, rfl⟩
theorem keyFn2 (b : Nat) (w : World) : Calls Tryz.prog 79 #[.pointer (some ⟨b, 0, none⟩)] w fun x w' => x = .returned (.pointer (some ⟨b, 3, none⟩)) ∧ w = w' := by
  go_enter Tryz.func79, Tryz.ntmps79
  go_wp2
  go_ret
  exact ⟨rfl, rfl⟩
theorem keyFn3 (b : Nat) (w : World) : Calls Tryz.prog 80 #[.pointer (some ⟨b, 0, none⟩)] w fun x w' => x = .returned (.pointer (some ⟨b, 4, none⟩)) ∧ w = w' := by
  go_enter Tryz.func80, Tryz.ntmps80
  go_wp2
  go_ret
  exact ⟨rfl, rfl⟩
theorem keyFn4 (b : Nat) (w : World) : Calls Tryz.prog 81 #[.pointer (some ⟨b, 0, none⟩)] w fun x w' => x = .returned (.pointer (some ⟨b, 5, none⟩)) ∧ w = w' := by
  go_enter Tryz.func81, Tryz.ntmps81
  go_wp2
  go_ret
  exact ⟨rfl, rfl⟩
theorem keyFn5 (b : Nat) (w : World) : Calls Tryz.prog 82 #[.pointer (some ⟨b, 0, none⟩)] w fun x w' => x = .returned (.pointer (some ⟨b, 6, none⟩)) ∧ w = w' := by
  go_enter Tryz.func82, Tryz.ntmps82
  go_wp2
  go_ret
  exact ⟨rfl, rfl⟩
theorem keyFn7 (b : Nat) (w : World) : Calls Tryz.prog 83 #[.pointer (some ⟨b, 0, none⟩)] w fun x w' => x = .returned (.pointer (some ⟨b, 8, none⟩)) ∧ w = w' := by
  go_enter Tryz.func83, Tryz.ntmps83
  go_wp2
  go_ret
  exact ⟨rfl, rfl⟩

/-! ## an event in a block of the call's own, which a callee may change -/

def evCs (e : Ev) : Array Value := #[.int .i64 e.kind, .int .i64 e.order, .int .i64 e.item, .int .i64 e.qty, .int .i64 e.price, .int .i64 e.cur, .int .i64 e.tax, .string ⟨e.who.toArray⟩, .int .i64 e.stamp, .string ⟨e.note.toArray⟩]
def EvBlk (w : World) (b : Nat) (e : Ev) : Prop := w.heap[b]? = some (.cells (evCs e) 24 (0, 0))
theorem EvBlk.at' {w : World} {b : Nat} {e : Ev} (h : EvBlk w b e) : EvAt w b e := by
  unfold EvBlk at h
  constructor <;> simp [World.cell?, h, evCs]
theorem EvBlk.free {w : World} {b : Nat} {e : Ev} (h : EvBlk w b e) (j : Nat) : w.frozen? ⟨b, j, none⟩ = false := by
  unfold EvBlk at h
  simp [World.frozen?, h]
theorem EvBlk.lt {w : World} {b : Nat} {e : Ev} (h : EvBlk w b e) : b < w.heap.size := (Array.getElem?_eq_some_iff.1 h).1
theorem EvBlk.below {w w' : World} {b : Nat} {e : Ev} (h : EvBlk w b e) (hb : Below w.heap.size w w') : EvBlk w' b e := by unfold EvBlk; rw [hb.block b h.lt]; exact h
theorem EvBlk.put {w : World} {b : Nat} {e e' : Ev} (h : EvBlk w b e) (j : Nat) (v : Value) (hj : (evCs e).setIfInBounds j v = evCs e') : EvBlk (w.setCell ⟨b, j, none⟩ v) b e' := by
  unfold EvBlk at h ⊢
  rw [← hj]
  simp only [World.setCell]
  rw [Array.getElem?_modify]
  simp [h]
theorem evBlk_alloc (w : World) (e : Ev) : EvBlk (w.alloc (.cells (evCs e) 24)) w.heap.size e := heap_alloc_new w _

/-- only block b has changed, and what is new -/
structure But (b : Nat) (a w : World) : Prop where
  os : w.os = a.os
  tape : w.tape = a.tape
  output : w.output = a.output
  size : a.heap.size ≤ w.heap.size
  block : ∀ i, i < a.heap.size → i ≠ b → w.heap[i]? = a.heap[i]?
theorem But.refl (b : Nat) (w : World) : But b w w := ⟨rfl, rfl, rfl, Nat.le_refl _, fun _ _ _ => rfl⟩
theorem But.of {b : Nat} {a w : World} (h : Below a.heap.size a w) : But b a w := ⟨h.os, h.tape, h.output, h.size, fun i hi _ => h.block i hi⟩
theorem But.trans {b : Nat} {a w x : World} (h : But b a w) (k : But b w x) : But b a x :=
  ⟨k.os.trans h.os, k.tape.trans h.tape, k.output.trans h.output, Nat.le_trans h.size k.size, fun i hi hn => (k.block i (Nat.lt_of_lt_of_le hi h.size) hn).trans (h.block i hi hn)⟩
theorem But.set {b : Nat} {a w : World} (h : But b a w) (j : Nat) (v : Value) : But b a (w.setCell ⟨b, j, none⟩ v) :=
  ⟨h.os, h.tape, h.output, by simpa [World.setCell] using h.size, fun i hi hn => (Below.heap_setCell w ⟨b, j, none⟩ v i (fun e => hn e)).trans (h.block i hi hn)⟩
/-- .. a block that was not there: nothing that was has changed -/
theorem But.below {b : Nat} {a w x : World} (h : Below a.heap.size a w) (k : But b w x) (hb : a.heap.size ≤ b) : Below a.heap.size a x :=
  ⟨k.os.trans h.os, k.tape.trans h.tape, k.output.trans h.output, Nat.le_trans h.size k.size, fun i hi => (k.block i (Nat.lt_of_lt_of_le hi h.size) (by omega)).trans (h.block i hi)⟩
theorem But.cell {b : Nat} {a w : World} (h : But b a w) {p : Addr} {v : Value} (hc : a.cell? p = some v) (hn : p.block ≠ b) : w.cell? p = some v := by
  have hl := World.block_lt_of_cell? _ _ hc
  rw [World.cell?_of_block (h.block p.block hl hn)]; exact hc

/-! ## the value of a key -/

theorem fnEqNil (w : World) : (binOp .eql 93 .nilFunc .nilFunc).run Tryz.prog w = .ok (.bool true) w := by kernel_rfl
theorem fnEq (f : Nat) (w : World) : (binOp .eql 93 (.func (.func f) #[] #[]) .nilFunc).run Tryz.prog w = .ok (.bool false) w := by kernel_rfl


def valueEv (k : Nat) (val : List UInt8) (e : Ev) : Ev := if k = 6 then { e with who := val } else if numErr val ≠ 0 ∨ numVal val = 0 then e else setKey e k (numVal val)
def valueErr (k : Nat) (val : List UInt8) : Int := if k = 6 then (if val = [] then 101 else 0) else if numErr val ≠ 0 ∨ numVal val = 0 then 101 else 0

set_option maxHeartbeats 2000000 in
theorem value_who (val : List UInt8) (b : Nat) (e : Ev) (w : World) (hE : EvBlk w b e) :
    Calls Tryz.prog 86 #[.agg #[.string ⟨(keyS 6).toArray⟩, fnV 6], .string ⟨val.toArray⟩, .pointer (some ⟨b, 0, none⟩)] w fun x w' => x = .returned (.int .i64 (valueErr 6 val)) ∧ EvBlk w' b (valueEv 6 val e) ∧ But b w w' := by
  rw [show keyS 6 = [119, 104, 111] from rfl, show fnV 6 = Value.nilFunc from rfl]
  have hlt := hE.lt
  have hE1 : ∀ C, EvBlk (w.alloc C) b e := fun C => hE.below ((Below.refl _ _).alloc (Nat.le_refl _) _)
  have c7 : ∀ C, (w.alloc C).cell? ⟨b, 7, none⟩ = some (.string ⟨e.who.toArray⟩) := fun C => (hE1 C).at'.c7
  have f7 : ∀ C, (w.alloc C).frozen? ⟨b, 7, none⟩ = false := fun C => (hE1 C).free 7
  have H0 := Lib.hid hE
  have hr := Lib.hid (show valueErr 6 val = if val = [] then 101 else 0 from rfl)
  clear hE hE1
  by_cases hv : val = []
  · subst hv
    have fq := fnEqNil
    go_enter Tryz.func86, Tryz.ntmps86
    go_wp2
    go_ret
    exact ⟨by rw [hr.out]; rfl, (H0.out.put 7 _ (e' := { e with who := [] }) rfl).below ((Below.refl _ _).alloc (Nat.le_refl _) _), ((But.refl _ _).set 7 _).trans (But.of ((Below.refl _ _).alloc (Nat.le_refl _) _))⟩
  · have k1 : val.isEmpty = false := by simpa using hv
    have hr2 := Lib.hid (hr.out.trans (if_neg hv))
    have fq := fnEqNil
    go_enter Tryz.func86, Tryz.ntmps86
    go_wp2
    go_ret
    exact ⟨by rw [hr2.out]; rfl, (H0.out.put 7 _ (e' := { e with who := val }) rfl).below ((Below.refl _ _).alloc (Nat.le_refl _) _), ((But.refl _ _).set 7 _).trans (But.of ((Below.refl _ _).alloc (Nat.le_refl _) _))⟩

set_option maxHeartbeats 2000000 in
theorem value_0 (val : List UInt8) (b : Nat) (e : Ev) (w : World) (hE : EvBlk w b e) (hL : LibV w) (hl : val.length ≤ 281474976710656) :
    Calls Tryz.prog 86 #[.agg #[.string ⟨(keyS 0).toArray⟩, fnV 0], .string ⟨val.toArray⟩, .pointer (some ⟨b, 0, none⟩)] w fun x w' => x = .returned (.int .i64 (valueErr 0 val)) ∧ EvBlk w' b (valueEv 0 val e) ∧ But b w w' := by
  rw [show keyS 0 = [111, 114, 100, 101, 114] from rfl, show fnV 0 = Value.func (.func 77) #[] #[] from rfl]
  have hE1 : ∀ C, EvBlk (w.alloc C) b e := fun C => hE.below ((Below.refl _ _).alloc (Nat.le_refl _) _)
  have H1 := Lib.hid hE1
  have hL1 := Lib.hid (show ∀ C, LibV (w.alloc C) from fun C => hL.below ((Below.refl _ _).alloc (Nat.le_refl _) _))
  have hr := Lib.hid (show valueErr 0 val = if numErr val ≠ 0 ∨ numVal val = 0 then 101 else 0 from rfl)
  have hr2 := Lib.hid (show valueEv 0 val e = if numErr val ≠ 0 ∨ numVal val = 0 then e else setKey e 0 (numVal val) from rfl)
  have hF := Lib.hid (keyFn0 b)
  clear hE hE1 hL
  by_cases hb : numErr val ≠ 0
  · have k1 : (numErr val != 0) = true := by rw [bne_iff_ne]; exact hb
    have hs := Lib.hid (hr.out.trans (if_pos (.inl hb)))
    have hs2 := Lib.hid (hr2.out.trans (if_pos (.inl hb)))
    clear hb
    have fq := fnEq
    go_enter Tryz.func86, Tryz.ntmps86
    go_wp2_with fail
    refine (dumpNumber_any val _ (hL1.out _) hl).mono ?_
    rintro x w2 ⟨rfl, hb2⟩
    go_wp2
    go_ret
    exact ⟨by rw [hs.out]; rfl, by rw [hs2.out]; exact (H1.out _).below hb2, But.of (Below.next ((Below.refl _ _).alloc (Nat.le_refl _) _) hb2)⟩
  · have k1 : (numErr val != 0) = false := by rw [bne_eq_false_iff_eq]; exact Classical.byContradiction fun h => hb h
    by_cases h0 : numVal val = 0
    · have k2 : (numVal val == 0) = true := by rw [beq_iff_eq]; exact h0
      have hs := Lib.hid (hr.out.trans (if_pos (.inr h0)))
      have hs2 := Lib.hid (hr2.out.trans (if_pos (.inr h0)))
      clear hb h0
      have fq := fnEq
      go_enter Tryz.func86, Tryz.ntmps86
      go_wp2_with fail
      refine (dumpNumber_any val _ (hL1.out _) hl).mono ?_
      rintro x w2 ⟨rfl, hb2⟩
      go_wp2
      go_ret
      exact ⟨by rw [hs.out]; rfl, by rw [hs2.out]; exact (H1.out _).below hb2, But.of (Below.next ((Below.refl _ _).alloc (Nat.le_refl _) _) hb2)⟩
    · have k2 : (numVal val == 0) = false := by rw [beq_eq_false_iff_ne]; exact h0
      have hs := Lib.hid (hr.out.trans (if_neg (fun h => h.elim hb h0)))
      have hs2 := Lib.hid (hr2.out.trans (if_neg (fun h => h.elim hb h0)))
      clear hb h0
      have fq := fnEq
      go_enter Tryz.func86, Tryz.ntmps86
      go_wp2_with fail
      have c1 := World.cell?_alloc_new w #[.string ⟨[111, 114, 100, 101, 114].toArray⟩, .func (.func 77) #[] #[]] 95 1
      refine (dumpNumber_any val _ (hL1.out _) hl).mono ?_
      rintro x w2 ⟨rfl, hb2⟩
      have c2 : w2.cell? ⟨w.heap.size, 1, none⟩ = some (.func (.func 77) #[] #[]) := cell_later hb2 c1
      have HE2 := Lib.hid ((H1.out _).below hb2)
      have HB2 := Lib.hid (But.of (b := b) (Below.next ((Below.refl _ _).alloc (Nat.le_refl _) _) hb2))
      have c3 := HE2.out.at'.c1
      have f3 := HE2.out.free 1
      clear hb2 c1
      go_wp2_with fail
      refine (hF.out _).mono ?_
      rintro x w3 ⟨rfl, rfl⟩
      go_wp2
      go_ret
      exact ⟨by rw [hs.out]; rfl, by rw [hs2.out]; exact HE2.out.put 1 _ rfl, HB2.out.set 1 _⟩

set_option maxHeartbeats 2000000 in
theorem value_1 (val : List UInt8) (b : Nat) (e : Ev) (w : World) (hE : EvBlk w b e) (hL : LibV w) (hl : val.length ≤ 281474976710656) :
    Calls Tryz.prog 86 #[.agg #[.string ⟨(keyS 1).toArray⟩, fnV 1], .string ⟨val.toArray⟩, .pointer (some ⟨b, 0, none⟩)] w fun x w' => x = .returned (.int .i64 (valueErr 1 val)) ∧ EvBlk w' b (valueEv 1 val e) ∧ But b w w' := by
  rw [show keyS 1 = [105, 116, 101, 109] from rfl, show fnV 1 = Value.func (.func 78) #[] #[] from rfl]
  have hE1 : ∀ C, EvBlk (w.alloc C) b e := fun C => hE.below ((Below.refl _ _).alloc (Nat.le_refl _) _)
  have H1 := Lib.hid hE1
  have hL1 := Lib.hid (show ∀ C, LibV (w.alloc C) from fun C => hL.below ((Below.refl _ _).alloc (Nat.le_refl _) _))
  have hr := Lib.hid (show valueErr 1 val = if numErr val ≠ 0 ∨ numVal val = 0 then 101 else 0 from rfl)
  have hr2 := Lib.hid (show valueEv 1 val e = if numErr val ≠ 0 ∨ numVal val = 0 then e else setKey e 1 (numVal val) from rfl)
  have hF := Lib.hid (keyFn1 b)
  clear hE hE1 hL
  by_cases hb : numErr val ≠ 0
  · have k1 : (numErr val != 0) = true := by rw [bne_iff_ne]; exact hb
    have hs := Lib.hid (hr.out.trans (if_pos (.inl hb)))
    have hs2 := Lib.hid (hr2.out.trans (if_pos (.inl hb)))
    clear hb
    have fq := fnEq
    go_enter Tryz.func86, Tryz.ntmps86
    go_wp2_with fail
    refine (dumpNumber_any val _ (hL1.out _) hl).mono ?_
    rintro x w2 ⟨rfl, hb2⟩
    go_wp2
    go_ret
    exact ⟨by rw [hs.out]; rfl, by rw [hs2.out]; exact (H1.out _).below hb2, But.of (Below.next ((Below.refl _ _).alloc (Nat.le_refl _) _) hb2)⟩
  · have k1 : (numErr val != 0) = false := by rw [bne_eq_false_iff_eq]; exact Classical.byContradiction fun h => hb h
    by_cases h0 : numVal val = 0
    · have k2 : (numVal val == 0) = true := by rw [beq_iff_eq]; exact h0
      have hs := Lib.hid (hr.out.trans (if_pos (.inr h0)))
      have hs2 := Lib.hid (hr2.out.trans (if_pos (.inr h0)))
      clear hb h0
      have fq := fnEq
      go_enter Tryz.func86, Tryz.ntmps86
      go_wp2_with fail
      refine (dumpNumber_any val _ (hL1.out _) hl).mono ?_
      rintro x w2 ⟨rfl, hb2⟩
      go_wp2
      go_ret
      exact ⟨by rw [hs.out]; rfl, by rw [hs2.out]; exact (H1.out _).below hb2, But.of (Below.next ((Below.refl _ _).alloc (Nat.le_refl _) _) hb2)⟩
    · have k2 : (numVal val == 0) = false := by rw [beq_eq_false_iff_ne]; exact h0
      have hs := Lib.hid (hr.out.trans (if_neg (fun h => h.elim hb h0)))
      have hs2 := Lib.hid (hr2.out.trans (if_neg (fun h => h.elim hb h0)))
      clear hb h0
      have fq := fnEq
      go_enter Tryz.func86, Tryz.ntmps86
      go_wp2_with fail
      have c1 := World.cell?_alloc_new w #[.string ⟨[105, 116, 101, 109].toArray⟩, .func (.func 78) #[] #[]] 95 1
      refine (dumpNumber_any val _ (hL1.out _) hl).mono ?_
      rintro x w2 ⟨rfl, hb2⟩
      have c2 : w2.cell? ⟨w.heap.size, 1, none⟩ = some (.func (.func 78) #[] #[]) := cell_later hb2 c1
      have HE2 := Lib.hid ((H1.out _).below hb2)
      have HB2 := Lib.hid (But.of (b := b) (Below.next ((Below.refl _ _).alloc (Nat.le_refl _) _) hb2))
      have c3 := HE2.out.at'.c2
      have f3 := HE2.out.free 2
      clear hb2 c1
      go_wp2_with fail
      refine (hF.out _).mono ?_
      rintro x w3 ⟨rfl, rfl⟩
      go_wp2
      go_ret
      exact ⟨by rw [hs.out]; rfl, by rw [hs2.out]; exact HE2.out.put 2 _ rfl, HB2.out.set 2 _⟩

set_option maxHeartbeats 2000000 in
theorem value_2 (val : List UInt8) (b : Nat) (e : Ev) (w : World) (hE : EvBlk w b e) (hL : LibV w) (hl : val.length ≤ 281474976710656) :
    Calls Tryz.prog 86 #[.agg #[.string ⟨(keyS 2).toArray⟩, fnV 2], .string ⟨val.toArray⟩, .pointer (some ⟨b, 0, none⟩)] w fun x w' => x = .returned (.int .i64 (valueErr 2 val)) ∧ EvBlk w' b (valueEv 2 val e) ∧ But b w w' := by
  rw [show keyS 2 = [113, 116, 121] from rfl, show fnV 2 = Value.func (.func 79) #[] #[] from rfl]
  have hE1 : ∀ C, EvBlk (w.alloc C) b e := fun C => hE.below ((Below.refl _ _).alloc (Nat.le_refl _) _)
  have H1 := Lib.hid hE1
  have hL1 := Lib.hid (show ∀ C, LibV (w.alloc C) from fun C => hL.below ((Below.refl _ _).alloc (Nat.le_refl _) _))
  have hr := Lib.hid (show valueErr 2 val = if numErr val ≠ 0 ∨ numVal val = 0 then 101 else 0 from rfl)
  have hr2 := Lib.hid (show valueEv 2 val e = if numErr val ≠ 0 ∨ numVal val = 0 then e else setKey e 2 (numVal val) from rfl)
  have hF := Lib.hid (keyFn2 b)
  clear hE hE1 hL
  by_cases hb : numErr val ≠ 0
  · have k1 : (numErr val != 0) = true := by rw [bne_iff_ne]; exact hb
    have hs := Lib.hid (hr.out.trans (if_pos (.inl hb)))
    have hs2 := Lib.hid (hr2.out.trans (if_pos (.inl hb)))
    clear hb
    have fq := fnEq
    go_enter Tryz.func86, Tryz.ntmps86
    go_wp2_with fail
    refine (dumpNumber_any val _ (hL1.out _) hl).mono ?_
    rintro x w2 ⟨rfl, hb2⟩
    go_wp2
    go_ret
    exact ⟨by rw [hs.out]; rfl, by rw [hs2.out]; exact (H1.out _).below hb2, But.of (Below.next ((Below.refl _ _).alloc (Nat.le_refl _) _) hb2)⟩
  · have k1 : (numErr val != 0) = false := by rw [bne_eq_false_iff_eq]; exact Classical.byContradiction fun h => hb h
    by_cases h0 : numVal val = 0
    · have k2 : (numVal val == 0) = true := by rw [beq_iff_eq]; exact h0
      have hs := Lib.hid (hr.out.trans (if_pos (.inr h0)))
      have hs2 := Lib.hid (hr2.out.trans (if_pos (.inr h0)))
      clear hb h0
      have fq := fnEq
      go_enter Tryz.func86, Tryz.ntmps86
      go_wp2_with fail
      refine (dumpNumber_any val _ (hL1.out _) hl).mono ?_
      rintro x w2 ⟨rfl, hb2⟩
      go_wp2
      go_ret
      exact ⟨by rw [hs.out]; rfl, by rw [hs2.out]; exact (H1.out _).below hb2, But.of (Below.next ((Below.refl _ _).alloc (Nat.le_refl _) _) hb2)⟩
    · have k2 : (numVal val == 0) = false := by rw [beq_eq_false_iff_ne]; exact h0
      have hs := Lib.hid (hr.out.trans (if_neg (fun h => h.elim hb h0)))
      have hs2 := Lib.hid (hr2.out.trans (if_neg (fun h => h.elim hb h0)))
      clear hb h0
      have fq := fnEq
      go_enter Tryz.func86, Tryz.ntmps86
      go_wp2_with fail
      have c1 := World.cell?_alloc_new w #[.string ⟨[113, 116, 121].toArray⟩, .func (.func 79) #[] #[]] 95 1
      refine (dumpNumber_any val _ (hL1.out _) hl).mono ?_
      rintro x w2 ⟨rfl, hb2⟩
      have c2 : w2.cell? ⟨w.heap.size, 1, none⟩ = some (.func (.func 79) #[] #[]) := cell_later hb2 c1
      have HE2 := Lib.hid ((H1.out _).below hb2)
      have HB2 := Lib.hid (But.of (b := b) (Below.next ((Below.refl _ _).alloc (Nat.le_refl _) _) hb2))
      have c3 := HE2.out.at'.c3
      have f3 := HE2.out.free 3
      clear hb2 c1
      go_wp2_with fail
      refine (hF.out _).mono ?_
      rintro x w3 ⟨rfl, rfl⟩
      go_wp2
      go_ret
      exact ⟨by rw [hs.out]; rfl, by rw [hs2.out]; exact HE2.out.put 3 _ rfl, HB2.out.set 3 _⟩

set_option maxHeartbeats 2000000 in
theorem value_3 (val : List UInt8) (b : Nat) (e : Ev) (w : World) (hE : EvBlk w b e) (hL : LibV w) (hl : val.length ≤ 281474976710656) :
    Calls Tryz.prog 86 #[.agg #[.string ⟨(keyS 3).toArray⟩, fnV 3], .string ⟨val.toArray⟩, .pointer (some ⟨b, 0, none⟩)] w fun x w' => x = .returned (.int .i64 (valueErr 3 val)) ∧ EvBlk w' b (valueEv 3 val e) ∧ But b w w' := by
  rw [show keyS 3 = [112, 114, 105, 99, 101] from rfl, show fnV 3 = Value.func (.func 80) #[] #[] from rfl]
  have hE1 : ∀ C, EvBlk (w.alloc C) b e := fun C => hE.below ((Below.refl _ _).alloc (Nat.le_refl _) _)
  have H1 := Lib.hid hE1
  have hL1 := Lib.hid (show ∀ C, LibV (w.alloc C) from fun C => hL.below ((Below.refl _ _).alloc (Nat.le_refl _) _))
  have hr := Lib.hid (show valueErr 3 val = if numErr val ≠ 0 ∨ numVal val = 0 then 101 else 0 from rfl)
  have hr2 := Lib.hid (show valueEv 3 val e = if numErr val ≠ 0 ∨ numVal val = 0 then e else setKey e 3 (numVal val) from rfl)
  have hF := Lib.hid (keyFn3 b)
  clear hE hE1 hL
  by_cases hb : numErr val ≠ 0
  · have k1 : (numErr val != 0) = true := by rw [bne_iff_ne]; exact hb
    have hs := Lib.hid (hr.out.trans (if_pos (.inl hb)))
    have hs2 := Lib.hid (hr2.out.trans (if_pos (.inl hb)))
    clear hb
    have fq := fnEq
    go_enter Tryz.func86, Tryz.ntmps86
    go_wp2_with fail
    refine (dumpNumber_any val _ (hL1.out _) hl).mono ?_
    rintro x w2 ⟨rfl, hb2⟩
    go_wp2
    go_ret
    exact ⟨by rw [hs.out]; rfl, by rw [hs2.out]; exact (H1.out _).below hb2, But.of (Below.next ((Below.refl _ _).alloc (Nat.le_refl _) _) hb2)⟩
  · have k1 : (numErr val != 0) = false := by rw [bne_eq_false_iff_eq]; exact Classical.byContradiction fun h => hb h
    by_cases h0 : numVal val = 0
    · have k2 : (numVal val == 0) = true := by rw [beq_iff_eq]; exact h0
      have hs := Lib.hid (hr.out.trans (if_pos (.inr h0)))
      have hs2 := Lib.hid (hr2.out.trans (if_pos (.inr h0)))
      clear hb h0
      have fq := fnEq
      go_enter Tryz.func86, Tryz.ntmps86
      go_wp2_with fail
      refine (dumpNumber_any val _ (hL1.out _) hl).mono ?_
      rintro x w2 ⟨rfl, hb2⟩
      go_wp2
      go_ret
      exact ⟨by rw [hs.out]; rfl, by rw [hs2.out]; exact (H1.out _).below hb2, But.of (Below.next ((Below.refl _ _).alloc (Nat.le_refl _) _) hb2)⟩
    · have k2 : (numVal val == 0) = false := by rw [beq_eq_false_iff_ne]; exact h0
      have hs := Lib.hid (hr.out.trans (if_neg (fun h => h.elim hb h0)))
      have hs2 := Lib.hid (hr2.out.trans (if_neg (fun h => h.elim hb h0)))
      clear hb h0
      have fq := fnEq
      go_enter Tryz.func86, Tryz.ntmps86
      go_wp2_with fail
      have c1 := World.cell?_alloc_new w #[.string ⟨[112, 114, 105, 99, 101].toArray⟩, .func (.func 80) #[] #[]] 95 1
      refine (dumpNumber_any val _ (hL1.out _) hl).mono ?_
      rintro x w2 ⟨rfl, hb2⟩
      have c2 : w2.cell? ⟨w.heap.size, 1, none⟩ = some (.func (.func 80) #[] #[]) := cell_later hb2 c1
      have HE2 := Lib.hid ((H1.out _).below hb2)
      have HB2 := Lib.hid (But.of (b := b) (Below.next ((Below.refl _ _).alloc (Nat.le_refl _) _) hb2))
      have c3 := HE2.out.at'.c4
      have f3 := HE2.out.free 4
      clear hb2 c1
      go_wp2_with fail
      refine (hF.out _).mono ?_
      rintro x w3 ⟨rfl, rfl⟩
      go_wp2
      go_ret
      exact ⟨by rw [hs.out]; rfl, by rw [hs2.out]; exact HE2.out.put 4 _ rfl, HB2.out.set 4 _⟩

set_option maxHeartbeats 2000000 in
theorem value_4 (val : List UInt8) (b : Nat) (e : Ev) (w : World) (hE : EvBlk w b e) (hL : LibV w) (hl : val.length ≤ 281474976710656) :
    Calls Tryz.prog 86 #[.agg #[.string ⟨(keyS 4).toArray⟩, fnV 4], .string ⟨val.toArray⟩, .pointer (some ⟨b, 0, none⟩)] w fun x w' => x = .returned (.int .i64 (valueErr 4 val)) ∧ EvBlk w' b (valueEv 4 val e) ∧ But b w w' := by
  rw [show keyS 4 = [99, 117, 114] from rfl, show fnV 4 = Value.func (.func 81) #[] #[] from rfl]
  have hE1 : ∀ C, EvBlk (w.alloc C) b e := fun C => hE.below ((Below.refl _ _).alloc (Nat.le_refl _) _)
  have H1 := Lib.hid hE1
  have hL1 := Lib.hid (show ∀ C, LibV (w.alloc C) from fun C => hL.below ((Below.refl _ _).alloc (Nat.le_refl _) _))
  have hr := Lib.hid (show valueErr 4 val = if numErr val ≠ 0 ∨ numVal val = 0 then 101 else 0 from rfl)
  have hr2 := Lib.hid (show valueEv 4 val e = if numErr val ≠ 0 ∨ numVal val = 0 then e else setKey e 4 (numVal val) from rfl)
  have hF := Lib.hid (keyFn4 b)
  clear hE hE1 hL
  by_cases hb : numErr val ≠ 0
  · have k1 : (numErr val != 0) = true := by rw [bne_iff_ne]; exact hb
    have hs := Lib.hid (hr.out.trans (if_pos (.inl hb)))
    have hs2 := Lib.hid (hr2.out.trans (if_pos (.inl hb)))
    clear hb
    have fq := fnEq
    go_enter Tryz.func86, Tryz.ntmps86
    go_wp2_with fail
    refine (dumpNumber_any val _ (hL1.out _) hl).mono ?_
    rintro x w2 ⟨rfl, hb2⟩
    go_wp2
    go_ret
    exact ⟨by rw [hs.out]; rfl, by rw [hs2.out]; exact (H1.out _).below hb2, But.of (Below.next ((Below.refl _ _).alloc (Nat.le_refl _) _) hb2)⟩
  · have k1 : (numErr val != 0) = false := by rw [bne_eq_false_iff_eq]; exact Classical.byContradiction fun h => hb h
    by_cases h0 : numVal val = 0
    · have k2 : (numVal val == 0) = true := by rw [beq_iff_eq]; exact h0
      have hs := Lib.hid (hr.out.trans (if_pos (.inr h0)))
      have hs2 := Lib.hid (hr2.out.trans (if_pos (.inr h0)))
      clear hb h0
      have fq := fnEq
      go_enter Tryz.func86, Tryz.ntmps86
      go_wp2_with fail
      refine (dumpNumber_any val _ (hL1.out _) hl).mono ?_
      rintro x w2 ⟨rfl, hb2⟩
      go_wp2
      go_ret
      exact ⟨by rw [hs.out]; rfl, by rw [hs2.out]; exact (H1.out _).below hb2, But.of (Below.next ((Below.refl _ _).alloc (Nat.le_refl _) _) hb2)⟩
    · have k2 : (numVal val == 0) = false := by rw [beq_eq_false_iff_ne]; exact h0
      have hs := Lib.hid (hr.out.trans (if_neg (fun h => h.elim hb h0)))
      have hs2 := Lib.hid (hr2.out.trans (if_neg (fun h => h.elim hb h0)))
      clear hb h0
      have fq := fnEq
      go_enter Tryz.func86, Tryz.ntmps86
      go_wp2_with fail
      have c1 := World.cell?_alloc_new w #[.string ⟨[99, 117, 114].toArray⟩, .func (.func 81) #[] #[]] 95 1
      refine (dumpNumber_any val _ (hL1.out _) hl).mono ?_
      rintro x w2 ⟨rfl, hb2⟩
      have c2 : w2.cell? ⟨w.heap.size, 1, none⟩ = some (.func (.func 81) #[] #[]) := cell_later hb2 c1
      have HE2 := Lib.hid ((H1.out _).below hb2)
      have HB2 := Lib.hid (But.of (b := b) (Below.next ((Below.refl _ _).alloc (Nat.le_refl _) _) hb2))
      have c3 := HE2.out.at'.c5
      have f3 := HE2.out.free 5
      clear hb2 c1
      go_wp2_with fail
      refine (hF.out _).mono ?_
      rintro x w3 ⟨rfl, rfl⟩
      go_wp2
      go_ret
      exact ⟨by rw [hs.out]; rfl, by rw [hs2.out]; exact HE2.out.put 5 _ rfl, HB2.out.set 5 _⟩

set_option maxHeartbeats 2000000 in
theorem value_5 (val : List UInt8) (b : Nat) (e : Ev) (w : World) (hE : EvBlk w b e) (hL : LibV w) (hl : val.length ≤ 281474976710656) :
    Calls Tryz.prog 86 #[.agg #[.string ⟨(keyS 5).toArray⟩, fnV 5], .string ⟨val.toArray⟩, .pointer (some ⟨b, 0, none⟩)] w fun x w' => x = .returned (.int .i64 (valueErr 5 val)) ∧ EvBlk w' b (valueEv 5 val e) ∧ But b w w' := by
  rw [show keyS 5 = [116, 97, 120] from rfl, show fnV 5 = Value.func (.func 82) #[] #[] from rfl]
  have hE1 : ∀ C, EvBlk (w.alloc C) b e := fun C => hE.below ((Below.refl _ _).alloc (Nat.le_refl _) _)
  have H1 := Lib.hid hE1
  have hL1 := Lib.hid (show ∀ C, LibV (w.alloc C) from fun C => hL.below ((Below.refl _ _).alloc (Nat.le_refl _) _))
  have hr := Lib.hid (show valueErr 5 val = if numErr val ≠ 0 ∨ numVal val = 0 then 101 else 0 from rfl)
  have hr2 := Lib.hid (show valueEv 5 val e = if numErr val ≠ 0 ∨ numVal val = 0 then e else setKey e 5 (numVal val) from rfl)
  have hF := Lib.hid (keyFn5 b)
  clear hE hE1 hL
  by_cases hb : numErr val ≠ 0
  · have k1 : (numErr val != 0) = true := by rw [bne_iff_ne]; exact hb
    have hs := Lib.hid (hr.out.trans (if_pos (.inl hb)))
    have hs2 := Lib.hid (hr2.out.trans (if_pos (.inl hb)))
    clear hb
    have fq := fnEq
    go_enter Tryz.func86, Tryz.ntmps86
    go_wp2_with fail
    refine (dumpNumber_any val _ (hL1.out _) hl).mono ?_
    rintro x w2 ⟨rfl, hb2⟩
    go_wp2
    go_ret
    exact ⟨by rw [hs.out]; rfl, by rw [hs2.out]; exact (H1.out _).below hb2, But.of (Below.next ((Below.refl _ _).alloc (Nat.le_refl _) _) hb2)⟩
  · have k1 : (numErr val != 0) = false := by rw [bne_eq_false_iff_eq]; exact Classical.byContradiction fun h => hb h
    by_cases h0 : numVal val = 0
    · have k2 : (numVal val == 0) = true := by rw [beq_iff_eq]; exact h0
      have hs := Lib.hid (hr.out.trans (if_pos (.inr h0)))
      have hs2 := Lib.hid (hr2.out.trans (if_pos (.inr h0)))
      clear hb h0
      have fq := fnEq
      go_enter Tryz.func86, Tryz.ntmps86
      go_wp2_with fail
      refine (dumpNumber_any val _ (hL1.out _) hl).mono ?_
      rintro x w2 ⟨rfl, hb2⟩
      go_wp2
      go_ret
      exact ⟨by rw [hs.out]; rfl, by rw [hs2.out]; exact (H1.out _).below hb2, But.of (Below.next ((Below.refl _ _).alloc (Nat.le_refl _) _) hb2)⟩
    · have k2 : (numVal val == 0) = false := by rw [beq_eq_false_iff_ne]; exact h0
      have hs := Lib.hid (hr.out.trans (if_neg (fun h => h.elim hb h0)))
      have hs2 := Lib.hid (hr2.out.trans (if_neg (fun h => h.elim hb h0)))
      clear hb h0
      have fq := fnEq
      go_enter Tryz.func86, Tryz.ntmps86
      go_wp2_with fail
      have c1 := World.cell?_alloc_new w #[.string ⟨[116, 97, 120].toArray⟩, .func (.func 82) #[] #[]] 95 1
      refine (dumpNumber_any val _ (hL1.out _) hl).mono ?_
      rintro x w2 ⟨rfl, hb2⟩
      have c2 : w2.cell? ⟨w.heap.size, 1, none⟩ = some (.func (.func 82) #[] #[]) := cell_later hb2 c1
      have HE2 := Lib.hid ((H1.out _).below hb2)
      have HB2 := Lib.hid (But.of (b := b) (Below.next ((Below.refl _ _).alloc (Nat.le_refl _) _) hb2))
      have c3 := HE2.out.at'.c6
      have f3 := HE2.out.free 6
      clear hb2 c1
      go_wp2_with fail
      refine (hF.out _).mono ?_
      rintro x w3 ⟨rfl, rfl⟩
      go_wp2
      go_ret
      exact ⟨by rw [hs.out]; rfl, by rw [hs2.out]; exact HE2.out.put 6 _ rfl, HB2.out.set 6 _⟩

set_option maxHeartbeats 2000000 in
theorem value_7 (val : List UInt8) (b : Nat) (e : Ev) (w : World) (hE : EvBlk w b e) (hL : LibV w) (hl : val.length ≤ 281474976710656) :
    Calls Tryz.prog 86 #[.agg #[.string ⟨(keyS 7).toArray⟩, fnV 7], .string ⟨val.toArray⟩, .pointer (some ⟨b, 0, none⟩)] w fun x w' => x = .returned (.int .i64 (valueErr 7 val)) ∧ EvBlk w' b (valueEv 7 val e) ∧ But b w w' := by
  rw [show keyS 7 = [115, 116, 97, 109, 112] from rfl, show fnV 7 = Value.func (.func 83) #[] #[] from rfl]
  have hE1 : ∀ C, EvBlk (w.alloc C) b e := fun C => hE.below ((Below.refl _ _).alloc (Nat.le_refl _) _)
  have H1 := Lib.hid hE1
  have hL1 := Lib.hid (show ∀ C, LibV (w.alloc C) from fun C => hL.below ((Below.refl _ _).alloc (Nat.le_refl _) _))
  have hr := Lib.hid (show valueErr 7 val = if numErr val ≠ 0 ∨ numVal val = 0 then 101 else 0 from rfl)
  have hr2 := Lib.hid (show valueEv 7 val e = if numErr val ≠ 0 ∨ numVal val = 0 then e else setKey e 7 (numVal val) from rfl)
  have hF := Lib.hid (keyFn7 b)
  clear hE hE1 hL
  by_cases hb : numErr val ≠ 0
  · have k1 : (numErr val != 0) = true := by rw [bne_iff_ne]; exact hb
    have hs := Lib.hid (hr.out.trans (if_pos (.inl hb)))
    have hs2 := Lib.hid (hr2.out.trans (if_pos (.inl hb)))
    clear hb
    have fq := fnEq
    go_enter Tryz.func86, Tryz.ntmps86
    go_wp2_with fail
    refine (dumpNumber_any val _ (hL1.out _) hl).mono ?_
    rintro x w2 ⟨rfl, hb2⟩
    go_wp2
    go_ret
    exact ⟨by rw [hs.out]; rfl, by rw [hs2.out]; exact (H1.out _).below hb2, But.of (Below.next ((Below.refl _ _).alloc (Nat.le_refl _) _) hb2)⟩
  · have k1 : (numErr val != 0) = false := by rw [bne_eq_false_iff_eq]; exact Classical.byContradiction fun h => hb h
    by_cases h0 : numVal val = 0
    · have k2 : (numVal val == 0) = true := by rw [beq_iff_eq]; exact h0
      have hs := Lib.hid (hr.out.trans (if_pos (.inr h0)))
      have hs2 := Lib.hid (hr2.out.trans (if_pos (.inr h0)))
      clear hb h0
      have fq := fnEq
      go_enter Tryz.func86, Tryz.ntmps86
      go_wp2_with fail
      refine (dumpNumber_any val _ (hL1.out _) hl).mono ?_
      rintro x w2 ⟨rfl, hb2⟩
      go_wp2
      go_ret
      exact ⟨by rw [hs.out]; rfl, by rw [hs2.out]; exact (H1.out _).below hb2, But.of (Below.next ((Below.refl _ _).alloc (Nat.le_refl _) _) hb2)⟩
    · have k2 : (numVal val == 0) = false := by rw [beq_eq_false_iff_ne]; exact h0
      have hs := Lib.hid (hr.out.trans (if_neg (fun h => h.elim hb h0)))
      have hs2 := Lib.hid (hr2.out.trans (if_neg (fun h => h.elim hb h0)))
      clear hb h0
      have fq := fnEq
      go_enter Tryz.func86, Tryz.ntmps86
      go_wp2_with fail
      have c1 := World.cell?_alloc_new w #[.string ⟨[115, 116, 97, 109, 112].toArray⟩, .func (.func 83) #[] #[]] 95 1
      refine (dumpNumber_any val _ (hL1.out _) hl).mono ?_
      rintro x w2 ⟨rfl, hb2⟩
      have c2 : w2.cell? ⟨w.heap.size, 1, none⟩ = some (.func (.func 83) #[] #[]) := cell_later hb2 c1
      have HE2 := Lib.hid ((H1.out _).below hb2)
      have HB2 := Lib.hid (But.of (b := b) (Below.next ((Below.refl _ _).alloc (Nat.le_refl _) _) hb2))
      have c3 := HE2.out.at'.c8
      have f3 := HE2.out.free 8
      clear hb2 c1
      go_wp2_with fail
      refine (hF.out _).mono ?_
      rintro x w3 ⟨rfl, rfl⟩
      go_wp2
      go_ret
      exact ⟨by rw [hs.out]; rfl, by rw [hs2.out]; exact HE2.out.put 8 _ rfl, HB2.out.set 8 _⟩

theorem value_any (k : Nat) (hk : k < 8) (val : List UInt8) (b : Nat) (e : Ev) (w : World) (hE : EvBlk w b e) (hL : LibV w) (hl : val.length ≤ 281474976710656) :
    Calls Tryz.prog 86 #[.agg #[.string ⟨(keyS k).toArray⟩, fnV k], .string ⟨val.toArray⟩, .pointer (some ⟨b, 0, none⟩)] w fun x w' => x = .returned (.int .i64 (valueErr k val)) ∧ EvBlk w' b (valueEv k val e) ∧ But b w w' := by
  match k, hk with
  | 0, _ => exact value_0 val b e w hE hL hl
  | 1, _ => exact value_1 val b e w hE hL hl
  | 2, _ => exact value_2 val b e w hE hL hl
  | 3, _ => exact value_3 val b e w hE hL hl
  | 4, _ => exact value_4 val b e w hE hL hl
  | 5, _ => exact value_5 val b e w hE hL hl
  | 6, _ => exact value_who val b e w hE
  | 7, _ => exact value_7 val b e w hE hL hl

end Go.Proofs.YtecmpmnidlfgnaaGreatDoor
