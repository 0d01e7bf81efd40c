import Derived.Test.YtlobohpbgghleaaGreatDoorDiskOps
import Derived.Test.YtlobohpbgghleaaGreatDoorTk
import Derived.Maps.OwnSet
import Derived.Deep.AppendSrc
import Derived.Deep.Upon
import Derived.StringKeys
namespace Go.Proofs.YtlobohpbgghleaaGreatDoor
open Go.RowKit
open Go.Maps (Keyed string_keyed)

/-! ## a disk in memory -/

/-- what may turn between two worlds: the blocks of S, and new ones -/
structure Turned (S : Nat → Prop) (w w' : World) : Prop where
  os : w'.os = w.os
  tape : w'.tape = w.tape
  output : w'.output = w.output
  size : w.heap.size ≤ w'.heap.size
  block : ∀ k, k < w.heap.size → ¬ S k → w'.heap[k]? = w.heap[k]?
theorem Turned.refl (S : Nat → Prop) (w : World) : Turned S w w := ⟨rfl, rfl, rfl, Nat.le_refl _, fun _ _ _ => rfl⟩
theorem Turned.below {S : Nat → Prop} {w w' : World} (h : Below w.heap.size w w') : Turned S w w' := ⟨h.os, h.tape, h.output, h.size, fun k hk _ => h.block k hk⟩
theorem Turned.trans {S S' : Nat → Prop} {a b c : World} (h : Turned S a b) (k : Turned S' b c) (hs : ∀ i, S' i → S i ∨ a.heap.size ≤ i) : Turned S a c :=
  ⟨k.os.trans h.os, k.tape.trans h.tape, k.output.trans h.output, Nat.le_trans h.size k.size, fun i hi hn => (k.block i (Nat.lt_of_lt_of_le hi h.size) fun hS => by
    rcases hs i hS with h1 | h1
    · exact hn h1
    · omega).trans (h.block i hi hn)⟩
theorem Turned.mono {S S' : Nat → Prop} {w w' : World} (h : Turned S w w') (hs : ∀ i, S i → S' i) : Turned S' w w' := ⟨h.os, h.tape, h.output, h.size, fun k hk hn => h.block k hk fun hS => hn (hs k hS)⟩
theorem Turned.grown {S : Nat → Prop} {w w' : World} {row : Option Nat} (h : w.grownBy w' row) (hr : ∀ k, row = some k → S k) : Turned S w w' :=
  ⟨h.os, h.tape, h.output, h.size, fun k hk hn => h.block k hk fun e => hn (hr k e.symm)⟩
theorem Turned.setCell {S : Nat → Prop} (w : World) (a : Addr) (v : Value) (hS : S a.block) : Turned S w (w.setCell a v) :=
  ⟨rfl, rfl, rfl, by simp [World.setCell], fun k _ hn => by
    simp only [World.setCell]
    rw [Array.getElem?_modify, if_neg (fun e => hn (by rw [← e]; exact hS))]⟩
theorem Turned.cell {S : Nat → Prop} {w w' : World} (h : Turned S w w') {a : Addr} {v : Value} (hc : w.cell? a = some v) (hn : ¬ S a.block) : w'.cell? a = some v := by
  rw [World.cell?_of_block (h.block a.block (by
    unfold World.cell? at hc
    rcases hx : w.heap[a.block]? with _ | x
    · rw [hx] at hc; simp at hc
    · exact (Array.getElem?_eq_some_iff.1 hx).1) hn)]
  exact hc

/-- the block of a data slice that has room; one without room has none of its own -/
def datBlk : Value → Option Nat
  | .slice (some a) _ cap => if cap = 0 then none else some a.block
  | _ => none
/-- a file's bytes: its own row (at the row's head), or nothing at all -/
def DatAt (w : World) (v : Value) (l : List UInt8) : Prop :=
  (l = [] ∧ ∃ ao, v = .slice ao 0 0) ∨
  ∃ g cap cur, v = .slice (some ⟨g, 0, none⟩) l.length cap ∧ 0 < cap ∧ w.heap[g]? = some (.cells cur 5 (0, 0)) ∧ l.length ≤ cap ∧ cap ≤ maxLen ∧ cap ≤ cur.size ∧ cur.toList.take l.length = Lib.byteCells l
theorem DatAt.shape {w : World} {v : Value} {l : List UInt8} (h : DatAt w v l) : ∃ ao cap, v = .slice ao l.length cap ∧ l.length ≤ cap ∧ cap ≤ maxLen := by
  rcases h with ⟨rfl, ao, rfl⟩ | ⟨g, cap, cur, rfl, _, _, h1, h2, _⟩
  · exact ⟨ao, 0, rfl, Nat.le_refl _, by decide⟩
  · exact ⟨_, cap, rfl, h1, h2⟩
theorem DatAt.lt {w : World} {v : Value} {l : List UInt8} (h : DatAt w v l) {g : Nat} (hg : datBlk v = some g) : g < w.heap.size := by
  rcases h with ⟨rfl, ao, rfl⟩ | ⟨g', cap, cur, rfl, h0, h1, _⟩
  · cases ao <;> simp [datBlk] at hg
  · simp only [datBlk, if_neg (show ¬ cap = 0 by omega), Option.some.injEq] at hg
    subst hg
    exact (Array.getElem?_eq_some_iff.1 h1).1
theorem DatAt.kept {w w' : World} {v : Value} {l : List UInt8} (h : DatAt w v l) (hk : ∀ g, datBlk v = some g → w'.heap[g]? = w.heap[g]?) : DatAt w' v l := by
  rcases h with h | ⟨g, cap, cur, rfl, h0, h1, h2, h3, h4⟩
  · exact .inl h
  · exact .inr ⟨g, cap, cur, rfl, h0, by rw [hk g (by simp only [datBlk, if_neg (show ¬ cap = 0 by omega)])]; exact h1, h2, h3, h4⟩
theorem DatAt.brow {w : World} {v : Value} {l : List UInt8} (h : DatAt w v l) : BRow w v l := by
  rcases h with ⟨rfl, ao, rfl⟩ | ⟨g, cap, cur, rfl, h0, h1, h2, h3, h4, h5⟩
  · exact ⟨ao, 0, rfl, Nat.le_refl _, fun h => absurd rfl h⟩
  · refine ⟨_, cap, rfl, h2, fun _ => ⟨g, 0, rfl, fun i x hi => ?_⟩⟩
    have hl := getElem?_lt hi
    have e : cur.toList[i]? = some (.int .u8 (x.toNat : Int)) := by
      rw [← List.getElem?_take_of_lt hl, h5, Lib.byteCells, List.getElem?_map, hi]; rfl
    rw [Nat.zero_add]
    simp only [World.cell?, h1]
    simpa using e
theorem datAt_own {w : World} {B : Nat} {v : Value} {l : List UInt8} (h : w.ownsRow B 5 1 v l.length (Lib.byteCells l)) : DatAt w v l ∧ ∀ g, datBlk v = some g → B ≤ g := by
  rcases h.2 with ⟨rfl, hn⟩ | ⟨g, cap, cur, rfl, hb, h1, h2, h3, h4, h5⟩
  · exact ⟨.inl ⟨List.length_eq_zero_iff.1 hn, none, rfl⟩, fun g h => by simp [datBlk] at h⟩
  · by_cases hc : cap = 0
    · subst hc
      have : l.length = 0 := by omega
      exact ⟨.inl ⟨List.length_eq_zero_iff.1 this, _, by rw [this]⟩, fun g h => by simp [datBlk] at h⟩
    · refine ⟨.inr ⟨g, cap, cur, rfl, by omega, h1, h2, h3, by omega, by rw [Nat.mul_one] at h5; exact h5⟩, fun k h => ?_⟩
      simp only [datBlk, if_neg hc, Option.some.injEq] at h
      omega
theorem datAt_cut {w : World} {v : Value} {l : List UInt8} (h : DatAt w v l) (n : Nat) (hn : n ≤ l.length) : ∃ ao cap, v = .slice ao l.length cap ∧ DatAt w (.slice ao n n) (l.take n) ∧ (∀ g, datBlk (.slice ao n n) = some g → datBlk v = some g) := by
  rcases h with ⟨rfl, ao, rfl⟩ | ⟨g, cap, cur, rfl, h0, h1, h2, h3, h4, h5⟩
  · have : n = 0 := by simpa using hn
    subst this
    exact ⟨ao, 0, rfl, .inl ⟨by simp, ao, rfl⟩, fun g h => h⟩
  · refine ⟨_, cap, rfl, ?_, fun k hk => ?_⟩
    · by_cases hz : n = 0
      · subst hz
        exact .inl ⟨by simp, _, rfl⟩
      · have hl : (l.take n).length = n := by simp; omega
        refine .inr ⟨g, n, cur, by rw [hl], by omega, h1, by omega, by omega, by omega, ?_⟩
        rw [hl]
        have : (cur.toList.take l.length).take n = (Lib.byteCells l).take n := by rw [h5]
        rw [List.take_take, Nat.min_eq_left hn] at this
        rw [this, Lib.byteCells, Lib.byteCells, List.map_take]
    · by_cases hz : n = 0
      · simp [datBlk, hz] at hk
      · simp only [datBlk, if_neg hz, Option.some.injEq] at hk
        simp only [datBlk, if_neg (show ¬ cap = 0 by omega), hk]
theorem byteCells_append (a b : List UInt8) : Lib.byteCells (a ++ b) = Lib.byteCells a ++ Lib.byteCells b := by simp [Lib.byteCells]
theorem byteCells_len (a : List UInt8) : (Lib.byteCells a).length = a.length := by simp [Lib.byteCells]
theorem byteCells_one (a : List UInt8) : ∀ u ∈ Lib.byteCells a, u.oneCell' = true := fun u hu => by
  obtain ⟨_, _, rfl⟩ := List.mem_map.1 hu
  rfl
theorem src_brow {w : World} {v : Value} {l : List UInt8} (h : BRow w v l) : Src Tryz.prog 1 47 v l.length (Lib.byteCells l) w := by
  obtain ⟨oa, cap, rfl, h1, h2⟩ := h
  by_cases hl : l = []
  · subst hl
    rcases oa with _ | a
    · exact Src.ofNil w Tryz.underlying47 cap
    · exact Src.ofSlice w Tryz.underlying47 a 0 cap [] rfl (fun _ _ h => by simp at h) (fun _ h => by cases h)
  · obtain ⟨b, off, rfl, hc⟩ := h2 hl
    refine Src.ofSlice w Tryz.underlying47 ⟨b, off, none⟩ l.length cap (Lib.byteCells l) (by rw [byteCells_len]; omega) (fun j u hj => ?_) (byteCells_one l)
    rw [addr_add]
    rw [Lib.byteCells, List.getElem?_map] at hj
    obtain ⟨x, hx, rfl⟩ := Option.map_eq_some_iff.1 hj
    exact hc j x hx
/-- 'append(data, b...)' -/
theorem append_dat {w : World} {v x : Value} {l m : List UInt8} (h : DatAt w v l) (hx : BRow w x m) (hl : l.length + m.length ≤ 140737488355328) (ty : TypeId) :
    ∃ v' w', (Builtin.append_ #[47, 47] ty #[v, x]).run Tryz.prog w = .ok v' w' ∧ DatAt w' v' (l ++ m) ∧ w.grownBy w' (datBlk v) ∧ (∀ g, datBlk v' = some g → datBlk v = some g ∨ g = w.heap.size) ∧ v'.oneCell' = true := by
  obtain ⟨i0, hi, hz0, hz1, hz2⟩ := info_parts infoByteB
  have hs := src_brow hx
  by_cases hm : m = []
  · subst hm
    obtain ⟨ao, cap, rfl, hc, _⟩ := h.shape
    exact ⟨_, w, run_append_nothing w 47 47 ty 5 i0 Tryz.underlying47 hi ao l.length cap hc x (by rw [hz1]; exact hs), by rw [List.append_nil]; exact h, ⟨rfl, rfl, rfl, Nat.le_refl _, fun _ _ _ => rfl⟩, fun g h => .inl h, rfl⟩
  have hmp : 0 < m.length := List.length_pos_iff.2 hm
  -- a new row
  have grow : ∀ (ao : Option Addr) (cap : Nat), v = .slice ao l.length cap → cap < l.length + m.length → (Builtin.firstCells 1 l.length (.slice ao l.length cap)).run Tryz.prog w.drew = .ok (Lib.byteCells l).toArray w.drew →
      ∃ v' w', (Builtin.append_ #[47, 47] ty #[v, x]).run Tryz.prog w = .ok v' w' ∧ DatAt w' v' (l ++ m) ∧ w.grownBy w' (datBlk v) ∧ (∀ g, datBlk v' = some g → datBlk v = some g ∨ g = w.heap.size) ∧ v'.oneCell' = true := by
    rintro ao cap rfl hcap hold
    have hnx := nextslicecap_le hcap
    refine ⟨_, _, run_append_grow_src w 47 47 ty 5 i0 (.int .u8 0) Tryz.underlying47 hi hz0 ao l.length cap (Lib.byteCells l) (by rw [hz1]; exact hold) x m.length (Lib.byteCells m) (by rw [hz1]; exact hs) hcap (by omega) (by rw [hz2]; omega), ?_, ?_, ?_, rfl⟩
    · have hge := grownCap_ge w (l.length + m.length) cap 5
      refine .inr ⟨w.heap.size, _, _, by rw [List.length_append], by omega, heap_alloc_new w.drew _, by rw [List.length_append]; omega, grownCap_le_maxLen w _ _ _ (by unfold maxLen; omega), ?_, ?_⟩
      · simp [Builtin.zeroCells, Value.cells, byteCells_len]
        omega
      · rw [← byteCells_append]
        simp only [Array.toList_append]
        rw [List.take_append_of_le_length (by rw [byteCells_len]; exact Nat.le_refl _)]
        rw [List.take_of_length_le (by rw [byteCells_len]; exact Nat.le_refl _)]
    · exact ⟨rfl, rfl, rfl, by simp, fun k hk _ => heap_alloc_old w.drew _ hk⟩
    · intro g hg
      have hge := grownCap_ge w (l.length + m.length) cap 5
      simp only [datBlk, if_neg (show ¬ grownCap w (l.length + m.length) cap 5 = 0 by omega), Option.some.injEq] at hg
      exact .inr hg.symm
  rcases h with ⟨rfl, ao, rfl⟩ | ⟨g, cap, cur, rfl, h0, h1, h2, h3, h4, h5⟩
  · exact grow ao 0 rfl (by simpa using hmp) (by
      cases ao
      · exact run_firstCells_none w.drew 1 0 0 0
      · simpa [Lib.byteCells] using run_firstCells_some (P := Tryz.prog) w.drew 1 0 _ 0 0 [] rfl (fun _ _ h => by simp at h))
  · have hcur : ∀ j u, (Lib.byteCells l)[j]? = some u → w.cell? ⟨g, j, none⟩ = some u := fun j u hj => by
      have hjl : j < l.length := by have := getElem?_lt hj; rwa [byteCells_len] at this
      rw [← h5, List.getElem?_take_of_lt hjl] at hj
      simp only [World.cell?, h1]
      simpa using hj
    by_cases hroom : l.length + m.length ≤ cap
    · obtain ⟨oa, xc, rfl, _, hxc⟩ := hx
      obtain ⟨b, off, rfl, hc⟩ := hxc hm
      refine ⟨_, _, run_append_room w 47 ty 5 i0 Tryz.underlying47 hi g l.length cap cur h1 ⟨b, off, none⟩ m.length xc (Lib.byteCells m) (by rw [byteCells_len, hz1]; omega) (fun j u hj => ?_) (byteCells_one m) hroom (by rw [byteCells_len, hz1]; omega), ?_, ?_, ?_, rfl⟩
      · rw [addr_add]
        rw [Lib.byteCells, List.getElem?_map] at hj
        obtain ⟨y, hy, rfl⟩ := Option.map_eq_some_iff.1 hj
        exact hc j y hy
      · refine .inr ⟨g, cap, _, by rw [List.length_append], h0, setRow_heap w g _ _ _ _ h1, by rw [List.length_append]; exact hroom, h3, ?_, ?_⟩
        · simp [hz1, byteCells_len]; omega
        · rw [hz1, Nat.mul_one, h5, byteCells_append]
          simp only [List.length_append]
          rw [List.take_append_of_le_length (by simp [byteCells_len])]
          rw [List.take_of_length_le (by simp [byteCells_len])]
      · exact ⟨rfl, rfl, rfl, by simp [World.setRow], fun k hk hne => setRow_other _ _ _ _ fun e => hne (by rw [e]; simp only [datBlk, if_neg (show ¬ cap = 0 by omega)])⟩
      · intro k hk
        exact .inl hk
    · exact grow _ cap rfl (by omega) (by
        exact run_firstCells_some (P := Tryz.prog) w.drew 1 l.length ⟨g, 0, none⟩ l.length cap (Lib.byteCells l) (by rw [byteCells_len]; omega) (fun j u hj => by rw [addr_add, Nat.zero_add]; exact hcur j u hj))

end Go.Proofs.YtlobohpbgghleaaGreatDoor

namespace Go.Proofs.YtlobohpbgghleaaGreatDoor
open Go.RowKit
open Go.Maps (Keyed string_keyed)

/-! ## where a disk's files lie -/

structure Slot where
  fil : Fil
  blk : Nat
  sl : Value
def fils (L : List Slot) : List Fil := L.map (·.fil)
def ents (L : List Slot) : List (Lit × DataW Unit) := L.map fun s => (.string s.fil.name, .lit (.int .u64 (s.blk : Int)))
def slotAt (L : List Slot) (n : List UInt8) : Option Slot := L.find? fun s => s.fil.name == n
def putS (s : Slot) : List Slot → List Slot
  | [] => [s]
  | y :: r => if bytesBefore s.fil.name y.fil.name then s :: y :: r else y :: putS s r
def takeS (n : List UInt8) (L : List Slot) : List Slot := L.filter fun s => !(s.fil.name == n)
def setS (n : List UInt8) (x : Slot) (L : List Slot) : List Slot := L.map fun s => if s.fil.name == n then x else s
theorem fils_put (s : Slot) : ∀ L : List Slot, fils (putS s L) = putF s.fil (fils L)
  | [] => rfl
  | y :: r => by
    have h := fils_put s r
    simp only [fils] at h ⊢
    unfold putS
    rw [List.map_cons, putF]
    split
    · rfl
    · rw [List.map_cons, h]
theorem fils_take (n : List UInt8) : ∀ L : List Slot, fils (takeS n L) = takeF n (fils L)
  | [] => rfl
  | y :: r => by
    have h := fils_take n r
    simp only [fils, takeS, takeF] at h ⊢
    rw [List.filter_cons, List.map_cons, List.filter_cons]
    split
    · rw [List.map_cons, h]
    · exact h
theorem fils_set (n : List UInt8) (x : Slot) (L : List Slot) : fils (setS n x L) = setF n (fun _ => x.fil) (fils L) := by
  simp only [fils, setS, setF, List.map_map]
  refine List.map_congr_left fun s _ => ?_
  simp only [Function.comp]
  split <;> rfl
theorem fils_at (n : List UInt8) : ∀ L : List Slot, atF (fils L) n = (slotAt L n).map (·.fil)
  | [] => rfl
  | y :: r => by
    have h := fils_at n r
    simp only [fils, atF, slotAt] at h ⊢
    rw [List.map_cons, List.find?_cons, List.find?_cons]
    cases y.fil.name == n
    · exact h
    · rfl
theorem slotAt_mem {L : List Slot} {n : List UInt8} {s : Slot} (h : slotAt L n = some s) : s ∈ L ∧ s.fil.name = n :=
  ⟨List.mem_of_find?_eq_some h, by have := List.find?_some h; simpa using this⟩
theorem insert_lt {x y : Lit × DataW Unit} {r : List (Lit × DataW Unit)} (h : x.1.before y.1 = true) : DataW.insert x (y :: r) = x :: y :: r := by rw [DataW.insert, if_pos h]
theorem insert_ge {x y : Lit × DataW Unit} {r : List (Lit × DataW Unit)} (h : x.1.before y.1 = false) : DataW.insert x (y :: r) = y :: DataW.insert x r := by rw [DataW.insert, if_neg (by rw [h]; exact Bool.false_ne_true)]
def ent (s : Slot) : Lit × DataW Unit := (.string s.fil.name, .lit (.int .u64 (s.blk : Int)))
theorem ents_cons (s : Slot) (L : List Slot) : ents (s :: L) = ent s :: ents L := rfl
theorem ents_put' (s : Slot) : ∀ L : List Slot, DataW.insert (ent s) (ents L) = ents (putS s L)
  | [] => rfl
  | y :: r => by
    have h := ents_put' s r
    rcases hb : bytesBefore s.fil.name y.fil.name with _ | _
    · rw [ents_cons, insert_ge (show (ent s).1.before (ent y).1 = false from hb), h, ← ents_cons]
      rw [show putS s (y :: r) = y :: putS s r by rw [putS, if_neg (by rw [hb]; exact Bool.false_ne_true)]]
    · rw [ents_cons, insert_lt (show (ent s).1.before (ent y).1 = true from hb), ← ents_cons, ← ents_cons]
      rw [show putS s (y :: r) = s :: y :: r by rw [putS, if_pos hb]]
theorem ents_put (s : Slot) (L : List Slot) : DataW.insert (.string s.fil.name, .lit (.int .u64 (s.blk : Int))) (ents L) = ents (putS s L) := ents_put' s L
theorem ents_take (n : List UInt8) : ∀ L : List Slot, (ents L).filter (fun p => !p.1.sameKey (.string n)) = ents (takeS n L)
  | [] => rfl
  | y :: r => by
    have h := ents_take n r
    rcases hb : (!(y.fil.name == n)) with _ | _
    · rw [ents_cons, List.filter_cons_of_neg (p := fun p : Lit × DataW Unit => !p.1.sameKey (.string n)) (a := ent y) (show ¬ (!(ent y).1.sameKey (.string n)) = true from fun e => by rw [show (!(ent y).1.sameKey (.string n)) = (!(y.fil.name == n)) from rfl, hb] at e; cases e), h]
      unfold takeS
      rw [List.filter_cons_of_neg (by rw [hb]; exact Bool.false_ne_true)]
    · rw [ents_cons, List.filter_cons_of_pos (p := fun p : Lit × DataW Unit => !p.1.sameKey (.string n)) (a := ent y) (show (!(ent y).1.sameKey (.string n)) = true from hb), h]
      unfold takeS
      rw [List.filter_cons_of_pos (p := fun s : Slot => !(s.fil.name == n)) (a := y) hb]
      rfl
theorem ents_set {n : List UInt8} {x : Slot} : ∀ {L : List Slot}, (∀ s ∈ L, s.fil.name = n → x.fil.name = s.fil.name ∧ x.blk = s.blk) → ents (setS n x L) = ents L := by
  intro L h
  simp only [ents, setS, List.map_map]
  refine List.map_congr_left fun s hs => ?_
  simp only [Function.comp]
  split
  · rename_i hc
    obtain ⟨h1, h2⟩ := h s hs (by simpa using hc)
    rw [h1, h2]
  · rfl
theorem ents_at (n : List UInt8) (z : DataW Unit) : ∀ L : List Slot, (DataW.map (ents L)).atKey (.string n) z = match slotAt L n with | none => z | some s => .lit (.int .u64 (s.blk : Int))
  | [] => rfl
  | y :: r => by
    have h := ents_at n z r
    simp only [ents, slotAt, DataW.atKey] at h ⊢
    rw [List.map_cons, List.find?_cons, List.find?_cons]
    simp only [Lit.sameKey] at h ⊢
    cases y.fil.name == n
    · exact h
    · rfl
theorem ents_length (L : List Slot) : (ents L).length = L.length := by simp [ents]
theorem mem_putS {s x : Slot} : ∀ {L : List Slot}, x ∈ putS s L ↔ x = s ∨ x ∈ L
  | [] => by simp [putS]
  | y :: r => by
    unfold putS
    split
    · simp
    · simp only [List.mem_cons, mem_putS (L := r)]
      constructor
      · rintro (h | h | h)
        · exact .inr (.inl h)
        · exact .inl h
        · exact .inr (.inr h)
      · rintro (h | h | h)
        · exact .inr (.inl h)
        · exact .inl h
        · exact .inr (.inr h)
theorem putS_perm (s : Slot) : ∀ L : List Slot, (putS s L).Perm (s :: L)
  | [] => List.Perm.refl _
  | y :: r => by
    unfold putS
    split
    · exact List.Perm.refl _
    · exact ((putS_perm s r).cons y).trans (List.Perm.swap s y r)
theorem putS_length (s : Slot) (L : List Slot) : (putS s L).length = L.length + 1 := by simpa using (putS_perm s L).length_eq
theorem takeS_length (n : List UInt8) (L : List Slot) : (takeS n L).length ≤ L.length := List.length_filter_le _ _

/-- how a pointer to a file reads as a map's element -/
def ptrElem : Value → Option (DataW Unit × List MemPlace)
  | .pointer none => some (.nil, [])
  | .pointer (some ⟨g, 0, none⟩) => some (.lit (.int .u64 (g : Int)), [])
  | _ => none
theorem ptrElem_nil {v : Value} {ps : List MemPlace} (h : ptrElem v = some (.nil, ps)) : v = .pointer none := by
  unfold ptrElem at h
  split at h
  · rfl
  · simp at h
  · cases h
theorem ptrElem_at {v : Value} {g : Nat} {ps : List MemPlace} (h : ptrElem v = some (.lit (.int .u64 (g : Int)), ps)) : v = .pointer (some ⟨g, 0, none⟩) := by
  unfold ptrElem at h
  split at h
  · simp at h
  · rename_i g'
    simp at h
    have e : g' = g := by omega
    rw [e]
  · cases h

/-- two files lie apart -/
def Far (s t : Slot) : Prop := s.blk ≠ t.blk ∧ datBlk s.sl ≠ some t.blk ∧ datBlk t.sl ≠ some s.blk ∧ ∀ g, datBlk s.sl = some g → datBlk t.sl ≠ some g
theorem Far.symm {s t : Slot} (h : Far s t) : Far t s := ⟨h.1.symm, h.2.2.1, h.2.1, fun g hg ht => h.2.2.2 g ht hg⟩
def fileCs (s : Slot) : Array Value := #[s.sl, .int .i64 s.fil.safe]
/-- a file's block and bytes -/
def SlotAt (w : World) (s : Slot) : Prop := w.heap[s.blk]? = some (.cells (fileCs s) 82 (0, 0)) ∧ DatAt w s.sl s.fil.data
theorem SlotAt.lt {w : World} {s : Slot} (h : SlotAt w s) : s.blk < w.heap.size := (Array.getElem?_eq_some_iff.1 h.1).1
theorem SlotAt.kept {w w' : World} {s : Slot} (h : SlotAt w s) (h1 : w'.heap[s.blk]? = w.heap[s.blk]?) (h2 : ∀ g, datBlk s.sl = some g → w'.heap[g]? = w.heap[g]?) : SlotAt w' s := ⟨by rw [h1]; exact h.1, h.2.kept h2⟩
theorem SlotAt.c0 {w : World} {s : Slot} (h : SlotAt w s) : w.cell? ⟨s.blk, 0, none⟩ = some s.sl := by simp [World.cell?, h.1, fileCs]
theorem SlotAt.c1 {w : World} {s : Slot} (h : SlotAt w s) : w.cell? ⟨s.blk, 1, none⟩ = some (.int .i64 s.fil.safe) := by simp [World.cell?, h.1, fileCs]
theorem SlotAt.free {w : World} {s : Slot} (h : SlotAt w s) (j : Nat) : w.frozen? ⟨s.blk, j, none⟩ = false := by simp [World.frozen?, h.1]
/-- the map and the files -/
structure Body (w : World) (f m : Nat) (L : List Slot) : Prop where
  map : w.ownsMap Tryz.prog 9 ptrElem m L.length (.map (ents L))
  slot : ∀ s ∈ L, SlotAt w s
  rise : Rise (fils L)
  apart : f ≠ m ∧ (∀ s ∈ L, s.blk ≠ f ∧ s.blk ≠ m ∧ datBlk s.sl ≠ some f ∧ datBlk s.sl ≠ some m ∧ datBlk s.sl ≠ some s.blk) ∧ L.Pairwise Far
/-- the blocks of a disk -/
def foot (f m : Nat) (L : List Slot) (k : Nat) : Prop := k = f ∨ k = m ∨ ∃ s ∈ L, k = s.blk ∨ datBlk s.sl = some k
theorem Body.lt {w : World} {f m : Nat} {L : List Slot} (h : Body w f m L) (hf : f < w.heap.size) : ∀ k, foot f m L k → k < w.heap.size := by
  rintro k (rfl | rfl | ⟨s, hs, rfl | hk⟩)
  · exact hf
  · exact h.map.lt
  · exact (h.slot s hs).lt
  · exact (h.slot s hs).2.lt hk
theorem Body.kept {w w' : World} {f m : Nat} {L : List Slot} (h : Body w f m L) (hk : ∀ k, k ≠ f → foot f m L k → w'.heap[k]? = w.heap[k]?) : Body w' f m L := by
  refine ⟨?_, fun s hs => ?_, h.rise, h.apart⟩
  · obtain ⟨es, clock, hb, r⟩ := h.map
    exact ⟨es, clock, by rw [hk m h.apart.1.symm (.inr (.inl rfl))]; exact hb, r⟩
  · obtain ⟨h1, h2, h3, h4, h5⟩ := h.apart.2.1 s hs
    exact (h.slot s hs).kept (hk _ h1 (.inr (.inr ⟨s, hs, .inl rfl⟩))) fun g hg => hk g (fun e => h3 (by rw [← e]; exact hg)) (.inr (.inr ⟨s, hs, .inr hg⟩))
theorem Body.below {w w' : World} {f m : Nat} {L : List Slot} (h : Body w f m L) (hf : f < w.heap.size) (hb : Below w.heap.size w w') : Body w' f m L := h.kept fun k _ hk => hb.block k (h.lt hf k hk)
theorem Body.turned {w w' : World} {f m : Nat} {L : List Slot} {S : Nat → Prop} (h : Body w f m L) (hf : f < w.heap.size) (ht : Turned S w w') (hS : ∀ k, k ≠ f → foot f m L k → ¬ S k) : Body w' f m L := h.kept fun k hk hfoot => ht.block k (h.lt hf k hfoot) (hS k hk hfoot)
theorem Body.one {w : World} {f m : Nat} {L : List Slot} (h : Body w f m L) {n : List UInt8} {s t : Slot} (hs : slotAt L n = some s) (ht : t ∈ L) (hn : t.fil.name = n) : t = s := by
  have hr := h.rise
  clear h
  induction L with
  | nil => cases ht
  | cons y r ih =>
    simp only [fils, List.map_cons] at hr
    obtain ⟨h1, h2⟩ := List.pairwise_cons.1 hr
    unfold slotAt at hs
    rw [List.find?_cons] at hs
    by_cases hy : y.fil.name = n
    · rw [show (y.fil.name == n) = true by simpa using hy] at hs
      simp only [Option.some.injEq] at hs
      rcases List.mem_cons.1 ht with rfl | ht
      · exact hs
      · exact absurd (hy.trans hn.symm) (bytes_ne (h1 t.fil (List.mem_map.2 ⟨t, ht, rfl⟩)))
    · rw [show (y.fil.name == n) = false by simpa using hy] at hs
      rcases List.mem_cons.1 ht with rfl | ht
      · exact absurd hn hy
      · exact ih hs ht h2
theorem setS_mem {n : List UInt8} {x t : Slot} {L : List Slot} (h : t ∈ setS n x L) : (t = x ∧ ∃ s ∈ L, s.fil.name = n) ∨ (t ∈ L ∧ t.fil.name ≠ n) := by
  obtain ⟨s, hs, rfl⟩ := List.mem_map.1 h
  by_cases hc : s.fil.name = n
  · rw [show (s.fil.name == n) = true by simpa using hc]
    exact .inl ⟨rfl, s, hs, hc⟩
  · rw [show (s.fil.name == n) = false by simpa using hc]
    exact .inr ⟨hs, hc⟩
/-- one file turned in its place -/
theorem Body.set {w w' : World} {f m : Nat} {L : List Slot} {n : List UInt8} {s x : Slot} (h : Body w f m L) (hf : f < w.heap.size) (hs : slotAt L n = some s) (hn : x.fil.name = n) (hb : x.blk = s.blk) (hx : SlotAt w' x)
    (hd : ∀ g, datBlk x.sl = some g → datBlk s.sl = some g ∨ w.heap.size ≤ g) (hk : ∀ k, k ≠ f → k ≠ s.blk → datBlk s.sl ≠ some k → k < w.heap.size → w'.heap[k]? = w.heap[k]?) : Body w' f m (setS n x L) := by
  obtain ⟨hsm, hsn⟩ := slotAt_mem hs
  have hen : ents (setS n x L) = ents L := ents_set fun t ht hnt => by
    obtain rfl := h.one hs ht hnt
    exact ⟨hn.trans hnt.symm, hb⟩
  obtain ⟨a1, a2, a3⟩ := h.apart
  obtain ⟨b1, b2, b3, b4, b5⟩ := a2 s hsm
  have hfar : ∀ t ∈ L, t.fil.name ≠ n → Far s t := fun t ht hnt => by
    obtain ⟨i, hi⟩ := List.getElem?_of_mem ht
    obtain ⟨j, hj⟩ := List.getElem?_of_mem hsm
    have hij : i ≠ j := fun e => hnt (by rw [e, hj] at hi; cases hi; exact hsn)
    have hi' := List.getElem?_eq_some_iff.1 hi
    have hj' := List.getElem?_eq_some_iff.1 hj
    rcases Nat.lt_or_gt_of_ne hij with hlt | hlt
    · have hF := List.pairwise_iff_getElem.1 a3 i j hi'.1 hj'.1 hlt
      rw [hi'.2, hj'.2] at hF
      exact hF.symm
    · have hF := List.pairwise_iff_getElem.1 a3 j i hj'.1 hi'.1 hlt
      rw [hi'.2, hj'.2] at hF
      exact hF
  have hxfar : ∀ t ∈ L, t.fil.name ≠ n → Far x t := fun t ht hnt => by
    obtain ⟨c1, c2, c3, c4⟩ := hfar t ht hnt
    have ht1 := (h.slot t ht).lt
    refine ⟨by rw [hb]; exact c1, fun e => ?_, by rw [hb]; exact c3, fun g hg e => ?_⟩
    · rcases hd _ e with h1 | h1
      · exact c2 h1
      · omega
    · rcases hd _ hg with h1 | h1
      · exact c4 g h1 e
      · have := (h.slot t ht).2.lt e; omega
  have hlen : (setS n x L).length = L.length := by simp [setS]
  refine ⟨?_, fun t ht => ?_, ?_, a1, fun t ht => ?_, ?_⟩
  · rw [hen, hlen]
    obtain ⟨es, clock, hbm, r⟩ := h.map
    exact ⟨es, clock, by rw [hk m a1.symm b2.symm b4 h.map.lt]; exact hbm, r⟩
  · rcases setS_mem ht with ⟨rfl, _⟩ | ⟨ht, hnt⟩
    · exact hx
    · obtain ⟨c1, c2, c3, c4⟩ := hfar t ht hnt
      obtain ⟨d1, d2, d3, d4, d5⟩ := a2 t ht
      exact (h.slot t ht).kept (hk _ d1 c1.symm (fun e => c2 e) (h.slot t ht).lt) fun g hg => hk g (fun e => d3 (by rw [← e]; exact hg)) (fun e => c3 (by rw [← e]; exact hg)) (fun e => c4 g e hg) ((h.slot t ht).2.lt hg)
  · rw [fils_set]
    refine rise_set' (n := n) h.rise fun y hy hyn => ?_
    show x.fil.name = y.name
    rw [hn]; exact hyn
  · rcases setS_mem ht with ⟨rfl, _⟩ | ⟨ht, hnt⟩
    · rw [hb]
      refine ⟨b1, b2, fun e => ?_, fun e => ?_, fun e => ?_⟩
      · rcases hd _ e with h1 | h1
        · exact b3 h1
        · omega
      · rcases hd _ e with h1 | h1
        · exact b4 h1
        · have := h.map.lt; omega
      · rcases hd _ e with h1 | h1
        · exact b5 h1
        · have := (h.slot s hsm).lt; omega
    · exact a2 t ht
  · unfold setS
    rw [List.pairwise_map]
    have hnames : L.Pairwise fun a b => a.fil.name ≠ b.fil.name := by
      have := h.rise
      unfold Rise fils at this
      rw [List.pairwise_map] at this
      exact this.imp fun hab => bytes_ne hab
    refine (a3.and hnames).imp_of_mem fun {a b} ha hb' hab => ?_
    obtain ⟨hF, hne⟩ := hab
    by_cases h1 : a.fil.name = n
    · have h2 : b.fil.name ≠ n := fun e => hne (h1.trans e.symm)
      rw [show (a.fil.name == n) = true by simpa using h1, show (b.fil.name == n) = false by simpa using h2]
      exact hxfar b hb' h2
    · rw [show (a.fil.name == n) = false by simpa using h1]
      by_cases h2 : b.fil.name = n
      · rw [show (b.fil.name == n) = true by simpa using h2]
        exact (hxfar a ha h1).symm
      · rw [show (b.fil.name == n) = false by simpa using h2]
        exact hF
theorem keyName {n : List UInt8} (hn : n.length ≤ 1000) : keyOf Tryz.prog 9 (.string ⟨n.toArray⟩) = some (.string n) := by
  have := WideMaps.keyOf_string_mk (P := Tryz.prog) Tryz.underlying9 (s := ⟨n.toArray⟩) (by simp [ByteArray.size, maxLen]; omega)
  simpa using this
/-- the map's bound is the number of its entries -/
theorem owns_tight {w : World} {m n : Nat} {es : List (Lit × DataW Unit)} (h : w.ownsMap Tryz.prog 9 ptrElem m n (.map es)) : w.ownsMap Tryz.prog 9 ptrElem m es.length (.map es) := by
  obtain ⟨e, clock, hb, F, _, hD⟩ := h
  refine ⟨e, clock, hb, F, ?_, hD⟩
  have := congrArg (fun d : DataW Unit => match d with | .map l => l.length | _ => 0) hD
  simp only [length_sorted] at this
  rw [this]
  simp
/-- 'm[n] = x' -/
theorem Body.put {w : World} {f m : Nat} {L : List Slot} {s : Slot} (h : Body w f m L) (hn : s.fil.name.length ≤ 1000) (hL : L.length ≤ 1000000) (hx : SlotAt w s)
    (h1 : s.blk ≠ f ∧ s.blk ≠ m ∧ datBlk s.sl ≠ some f ∧ datBlk s.sl ≠ some m ∧ datBlk s.sl ≠ some s.blk) (h2 : ∀ t ∈ takeS s.fil.name L, Far s t) :
    ∃ w', (Instr.mapUpdate 77 (.map (some m)) (.string ⟨s.fil.name.toArray⟩) (.pointer (some ⟨s.blk, 0, none⟩))).run Tryz.prog w = .ok () w' ∧ Body w' f m (putS s (takeS s.fil.name L)) ∧ w.grownBy w' (some m) := by
  obtain ⟨w', hrun, hown, hturn⟩ := h.map.store (string_keyed Tryz.underlying9) Tryz.underlying77 (by unfold maxLen; omega) (keyName hn) (show ptrElem (.pointer (some ⟨s.blk, 0, none⟩)) = some (.lit (.int .u64 (s.blk : Int)), []) from rfl)
  have hg := hturn.grown
  have hother : ∀ k, k < w.heap.size → k ≠ m → w'.heap[k]? = w.heap[k]? := fun k hk hne => hg.block k hk (by simpa using hne)
  obtain ⟨a1, a2, a3⟩ := h.apart
  refine ⟨w', hrun, ⟨?_, fun t ht => ?_, ?_, a1, fun t ht => ?_, ?_⟩, hg⟩
  · rw [DataW.put_eq] at hown
    have e : ChangeMaps.putKey (.string s.fil.name) (.lit (.int .u64 (s.blk : Int))) (ents L) = ents (putS s (takeS s.fil.name L)) := by
      unfold ChangeMaps.putKey
      rw [show (ents L).filter (ChangeMaps.notKey (.string s.fil.name)) = ents (takeS s.fil.name L) from ents_take _ L]
      exact ents_put s _
    rw [e] at hown
    have := owns_tight hown
    rwa [ents_length] at this
  · rcases mem_putS.1 ht with rfl | ht
    · exact hx.kept (hother _ hx.lt h1.2.1) fun g hg' => hother g (hx.2.lt hg') fun e => h1.2.2.2.1 (by rw [← e]; exact hg')
    · have ht' := (List.mem_filter.1 ht).1
      obtain ⟨b1, b2, b3, b4, b5⟩ := a2 t ht'
      exact (h.slot t ht').kept (hother _ (h.slot t ht').lt b2) fun g hg' => hother g ((h.slot t ht').2.lt hg') fun e => b4 (by rw [← e]; exact hg')
  · rw [fils_put, fils_take]
    refine rise_put (rise_take h.rise) fun x hx' => ?_
    have := (List.mem_filter.1 hx').2
    simpa using this
  · rcases mem_putS.1 ht with rfl | ht
    · exact h1
    · exact a2 t (List.mem_filter.1 ht).1
  · refine ((putS_perm s _).symm.pairwise_iff (fun {_ _} hab => Far.symm hab)).1 ?_
    exact List.pairwise_cons.2 ⟨h2, a3.sublist List.filter_sublist⟩
/-- 'delete(m, n)' -/
theorem Body.take {w : World} {f m : Nat} {L : List Slot} {n : List UInt8} (h : Body w f m L) (hn : n.length ≤ 1000) (ty : TypeId) :
    ∃ w', (Builtin.delete_ #[77, 9] ty #[.map (some m), .string ⟨n.toArray⟩]).run Tryz.prog w = .ok (.tuple #[]) w' ∧ Body w' f m (takeS n L) ∧ w.grownBy w' (some m) := by
  obtain ⟨w', hrun, hown, hturn⟩ := h.map.drop (string_keyed Tryz.underlying9) Tryz.underlying77 (keyName hn) ty
  have hg := hturn.grown
  have hother : ∀ k, k < w.heap.size → k ≠ m → w'.heap[k]? = w.heap[k]? := fun k hk hne => hg.block k hk (by simpa using hne)
  obtain ⟨a1, a2, a3⟩ := h.apart
  refine ⟨w', hrun, ⟨?_, fun t ht => ?_, ?_, a1, fun t ht => a2 t (List.mem_filter.1 ht).1, a3.sublist List.filter_sublist⟩, hg⟩
  · have e : (DataW.map (ents L)).del (.string n) = .map (ents (takeS n L)) := by
      rw [DataW.del_eq]
      unfold ChangeMaps.delKey
      rw [show (ents L).filter (ChangeMaps.notKey (.string n)) = ents (takeS n L) from ents_take _ L]
    rw [e] at hown
    have := owns_tight hown
    rwa [ents_length] at this
  · have ht' := (List.mem_filter.1 ht).1
    obtain ⟨b1, b2, b3, b4, b5⟩ := a2 t ht'
    exact (h.slot t ht').kept (hother _ (h.slot t ht').lt b2) fun g hg' => hother g ((h.slot t ht').2.lt hg') fun e => b4 (by rw [← e]; exact hg')
  · rw [fils_take]; exact rise_take h.rise
/-- 'm[n]' -/
theorem Body.look {w : World} {f m : Nat} {L : List Slot} {n : List UInt8} (h : Body w f m L) (hn : n.length ≤ 1000) :
    (Instr.lookup 77 (.map (some m)) (.string ⟨n.toArray⟩) false).run Tryz.prog w = .ok (match slotAt L n with | none => .pointer none | some s => .pointer (some ⟨s.blk, 0, none⟩)) w := by
  obtain ⟨v, ps, hrun, hv⟩ := h.map.lookup (string_keyed Tryz.underlying9) Tryz.underlying77 (z := .pointer none) (by kernel_rfl) (show ptrElem (.pointer none) = some (.nil, []) from rfl) (keyName hn)
  rw [hrun]
  rw [ents_at] at hv
  rcases hs : slotAt L n with _ | s
  · rw [hs] at hv
    rw [ptrElem_nil hv]
  · rw [hs] at hv
    rw [ptrElem_at hv]

/-- a disk's own fields -/
structure Hd where
  room : Int
  used : Int
  steps : Int
  reads : Int
  fuse : Int
  down : Bool
def hdCs (m : Nat) (h : Hd) : Array Value := #[.map (some m), .int .i64 h.room, .int .i64 h.used, .int .i64 h.steps, .int .i64 h.reads, .int .i64 h.fuse, .bool h.down]
def HdAt (w : World) (f m : Nat) (h : Hd) : Prop := w.heap[f]? = some (.cells (hdCs m h) 79 (0, 0))
theorem HdAt.lt {w : World} {f m : Nat} {h : Hd} (H : HdAt w f m h) : f < w.heap.size := (Array.getElem?_eq_some_iff.1 H).1
theorem HdAt.cell {w : World} {f m : Nat} {h : Hd} (H : HdAt w f m h) (j : Nat) : w.cell? ⟨f, j, none⟩ = (hdCs m h)[j]? := by
  unfold HdAt at H; simp [World.cell?, H]
theorem HdAt.free {w : World} {f m : Nat} {h : Hd} (H : HdAt w f m h) (j : Nat) : w.frozen? ⟨f, j, none⟩ = false := by unfold HdAt at H; simp [World.frozen?, H]
theorem HdAt.c0 {w : World} {f m : Nat} {h : Hd} (H : HdAt w f m h) : w.cell? ⟨f, 0, none⟩ = some (.map (some m)) := H.cell 0
theorem HdAt.c1 {w : World} {f m : Nat} {h : Hd} (H : HdAt w f m h) : w.cell? ⟨f, 1, none⟩ = some (.int .i64 h.room) := H.cell 1
theorem HdAt.c2 {w : World} {f m : Nat} {h : Hd} (H : HdAt w f m h) : w.cell? ⟨f, 2, none⟩ = some (.int .i64 h.used) := H.cell 2
theorem HdAt.c3 {w : World} {f m : Nat} {h : Hd} (H : HdAt w f m h) : w.cell? ⟨f, 3, none⟩ = some (.int .i64 h.steps) := H.cell 3
theorem HdAt.c4 {w : World} {f m : Nat} {h : Hd} (H : HdAt w f m h) : w.cell? ⟨f, 4, none⟩ = some (.int .i64 h.reads) := H.cell 4
theorem HdAt.c5 {w : World} {f m : Nat} {h : Hd} (H : HdAt w f m h) : w.cell? ⟨f, 5, none⟩ = some (.int .i64 h.fuse) := H.cell 5
theorem HdAt.c6 {w : World} {f m : Nat} {h : Hd} (H : HdAt w f m h) : w.cell? ⟨f, 6, none⟩ = some (.bool h.down) := H.cell 6
theorem HdAt.set {w : World} {f m : Nat} {h h' : Hd} (H : HdAt w f m h) (j : Nat) (v : Value) (e : (hdCs m h).setIfInBounds j v = hdCs m h') : HdAt (w.setCell ⟨f, j, none⟩ v) f m h' := by
  unfold HdAt at H ⊢
  rw [← e]
  simp only [World.setCell]
  rw [Array.getElem?_modify]
  simp [H]
theorem HdAt.kept {w w' : World} {f m : Nat} {h : Hd} (H : HdAt w f m h) (hk : w'.heap[f]? = w.heap[f]?) : HdAt w' f m h := by unfold HdAt at H ⊢; rw [hk]; exact H
theorem HdAt.below {w w' : World} {f m : Nat} {h : Hd} (H : HdAt w f m h) (hb : Below w.heap.size w w') : HdAt w' f m h := H.kept (hb.block f H.lt)
def hdOf (d : Disk) : Hd := ⟨d.room, (usedF d.files : Int), d.steps, d.reads, d.fuse, d.down⟩
/-- block f is a disk that holds d -/
structure FsAt (w : World) (f m : Nat) (d : Disk) (L : List Slot) : Prop where
  hd : HdAt w f m (hdOf d)
  body : Body w f m L
  fil : fils L = d.files
  ok : DiskOk d
theorem FsAt.below {w w' : World} {f m : Nat} {d : Disk} {L : List Slot} (h : FsAt w f m d L) (hb : Below w.heap.size w w') : FsAt w' f m d L := ⟨h.hd.below hb, h.body.below h.hd.lt hb, h.fil, h.ok⟩
theorem FsAt.lt {w : World} {f m : Nat} {d : Disk} {L : List Slot} (h : FsAt w f m d L) : ∀ k, foot f m L k → k < w.heap.size := h.body.lt h.hd.lt

end Go.Proofs.YtlobohpbgghleaaGreatDoor

namespace Go.Proofs.YtlobohpbgghleaaGreatDoor
open Go.RowKit

/-! ## a step; what every call looks at first -/

def stepHd (h : Hd) : Hd := if h.fuse = 1 then { h with fuse := 0, down := true } else { h with fuse := if 1 < h.fuse then h.fuse - 1 else h.fuse, steps := h.steps + 1 }
theorem stepHd_of (d : Disk) : stepHd (hdOf d) = hdOf (stepD d) := by
  unfold stepHd stepD hdOf
  by_cases h : d.fuse = 1
  · rw [if_pos h, if_pos h]
  · rw [if_neg h, if_neg h]
theorem HdAt.otherCell {w : World} {f m : Nat} {h : Hd} (H : HdAt w f m h) {k : Nat} (hn : f ≠ k) (j : Nat) (v : Value) : HdAt (w.setCell ⟨k, j, none⟩ v) f m h := by
  unfold HdAt at H ⊢
  simp only [World.setCell]
  rw [Array.getElem?_modify]
  simp [H, Ne.symm hn]

theorem step_any (w : World) (f m : Nat) (h : Hd) (H : HdAt w f m h) (h0 : 0 ≤ h.fuse) (h1 : h.fuse ≤ 9223372036854775807) (s0 : 0 ≤ h.steps) (s1 : h.steps < 4611686018427387904) :
    Calls Tryz.prog 72 #[.pointer (some ⟨f, 0, none⟩)] w fun e w' => e = .returned (.bool (!(decide (h.fuse = 1)))) ∧ HdAt w' f m (stepHd h) ∧ Turned (fun k => k = f) w w' := by
  have c3 := H.c3
  have c5 := H.c5
  have c6 := H.c6
  have f3 := H.free 3
  have f5 := H.free 5
  have f6 := H.free 6
  have HH := Lib.hid H
  have hw3 : IntKind.i64.wrap (h.steps + 1) = h.steps + 1 := by rw [IntKind.wrap_i64]; omega
  by_cases hf0 : h.fuse = 0
  · have t1 : decide (0 < h.fuse) = false := by simp; omega
    have HE := Lib.hid (show stepHd h = { h with steps := h.steps + 1 } by unfold stepHd; rw [if_neg (by omega), if_neg (by omega)])
    have HD := Lib.hid (show decide (h.fuse = 1) = false by simp; omega)
    clear hf0 h0 h1 H
    go_enter Tryz.func72, Tryz.ntmps72
    go_wp2
    go_ret
    refine ⟨by rw [HD.out]; rfl, ?_, Turned.setCell _ _ _ rfl⟩
    rw [HE.out]
    exact HH.out.set 3 _ rfl
  by_cases hf1 : h.fuse = 1
  · have t1 : decide (0 < h.fuse) = true := by simp; omega
    have hw5' : IntKind.i64.wrap (h.fuse - 1) = 0 := by rw [IntKind.wrap_i64]; omega
    have HE := Lib.hid (show stepHd h = { h with fuse := 0, down := true } by unfold stepHd; rw [if_pos hf1])
    have HD := Lib.hid (show decide (h.fuse = 1) = true by simp [hf1])
    clear hf0 h0 h1 H hf1
    go_enter Tryz.func72, Tryz.ntmps72
    go_wp2
    go_ret
    refine ⟨by rw [HD.out]; rfl, ?_, (Turned.setCell (S := fun k => k = f) _ ⟨f, 5, none⟩ _ rfl).trans (Turned.setCell (S := fun k => k = f) _ ⟨f, 6, none⟩ _ rfl) fun i h => .inl h⟩
    rw [HE.out]
    exact (HH.out.set (h' := { h with fuse := 0 }) 5 _ rfl).set 6 _ rfl
  · have t1 : decide (0 < h.fuse) = true := by simp; omega
    have hw5' : IntKind.i64.wrap (h.fuse - 1) = h.fuse - 1 := by rw [IntKind.wrap_i64]; omega
    have t2 : (h.fuse - 1 == 0) = false := by rw [beq_eq_false_iff_ne]; omega
    have HE := Lib.hid (show stepHd h = { h with fuse := h.fuse - 1, steps := h.steps + 1 } by unfold stepHd; rw [if_neg hf1, if_pos (by omega)])
    have HD := Lib.hid (show decide (h.fuse = 1) = false by simp [hf1])
    clear hf0 h0 h1 H hf1
    go_enter Tryz.func72, Tryz.ntmps72
    go_wp2
    go_ret
    refine ⟨by rw [HD.out]; rfl, ?_, (Turned.setCell (S := fun k => k = f) _ ⟨f, 5, none⟩ _ rfl).trans (Turned.setCell (S := fun k => k = f) _ ⟨f, 3, none⟩ _ rfl) fun i h => .inl h⟩
    rw [HE.out]
    exact (HH.out.set (h' := { h with fuse := h.fuse - 1 }) 5 _ rfl).set 3 _ rfl

theorem right_len {n : List UInt8} (h : rightName n = true) : n.length ≤ 1000 := by
  simp only [rightName, Bool.and_eq_true, decide_eq_true_eq] at h
  omega
def openV (L : List Slot) (d : Disk) (n : List UInt8) : Value := if openE d n = 0 then (match slotAt L n with | none => .pointer none | some s => .pointer (some ⟨s.blk, 0, none⟩)) else .pointer none
theorem open_any (w : World) (f m : Nat) (d : Disk) (L : List Slot) (h : FsAt w f m d L) (n : List UInt8) :
    Calls Tryz.prog 44 #[.pointer (some ⟨f, 0, none⟩), .string ⟨n.toArray⟩] w fun e w' => e = .returned (.tuple #[openV L d n, .int .i64 (openE d n)]) ∧ w = w' := by
  have c0 := h.hd.c0
  have c6 := h.hd.c6
  have hat := fils_at n L
  rw [h.fil] at hat
  rcases openE_cases d n with ⟨he, hd⟩ | ⟨he, hd, hr⟩ | ⟨he, hd, hr, ha⟩ | ⟨he, hd, hr, x, ha⟩
  · have HE := Lib.hid he
    have HV := Lib.hid (show openV L d n = .pointer none by unfold openV; rw [if_neg (by omega)])
    have c6' : w.cell? ⟨f, 6, none⟩ = some (.bool true) := by rw [c6]; show some (Value.bool d.down) = _; rw [hd]
    clear he hd hat c6 h
    go_enter Tryz.func44, Tryz.ntmps44
    go_wp2
    go_ret2
    exact ⟨by rw [HV.out, HE.out]; rfl, rfl⟩
  · have HE := Lib.hid he
    have HV := Lib.hid (show openV L d n = .pointer none by unfold openV; rw [if_neg (by omega)])
    have c6' : w.cell? ⟨f, 6, none⟩ = some (.bool false) := by rw [c6]; show some (Value.bool d.down) = _; rw [hd]
    have HR := Lib.hid (Right_any n w)
    rw [hr] at HR
    clear he hd hat c6 h hr
    go_enter Tryz.func44, Tryz.ntmps44
    go_wp2_with (go_at_call 35; refine HR.out.mono ?_; rintro e w1 ⟨rfl, rfl⟩)
    go_ret2
    exact ⟨by rw [HV.out, HE.out]; rfl, rfl⟩
  · have HE := Lib.hid he
    have hs : slotAt L n = none := by rw [ha] at hat; exact (Option.map_eq_none_iff.1 hat.symm)
    have HV := Lib.hid (show openV L d n = .pointer none by unfold openV; rw [if_neg (by omega)])
    have c6' : w.cell? ⟨f, 6, none⟩ = some (.bool false) := by rw [c6]; show some (Value.bool d.down) = _; rw [hd]
    have HR := Lib.hid (Right_any n w)
    have hlook := h.body.look (n := n) (right_len hr)
    rw [hs] at hlook
    simp only at hlook
    rw [hr] at HR
    clear he hd hat c6 h hr ha hs
    go_enter Tryz.func44, Tryz.ntmps44
    go_wp2_with (go_at_call 35; refine HR.out.mono ?_; rintro e w1 ⟨rfl, rfl⟩)
    go_ret2
    exact ⟨by rw [HV.out, HE.out]; rfl, rfl⟩
  · have HE := Lib.hid he
    obtain ⟨s, hs⟩ : ∃ s, slotAt L n = some s := by
      rcases hs : slotAt L n with _ | s
      · rw [hs, ha] at hat; cases hat
      · exact ⟨s, rfl⟩
    have HV := Lib.hid (show openV L d n = .pointer (some ⟨s.blk, 0, none⟩) by unfold openV; rw [if_pos he, hs])
    have c6' : w.cell? ⟨f, 6, none⟩ = some (.bool false) := by rw [c6]; show some (Value.bool d.down) = _; rw [hd]
    have HR := Lib.hid (Right_any n w)
    have hlook := h.body.look (n := n) (right_len hr)
    rw [hs] at hlook
    simp only at hlook
    rw [hr] at HR
    clear he hd hat c6 h hr ha hs
    go_enter Tryz.func44, Tryz.ntmps44
    go_wp2_with (go_at_call 35; refine HR.out.mono ?_; rintro e w1 ⟨rfl, rfl⟩)
    go_ret2
    exact ⟨by rw [HV.out, HE.out]; rfl, rfl⟩

/-- what a call leaves: the disk behind it; nothing else has turned -/
def FsPost (w : World) (f m : Nat) (L : List Slot) (d' : Disk) (w' : World) : Prop := ∃ L', FsAt w' f m d' L' ∧ Turned (foot f m L) w w' ∧ ∀ k, foot f m L' k → foot f m L k ∨ w.heap.size ≤ k
theorem FsPost.same {w : World} {f m : Nat} {L : List Slot} {d : Disk} (h : FsAt w f m d L) : FsPost w f m L d w := ⟨L, h, Turned.refl _ _, fun _ h => .inl h⟩
theorem FsAt.stepped {w w1 : World} {f m : Nat} {d : Disk} {L : List Slot} (h : FsAt w f m d L) (h1 : HdAt w1 f m (stepHd (hdOf d))) (h2 : Turned (fun k => k = f) w w1) : FsAt w1 f m (stepD d) L := by
  rw [stepHd_of] at h1
  exact ⟨h1, h.body.turned h.hd.lt h2 fun k hk _ e => hk e, by rw [stepD_files]; exact h.fil, h.ok.step⟩
theorem foot_f {f m : Nat} {L : List Slot} : foot f m L f := .inl rfl
theorem FsPost.stepped {w w1 : World} {f m : Nat} {d : Disk} {L : List Slot} (h : FsAt w f m d L) (h1 : HdAt w1 f m (stepHd (hdOf d))) (h2 : Turned (fun k => k = f) w w1) : FsPost w f m L (stepD d) w1 :=
  ⟨L, h.stepped h1 h2, h2.mono fun _ hk => .inl hk, fun _ h => .inl h⟩
theorem FsPost.then {w w1 w2 : World} {f m : Nat} {d' : Disk} {L L1 : List Slot} (h : FsPost w1 f m L1 d' w2) (ht : Turned (foot f m L) w w1) (hL : ∀ k, foot f m L1 k → foot f m L k ∨ w.heap.size ≤ k) : FsPost w f m L d' w2 := by
  obtain ⟨L', h1, h2, h3⟩ := h
  refine ⟨L', h1, ht.trans h2 hL, fun k hk => ?_⟩
  rcases h3 k hk with h4 | h4
  · exact hL k h4
  · exact .inr (Nat.le_trans ht.size h4)
theorem foot_set {f m : Nat} {L : List Slot} {n : List UInt8} {s x : Slot} {N : Nat} (hs : slotAt L n = some s) (hb : x.blk = s.blk) (hd : ∀ g, datBlk x.sl = some g → datBlk s.sl = some g ∨ N ≤ g) : ∀ k, foot f m (setS n x L) k → foot f m L k ∨ N ≤ k := by
  have hsm := (slotAt_mem hs).1
  rintro k (rfl | rfl | ⟨t, ht, hk⟩)
  · exact .inl (.inl rfl)
  · exact .inl (.inr (.inl rfl))
  · rcases setS_mem ht with ⟨rfl, _⟩ | ⟨ht, _⟩
    · rcases hk with rfl | hk
      · exact .inl (.inr (.inr ⟨s, hsm, .inl hb⟩))
      · rcases hd k hk with h1 | h1
        · exact .inl (.inr (.inr ⟨s, hsm, .inr h1⟩))
        · exact .inr h1
    · exact .inl (.inr (.inr ⟨t, ht, hk⟩))
theorem slot_of {w : World} {f m : Nat} {d : Disk} {L : List Slot} (h : FsAt w f m d L) {n : List UInt8} (he : openE d n = 0) : ∃ s, slotAt L n = some s ∧ atF d.files n = some s.fil ∧ openV L d n = .pointer (some ⟨s.blk, 0, none⟩) ∧ rightName n = true ∧ s ∈ L ∧ s.fil.name = n := by
  obtain ⟨_, hr, x, ha⟩ := openE_zero he
  have hat := fils_at n L
  rw [h.fil, ha] at hat
  rcases hs : slotAt L n with _ | s
  · rw [hs] at hat; cases hat
  · rw [hs] at hat
    simp only [Option.map_some, Option.some.injEq] at hat
    subst hat
    exact ⟨s, rfl, ha, by unfold openV; rw [if_pos he, hs], hr, slotAt_mem hs⟩
/-- a file turned in its place, and perhaps the disk's own fields -/
theorem FsPost.setFile {w w1 w2 : World} {f m : Nat} {d1 d2 : Disk} {L : List Slot} {n : List UInt8} {s x : Slot} (H1 : FsAt w1 f m d1 L) (ht : Turned (foot f m L) w w1) (hs : slotAt L n = some s) (hn : x.fil.name = n) (hb : x.blk = s.blk)
    (ht2 : Turned (fun k => k = f ∨ k = s.blk ∨ datBlk s.sl = some k) w1 w2) (hx : SlotAt w2 x) (hd : ∀ g, datBlk x.sl = some g → datBlk s.sl = some g ∨ w1.heap.size ≤ g)
    (hh : HdAt w2 f m (hdOf d2)) (hf : d2.files = setF n (fun _ => x.fil) d1.files) (hok : DiskOk d2) : FsPost w f m L d2 w2 := by
  have hsm := (slotAt_mem hs).1
  have hfoot : ∀ k, (k = f ∨ k = s.blk ∨ datBlk s.sl = some k) → foot f m L k ∨ w.heap.size ≤ k := by
    rintro k (rfl | rfl | hk)
    · exact .inl (.inl rfl)
    · exact .inl (.inr (.inr ⟨s, hsm, .inl rfl⟩))
    · exact .inl (.inr (.inr ⟨s, hsm, .inr hk⟩))
  refine ⟨setS n x L, ⟨hh, H1.body.set H1.hd.lt hs hn hb hx hd fun k h1 h2 h3 h4 => ht2.block k h4 (fun hS => hS.elim h1 fun hS' => hS'.elim h2 h3), by rw [fils_set, H1.fil, hf], hok⟩, ht.trans ht2 hfoot, fun k hk => ?_⟩
  rcases foot_set hs hb hd k hk with h1 | h1
  · exact .inl h1
  · exact .inr (Nat.le_trans ht.size h1)
theorem SlotAt.putSafe {w : World} {s : Slot} (h : SlotAt w s) (v : Int) (hb : datBlk s.sl ≠ some s.blk) : SlotAt (w.setCell ⟨s.blk, 1, none⟩ (.int .i64 v)) ⟨{ s.fil with safe := v }, s.blk, s.sl⟩ := by
  refine ⟨?_, h.2.kept fun g hg => ?_⟩
  · have e : (fileCs s).setIfInBounds 1 (.int .i64 v) = fileCs ⟨{ s.fil with safe := v }, s.blk, s.sl⟩ := rfl
    rw [← e]
    simp only [World.setCell]
    rw [Array.getElem?_modify]
    simp [h.1]
  · simp only [World.setCell]
    rw [Array.getElem?_modify, if_neg (fun e => hb (by rw [hg, e]))]
theorem dec_fuse {d : Disk} {b : Bool} (h : decide (d.fuse = 1) = b) : decide ((hdOf d).fuse = 1) = b := h
/-- a step that carries a file on in its place -/
theorem chg_set {d : Disk} {o : DOp} {x : Fil} (hr : Rise d.files) (ha : atF d.files o.name = some x) (h0 : o.k ≠ 0) (h3 : o.k ≠ 3) (h4 : o.k ≠ 4) : chgD d o = { d with files := setF o.name (fun _ => chgF o x) d.files } := by
  unfold chgD
  rw [if_neg h0, ha]
  simp only [if_neg h4, if_neg h3]
  rw [put_take hr ha]
  have := (at_name ha).1
  unfold chgF
  split
  · exact this
  · split
    · exact this
    · split <;> exact this

end Go.Proofs.YtlobohpbgghleaaGreatDoor
