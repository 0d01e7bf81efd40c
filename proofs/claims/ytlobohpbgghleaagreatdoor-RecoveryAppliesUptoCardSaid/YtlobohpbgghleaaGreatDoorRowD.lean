import Derived.Test.YtlobohpbgghleaaGreatDoorFilRow
import Derived.Test.YtlobohpbgghleaaGreatDoorSlots
import Derived.Test.YtlobohpbgghleaaGreatDoorApp
namespace Go.Proofs.YtlobohpbgghleaaGreatDoor
open Go.RowKit

/-! ## a row of structs of one's own, each with bytes of its own -/

def OwnD {α : Type} (e : TypeId) (size : Nat) (cs : α → Value → List Value) (dat : α → List UInt8) (w : World) (B : Nat) (v : Value) (ps : List (α × Value)) : Prop :=
  w.ownsRow B e size v ps.length (ps.flatMap fun p => cs p.1 p.2) ∧ ∀ p ∈ ps, DatAt w p.2 (dat p.1) ∧ ∀ g, datBlk p.2 = some g → B ≤ g
theorem DatAt.later {w w' : World} {v : Value} {l : List UInt8} (h : DatAt w v l) (hb : Below w.heap.size w w') : DatAt w' v l := h.kept fun g hg => hb.block g (h.lt hg)
theorem dat_ne_row {w : World} {v vr : Value} {l : List UInt8} {B size n : Nat} {e : TypeId} {xs : List Value} (hd : DatAt w v l) (hr : w.ownsRow B e size vr n xs) (hne : e ≠ 5) {g : Nat} (hg : datBlk v = some g) : vr.ownBlock ≠ some g := by
  intro hk
  rcases hd with ⟨_, ao, rfl⟩ | ⟨g', cap, cur, rfl, h0, h1, _⟩
  · cases ao <;> simp [datBlk] at hg
  · simp only [datBlk, if_neg (show ¬ cap = 0 by omega), Option.some.injEq] at hg
    subst hg
    rcases hr.2 with ⟨rfl, _⟩ | ⟨k, cap', cur', rfl, _, hb, _⟩
    · cases hk
    · have e1 : k = g' := Option.some.inj hk
      subst e1
      rw [h1] at hb
      simp only [Option.some.injEq, Obj.cells.injEq] at hb
      exact hne hb.2.1.symm
theorem browIn_dat {A : Nat → Prop} {w : World} {v : Value} {l : List UInt8} (h : DatAt w v l) (hA : ∀ g, datBlk v = some g → A g) : BRowIn A w v l := by
  have hb := h.brow
  rcases h with ⟨rfl, ao, rfl⟩ | ⟨g, cap, cur, rfl, h0, h1, h2, h3, h4, h5⟩
  · exact ⟨ao, 0, rfl, Nat.le_refl _, fun h => absurd rfl h⟩
  · refine ⟨_, cap, rfl, h2, fun hn => ⟨g, 0, rfl, hA g (by simp only [datBlk, if_neg (show ¬ cap = 0 by omega)]), ?_⟩⟩
    obtain ⟨oa', cap', e, _, hc⟩ := hb
    simp only [Value.slice.injEq] at e
    obtain ⟨b, off, e2, hcell⟩ := hc hn
    rw [← e.1] at e2
    simp only [Option.some.injEq, Addr.mk.injEq] at e2
    obtain ⟨rfl, rfl, _⟩ := e2
    exact hcell
section
variable {α : Type} {e : TypeId} {size : Nat} {cs : α → Value → List Value} {dat : α → List UInt8}
theorem OwnD.later {w w' : World} {B : Nat} {v : Value} {ps : List (α × Value)} (h : OwnD e size cs dat w B v ps) (hb : Below w.heap.size w w') : OwnD e size cs dat w' B v ps :=
  ⟨own_later h.1 hb, fun p hp => ⟨(h.2 p hp).1.later hb, (h.2 p hp).2⟩⟩
theorem ownD_fresh (w : World) (B : Nat) (hB : B ≤ w.heap.size) : OwnD e size cs dat (w.alloc (.cells #[] e)) B (.slice (some ⟨w.heap.size, 0, none⟩) 0 0) [] := ⟨own_fresh w _ size B hB, fun _ h => by cases h⟩
theorem ownD_nil (w : World) (B : Nat) : OwnD e size cs dat w B (.slice none 0 0) [] := ⟨w.ownsRow_nil B e size, fun _ h => by cases h⟩
theorem wp_appD {o : Oper} {a : Act} {K : Act → World → Prop} {Q : Exit → Act → World → Prop} {w : World} (s y : Operand) (t : TypeId) (ho : o.op = .call { callee := .builtin .append, args := #[s, y], argTypes := #[t, t] })
    {i : TypeInfo} {z : Value} {bytes : Nat} (ht : Tryz.prog.underlying t = some (.slice e)) (hi : Tryz.prog.info? e = some i) (hz0 : i.zero = some z) (hz1 : i.size = size) (hz2 : i.bytes = bytes) (hzs : z.cells.size = size) (hsz : 0 < size) (hne : e ≠ 5)
    (hcl : ∀ x v, (cs x v).length = size) (hc1 : ∀ x v, v.oneCell' = true → ∀ u ∈ cs x v, u.oneCell' = true) {B : Nat} {v : Value} {ps news : List (α × Value)} {m : Nat} {cells : Array Value}
    (hs : a.eval s = v) (hy : a.eval y = .slice (some ⟨w.heap.size, 0, none⟩) m m) (hm : m = news.length) (hcells : cells.toList = news.flatMap fun p => cs p.1 p.2) (hown : OwnD e size cs dat w B v ps) (hB : B ≤ w.heap.size)
    (hd : ∀ p ∈ news, DatAt w p.2 (dat p.1) ∧ ∀ g, datBlk p.2 = some g → B ≤ g) (hl : ps.length + m ≤ 4611686018427387904) (hlb : (ps.length + m) * bytes ≤ 140737488355328)
    (h : ∀ v' w', OwnD e size cs dat w' B v' (ps ++ news) → Below B w w' → w.heap.size ≤ w'.heap.size → K (a.put o.dst v') w') : o.wp Tryz.prog a (w.alloc (.cells cells e)) K Q := by
  have hb := below_alloc w (.cells cells e)
  have hone : ∀ (x : Value) (l : List UInt8), DatAt w x l → x.oneCell' = true := fun x l hx => by
    obtain ⟨_, _, e1, _⟩ := hx.shape
    rw [e1]; rfl
  have hlen : ∀ qs : List (α × Value), (qs.flatMap fun p => cs p.1 p.2).length = qs.length * size := fun qs => by
    induction qs with
    | nil => simp
    | cons q qs ih => rw [List.flatMap_cons, List.length_append, ih, hcl, List.length_cons, Nat.add_mul]; omega
  subst hm
  refine wp_append_own _ s y t ho B e i z size bytes ht hi hz0 hz1 hz2 hzs hsz v ps.length _ hs (own_later hown.1 hb) ⟨w.heap.size, 0, none⟩ news.length news.length (news.flatMap fun p => cs p.1 p.2) hy (hlen news) (fun j u hj => ?_) (fun u hu => ?_) (by unfold maxLen; omega) hlb (Nat.le_trans hB hb.size) ?_
  · rw [addr_add, Nat.zero_add, World.cell?_alloc_new, ← hcells] at *
    simpa using hj
  · obtain ⟨p, hp, hu⟩ := List.mem_flatMap.1 hu
    exact hc1 _ _ (hone _ _ (hd p hp).1) u hu
  · intro v' w' hown' hg _
    have hrow0 := own_later hown.1 hb
    have hb2 := below_of_grown hrow0 (Nat.le_trans hB hb.size) hg
    have keep : ∀ (x : Value) (l : List UInt8), DatAt w x l → DatAt w' x l := fun x l hx => by
      have hx' := hx.later hb
      exact hx'.kept fun g hg' => hg.block g (hx'.lt hg') fun e1 => dat_ne_row hx' hrow0 hne hg' e1.symm
    refine h v' w' ⟨?_, fun p hp => ?_⟩ ((hb.mono hB).trans hb2) (Nat.le_trans hb.size hg.size)
    · rw [List.length_append, List.flatMap_append]
      exact hown'
    · rcases List.mem_append.1 hp with hp | hp
      · exact ⟨keep _ _ (hown.2 p hp).1, (hown.2 p hp).2⟩
      · exact ⟨keep _ _ (hd p hp).1, (hd p hp).2⟩
theorem wpList_appD {ops : Array Oper} {rest : List Oper} {o : Oper} {a : Act} {Q : Exit → Act → World → Prop} {w : World} (hgd : o.guard = none) (s y : Operand) (t : TypeId) (ho : o.op = .call { callee := .builtin .append, args := #[s, y], argTypes := #[t, t] })
    {i : TypeInfo} {z : Value} {bytes : Nat} (ht : Tryz.prog.underlying t = some (.slice e)) (hi : Tryz.prog.info? e = some i) (hz0 : i.zero = some z) (hz1 : i.size = size) (hz2 : i.bytes = bytes) (hzs : z.cells.size = size) (hsz : 0 < size) (hne : e ≠ 5)
    (hcl : ∀ x v, (cs x v).length = size) (hc1 : ∀ x v, v.oneCell' = true → ∀ u ∈ cs x v, u.oneCell' = true) {B : Nat} {v : Value} {ps news : List (α × Value)} {m : Nat} {cells : Array Value}
    (hs : a.eval s = v) (hy : a.eval y = .slice (some ⟨w.heap.size, 0, none⟩) m m) (hm : m = news.length) (hcells : cells.toList = news.flatMap fun p => cs p.1 p.2) (hown : OwnD e size cs dat w B v ps) (hB : B ≤ w.heap.size)
    (hd : ∀ p ∈ news, DatAt w p.2 (dat p.1) ∧ ∀ g, datBlk p.2 = some g → B ≤ g) (hl : ps.length + m ≤ 4611686018427387904) (hlb : (ps.length + m) * bytes ≤ 140737488355328)
    (h : ∀ v' w', OwnD e size cs dat w' B v' (ps ++ news) → Below B w w' → w.heap.size ≤ w'.heap.size → wpList Tryz.prog ops Q rest (a.put o.dst v') w') : wpList Tryz.prog ops Q (o :: rest) a (w.alloc (.cells cells e)) :=
  wpList_plain hgd fun _ hK => wp_appD s y t ho ht hi hz0 hz1 hz2 hzs hsz hne hcl hc1 hs hy hm hcells hown hB hd hl hlb fun v' w' h2 h3 h4 => hK _ _ (h v' w' h2 h3 h4)
end
/-! ### files -/
abbrev OwnG := OwnD (α := Fil) 49 3 (fun f v => (flCs f v).toList) (fun f => f.data)
theorem OwnG.files {A : Nat → Prop} {w : World} {B : Nat} {v : Value} {ps : List (Fil × Value)} (h : OwnG w B v ps) (hA : ∀ k, B ≤ k → A k) : FilesIn A w v (ps.map (·.1)) :=
  files_own h.1 hA fun p hp => browIn_dat (h.2 p hp).1 fun g hg => hA g ((h.2 p hp).2 g hg)
theorem flCs_one (f : Fil) (v : Value) (h : v.oneCell' = true) : ∀ u ∈ (flCs f v).toList, u.oneCell' = true := by
  intro u hu
  simp [flCs] at hu
  rcases hu with rfl | rfl | rfl
  · rfl
  · exact h
  · rfl
theorem wpList_appG {ops : Array Oper} {rest : List Oper} {o : Oper} {a : Act} {Q : Exit → Act → World → Prop} {w : World} (hgd : o.guard = none) (s y : Operand) (ho : o.op = .call { callee := .builtin .append, args := #[s, y], argTypes := #[22, 22] })
    {B : Nat} {v : Value} {ps : List (Fil × Value)} {f : Fil} {dv : Value} (hs : a.eval s = v) (hy : a.eval y = .slice (some ⟨w.heap.size, 0, none⟩) 1 1) (hown : OwnG w B v ps) (hB : B ≤ w.heap.size)
    (hd : DatAt w dv f.data) (hd2 : ∀ g, datBlk dv = some g → B ≤ g) (hl : ps.length + 1 ≤ 1000000000)
    (h : ∀ v' w', OwnG w' B v' (ps ++ [(f, dv)]) → Below B w w' → w.heap.size ≤ w'.heap.size → wpList Tryz.prog ops Q rest (a.put o.dst v') w') : wpList Tryz.prog ops Q (o :: rest) a (w.alloc (.cells (flCs f dv) 49)) := by
  obtain ⟨i0, hi, hz0, hz1, hz2⟩ := info_parts infoFl
  exact wpList_appD hgd s y _ ho (news := [(f, dv)]) Tryz.underlying22 hi hz0 hz1 hz2 rfl (by decide) (by decide) (fun _ _ => rfl) flCs_one hs hy rfl (by simp) hown hB (fun p hp => by simp at hp; rw [hp]; exact ⟨hd, hd2⟩) (by omega) (by omega) h

theorem wp_appG {o : Oper} {a : Act} {K : Act → World → Prop} {Q : Exit → Act → World → Prop} {w : World} (s y : Operand) (ho : o.op = .call { callee := .builtin .append, args := #[s, y], argTypes := #[22, 22] })
    {B : Nat} {v : Value} {ps : List (Fil × Value)} {f : Fil} {dv : Value} (hs : a.eval s = v) (hy : a.eval y = .slice (some ⟨w.heap.size, 0, none⟩) 1 1) (hown : OwnG w B v ps) (hB : B ≤ w.heap.size)
    (hd : DatAt w dv f.data) (hd2 : ∀ g, datBlk dv = some g → B ≤ g) (hl : ps.length + 1 ≤ 1000000000)
    (h : ∀ v' w', OwnG w' B v' (ps ++ [(f, dv)]) → Below B w w' → w.heap.size ≤ w'.heap.size → K (a.put o.dst v') w') : o.wp Tryz.prog a (w.alloc (.cells (flCs f dv) 49)) K Q := by
  obtain ⟨i0, hi, hz0, hz1, hz2⟩ := info_parts infoFl
  exact wp_appD s y _ ho (news := [(f, dv)]) Tryz.underlying22 hi hz0 hz1 hz2 rfl (by decide) (by decide) (fun _ _ => rfl) flCs_one hs hy rfl (by simp) hown hB (fun p hp => by simp at hp; rw [hp]; exact ⟨hd, hd2⟩) (by omega) (by omega) h

end Go.Proofs.YtlobohpbgghleaaGreatDoor
