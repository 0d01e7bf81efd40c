import Derived.Test.YtlobohpbgghleaaGreatDoorRefApply
import Derived.Test.YtlobohpbgghleaaGreatDoorFsImage
import Derived.Test.YtlobohpbgghleaaGreatDoorFsMount
import Derived.Test.YtlobohpbgghleaaGreatDoorRcOpen
import Derived.LaidLaws
import Derived.Lay
import Derived.LaidMore
import Derived.Stop.LaidErr
namespace Go.Proofs.YtlobohpbgghleaaGreatDoor
open Go.RowKit

/-! ## an empty disk: First, Size, List, strays, Load -/

def firstM : Man := ⟨1, 2, 0, 0, 0, [⟨1, 1, 0, 0⟩]⟩
def zeroM : Man := ⟨0, 0, 0, 0, 0, []⟩
def planF : Pl := ⟨true, firstM, [], 22, 0⟩
def planZ : Pl := ⟨false, zeroM, [], 0, 0⟩
theorem firstM_ok : manOk firstM = true := by decide
theorem encV_one {n : Nat} (h : n < 128) : (encV n).length = 1 := by rw [encV, dif_pos h]; rfl
theorem first_len : (hdrEnc 1 1).1.length = 22 ∧ (encMan firstM).1.length = 29 := by
  refine ⟨?_, ?_⟩
  · rw [hdrEnc_ok (by decide) (by decide) (by decide) (by decide)]
    simp only [frameOf_length, List.length_append]
    rw [encV_one (by decide)]
  · rw [encMan_ok firstM_ok]
    simp only [frameOf_length]
    show (encV 8 ++ (encV 2 ++ (encV 0 ++ (encV 0 ++ (encV 0 ++ (encV 1 ++ (encV 1 ++ (encV 0 ++ (encV 0 ++ []))))))))).length + 20 = 29
    simp only [List.length_append, encV_one (show 8 < 128 by decide), encV_one (show 2 < 128 by decide), encV_one (show 1 < 128 by decide), encV_one (show 0 < 128 by decide), List.length_nil]
theorem mnCs_all (m : Man) (v : Value) (h : v.oneCell' = true) : (mnCs m v).all (·.oneCell') = true :=
  Array.all_eq_true_iff_forall_mem.2 (by
    intro u hu
    simp only [mnCs, List.mem_toArray, List.mem_cons, List.not_mem_nil, or_false] at hu
    rcases hu with rfl | rfl | rfl | rfl | rfl | rfl <;> first | rfl | assumption)
theorem MnBlk.row {w : World} {g : Nat} {m m' : Man} {sv sv' : Value} (h : MnBlk w g m sv) : MnBlk (w.setRow g (mnCs m' sv')) g m' sv' := setRow_heap w g _ _ _ _ h
theorem wpList_store_mn {ops : Array Oper} {rest : List Oper} {o : Oper} {a : Act} {w : World} {Q : Exit → Act → World → Prop} (hgd : o.guard = none) (x y : Operand) (ho : o.op = .store 31 x y)
    (g : Nat) (m m' : Man) (sv sv' : Value) (hx : a.eval x = .pointer (some ⟨g, 0, none⟩)) (hy : a.eval y = mnV m' sv') (hE : MnBlk w g m sv) (h1 : sv'.oneCell' = true)
    (h : ∀ W, Hid (W = w.setRow g (mnCs m' sv')) → wpList Tryz.prog ops Q rest (a.put o.dst undef) W) : wpList Tryz.prog ops Q (o :: rest) a w :=
  wpList_store_row hgd 31 x y ho g (mnCs m' sv') hx hy 31 (mnCs m sv) hE mnInfo rfl (mnCs_all m' sv' h1) (h _ (Lib.hid rfl))
theorem plCs_all (p : Pl) (v v' : Value) (h : v.oneCell' = true) (h' : v'.oneCell' = true) : (plCs p v v').all (·.oneCell') = true :=
  Array.all_eq_true_iff_forall_mem.2 (by
    intro u hu
    simp only [plCs, List.mem_toArray, List.mem_cons, List.not_mem_nil, or_false] at hu
    rcases hu with rfl | rfl | rfl | rfl | rfl | rfl | rfl | rfl | rfl | rfl <;> first | rfl | assumption)
theorem PlBlk.row {w : World} {g : Nat} {p p' : Pl} {sv rv sv' rv' : Value} (h : PlBlk w g p sv rv) : PlBlk (w.setRow g (plCs p' sv' rv')) g p' sv' rv' := setRow_heap w g _ _ _ _ h
theorem wpList_store_pl {ops : Array Oper} {rest : List Oper} {o : Oper} {a : Act} {w : World} {Q : Exit → Act → World → Prop} (hgd : o.guard = none) (x y : Operand) (ho : o.op = .store 34 x y)
    (g : Nat) (p p' : Pl) (sv rv sv' rv' : Value) (hx : a.eval x = .pointer (some ⟨g, 0, none⟩)) (hy : a.eval y = plV p' sv' rv') (hE : PlBlk w g p sv rv) (h1 : sv'.oneCell' = true) (h2 : rv'.oneCell' = true)
    (h : ∀ W, Hid (W = w.setRow g (plCs p' sv' rv')) → wpList Tryz.prog ops Q rest (a.put o.dst undef) W) : wpList Tryz.prog ops Q (o :: rest) a w :=
  wpList_store_row hgd 34 x y ho g (plCs p' sv' rv') hx hy 34 (plCs p sv rv) hE plInfo rfl (plCs_all p' sv' rv' h1 h2) (h _ (Lib.hid rfl))
theorem run_load_mn {w : World} {g : Nat} {m : Man} {sv : Value} (hE : MnBlk w g m sv) : (loadVar 31 ⟨g, 0, none⟩).run Tryz.prog w = .ok (mnV m sv) w :=
  run_loadVar_row (P := Tryz.prog) w g 31 31 (mnCs m sv) (0, 0) _ hE Tryz.underlying31 rfl mnInfo
theorem run_load_pl {w : World} {g : Nat} {p : Pl} {sv rv : Value} (hE : PlBlk w g p sv rv) : (loadVar 34 ⟨g, 0, none⟩).run Tryz.prog w = .ok (plV p sv rv) w :=
  run_loadVar_row (P := Tryz.prog) w g 34 34 (plCs p sv rv) (0, 0) _ hE Tryz.underlying34 rfl plInfo
theorem results_mn1 {fn : Func} {p : Tmp} (h : fn.results = #[.cell p 31]) (tmps : Array Value) (w : World) (g : Nat) (m : Man) (sv : Value)
    (hp : tmps.getD p undef = .pointer (some ⟨g, 0, none⟩)) (hE : MnBlk w g m sv) : (results fn tmps).run Tryz.prog w = .ok (mnV m sv) w := by
  have hl := run_load_mn hE
  have hp' : tmps[p]?.getD undef = .pointer (some ⟨g, 0, none⟩) := by simpa using hp
  simp [results, h, hp', asAddr, hl]
theorem results_mn3 {fn : Func} {p q r : Tmp} (h : fn.results = #[.cell p 31, .tmp q, .tmp r]) (tmps : Array Value) (w : World) (g : Nat) (m : Man) (sv x y : Value)
    (hp : tmps.getD p undef = .pointer (some ⟨g, 0, none⟩)) (hq : tmps.getD q undef = x) (hr : tmps.getD r undef = y) (hE : MnBlk w g m sv) : (results fn tmps).run Tryz.prog w = .ok (.tuple #[mnV m sv, x, y]) w := by
  have hl := run_load_mn hE
  have hp' : tmps[p]?.getD undef = .pointer (some ⟨g, 0, none⟩) := by simpa using hp
  have hq' : tmps[q]?.getD undef = x := by simpa using hq
  have hr' : tmps[r]?.getD undef = y := by simpa using hr
  simp [results, h, hp', hq', hr', asAddr, hl]
theorem results_pl2 {fn : Func} {p q : Tmp} (h : fn.results = #[.cell p 34, .tmp q]) (tmps : Array Value) (w : World) (g : Nat) (P : Pl) (sv rv x : Value)
    (hp : tmps.getD p undef = .pointer (some ⟨g, 0, none⟩)) (hq : tmps.getD q undef = x) (hE : PlBlk w g P sv rv) : (results fn tmps).run Tryz.prog w = .ok (.tuple #[plV P sv rv, x]) w := by
  have hl := run_load_pl hE
  have hp' : tmps[p]?.getD undef = .pointer (some ⟨g, 0, none⟩) := by simpa using hp
  have hq' : tmps[q]?.getD undef = x := by simpa using hq
  simp [results, h, hp', hq', asAddr, hl]

set_option maxRecDepth 100000 in
theorem first_any (w : World) : Calls Tryz.prog 30 #[] w fun e w' => ∃ sv, e = .returned (mnV firstM sv) ∧ SgIn (fun k => w.heap.size ≤ k) w' sv firstM.segs ∧ sv.oneCell' = true ∧ Below w.heap.size w w' := by
  have HM := Lib.hid ((mnBlk_alloc w firstM (.slice (some ⟨w.heap.size + 1, 0, none⟩) 1 1)).below (below_alloc _ (.cells (sgCs ⟨1, 1, 0, 0⟩) 46)))
  have HB := Lib.hid (Below.next (below_alloc w (.cells (mnCs firstM (.slice (some ⟨w.heap.size + 1, 0, none⟩) 1 1)) 31)) (below_alloc _ (.cells (sgCs ⟨1, 1, 0, 0⟩) 46)))
  have HS := Lib.hid (show SgIn (fun k => w.heap.size ≤ k) ((w.alloc (.cells (mnCs firstM (.slice (some ⟨w.heap.size + 1, 0, none⟩) 1 1)) 31)).alloc (.cells (sgCs ⟨1, 1, 0, 0⟩) 46)) (.slice (some ⟨w.heap.size + 1, 0, none⟩) 1 1) firstM.segs from
    ⟨_, 1, rfl, Nat.le_refl _, by decide, fun i g hg => ⟨w.heap.size + 1, 0, rfl, Nat.le_succ _, fun j u hj => by
      match i, hg with
      | 0, hg =>
        simp [firstM] at hg
        subst hg
        have := World.cell?_alloc_new (w.alloc (.cells (mnCs firstM (.slice (some ⟨w.heap.size + 1, 0, none⟩) 1 1)) 31)) (sgCs ⟨1, 1, 0, 0⟩) 46 j
        rw [show (w.alloc (.cells (mnCs firstM (.slice (some ⟨w.heap.size + 1, 0, none⟩) 1 1)) 31)).heap.size = w.heap.size + 1 by simp] at this
        rw [Nat.zero_mul, Nat.add_zero, Nat.zero_add, this]
        simpa using hj⟩⟩)
  go_enter Tryz.func30, Tryz.ntmps30
  go_wp2
  exact bodyPost_ret (v := mnV firstM (.slice (some ⟨w.heap.size + 1, 0, none⟩) 1 1)) (results_mn1 rfl _ _ w.heap.size firstM (.slice (some ⟨w.heap.size + 1, 0, none⟩) 1 1) rfl HM.out) rfl ⟨_, rfl, HS.out, rfl, HB.out⟩

theorem manSize_any (m : Man) (sv : Value) (w : World) (hr : SgRow w sv m.segs) (hn : NibTab w) : Calls Tryz.prog 77 #[mnV m sv] w fun e w' => e = .returned (.int .i64 ((encMan m).1.length : Int)) ∧ Below w.heap.size w w' := by
  have HB0 := Lib.hid (below_alloc w (.cells (mnCs m sv) 31))
  have HE := Lib.hid (manEncode_any m sv _ (hr.below HB0.out) (hn.below HB0.out))
  have HM := Lib.hid (mnBlk_alloc w m sv)
  simp only [mnCs] at HM HE
  clear hr hn
  obtain ⟨en, hen⟩ : ∃ y, y = encMan m := ⟨_, rfl⟩
  rw [← hen] at HE
  rw [← hen]
  clear hen
  go_enter Tryz.func77, Tryz.ntmps77
  go_wp2_with (with_reducible refine wpList_load_mn rfl (.tmp 1) rfl w.heap.size m sv rfl HM.out ?_)
  refine HE.out.mono ?_
  rintro e w1 ⟨v1, rfl, ho1, hb1⟩
  obtain ⟨o1, cap1, rfl, _, _⟩ := own_shape ho1
  have HB := Lib.hid (Below.next HB0.out hb1)
  clear ho1 hb1 HE HM
  go_wp2
  go_ret
  exact ⟨rfl, HB.out⟩

theorem list_empty (w : World) (f m : Nat) (d : Disk) (h : FsAt w f m d []) (hdn : d.down = false) : Calls Tryz.prog 78 #[.pointer (some ⟨f, 0, none⟩)] w fun e w' => (∃ oa cap, e = .returned (.slice oa 0 cap)) ∧ Below w.heap.size w w' := by
  have HN := Lib.hid (fsNames_any w f m d [] h (by decide))
  have c6 : w.cell? ⟨f, 6, none⟩ = some (.bool false) := by rw [h.hd.c6]; show some (Value.bool d.down) = _; rw [hdn]
  clear h hdn
  go_enter Tryz.func78, Tryz.ntmps78
  go_wp2_with fail
  refine HN.out.mono ?_
  rintro e w1 ⟨v1, rfl, hrow, hb1⟩
  obtain ⟨oa, cap, rfl, _, _⟩ := own_shape hrow
  have HB := Lib.hid hb1
  clear hb1 hrow HN
  go_wp2
  go_ret
  exact ⟨⟨oa, cap, rfl⟩, HB.out⟩

set_option maxRecDepth 100000 in
theorem strays_empty (w : World) (f m : Nat) (d : Disk) (h : FsAt w f m d []) (hdn : d.down = false) (mn : Man) (sv : Value) : Calls Tryz.prog 43 #[.pointer (some ⟨f, 0, none⟩), .bool false, mnV mn sv] w fun e w' => e = .returned (.slice none 0 0) ∧ Below w.heap.size w w' := by
  have HB0 := Lib.hid (Below.next (below_alloc w (.cells (mnCs mn sv) 31)) (below_alloc _ (.map #[] 0)))
  have hmk : ∀ W : World, (Instr.makeMap 134 none).run Tryz.prog W = .ok (.map (some W.heap.size)) (W.alloc (.map #[] 0)) := fun _ => rfl
  have HL := Lib.hid (list_empty _ f m d (h.below HB0.out) hdn)
  clear h hdn
  go_enter Tryz.func43, Tryz.ntmps43
  go_wp2_with fail
  refine HL.out.mono ?_
  rintro e w1 ⟨⟨oa, cap, rfl⟩, hb1⟩
  have HB := Lib.hid (Below.next HB0.out hb1)
  clear hb1 HL HB0
  go_wp2
  refine wp_loop_rounds 1 ?_
  rw [rounds_succ]
  go_wp2
  go_ret
  exact ⟨rfl, HB.out⟩

set_option maxRecDepth 100000 in
theorem load_empty (w : World) (f m : Nat) (d : Disk) (h : FsAt w f m d []) (hdn : d.down = false) : Calls Tryz.prog 38 #[.pointer (some ⟨f, 0, none⟩)] w fun e w' => e = .returned (.tuple #[mnV zeroM (.slice none 0 0), .bool false, .int .i64 0]) ∧ Below w.heap.size w w' := by
  have HB0 := Lib.hid (below_alloc w (.cells (mnCs zeroM (.slice none 0 0)) 31))
  have HM := Lib.hid (mnBlk_alloc w zeroM (.slice none 0 0))
  have HS := Lib.hid (size_any _ f m d [] (h.below HB0.out) manN)
  have he : openE d manN = 51 := by
    have hf : d.files = [] := h.fil.symm
    unfold openE
    rw [hdn, hf]
    decide
  have hE1 : doD d (opSize manN) = (d, [], 0, 51) := by rw [doD_size, if_pos (by rw [he]; decide), he]
  rw [hE1] at HS
  simp only [mnCs, zeroM] at HM HB0 HS
  clear h hdn he hE1
  go_enter Tryz.func38, Tryz.ntmps38
  go_wp2_with fail
  refine HS.out.mono ?_
  rintro e w1 ⟨rfl, rfl⟩
  go_wp2_with (with_reducible refine wpList_store_mn rfl (.tmp 2) (.tmp 17) rfl w.heap.size ⟨0, 0, 0, 0, 0, []⟩ zeroM (.slice none 0 0) (.slice none 0 0) rfl rfl HM.out rfl ?_)
  intro w2 hw2
  have HM2 := Lib.hid (show MnBlk w2 w.heap.size zeroM (.slice none 0 0) by rw [hw2.out]; exact HM.out.row)
  have HB2 := Lib.hid (show Below w.heap.size w w2 by rw [hw2.out]; exact below_row HB0.out (Nat.le_refl _) _)
  clear hw2 HM HB0
  go_wp2
  exact bodyPost_ret (v := .tuple #[mnV zeroM (.slice none 0 0), .bool false, .int .i64 0]) (results_mn3 rfl _ _ w.heap.size zeroM (.slice none 0 0) _ _ rfl rfl rfl HM2.out) rfl ⟨rfl, HB2.out⟩

end Go.Proofs.YtlobohpbgghleaaGreatDoor

namespace Go.Proofs.YtlobohpbgghleaaGreatDoor

/-! ## a new store on a disk of 51 bytes, in plain words -/

theorem new_store (n t mm h b : List UInt8) (hn : rightName n = true) (ht : rightName t = true) (hm : rightName mm = true) (h2 : (n == t) = false) (h4 : (n == mm) = false)
    (b1 : bytesBefore t n = true) (b2 : bytesBefore mm n = true) (hl : h.length = 22) (bl : b.length = 29) :
    (runD (newD 51) [opCreate n, opAppend n h, opSync n, opCreate t, opAppend t b, opSync t, opRename t mm]).2 = 0 ∧ usedF (runD (newD 51) [opCreate n, opAppend n h, opSync n, opCreate t, opAppend t b, opSync t, opRename t mm]).1.files = 51 := by
  have s1 : doD (newD 51) (opCreate n) = (⟨[⟨n, [], 0⟩], 51, 0, false, 1, 0⟩, [], 0, 0) := by
    simp [doD, barD, opCreate, newD, clampRoom, hn, atF, chgD, putF]
  have s2 : doD ⟨[⟨n, [], 0⟩], 51, 0, false, 1, 0⟩ (opAppend n h) = (⟨[⟨n, h, 0⟩], 51, 0, false, 2, 0⟩, [], 0, 0) := by
    simp [doD, barD, opAppend, hn, atF, chgD, chgF, putF, takeF, usedF, hl]
  have s3 : doD ⟨[⟨n, h, 0⟩], 51, 0, false, 2, 0⟩ (opSync n) = (⟨[⟨n, h, 22⟩], 51, 0, false, 3, 0⟩, [], 0, 0) := by
    simp [doD, barD, opSync, hn, atF, chgD, chgF, putF, takeF, hl]
  have s4 : doD ⟨[⟨n, h, 22⟩], 51, 0, false, 3, 0⟩ (opCreate t) = (⟨[⟨t, [], 0⟩, ⟨n, h, 22⟩], 51, 0, false, 4, 0⟩, [], 0, 0) := by
    simp [doD, barD, opCreate, ht, atF, chgD, putF, h2, b1]
  have s5 : doD ⟨[⟨t, [], 0⟩, ⟨n, h, 22⟩], 51, 0, false, 4, 0⟩ (opAppend t b) = (⟨[⟨t, b, 0⟩, ⟨n, h, 22⟩], 51, 0, false, 5, 0⟩, [], 0, 0) := by
    simp [doD, barD, opAppend, ht, atF, chgD, chgF, putF, takeF, usedF, h2, b1, hl, bl]
  have s6 : doD ⟨[⟨t, b, 0⟩, ⟨n, h, 22⟩], 51, 0, false, 5, 0⟩ (opSync t) = (⟨[⟨t, b, 29⟩, ⟨n, h, 22⟩], 51, 0, false, 6, 0⟩, [], 0, 0) := by
    simp [doD, barD, opSync, ht, atF, chgD, chgF, putF, takeF, h2, b1, bl]
  have s7 : doD ⟨[⟨t, b, 29⟩, ⟨n, h, 22⟩], 51, 0, false, 6, 0⟩ (opRename t mm) = (⟨[⟨mm, b, 29⟩, ⟨n, h, 22⟩], 51, 0, false, 7, 0⟩, [], 0, 0) := by
    simp [doD, barD, opRename, ht, hm, atF, chgD, chgF, putF, takeF, h2, h4, b2]
  have e : runD (newD 51) [opCreate n, opAppend n h, opSync n, opCreate t, opAppend t b, opSync t, opRename t mm] = (⟨[⟨mm, b, 29⟩, ⟨n, h, 22⟩], 51, 0, false, 7, 0⟩, 0) := by
    simp only [runD, s1, s2, s3, s4, s5, s6, s7, if_true]
  rw [e]
  exact ⟨rfl, by simp [usedF, hl, bl]⟩
theorem head_store : (applyD (newD 51) planF).2 = 0 ∧ usedF (applyD (newD 51) planF).1.files = 51 := by
  have e : applyD (newD 51) planF = runD (newD 51) [opCreate (segName 1), opAppend (segName 1) (hdrEnc 1 1).1, opSync (segName 1), opCreate tmpN, opAppend tmpN (encMan firstM).1, opSync tmpN, opRename tmpN manN] := by
    unfold applyD
    rw [show planF.man = firstM from rfl, firstM_ok]
    rfl
  have hs : segName 1 = [115, 101, 103, 45, 48, 48, 48, 48, 48, 49] := by decide
  rw [e, hs]
  exact new_store _ _ _ _ _ (by decide) (by decide) (by decide) (by decide) (by decide) (by decide) (by decide) first_len.1 first_len.2

end Go.Proofs.YtlobohpbgghleaaGreatDoor

namespace Go.Proofs.YtlobohpbgghleaaGreatDoor
open Go.RowKit

/-! ## an empty disk: fresh, Plan, Run -/

/-- a plan's answer on an empty disk -/
def FreshPost (w : World) (d : Disk) (e : Ending) (w' : World) : Prop :=
  (51 ≤ d.room → ∃ sv, e = .returned (.tuple #[plV planF sv (.slice none 0 0), .int .i64 0]) ∧ SgIn (fun k => w.heap.size ≤ k) w' sv firstM.segs ∧ sv.oneCell' = true) ∧
  (d.room < 51 → e = .returned (.tuple #[plV planZ (.slice none 0 0) (.slice none 0 0), .int .i64 54])) ∧ Below w.heap.size w w'

set_option maxRecDepth 100000 in
set_option maxHeartbeats 4000000 in
theorem fresh_any (w : World) (f m : Nat) (d : Disk) (h : FsAt w f m d []) (hdn : d.down = false) (hn : NibTab w) :
    Calls Tryz.prog 39 #[.pointer (some ⟨f, 0, none⟩)] w (FreshPost w d) := by
  have HH := Lib.hid h
  have HDN := Lib.hid hdn
  have HNB := Lib.hid hn
  have HUS := Lib.hid (show d.room - (usedF d.files : Int) = d.room by rw [← h.fil]; simp [usedF, fils])
  have hrm := h.ok.room
  have HB0 := Lib.hid (below_alloc w (.cells #[.bool false, .int .i64 0, .int .i64 0, .int .i64 0, .int .i64 0, .int .i64 0, .slice none 0 0, .slice none 0 0, .int .i64 0, .int .i64 0] 34))
  have HR0 := Lib.hid (show PlBlk (w.alloc (.cells #[.bool false, .int .i64 0, .int .i64 0, .int .i64 0, .int .i64 0, .int .i64 0, .slice none 0 0, .slice none 0 0, .int .i64 0, .int .i64 0] 34)) w.heap.size planZ (.slice none 0 0) (.slice none 0 0) from plBlk_alloc w planZ (.slice none 0 0) (.slice none 0 0))
  clear h hdn hn
  go_enter Tryz.func39, Tryz.ntmps39
  go_wp2_with fail
  refine (first_any _).mono ?_
  rintro e w1 ⟨sv, rfl, hsg, hone, hb1⟩
  have HB1 := Lib.hid (Below.next HB0.out hb1)
  have HR1 := Lib.hid (HR0.out.below hb1)
  have HSG := Lib.hid (hsg.mono (A' := fun k => w.heap.size + 1 ≤ k) (fun k hk => by simp at hk; omega))
  obtain ⟨osg, scap, rfl, _, _, _⟩ := hsg
  have HMz := Lib.hid (mnBlk_alloc w1 zeroM (.slice none 0 0))
  simp only [mnCs, zeroM] at HMz
  clear hb1 HB0 HR0 hone
  go_wp2_with (with_reducible refine wpList_store_mn rfl (.tmp 4) (.tmp 13) rfl w1.heap.size ⟨0, 0, 0, 0, 0, []⟩ firstM (.slice none 0 0) (.slice osg firstM.segs.length scap) rfl rfl HMz.out rfl ?_)
  intro w2 hw2
  have hba := below_alloc w1 (.cells #[.int .i64 0, .int .i64 0, .int .i64 0, .int .i64 0, .int .i64 0, .slice none 0 0] 31)
  have HM2 := Lib.hid (show MnBlk w2 w1.heap.size firstM (.slice osg firstM.segs.length scap) by rw [hw2.out]; exact HMz.out.row)
  have HBW := Lib.hid (show Below w1.heap.size w1 w2 by rw [hw2.out]; exact below_row hba (Nat.le_refl _) _)
  have HB2 := Lib.hid (Below.next HB1.out HBW.out)
  have HR2 := Lib.hid (HR1.out.below HBW.out)
  have HSG2 := Lib.hid (HSG.out.below HBW.out)
  clear hw2 hba HMz HB1 HR1 HSG HBW
  generalize w1.heap.size = b4 at *
  have HHD := Lib.hid (header_any 1 1 w2 (HNB.out.below HB2.out))
  obtain ⟨er, her⟩ : ∃ y, y = hdrEnc 1 1 := ⟨_, rfl⟩
  have HL := Lib.hid (show er.1.length = 22 by rw [her]; exact first_len.1)
  rw [← her] at HHD
  clear her
  go_wp2_with fail
  refine HHD.out.mono ?_
  rintro e w3 ⟨v3, rfl, ho3, hb3⟩
  obtain ⟨o3, cap3, rfl, _, _⟩ := own_shape ho3
  rw [HL.out]
  have HM3 := Lib.hid (HM2.out.below hb3)
  have HB3 := Lib.hid (Below.next HB2.out hb3)
  have HR3 := Lib.hid (HR2.out.below hb3)
  have HSG3 := Lib.hid (HSG2.out.below hb3)
  have HF3 := Lib.hid (HH.out.below HB3.out)
  have HNB3 := Lib.hid (HNB.out.below HB3.out)
  clear ho3 hb3 HHD HM2 HB2 HR2 HSG2 HL
  go_wp2_with fail
  refine wp_region_held_drew (S := fun w' => Below w3.heap.size w3 w') (by kernel_rfl) (show Below w3.heap.size w3 w3.drew from below_drewN' w3 1) (fun hHeld => ?_)
  refine tkl 0 b4 0 [.int .i64 1, .int .i64 2, .int .i64 0, .int .i64 0, .int .i64 0, .slice osg firstM.segs.length scap] rfl rfl (fun w' h j v hv => by rw [Nat.zero_add, (HM3.out.below h).cell]; simpa [mnCs, firstM] using hv) Tryz.underlying31 rfl (by rw [mnInfo]; rfl) ?_
  simp only [pA, pB, pC, pD]
  refine tk 1 rfl ?v_13 ?hy_13 ?r_13
  case hy_13 => intro w hSw; go_simp; try with_reducible rfl
  simp only [pA, pB, pC, pD]
  refine tk 2 rfl ?v_14 ?hy_14 ?r_14
  case hy_14 => intro w hSw; go_simp; try with_reducible rfl
  simp only [pA, pB, pC, pD]
  refine tk 3 rfl ?v_15 ?hy_15 ?r_15
  case hy_15 => intro w hSw; go_simp; try with_reducible rfl
  simp only [pA, pB, pC, pD]
  refine tkl 4 b4 0 [.int .i64 1, .int .i64 2, .int .i64 0, .int .i64 0, .int .i64 0, .slice osg firstM.segs.length scap] rfl rfl (fun w' h j v hv => by rw [Nat.zero_add, (HM3.out.below h).cell]; simpa [mnCs, firstM] using hv) Tryz.underlying31 rfl (by rw [mnInfo]; rfl) ?_
  simp only [pA, pB, pC, pD]
  generalize World.drew _ = Wd at *
  refine wpAnyH_ready (rs := [5, 7]) (by kernel_rfl) (by simp) ?_
  refine AllReadyH.cons rfl (fun K hK => ?_) (AllReadyH.cons rfl (fun K hK => ?_) AllReadyH.nil)
  · go_simp
    go_at_call 43
    refine (strays_empty _ f m d (HF3.out.below hHeld) HDN.out firstM (.slice osg firstM.segs.length scap)).mono ?_
    rintro e w4 ⟨rfl, hb4⟩
    have HB4 := Lib.hid (Below.next hHeld hb4)
    clear hb4 hHeld
    go_wp2_with fail
    refine hK.out _ _ HB4.out (fun hHeld => ?_)
    clear hK K
    refine tk 6 rfl ?v_16 ?hy_16 ?r_16
    case hy_16 => intro w hSw; go_simp; try with_reducible rfl
    simp only [pA, pB, pC, pD]
    have HB5 := Lib.hid (Below.next HB4.out (below_alloc w4 (.cells #[.bool false, .int .i64 0, .int .i64 0, .int .i64 0, .int .i64 0, .int .i64 0, .slice none 0 0, .slice none 0 0, .int .i64 0, .int .i64 0] 34)))
    have HGZ := Lib.hid (show PlBlk (w4.alloc (.cells #[.bool false, .int .i64 0, .int .i64 0, .int .i64 0, .int .i64 0, .int .i64 0, .slice none 0 0, .slice none 0 0, .int .i64 0, .int .i64 0] 34)) w4.heap.size planZ (.slice none 0 0) (.slice none 0 0) from plBlk_alloc w4 planZ (.slice none 0 0) (.slice none 0 0))
    have hgx : w3.heap.size ≤ w4.heap.size := HB4.out.size
    refine wpAnyH_ready (rs := [7]) (by kernel_rfl) (by simp) ?_
    refine AllReadyH.cons rfl (fun K hK => ?_) AllReadyH.nil
    go_simp
    refine hK.out _ _ HB5.out (fun hHeld => ?_)
    clear hK K HB4 hHeld
    generalize w4.heap.size = gx at *
    generalize w4.alloc (.cells #[.bool false, .int .i64 0, .int .i64 0, .int .i64 0, .int .i64 0, .int .i64 0, .slice none 0 0, .slice none 0 0, .int .i64 0, .int .i64 0] 34) = W5 at *
    refine wpAnyH_ready (rs := [8]) (by kernel_rfl) (by simp) ?_
    refine AllReadyH.cons rfl (fun K hK => ?_) AllReadyH.nil
    rw [if_pos (by kernel_rfl)]
    refine wp_store_row 34 (.tmp 7) (.tmp 24) rfl gx (plCs planF (.slice osg firstM.segs.length scap) (.slice none 0 0)) rfl rfl 34 (plCs planZ (.slice none 0 0) (.slice none 0 0)) HGZ.out plInfo rfl (plCs_all _ _ _ rfl rfl) ?_
    have HG6 := Lib.hid (show PlBlk (W5.setRow gx (plCs planF (.slice osg firstM.segs.length scap) (.slice none 0 0))) gx planF (.slice osg firstM.segs.length scap) (.slice none 0 0) from HGZ.out.row)
    have HB6 := Lib.hid (show Below w3.heap.size w3 (W5.setRow gx (plCs planF (.slice osg firstM.segs.length scap) (.slice none 0 0))) from below_row HB5.out hgx _)
    refine hK.out _ _ HB6.out (fun hHeld => ?_)
    clear hK K hHeld HGZ HB5
    generalize W5.setRow gx (plCs planF (.slice osg firstM.segs.length scap) (.slice none 0 0)) = W6 at *
    refine wpAnyH_done (by kernel_rfl) ?_ _
    have HF6 := Lib.hid (HF3.out.below HB6.out)
    have HFR := Lib.hid (free_any W6 f m d [] HF6.out)
    rw [HUS.out] at HFR
    go_wp2_with fail
    refine HFR.out.mono ?_
    rintro e w7 ⟨rfl, hb7⟩
    have HB7 := Lib.hid (Below.next HB6.out hb7)
    have HG7 := Lib.hid (HG6.out.below hb7)
    have r7 := HG7.out.c7
    clear hb7 HFR HF6 HG6 HB6
    go_wp2
    refine wp_loop_rounds 1 ?_
    rw [rounds_succ]
    go_wp2_with fail
    refine wp_region_held_drew (S := fun w' => Below w7.heap.size w7 w') (by kernel_rfl) (show Below w7.heap.size w7 w7.drew from below_drewN' w7 1) (fun hHeld => ?_)
    clear r7
    refine tk 0 rfl ?v_17 ?hy_17 ?r_17
    case hy_17 => intro w hSw; go_simp; try with_reducible rfl
    simp only [pA, pB, pC, pD]
    refine tk 1 rfl ?v_18 ?hy_18 ?r_18
    case hy_18 => intro w hSw; go_simp; try with_reducible rfl
    simp only [pA, pB, pC, pD]
    refine tk 2 rfl ?v_19 ?hy_19 ?r_19
    case hy_19 => intro w hSw; go_simp; try with_reducible rfl
    simp only [pA, pB, pC, pD]
    refine tkl 3 b4 0 [.int .i64 1, .int .i64 2, .int .i64 0, .int .i64 0, .int .i64 0, .slice osg firstM.segs.length scap] rfl rfl (fun w' h j v hv => by rw [Nat.zero_add, (HM3.out.below (Below.next HB7.out h)).cell]; simpa [mnCs, firstM] using hv) Tryz.underlying31 rfl (by rw [mnInfo]; rfl) ?_
    simp only [pA, pB, pC, pD]
    generalize World.drew _ = We at *
    refine wpAnyH_ready (rs := [4]) (by kernel_rfl) (by simp) ?_
    refine AllReadyH.cons rfl (fun K hK => ?_) AllReadyH.nil
    go_simp
    go_at_call 77
    refine (manSize_any firstM (.slice osg firstM.segs.length scap) We (HSG3.out.row.below (Below.next HB7.out hHeld)) (HNB3.out.below (Below.next HB7.out hHeld))).mono ?_
    rw [first_len.2]
    rintro e w8 ⟨rfl, hb8⟩
    have HB8 := Lib.hid (Below.next hHeld hb8)
    clear hb8 hHeld
    go_wp2_with fail
    refine hK.out _ _ HB8.out (fun hHeld => ?_)
    clear hK K
    have hw51 : IntKind.i64.wrap 51 = 51 := by decide
    have hw0 : IntKind.i64.wrap 0 = 0 := by decide
    have hw2 : IntKind.i64.wrap 2 = 2 := by decide
    rcases hr : decide (d.room < 51) with _ | _
    · have hr2 : ¬ d.room < 51 := by simpa using hr
      have HR51 := Lib.hid hr2
      clear hr2
      refine tk 5 rfl ?v_20 ?hy_20 ?r_20
      case hy_20 => intro w hSw; go_simp; try with_reducible rfl
      simp only [pA, pB, pC, pD]
      refine tk 6 rfl ?v_21 ?hy_21 ?r_21
      case hy_21 => intro w hSw; go_simp; try with_reducible rfl
      simp only [pA, pB, pC, pD]
      refine tk 7 rfl ?v_22 ?hy_22 ?r_22
      case hy_22 => intro w hSw; go_simp; try with_reducible rfl
      simp only [pA, pB, pC, pD]
      refine tk 8 rfl ?v_23 ?hy_23 ?r_23
      case hy_23 => intro w hSw; have r7 := (HG7.out.below hSw).c7; go_simp; try with_reducible rfl
      simp only [pA, pB, pC, pD]
      refine tk 11 rfl ?v_24 ?hy_24 ?r_24
      case hy_24 => intro w hSw; have r7 := (HG7.out.below hSw).c7; go_simp; try with_reducible rfl
      simp only [pA, pB, pC, pD]
      refine tk 12 rfl ?v_25 ?hy_25 ?r_25
      case hy_25 => intro w hSw; have r7 := (HG7.out.below hSw).c7; go_simp; try with_reducible rfl
      simp only [pA, pB, pC, pD]
      refine tk 13 rfl ?v_26 ?hy_26 ?r_26
      case hy_26 => intro w hSw; have r7 := (HG7.out.below hSw).c7; go_simp; try with_reducible rfl
      simp only [pA, pB, pC, pD]
      refine wpAnyH_ready (rs := [9]) (by kernel_rfl) (by simp) ?_
      refine AllReadyH.cons rfl (fun K hK => ?_) AllReadyH.nil
      go_simp
      go_at_call 78
      refine (list_empty w8 f m d (HF3.out.below (Below.next HB7.out HB8.out)) HDN.out).mono ?_
      rintro e w9 ⟨⟨ol, lcap, rfl⟩, hb9⟩
      have HB9 := Lib.hid (Below.next HB8.out hb9)
      clear hb9 hHeld
      go_wp2_with fail
      refine hK.out _ _ HB9.out (fun hHeld => ?_)
      clear hK K
      refine tk 10 rfl ?v_27 ?hy_27 ?r_27
      case hy_27 => intro w hSw; go_simp; try with_reducible rfl
      simp only [pA, pB, pC, pD]
      refine tk 14 rfl ?v_28 ?hy_28 ?r_28
      case hy_28 => intro w hSw; go_simp; try with_reducible rfl
      simp only [pA, pB, pC, pD]
      refine tk 15 rfl ?v_29 ?hy_29 ?r_29
      case hy_29 => intro w hSw; go_simp; try with_reducible rfl
      simp only [pA, pB, pC, pD]
      refine tk 16 rfl ?v_30 ?hy_30 ?r_30
      case hy_30 => intro w hSw; go_simp; try with_reducible rfl
      simp only [pA, pB, pC, pD]
      refine tk 17 rfl ?v_31 ?hy_31 ?r_31
      case hy_31 => intro w hSw; go_simp; try with_reducible rfl
      simp only [pA, pB, pC, pD]
      refine wpAnyH_done (by kernel_rfl) ?_ _
      have HGE := Lib.hid (HG7.out.below HB9.out)
      have HRE := Lib.hid (HR3.out.below (Below.next HB7.out HB9.out))
      have HBE := Lib.hid (Below.next HB3.out (Below.next HB7.out HB9.out))
      have HSE := Lib.hid (HSG3.out.below (Below.next HB7.out HB9.out))
      clear hHeld
      go_wp2_with (first | (with_reducible refine wpList_load_pl rfl (.tmp 7) rfl gx planF (.slice osg firstM.segs.length scap) (.slice none 0 0) rfl HGE.out ?_) | (with_reducible refine wpList_store_pl rfl (.tmp 2) (.tmp 63) rfl w.heap.size planZ planF (.slice none 0 0) (.slice none 0 0) (.slice osg firstM.segs.length scap) (.slice none 0 0) rfl rfl HRE.out rfl rfl ?_))
      intro w10 hw10
      have HP10 := Lib.hid (show PlBlk w10 w.heap.size planF (.slice osg firstM.segs.length scap) (.slice none 0 0) by rw [hw10.out]; exact HRE.out.row)
      have HB10 := Lib.hid (show Below w.heap.size w w10 by rw [hw10.out]; exact below_row HBE.out (Nat.le_refl _) _)
      have HT10 := Lib.hid (show Turned (fun k => k = w.heap.size) w9 w10 by rw [hw10.out]; exact ⟨rfl, rfl, rfl, by simp, fun k _ hn => setRow_other _ _ _ _ hn⟩)
      have HS10 := Lib.hid (show SgIn (fun k => w.heap.size ≤ k) w10 (.slice osg firstM.segs.length scap) firstM.segs from (HSE.out.turned HT10.out (fun k hk => by omega)).mono (fun k hk => by omega))
      clear hw10
      go_wp2
      exact bodyPost_ret (v := .tuple #[plV planF (.slice osg firstM.segs.length scap) (.slice none 0 0), .int .i64 0]) (results_pl2 rfl _ _ w.heap.size planF (.slice osg firstM.segs.length scap) (.slice none 0 0) _ rfl rfl HP10.out) rfl ⟨fun _ => ⟨_, rfl, HS10.out, rfl⟩, fun hlt => absurd hlt (by have := HR51.out; omega), HB10.out⟩
    · have hr2 : d.room < 51 := by simpa using hr
      have HR51 := Lib.hid hr2
      clear hr2
      refine tk 5 rfl ?v_32 ?hy_32 ?r_32
      case hy_32 => intro w hSw; go_simp; try with_reducible rfl
      simp only [pA, pB, pC, pD]
      refine tk 6 rfl ?v_33 ?hy_33 ?r_33
      case hy_33 => intro w hSw; go_simp; try with_reducible rfl
      simp only [pA, pB, pC, pD]
      refine tk 7 rfl ?v_34 ?hy_34 ?r_34
      case hy_34 => intro w hSw; go_simp; try with_reducible rfl
      simp only [pA, pB, pC, pD]
      refine tkn 8 rfl ?_
      simp only [pA, pB, pC, pD]
      refine tkn 9 rfl ?_
      simp only [pA, pB, pC, pD]
      refine tkn 10 rfl ?_
      simp only [pA, pB, pC, pD]
      refine tkn 11 rfl ?_
      simp only [pA, pB, pC, pD]
      refine tkn 12 rfl ?_
      simp only [pA, pB, pC, pD]
      refine tkn 13 rfl ?_
      simp only [pA, pB, pC, pD]
      refine tkn 14 rfl ?_
      simp only [pA, pB, pC, pD]
      refine tkn 15 rfl ?_
      simp only [pA, pB, pC, pD]
      refine tkn 16 rfl ?_
      simp only [pA, pB, pC, pD]
      refine tk 17 rfl ?v_35 ?hy_35 ?r_35
      case hy_35 => intro w hSw; go_simp; try with_reducible rfl
      simp only [pA, pB, pC, pD]
      refine wpAnyH_done (by kernel_rfl) ?_ _
      have HRE := Lib.hid (HR3.out.below (Below.next HB7.out HB8.out))
      have HBE := Lib.hid (Below.next HB3.out (Below.next HB7.out HB8.out))
      clear hHeld
      go_wp2_with (with_reducible refine wpList_store_pl rfl (.tmp 2) (.tmp 62) rfl w.heap.size planZ planZ (.slice none 0 0) (.slice none 0 0) (.slice none 0 0) (.slice none 0 0) rfl rfl HRE.out rfl rfl ?_)
      intro w10 hw10
      have HP10 := Lib.hid (show PlBlk w10 w.heap.size planZ (.slice none 0 0) (.slice none 0 0) by rw [hw10.out]; exact HRE.out.row)
      have HB10 := Lib.hid (show Below w.heap.size w w10 by rw [hw10.out]; exact below_row HBE.out (Nat.le_refl _) _)
      clear hw10
      go_wp2
      exact bodyPost_ret (v := .tuple #[plV planZ (.slice none 0 0) (.slice none 0 0), .int .i64 54]) (results_pl2 rfl _ _ w.heap.size planZ (.slice none 0 0) (.slice none 0 0) _ rfl rfl HP10.out) rfl ⟨fun hge => absurd HR51.out (by omega), fun _ => rfl, HB10.out⟩
  · have HBz := Lib.hid (Below.next hHeld (below_alloc Wd (.cells #[.bool false, .int .i64 0, .int .i64 0, .int .i64 0, .int .i64 0, .int .i64 0, .slice none 0 0, .slice none 0 0, .int .i64 0, .int .i64 0] 34)))
    have HGZ := Lib.hid (show PlBlk (Wd.alloc (.cells #[.bool false, .int .i64 0, .int .i64 0, .int .i64 0, .int .i64 0, .int .i64 0, .slice none 0 0, .slice none 0 0, .int .i64 0, .int .i64 0] 34)) Wd.heap.size planZ (.slice none 0 0) (.slice none 0 0) from plBlk_alloc Wd planZ (.slice none 0 0) (.slice none 0 0))
    have hgx : w3.heap.size ≤ Wd.heap.size := hHeld.size
    go_simp
    refine hK.out _ _ HBz.out (fun hHeld => ?_)
    clear hK K
    generalize Wd.heap.size = gx at *
    generalize Wd.alloc (.cells #[.bool false, .int .i64 0, .int .i64 0, .int .i64 0, .int .i64 0, .int .i64 0, .slice none 0 0, .slice none 0 0, .int .i64 0, .int .i64 0] 34) = Wz at *
    refine wpAnyH_ready (rs := [5]) (by kernel_rfl) (by simp) ?_
    refine AllReadyH.cons rfl (fun K hK => ?_) AllReadyH.nil
    go_simp
    go_at_call 43
    refine (strays_empty _ f m d (HF3.out.below hHeld) HDN.out firstM (.slice osg firstM.segs.length scap)).mono ?_
    rintro e W5 ⟨rfl, hb5⟩
    have HB5 := Lib.hid (Below.next hHeld hb5)
    have HGZ := Lib.hid (HGZ.out.below hb5)
    clear hb5 hHeld HBz
    go_wp2_with fail
    refine hK.out _ _ HB5.out (fun hHeld => ?_)
    clear hK K
    refine tk 6 rfl ?v_36 ?hy_36 ?r_36
    case hy_36 => intro w hSw; go_simp; try with_reducible rfl
    simp only [pA, pB, pC, pD]
    refine wpAnyH_ready (rs := [8]) (by kernel_rfl) (by simp) ?_
    refine AllReadyH.cons rfl (fun K hK => ?_) AllReadyH.nil
    rw [if_pos (by kernel_rfl)]
    refine wp_store_row 34 (.tmp 7) (.tmp 24) rfl gx (plCs planF (.slice osg firstM.segs.length scap) (.slice none 0 0)) rfl rfl 34 (plCs planZ (.slice none 0 0) (.slice none 0 0)) HGZ.out plInfo rfl (plCs_all _ _ _ rfl rfl) ?_
    have HG6 := Lib.hid (show PlBlk (W5.setRow gx (plCs planF (.slice osg firstM.segs.length scap) (.slice none 0 0))) gx planF (.slice osg firstM.segs.length scap) (.slice none 0 0) from HGZ.out.row)
    have HB6 := Lib.hid (show Below w3.heap.size w3 (W5.setRow gx (plCs planF (.slice osg firstM.segs.length scap) (.slice none 0 0))) from below_row HB5.out hgx _)
    refine hK.out _ _ HB6.out (fun hHeld => ?_)
    clear hK K hHeld HGZ HB5
    generalize W5.setRow gx (plCs planF (.slice osg firstM.segs.length scap) (.slice none 0 0)) = W6 at *
    refine wpAnyH_done (by kernel_rfl) ?_ _
    have HF6 := Lib.hid (HF3.out.below HB6.out)
    have HFR := Lib.hid (free_any W6 f m d [] HF6.out)
    rw [HUS.out] at HFR
    go_wp2_with fail
    refine HFR.out.mono ?_
    rintro e w7 ⟨rfl, hb7⟩
    have HB7 := Lib.hid (Below.next HB6.out hb7)
    have HG7 := Lib.hid (HG6.out.below hb7)
    have r7 := HG7.out.c7
    clear hb7 HFR HF6 HG6 HB6
    go_wp2
    refine wp_loop_rounds 1 ?_
    rw [rounds_succ]
    go_wp2_with fail
    refine wp_region_held_drew (S := fun w' => Below w7.heap.size w7 w') (by kernel_rfl) (show Below w7.heap.size w7 w7.drew from below_drewN' w7 1) (fun hHeld => ?_)
    clear r7
    refine tk 0 rfl ?v_37 ?hy_37 ?r_37
    case hy_37 => intro w hSw; go_simp; try with_reducible rfl
    simp only [pA, pB, pC, pD]
    refine tk 1 rfl ?v_38 ?hy_38 ?r_38
    case hy_38 => intro w hSw; go_simp; try with_reducible rfl
    simp only [pA, pB, pC, pD]
    refine tk 2 rfl ?v_39 ?hy_39 ?r_39
    case hy_39 => intro w hSw; go_simp; try with_reducible rfl
    simp only [pA, pB, pC, pD]
    refine tkl 3 b4 0 [.int .i64 1, .int .i64 2, .int .i64 0, .int .i64 0, .int .i64 0, .slice osg firstM.segs.length scap] rfl rfl (fun w' h j v hv => by rw [Nat.zero_add, (HM3.out.below (Below.next HB7.out h)).cell]; simpa [mnCs, firstM] using hv) Tryz.underlying31 rfl (by rw [mnInfo]; rfl) ?_
    simp only [pA, pB, pC, pD]
    generalize World.drew _ = We at *
    refine wpAnyH_ready (rs := [4]) (by kernel_rfl) (by simp) ?_
    refine AllReadyH.cons rfl (fun K hK => ?_) AllReadyH.nil
    go_simp
    go_at_call 77
    refine (manSize_any firstM (.slice osg firstM.segs.length scap) We (HSG3.out.row.below (Below.next HB7.out hHeld)) (HNB3.out.below (Below.next HB7.out hHeld))).mono ?_
    rw [first_len.2]
    rintro e w8 ⟨rfl, hb8⟩
    have HB8 := Lib.hid (Below.next hHeld hb8)
    clear hb8 hHeld
    go_wp2_with fail
    refine hK.out _ _ HB8.out (fun hHeld => ?_)
    clear hK K
    have hw51 : IntKind.i64.wrap 51 = 51 := by decide
    have hw0 : IntKind.i64.wrap 0 = 0 := by decide
    have hw2 : IntKind.i64.wrap 2 = 2 := by decide
    rcases hr : decide (d.room < 51) with _ | _
    · have hr2 : ¬ d.room < 51 := by simpa using hr
      have HR51 := Lib.hid hr2
      clear hr2
      refine tk 5 rfl ?v_40 ?hy_40 ?r_40
      case hy_40 => intro w hSw; go_simp; try with_reducible rfl
      simp only [pA, pB, pC, pD]
      refine tk 6 rfl ?v_41 ?hy_41 ?r_41
      case hy_41 => intro w hSw; go_simp; try with_reducible rfl
      simp only [pA, pB, pC, pD]
      refine tk 7 rfl ?v_42 ?hy_42 ?r_42
      case hy_42 => intro w hSw; go_simp; try with_reducible rfl
      simp only [pA, pB, pC, pD]
      refine tk 8 rfl ?v_43 ?hy_43 ?r_43
      case hy_43 => intro w hSw; have r7 := (HG7.out.below hSw).c7; go_simp; try with_reducible rfl
      simp only [pA, pB, pC, pD]
      refine tk 11 rfl ?v_44 ?hy_44 ?r_44
      case hy_44 => intro w hSw; have r7 := (HG7.out.below hSw).c7; go_simp; try with_reducible rfl
      simp only [pA, pB, pC, pD]
      refine tk 12 rfl ?v_45 ?hy_45 ?r_45
      case hy_45 => intro w hSw; have r7 := (HG7.out.below hSw).c7; go_simp; try with_reducible rfl
      simp only [pA, pB, pC, pD]
      refine tk 13 rfl ?v_46 ?hy_46 ?r_46
      case hy_46 => intro w hSw; have r7 := (HG7.out.below hSw).c7; go_simp; try with_reducible rfl
      simp only [pA, pB, pC, pD]
      refine wpAnyH_ready (rs := [9]) (by kernel_rfl) (by simp) ?_
      refine AllReadyH.cons rfl (fun K hK => ?_) AllReadyH.nil
      go_simp
      go_at_call 78
      refine (list_empty w8 f m d (HF3.out.below (Below.next HB7.out HB8.out)) HDN.out).mono ?_
      rintro e w9 ⟨⟨ol, lcap, rfl⟩, hb9⟩
      have HB9 := Lib.hid (Below.next HB8.out hb9)
      clear hb9 hHeld
      go_wp2_with fail
      refine hK.out _ _ HB9.out (fun hHeld => ?_)
      clear hK K
      refine tk 10 rfl ?v_47 ?hy_47 ?r_47
      case hy_47 => intro w hSw; go_simp; try with_reducible rfl
      simp only [pA, pB, pC, pD]
      refine tk 14 rfl ?v_48 ?hy_48 ?r_48
      case hy_48 => intro w hSw; go_simp; try with_reducible rfl
      simp only [pA, pB, pC, pD]
      refine tk 15 rfl ?v_49 ?hy_49 ?r_49
      case hy_49 => intro w hSw; go_simp; try with_reducible rfl
      simp only [pA, pB, pC, pD]
      refine tk 16 rfl ?v_50 ?hy_50 ?r_50
      case hy_50 => intro w hSw; go_simp; try with_reducible rfl
      simp only [pA, pB, pC, pD]
      refine tk 17 rfl ?v_51 ?hy_51 ?r_51
      case hy_51 => intro w hSw; go_simp; try with_reducible rfl
      simp only [pA, pB, pC, pD]
      refine wpAnyH_done (by kernel_rfl) ?_ _
      have HGE := Lib.hid (HG7.out.below HB9.out)
      have HRE := Lib.hid (HR3.out.below (Below.next HB7.out HB9.out))
      have HBE := Lib.hid (Below.next HB3.out (Below.next HB7.out HB9.out))
      have HSE := Lib.hid (HSG3.out.below (Below.next HB7.out HB9.out))
      clear hHeld
      go_wp2_with (first | (with_reducible refine wpList_load_pl rfl (.tmp 7) rfl gx planF (.slice osg firstM.segs.length scap) (.slice none 0 0) rfl HGE.out ?_) | (with_reducible refine wpList_store_pl rfl (.tmp 2) (.tmp 63) rfl w.heap.size planZ planF (.slice none 0 0) (.slice none 0 0) (.slice osg firstM.segs.length scap) (.slice none 0 0) rfl rfl HRE.out rfl rfl ?_))
      intro w10 hw10
      have HP10 := Lib.hid (show PlBlk w10 w.heap.size planF (.slice osg firstM.segs.length scap) (.slice none 0 0) by rw [hw10.out]; exact HRE.out.row)
      have HB10 := Lib.hid (show Below w.heap.size w w10 by rw [hw10.out]; exact below_row HBE.out (Nat.le_refl _) _)
      have HT10 := Lib.hid (show Turned (fun k => k = w.heap.size) w9 w10 by rw [hw10.out]; exact ⟨rfl, rfl, rfl, by simp, fun k _ hn => setRow_other _ _ _ _ hn⟩)
      have HS10 := Lib.hid (show SgIn (fun k => w.heap.size ≤ k) w10 (.slice osg firstM.segs.length scap) firstM.segs from (HSE.out.turned HT10.out (fun k hk => by omega)).mono (fun k hk => by omega))
      clear hw10
      go_wp2
      exact bodyPost_ret (v := .tuple #[plV planF (.slice osg firstM.segs.length scap) (.slice none 0 0), .int .i64 0]) (results_pl2 rfl _ _ w.heap.size planF (.slice osg firstM.segs.length scap) (.slice none 0 0) _ rfl rfl HP10.out) rfl ⟨fun _ => ⟨_, rfl, HS10.out, rfl⟩, fun hlt => absurd hlt (by have := HR51.out; omega), HB10.out⟩
    · have hr2 : d.room < 51 := by simpa using hr
      have HR51 := Lib.hid hr2
      clear hr2
      refine tk 5 rfl ?v_52 ?hy_52 ?r_52
      case hy_52 => intro w hSw; go_simp; try with_reducible rfl
      simp only [pA, pB, pC, pD]
      refine tk 6 rfl ?v_53 ?hy_53 ?r_53
      case hy_53 => intro w hSw; go_simp; try with_reducible rfl
      simp only [pA, pB, pC, pD]
      refine tk 7 rfl ?v_54 ?hy_54 ?r_54
      case hy_54 => intro w hSw; go_simp; try with_reducible rfl
      simp only [pA, pB, pC, pD]
      refine tkn 8 rfl ?_
      simp only [pA, pB, pC, pD]
      refine tkn 9 rfl ?_
      simp only [pA, pB, pC, pD]
      refine tkn 10 rfl ?_
      simp only [pA, pB, pC, pD]
      refine tkn 11 rfl ?_
      simp only [pA, pB, pC, pD]
      refine tkn 12 rfl ?_
      simp only [pA, pB, pC, pD]
      refine tkn 13 rfl ?_
      simp only [pA, pB, pC, pD]
      refine tkn 14 rfl ?_
      simp only [pA, pB, pC, pD]
      refine tkn 15 rfl ?_
      simp only [pA, pB, pC, pD]
      refine tkn 16 rfl ?_
      simp only [pA, pB, pC, pD]
      refine tk 17 rfl ?v_55 ?hy_55 ?r_55
      case hy_55 => intro w hSw; go_simp; try with_reducible rfl
      simp only [pA, pB, pC, pD]
      refine wpAnyH_done (by kernel_rfl) ?_ _
      have HRE := Lib.hid (HR3.out.below (Below.next HB7.out HB8.out))
      have HBE := Lib.hid (Below.next HB3.out (Below.next HB7.out HB8.out))
      clear hHeld
      go_wp2_with (with_reducible refine wpList_store_pl rfl (.tmp 2) (.tmp 62) rfl w.heap.size planZ planZ (.slice none 0 0) (.slice none 0 0) (.slice none 0 0) (.slice none 0 0) rfl rfl HRE.out rfl rfl ?_)
      intro w10 hw10
      have HP10 := Lib.hid (show PlBlk w10 w.heap.size planZ (.slice none 0 0) (.slice none 0 0) by rw [hw10.out]; exact HRE.out.row)
      have HB10 := Lib.hid (show Below w.heap.size w w10 by rw [hw10.out]; exact below_row HBE.out (Nat.le_refl _) _)
      clear hw10
      go_wp2
      exact bodyPost_ret (v := .tuple #[plV planZ (.slice none 0 0) (.slice none 0 0), .int .i64 54]) (results_pl2 rfl _ _ w.heap.size planZ (.slice none 0 0) (.slice none 0 0) _ rfl rfl HP10.out) rfl ⟨fun hge => absurd HR51.out (by omega), fun _ => rfl, HB10.out⟩

end Go.Proofs.YtlobohpbgghleaaGreatDoor

namespace Go.Proofs.YtlobohpbgghleaaGreatDoor
open Go.RowKit

/-! ## an empty disk: Plan, Run, the head -/

theorem FsAt.turned {S : Nat → Prop} {w w' : World} {f m : Nat} {d : Disk} {L : List Slot} (h : FsAt w f m d L) (ht : Turned S w w') (hS : ∀ k, foot f m L k → ¬ S k) : FsAt w' f m d L :=
  ⟨h.hd.kept (ht.block f h.hd.lt (hS f (.inl rfl))), h.body.turned h.hd.lt ht (fun k _ hk => hS k hk), h.fil, h.ok⟩

set_option maxRecDepth 100000 in
set_option maxHeartbeats 4000000 in
theorem plan_empty (w : World) (f m : Nat) (d : Disk) (h : FsAt w f m d []) (hdn : d.down = false) (hn : NibTab w) :
    Calls Tryz.prog 12 #[.pointer (some ⟨f, 0, none⟩)] w (FreshPost w d) := by
  have HH := Lib.hid h
  have HB0 := Lib.hid (below_alloc w (.cells #[.bool false, .int .i64 0, .int .i64 0, .int .i64 0, .int .i64 0, .int .i64 0, .slice none 0 0, .slice none 0 0, .int .i64 0, .int .i64 0] 34))
  have HR0 := Lib.hid (show PlBlk (w.alloc (.cells #[.bool false, .int .i64 0, .int .i64 0, .int .i64 0, .int .i64 0, .int .i64 0, .slice none 0 0, .slice none 0 0, .int .i64 0, .int .i64 0] 34)) w.heap.size planZ (.slice none 0 0) (.slice none 0 0) from plBlk_alloc w planZ (.slice none 0 0) (.slice none 0 0))
  have HLD := Lib.hid (load_empty _ f m d (h.below HB0.out) hdn)
  have HNB := Lib.hid hn
  have HDN := Lib.hid hdn
  clear h hdn hn
  go_enter Tryz.func12, Tryz.ntmps12
  go_wp2_with fail
  refine HLD.out.mono ?_
  rintro e w1 ⟨rfl, hb1⟩
  have HBX := Lib.hid (fun (W : World) (hb : Below w1.heap.size w1 W) => show Below w.heap.size w W from Below.next (Below.next HB0.out hb1) hb)
  have HRX := Lib.hid (HR0.out.below hb1)
  have HMz := Lib.hid (mnBlk_alloc w1 zeroM (.slice none 0 0))
  simp only [mnCs, zeroM] at HMz
  clear hb1 HB0 HR0 HLD
  go_wp2_with (with_reducible refine wpList_store_mn rfl (.tmp 4) (.tmp 20) rfl w1.heap.size ⟨0, 0, 0, 0, 0, []⟩ zeroM (.slice none 0 0) (.slice none 0 0) rfl rfl HMz.out rfl ?_)
  intro w2 hw2
  have hb2 : Below w1.heap.size w1 w2 := by rw [hw2.out]; exact below_row (below_alloc w1 _) (Nat.le_refl _) _
  have HB2 := Lib.hid (show Below w.heap.size w w2 from HBX.out _ hb2)
  have HR2 := Lib.hid (HRX.out.below hb2)
  have HFR := Lib.hid (fresh_any w2 f m d (HH.out.below HB2.out) HDN.out (HNB.out.below HB2.out))
  clear hw2 hb2 HMz HBX HRX
  go_wp2_with fail
  refine HFR.out.mono ?_
  rintro e w3 ⟨hge, hlt, hb3⟩
  have HB3 := Lib.hid (Below.next HB2.out hb3)
  have HR3 := Lib.hid (HR2.out.below hb3)
  have HGE := Lib.hid hge
  have HLT := Lib.hid hlt
  have hs2 := HR2.out.lt
  clear hge hlt hb3 HFR HB2
  by_cases hr : d.room < 51
  · obtain rfl := HLT.out hr
    have HRM := Lib.hid hr
    clear hr hs2 HLT HGE
    go_wp2_with (with_reducible refine wpList_store_pl rfl (.tmp 2) (.tmp 37) rfl w.heap.size planZ planZ (.slice none 0 0) (.slice none 0 0) (.slice none 0 0) (.slice none 0 0) rfl rfl HR3.out rfl rfl ?_)
    intro w4 hw4
    have HP4 := Lib.hid (show PlBlk w4 w.heap.size planZ (.slice none 0 0) (.slice none 0 0) by rw [hw4.out]; exact HR3.out.row)
    have HB4 := Lib.hid (show Below w.heap.size w w4 by rw [hw4.out]; exact below_row HB3.out (Nat.le_refl _) _)
    clear hw4
    go_wp2
    exact bodyPost_ret (v := .tuple #[plV planZ (.slice none 0 0) (.slice none 0 0), .int .i64 54]) (results_pl2 rfl _ _ w.heap.size planZ (.slice none 0 0) (.slice none 0 0) _ rfl rfl HP4.out) rfl ⟨fun hge => absurd HRM.out (by omega), fun _ => rfl, HB4.out⟩
  · obtain ⟨sv, rfl, hsg, hone⟩ := HGE.out (by omega)
    have HRM := Lib.hid hr
    have HSG := Lib.hid (hsg.mono (A' := fun k => w.heap.size + 1 ≤ k) (fun k hk => by omega))
    have HONE := Lib.hid hone
    clear hr hsg hone hs2 HLT HGE
    go_wp2_with (with_reducible refine wpList_store_pl rfl (.tmp 2) (.tmp 37) rfl w.heap.size planZ planF (.slice none 0 0) (.slice none 0 0) sv (.slice none 0 0) rfl rfl HR3.out HONE.out rfl ?_)
    intro w4 hw4
    have HP4 := Lib.hid (show PlBlk w4 w.heap.size planF sv (.slice none 0 0) by rw [hw4.out]; exact HR3.out.row)
    have HB4 := Lib.hid (show Below w.heap.size w w4 by rw [hw4.out]; exact below_row HB3.out (Nat.le_refl _) _)
    have HT4 := Lib.hid (show Turned (fun k => k = w.heap.size) w3 w4 by rw [hw4.out]; exact ⟨rfl, rfl, rfl, by simp, fun k _ hn => setRow_other _ _ _ _ hn⟩)
    have HS4 := Lib.hid ((HSG.out.turned HT4.out (fun k hk => by omega)).mono (A' := fun k => w.heap.size ≤ k) (fun k hk => by omega))
    clear hw4 HT4 HSG
    go_wp2
    exact bodyPost_ret (v := .tuple #[plV planF sv (.slice none 0 0), .int .i64 0]) (results_pl2 rfl _ _ w.heap.size planF sv (.slice none 0 0) _ rfl rfl HP4.out) rfl ⟨fun _ => ⟨_, rfl, HS4.out, HONE.out⟩, fun hlt => absurd hlt (by have := HRM.out; omega), HB4.out⟩

set_option maxRecDepth 100000 in
set_option maxHeartbeats 4000000 in
theorem run_empty (w : World) (f m : Nat) (d : Disk) (h : FsAt w f m d []) (hdn : d.down = false) (hn : NibTab w) (hg : ¬ foot f m [] 0) (hroom : 51 ≤ d.room) (hst : d.steps + 32 < 4611686018427387904) (hap : (applyD d planF).2 = 0) :
    Calls Tryz.prog 17 #[.pointer (some ⟨f, 0, none⟩)] w fun e w' => (∃ sv, e = .returned (.tuple #[plV planF sv (.slice none 0 0), .int .i64 0]) ∧ sv.oneCell' = true) ∧ FsPost w f m [] (applyD d planF).1 w' := by
  have HH := Lib.hid h
  have HB0 := Lib.hid (below_alloc w (.cells #[.bool false, .int .i64 0, .int .i64 0, .int .i64 0, .int .i64 0, .int .i64 0, .slice none 0 0, .slice none 0 0, .int .i64 0, .int .i64 0] 34))
  have HR0 := Lib.hid (show PlBlk (w.alloc (.cells #[.bool false, .int .i64 0, .int .i64 0, .int .i64 0, .int .i64 0, .int .i64 0, .slice none 0 0, .slice none 0 0, .int .i64 0, .int .i64 0] 34)) w.heap.size planZ (.slice none 0 0) (.slice none 0 0) from plBlk_alloc w planZ (.slice none 0 0) (.slice none 0 0))
  have HPL := Lib.hid (plan_empty _ f m d (h.below HB0.out) hdn (hn.below HB0.out))
  have HNB := Lib.hid hn
  have HNG := Lib.hid hg
  have HFW := Lib.hid h.lt
  have HST := Lib.hid hst
  have HAP := Lib.hid hap
  have HRM := Lib.hid hroom
  clear h hdn hn hg hst hap hroom
  go_enter Tryz.func17, Tryz.ntmps17
  go_wp2_with fail
  refine HPL.out.mono ?_
  rintro e w1 ⟨hge, _, hb1⟩
  obtain ⟨sv, rfl, hsg, hone⟩ := hge HRM.out
  have HONE := Lib.hid hone
  have HSG := Lib.hid hsg
  have HPz := Lib.hid (plBlk_alloc w1 planZ (.slice none 0 0) (.slice none 0 0))
  simp only [plCs, planZ, zeroM] at HPz
  have HB1 := Lib.hid (Below.next HB0.out hb1)
  have HR1 := Lib.hid (HR0.out.below hb1)
  have hss : w.heap.size < w1.heap.size := HR1.out.lt
  clear hb1 hsg hone hge HPL HB0 HR0
  go_wp2_with (with_reducible refine wpList_store_pl rfl (.tmp 4) (.tmp 10) rfl w1.heap.size ⟨false, ⟨0, 0, 0, 0, 0, []⟩, [], 0, 0⟩ planF (.slice none 0 0) (.slice none 0 0) sv (.slice none 0 0) rfl rfl HPz.out HONE.out rfl ?_)
  intro w2 hw2
  have hb2 : Below w1.heap.size w1 w2 := by rw [hw2.out]; exact below_row (below_alloc w1 _) (Nat.le_refl _) _
  have HP2 := Lib.hid (show PlBlk w2 w1.heap.size planF sv (.slice none 0 0) by rw [hw2.out]; exact HPz.out.row)
  have HB2 := Lib.hid (Below.next HB1.out hb2)
  have HR2 := Lib.hid (HR1.out.below hb2)
  have HF2 := Lib.hid (HH.out.below HB2.out)
  have HNF := Lib.hid (fun k (hk : w.heap.size ≤ k) => show ¬ foot f m [] k from fun hf => by have := HFW.out k hf; omega)
  have HSG2 := Lib.hid ((HSG.out.below hb2).mono (A' := fun k => ¬ foot f m [] k) (fun k hk => HNF.out k (by simp at hk; omega)))
  have HRA := Lib.hid (recApply_good w2 f m d [] HF2.out planF sv (.slice none 0 0) HSG2.out ⟨none, 0, rfl, Nat.le_refl _, by decide, fun i x hx => by simp [planF] at hx⟩ (HNB.out.below HB2.out) HNG.out (by show d.steps + ((0 : Nat) : Int) + 16 < _; have := HST.out; omega) firstM_ok)
  clear hw2 hb2 HPz HB1 HR1 HSG
  have HSZ := Lib.hid (show w.heap.size < w2.heap.size from HR2.out.lt)
  generalize w1.heap.size = b4 at *
  go_wp2_with (with_reducible refine wpList_load_pl rfl (.tmp 4) rfl b4 planF sv (.slice none 0 0) rfl HP2.out ?_)
  refine HRA.out.mono ?_
  rintro e w3 ⟨rfl, hp⟩
  rw [HAP.out]
  have HPP := Lib.hid hp
  have HP3 := Lib.hid (HP2.out.kept (hp.block HP2.out.lt (HNF.out _ (by omega))))
  have HR3 := Lib.hid (HR2.out.kept (hp.block HR2.out.lt (HNF.out _ (Nat.le_refl _))))
  clear hp HRA HP2 HR2
  go_wp2_with (first | (with_reducible refine wpList_load_pl rfl (.tmp 4) rfl b4 planF sv (.slice none 0 0) rfl HP3.out ?_) | (with_reducible refine wpList_store_pl rfl (.tmp 2) (.tmp 23) rfl w.heap.size planZ planF (.slice none 0 0) (.slice none 0 0) sv (.slice none 0 0) rfl rfl HR3.out HONE.out rfl ?_))
  intro w4 hw4
  have HP4 := Lib.hid (show PlBlk w4 w.heap.size planF sv (.slice none 0 0) by rw [hw4.out]; exact HR3.out.row)
  have HF4 := Lib.hid (show FsPost w f m [] (applyD d planF).1 w4 by
    obtain ⟨L', h1, h2, h3⟩ := HPP.out
    have ht : Turned (fun k => k = w.heap.size) w3 w4 := by rw [hw4.out]; exact ⟨rfl, rfl, rfl, by simp, fun k _ hn => setRow_other _ _ _ _ hn⟩
    have hnf : ∀ k, foot f m L' k → ¬ k = w.heap.size := fun k hk e => by
      rcases h3 k hk with h4 | h4
      · exact HNF.out k (by omega) h4
      · have := HSZ.out; omega
    exact ⟨L', h1.turned ht hnf, ((Turned.below HB2.out).trans h2 (fun _ h => .inl h)).trans ht (fun i hi => .inr (by omega)), fun k hk => (h3 k hk).imp id (fun h => Nat.le_trans HB2.out.size h)⟩)
  clear hw4
  go_wp2
  exact bodyPost_ret (v := .tuple #[plV planF sv (.slice none 0 0), .int .i64 0]) (results_pl2 rfl _ _ w.heap.size planF sv (.slice none 0 0) _ rfl rfl HP4.out) rfl ⟨⟨_, rfl, HONE.out⟩, HF4.out⟩

set_option maxRecDepth 100000 in
set_option maxHeartbeats 4000000 in
theorem head18_any (w : World) (hn : NibTab w) : Calls Tryz.prog 9 #[] w fun e w' => e = .returned (.bool true) ∧ Below w.heap.size w w' := by
  have HNB := Lib.hid hn
  have HNL := Lib.hid hn.lt
  clear hn
  go_enter Tryz.func9, Tryz.ntmps9
  go_wp2_with fail
  refine (fsNew_any 51 w).mono ?_
  rintro e w1 ⟨f, m, rfl, hat, hf, hm, hb1⟩
  have HB1 := Lib.hid hb1
  have HLO := Lib.hid (show ∀ k, foot f m [] k → w.heap.size ≤ k from fun k hk => by
    rcases hk with rfl | rfl | ⟨s, hs, _⟩
    · exact hf
    · exact hm
    · exact absurd hs List.not_mem_nil)
  have HRN := Lib.hid (run_empty w1 f m (newD 51) hat rfl (HNB.out.below hb1) (fun hc => by have := HLO.out _ hc; have := HNL.out; omega) (by decide) (by decide) head_store.1)
  clear hat hf hm hb1
  go_wp2_with fail
  refine HRN.out.mono ?_
  rintro e w2 ⟨⟨sv, rfl, hone⟩, hp⟩
  have HONE := Lib.hid hone
  obtain ⟨L2, h2, ht2, hs2⟩ := hp
  have HF2 := Lib.hid h2
  have HB2 := Lib.hid (show Below w.heap.size w w2 from ⟨ht2.os.trans HB1.out.os, ht2.tape.trans HB1.out.tape, ht2.output.trans HB1.out.output, Nat.le_trans HB1.out.size ht2.size, fun k hk => (ht2.block k (Nat.lt_of_lt_of_le hk HB1.out.size) (fun hc => by have := HLO.out k hc; omega)).trans (HB1.out.block k hk)⟩)
  have HPz := Lib.hid (plBlk_alloc w2 planZ (.slice none 0 0) (.slice none 0 0))
  simp only [plCs, planZ, zeroM] at HPz
  have HU := Lib.hid head_store.2
  clear h2 ht2 hs2 HRN hone
  go_wp2_with (with_reducible refine wpList_store_pl rfl (.tmp 2) (.tmp 10) rfl w2.heap.size ⟨false, ⟨0, 0, 0, 0, 0, []⟩, [], 0, 0⟩ planF (.slice none 0 0) (.slice none 0 0) sv (.slice none 0 0) rfl rfl HPz.out HONE.out rfl ?_)
  intro w3 hw3
  have hb3 : Below w2.heap.size w2 w3 := by rw [hw3.out]; exact below_row (below_alloc w2 _) (Nat.le_refl _) _
  have HP3 := Lib.hid (show PlBlk w3 w2.heap.size planF sv (.slice none 0 0) by rw [hw3.out]; exact HPz.out.row)
  have HB3 := Lib.hid (Below.next HB2.out hb3)
  have HF3 := Lib.hid (HF2.out.below hb3)
  clear hw3 hb3 HPz HF2 HB2
  generalize w2.heap.size = b2 at *
  go_wp2_with fail
  refine (fsNew_any 50 w3).mono ?_
  rintro e w4 ⟨f2, m2, rfl, hat2, _, _, hb4⟩
  have HB4 := Lib.hid (Below.next HB3.out hb4)
  have HP4 := Lib.hid (HP3.out.below hb4)
  have HF4 := Lib.hid (HF3.out.below hb4)
  have HPL := Lib.hid (plan_empty w4 f2 m2 (newD 50) hat2 rfl (HNB.out.below HB4.out))
  clear hat2 hb4 HB3 HP3 HF3
  go_wp2_with fail
  refine HPL.out.mono ?_
  rintro e w5 ⟨_, hlt, hb5⟩
  obtain rfl := hlt (by decide)
  have HPy := Lib.hid (plBlk_alloc w5 planZ (.slice none 0 0) (.slice none 0 0))
  have HB5 := Lib.hid (Below.next HB4.out hb5)
  have HP5 := Lib.hid (HP4.out.below hb5)
  have HF5 := Lib.hid (HF4.out.below hb5)
  simp only [plCs, planZ, zeroM] at HPy
  clear hlt hb5 HPL HB4 HP4 HF4
  go_wp2_with (with_reducible refine wpList_store_pl rfl (.tmp 4) (.tmp 15) rfl w5.heap.size ⟨false, ⟨0, 0, 0, 0, 0, []⟩, [], 0, 0⟩ planZ (.slice none 0 0) (.slice none 0 0) (.slice none 0 0) (.slice none 0 0) rfl rfl HPy.out rfl rfl ?_)
  intro w6 hw6
  have hb6 : Below w5.heap.size w5 w6 := by rw [hw6.out]; exact below_row (below_alloc w5 _) (Nat.le_refl _) _
  have HQ6 := Lib.hid (show PlBlk w6 w5.heap.size planZ (.slice none 0 0) (.slice none 0 0) by rw [hw6.out]; exact HPy.out.row)
  have HB6 := Lib.hid (Below.next HB5.out hb6)
  have HP6 := Lib.hid (HP5.out.below hb6)
  have HF6 := Lib.hid (HF5.out.below hb6)
  have c0 : w6.cell? ⟨b2, 0, none⟩ = some (.bool true) := HP6.out.c0
  have c8 : w6.cell? ⟨b2, 8, none⟩ = some (.int .i64 22) := HP6.out.c8
  have d0 : w6.cell? ⟨w5.heap.size, 0, none⟩ = some (.bool false) := HQ6.out.c0
  have HUS := Lib.hid (used_any w6 f m _ L2 HF6.out)
  rw [HU.out] at HUS
  clear hw6 hb6 HPy HB5 HP5 HF5
  go_wp2_with (go_at_call 14; refine HUS.out.mono ?_; rintro e w7 ⟨rfl, rfl⟩)
  go_ret
  exact ⟨rfl, HB6.out⟩

end Go.Proofs.YtlobohpbgghleaaGreatDoor

namespace Go.Proofs.YtlobohpbgghleaaGreatDoor
open Go.RowKit

/-! ## a manifest copied -/

def sgCells (l : List Sg) : List Value := l.flatMap fun g => (sgCs g).toList
theorem sgCells_length (l : List Sg) : (sgCells l).length = l.length * 4 := by
  unfold sgCells
  induction l with
  | nil => simp
  | cons x r ih => rw [List.flatMap_cons, List.length_append, ih, List.length_cons]; simp [sgCs]; omega
theorem sgCells_at : ∀ (rs : List Sg) (i : Nat) (r : Sg), rs[i]? = some r → ∀ (j : Nat) u, (sgCs r)[j]? = some u → (sgCells rs)[i * 4 + j]? = some u
  | [], i, r, h, _, _, _ => by simp at h
  | x :: rs, 0, r, h, j, u, hj => by
    simp at h; subst h
    have hl : j < 4 := by have := (Array.getElem?_eq_some_iff.1 hj).1; simpa [sgCs] using this
    unfold sgCells
    rw [List.flatMap_cons, Nat.zero_mul, Nat.zero_add, List.getElem?_append_left (by simpa [sgCs] using hl)]
    simpa using hj
  | x :: rs, i + 1, r, h, j, u, hj => by
    have := sgCells_at rs i r (by simpa using h) j u hj
    unfold sgCells at this ⊢
    rw [List.flatMap_cons, List.getElem?_append_right (by simp [sgCs]; omega)]
    rw [← this]
    congr 1
    simp [sgCs]; omega
theorem sgIn_own {A : Nat → Prop} {w : World} {B : Nat} {v : Value} {l : List Sg} (h : w.ownsRow B 46 4 v l.length (sgCells l)) (hA : ∀ k, B ≤ k → A k) : SgIn A w v l := by
  by_cases hn : l = []
  · subst hn
    obtain ⟨oa, cap, rfl, h1, h2⟩ := own_shape h
    exact ⟨oa, cap, rfl, h1, by unfold maxLen at h2; omega, fun i g hg => by simp at hg⟩
  · obtain ⟨g, cap, rfl, hB, _, h1, h2, h3⟩ := own_get h (List.length_pos_iff.2 hn)
    exact ⟨_, cap, rfl, h1, by unfold maxLen at h2; omega, fun i x hx => ⟨g, 0, rfl, hA g hB, fun j u hj => by rw [Nat.zero_add]; exact h3 _ _ (sgCells_at l i x hx j u (by simpa using hj))⟩⟩
def zeroSg : Value := .agg #[.int .i64 0, .int .i64 0, .int .i64 0, .int .i64 0]
theorem infoSg : (Tryz.prog.info? 46).map (fun i => (i.zero, i.size, i.bytes)) = some (some zeroSg, 4, 32) := by kernel_rfl
theorem MnBlk.set {w : World} {g : Nat} {m : Man} {sv sv' : Value} (h : MnBlk w g m sv) (e : (mnCs m sv).setIfInBounds 5 sv' = mnCs m sv') : MnBlk (w.setCell ⟨g, 5, none⟩ sv') g m sv' := by
  unfold MnBlk at h ⊢
  rw [← e]
  simp only [World.setCell]
  rw [Array.getElem?_modify]
  simp [h]
theorem MnBlk.otherCell {w : World} {g k : Nat} {m : Man} {sv : Value} (h : MnBlk w g m sv) (hn : g ≠ k) (j : Nat) (v : Value) : MnBlk (w.setCell ⟨k, j, none⟩ v) g m sv := by
  unfold MnBlk at h ⊢
  simp only [World.setCell]
  rw [Array.getElem?_modify]
  simp [h, Ne.symm hn]
theorem MnBlk.free {w : World} {g : Nat} {m : Man} {sv : Value} (h : MnBlk w g m sv) (j : Nat) : w.frozen? ⟨g, j, none⟩ = false := by unfold MnBlk at h; simp [World.frozen?, h]
structure McW (w : World) (m : Man) (sv : Value) (k : Nat) (ov : Value) (W : World) : Prop where
  src : MnBlk W w.heap.size m sv
  res : MnBlk W (w.heap.size + 1) zeroM (.slice none 0 0)
  mine : MnBlk W (w.heap.size + 1 + 1) m ov
  own : W.ownsRow (w.heap.size + 1 + 1 + 1) 46 4 ov k (sgCells (m.segs.take k))
  below : Below w.heap.size w W
  size : w.heap.size + 1 + 1 + 1 ≤ W.heap.size
theorem McW.next {w : World} {m : Man} {sv : Value} {k : Nat} {ov : Value} {W W' : World} (h : McW w m sv k ov W) (hb : Below W.heap.size W W') : McW w m sv k ov W' :=
  ⟨h.src.below hb, h.res.below hb, h.mine.below hb, own_later h.own hb, Below.next h.below hb, Nat.le_trans h.size hb.size⟩
/-- one more is laid behind, and the slice stored -/
theorem McW.step {w : World} {m : Man} {sv : Value} {k : Nat} {ov v' : Value} {W W' : World} (h : McW w m sv k ov W) (hb : Below (w.heap.size + 1 + 1 + 1) W W') (ho : W'.ownsRow (w.heap.size + 1 + 1 + 1) 46 4 v' (k + 1) (sgCells (m.segs.take (k + 1)))) : McW w m sv (k + 1) v' (W'.setCell ⟨w.heap.size + 1 + 1, 5, none⟩ v') :=
  ⟨(h.src.keep hb (by omega)).otherCell (by omega) 5 v', (h.res.keep hb (by omega)).otherCell (by omega) 5 v', (h.mine.keep hb (by omega)).set rfl, own_set ho (by omega), (h.below.trans (hb.mono (by omega))).setCell (p := ⟨w.heap.size + 1 + 1, 5, none⟩) (by show w.heap.size ≤ w.heap.size + 1 + 1; omega) v', by simpa [World.setCell] using Nat.le_trans h.size hb.size⟩
theorem mcW_start (w : World) (m : Man) (sv : Value) : McW w m sv 0 (.slice (some ⟨w.heap.size + 1 + 1 + 1, 0, none⟩) 0 0)
    ((((w.alloc (.cells (mnCs m sv) 31)).alloc (.cells (mnCs zeroM (.slice none 0 0)) 31)).alloc (.cells (mnCs m (.slice (some ⟨w.heap.size + 1 + 1 + 1, 0, none⟩) 0 0)) 31)).alloc (.cells #[] 46)) := by
  have a : ∀ (w : World) (o : Obj), Below w.heap.size w (w.alloc o) := fun w o => (Below.refl _ _).alloc (Nat.le_refl _) _
  have sz : ∀ (w : World) (o : Obj), (w.alloc o).heap.size = w.heap.size + 1 := fun w o => by simp
  have h1 := mnBlk_alloc w m sv
  have h2 := mnBlk_alloc (w.alloc (.cells (mnCs m sv) 31)) zeroM (.slice none 0 0)
  have h3 := mnBlk_alloc ((w.alloc (.cells (mnCs m sv) 31)).alloc (.cells (mnCs zeroM (.slice none 0 0)) 31)) m (.slice (some ⟨w.heap.size + 1 + 1 + 1, 0, none⟩) 0 0)
  have h4 := own_fresh (((w.alloc (.cells (mnCs m sv) 31)).alloc (.cells (mnCs zeroM (.slice none 0 0)) 31)).alloc (.cells (mnCs m (.slice (some ⟨w.heap.size + 1 + 1 + 1, 0, none⟩) 0 0)) 31)) 46 4 (w.heap.size + 1 + 1 + 1) (by rw [sz, sz, sz]; omega)
  simp only [sz] at h2 h3 h4
  exact ⟨((h1.below (a _ _)).below (a _ _)).below (a _ _), (h2.below (a _ _)).below (a _ _), h3.below (a _ _), h4, Below.next (Below.next (Below.next (a _ _) (a _ _)) (a _ _)) (a _ _), by rw [sz, sz, sz, sz]; omega⟩

set_option maxRecDepth 100000 in
set_option maxHeartbeats 8000000 in
theorem manCopy_any (m : Man) (sv : Value) (w : World) (hr : SgRow w sv m.segs) (hn : m.segs.length ≤ 1048576) :
    Calls Tryz.prog 24 #[mnV m sv] w fun e w' => ∃ sv', e = .returned (mnV m sv') ∧ SgIn (fun k => w.heap.size ≤ k) w' sv' m.segs ∧ sv'.oneCell' = true ∧ Below w.heap.size w w' := by
  obtain ⟨i0, hi, hz0, hz1, hz2⟩ := info_parts infoSg
  obtain ⟨oa, cap, rfl, hl1, hl2, hcs⟩ := hr
  have HC := Lib.hid hcs
  have HS := Lib.hid (mcW_start w m (.slice oa m.segs.length cap))
  simp only [mnCs, zeroM] at HS
  clear hcs
  go_enter Tryz.func24, Tryz.ntmps24
  go_wp2
  go_loopw [4, 11] (fun _ iv wr => ∃ (k : Nat) (ov : Value), k ≤ m.segs.length ∧ iv = .int .i64 k ∧ Hid (McW w m (.slice oa m.segs.length cap) k ov wr)) (fun _ iv _ => m.segs.length - (intOf iv).toNat)
  case atStart => exact ⟨0, _, Nat.zero_le _, rfl, HS⟩
  case round =>
    clear HS
    obtain ⟨k, ov, hk, rfl, HW⟩ := hrel
    by_cases hlt : k < m.segs.length
    · obtain ⟨g, hg, htk, _⟩ := nth m.segs k hlt
      have q1 : (k : Int) < (m.segs.length : Int) := by omega
      obtain ⟨b, off, rfl, hrg⟩ := HC.out k g hg
      have HTK := Lib.hid htk
      have HRN := Lib.hid (fun W (hW : Below w.heap.size w W) => range_later hrg hW)
      have HWd := Lib.hid (HW.out.next (show Below wr.heap.size wr wr.drew from below_drewN' wr 1))
      clear hg htk hrg HW
      go_wp2_with fail
      refine wp_region_held_drew (S := fun w' => MnBlk w' w.heap.size m (.slice (some ⟨b, off, none⟩) m.segs.length cap) ∧ w'.rangeAt b (off + k * 4) (sgCs g).toList) (by kernel_rfl) ⟨HWd.out.src, HRN.out _ HWd.out.below⟩ (fun hHeld => ?_)
      refine tk 0 rfl ?v_56 ?hy_56 ?r_56
      case hy_56 => intro w hSw; have c5 := hSw.1.c5; go_simp; try with_reducible rfl
      simp only [pA, pB, pC, pD]
      refine tk 2 rfl ?v_57 ?hy_57 ?r_57
      case hy_57 => intro w hSw; have c5 := hSw.1.c5; go_simp; try with_reducible rfl
      simp only [pA, pB, pC, pD]
      refine tk 3 rfl ?v_58 ?hy_58 ?r_58
      case hy_58 => intro w hSw; have c5 := hSw.1.c5; go_simp; try with_reducible rfl
      simp only [pA, pB, pC, pD]
      refine tk 4 rfl ?v_59 ?hy_59 ?r_59
      case hy_59 => intro w hSw; have c5 := hSw.1.c5; go_simp; try with_reducible rfl
      simp only [pA, pB, pC, pD]
      refine tk 5 rfl ?v_60 ?hy_60 ?r_60
      case hy_60 => intro w hSw; have c5 := hSw.1.c5; go_simp; try with_reducible rfl
      simp only [pA, pB, pC, pD]
      refine tkl 6 b (off + k * 4) [.int .i64 g.num, .int .i64 g.first, .int .i64 g.count, .int .i64 g.foot] rfl rfl (fun w' h => h.2) Tryz.underlying46 rfl (by rw [sgInfo]; rfl) ?_
      simp only [pA, pB, pC, pD]
      generalize World.drew _ = Wd at *
      have c5 : Wd.cell? ⟨w.heap.size + 1 + 1, 5, none⟩ = some ov := HWd.out.mine.c5
      refine wpAnyH_ready (rs := [1, 7]) (by kernel_rfl) (by simp) ?_
      refine AllReadyH.cons rfl (fun K hK => ?_) (AllReadyH.cons rfl (fun K hK => ?_) AllReadyH.nil)
      · go_simp
        refine hK.out _ _ hHeld (fun hHeld => ?_)
        clear hK K
        have HWA := Lib.hid (HWd.out.next (below_alloc Wd (.cells (sgCs g) 46)))
        refine wpAnyH_ready (rs := [7]) (by kernel_rfl) (by simp) ?_
        refine AllReadyH.cons rfl (fun K hK => ?_) AllReadyH.nil
        go_simp
        refine hK.out _ _ ⟨HWA.out.src, HRN.out _ HWA.out.below⟩ (fun hHeld => ?_)
        clear hK K
        refine wpAnyH_ready (rs := [8]) (by kernel_rfl) (by simp) ?_
        refine AllReadyH.cons rfl (fun K hK => ?_) AllReadyH.nil
        rw [if_pos (by kernel_rfl)]
        refine wp_append_own _ (.tmp 15) (.tmp 21) 29 rfl (w.heap.size + 1 + 1 + 1) 46 i0 zeroSg 4 32 Tryz.underlying29 hi hz0 hz1 hz2 rfl (by decide) ov k _ rfl HWA.out.own ⟨Wd.heap.size, 0, none⟩ 1 1 (sgCs g).toList rfl rfl (fun j u hj => ?c1_1) (fun u hu => ?c2_1) (by unfold maxLen; omega) (by omega) HWA.out.size ?_
        case c1_1 =>
          rw [addr_add, Nat.zero_add, World.cell?_alloc_new]
          simpa [sgCs] using hj
        case c2_1 => simp [sgCs] at hu; rcases hu with rfl | rfl | rfl | rfl <;> rfl
        intro v' W2 hown hgrow _
        have HB2 := Lib.hid (below_of_grown HWA.out.own HWA.out.size hgrow)
        have HO2 := Lib.hid (show W2.ownsRow (w.heap.size + 1 + 1 + 1) 46 4 v' (k + 1) (sgCells (m.segs.take (k + 1))) by rw [HTK.out]; unfold sgCells; rw [List.flatMap_append]; simpa [sgCells] using hown)
        have HM2 := Lib.hid (HWA.out.mine.keep HB2.out (Nat.lt_succ_self _))
        have HB3 := Lib.hid (HWA.out.below.trans (HB2.out.mono (by omega)))
        clear hown hgrow c5
        refine hK.out _ _ ⟨HWA.out.src.keep HB2.out (by omega), HRN.out _ HB3.out⟩ (fun hHeld => ?_)
        clear hK K
        have d5 := HM2.out.c5
        have f5 := HM2.out.free 5
        have h1v : v'.oneCell' = true := by obtain ⟨o1, c1, e, _, _⟩ := own_shape HO2.out; rw [e]; rfl
        refine tk 9 rfl ?v_61 ?hy_61 ?r_61
        case hy_61 => intro w hSw; go_simp; try with_reducible rfl
        simp only [pA]
        refine wpAnyH_ready (rs := [10]) (by kernel_rfl) (by simp) ?_
        refine AllReadyH.cons rfl (fun K hK => ?_) AllReadyH.nil
        rw [if_pos (by kernel_rfl)]
        refine wp_store_cell 29 (.tmp 23) (.tmp 22) rfl (w.heap.size + 1 + 1) 5 v' ov (by kernel_rfl) h1v rfl rfl d5 f5 ?_
        have HW3 := Lib.hid (HWA.out.step HB2.out HO2.out)
        clear d5 f5 h1v
        refine hK.out _ _ ⟨HW3.out.src, HRN.out _ HW3.out.below⟩ (fun hHeld => ?_)
        clear hK K hHeld HWA HB2 HO2 HM2 HB3
        generalize World.setCell _ _ _ = W4 at *
        refine wpAnyH_done (by kernel_rfl) ?_ _
        go_wp2
        go_roundw
        case rel => exact ⟨k + 1, v', by omega, by go_num, HW3⟩
        case measure => simp [intOf]; omega
      · have HWA := Lib.hid (HWd.out.next (below_alloc Wd (.cells (sgCs g) 46)))
        go_simp
        refine hK.out _ _ ⟨HWA.out.src, HRN.out _ HWA.out.below⟩ (fun hHeld => ?_)
        clear hK K
        have c5 : (Wd.alloc (.cells (sgCs g) 46)).cell? ⟨w.heap.size + 1 + 1, 5, none⟩ = some ov := HWA.out.mine.c5
        simp only [sgCs] at c5
        refine wpAnyH_ready (rs := [1]) (by kernel_rfl) (by simp) ?_
        refine AllReadyH.cons rfl (fun K hK => ?_) AllReadyH.nil
        go_simp
        refine hK.out _ _ ⟨HWA.out.src, HRN.out _ HWA.out.below⟩ (fun hHeld => ?_)
        clear hK K
        refine wpAnyH_ready (rs := [8]) (by kernel_rfl) (by simp) ?_
        refine AllReadyH.cons rfl (fun K hK => ?_) AllReadyH.nil
        rw [if_pos (by kernel_rfl)]
        refine wp_append_own _ (.tmp 15) (.tmp 21) 29 rfl (w.heap.size + 1 + 1 + 1) 46 i0 zeroSg 4 32 Tryz.underlying29 hi hz0 hz1 hz2 rfl (by decide) ov k _ rfl HWA.out.own ⟨Wd.heap.size, 0, none⟩ 1 1 (sgCs g).toList rfl rfl (fun j u hj => ?c1_2) (fun u hu => ?c2_2) (by unfold maxLen; omega) (by omega) HWA.out.size ?_
        case c1_2 =>
          rw [addr_add, Nat.zero_add, World.cell?_alloc_new]
          simpa [sgCs] using hj
        case c2_2 => simp [sgCs] at hu; rcases hu with rfl | rfl | rfl | rfl <;> rfl
        intro v' W2 hown hgrow _
        have HB2 := Lib.hid (below_of_grown HWA.out.own HWA.out.size hgrow)
        have HO2 := Lib.hid (show W2.ownsRow (w.heap.size + 1 + 1 + 1) 46 4 v' (k + 1) (sgCells (m.segs.take (k + 1))) by rw [HTK.out]; unfold sgCells; rw [List.flatMap_append]; simpa [sgCells] using hown)
        have HM2 := Lib.hid (HWA.out.mine.keep HB2.out (Nat.lt_succ_self _))
        have HB3 := Lib.hid (HWA.out.below.trans (HB2.out.mono (by omega)))
        clear hown hgrow c5
        refine hK.out _ _ ⟨HWA.out.src.keep HB2.out (by omega), HRN.out _ HB3.out⟩ (fun hHeld => ?_)
        clear hK K
        have d5 := HM2.out.c5
        have f5 := HM2.out.free 5
        have h1v : v'.oneCell' = true := by obtain ⟨o1, c1, e, _, _⟩ := own_shape HO2.out; rw [e]; rfl
        refine tk 9 rfl ?v_62 ?hy_62 ?r_62
        case hy_62 => intro w hSw; go_simp; try with_reducible rfl
        simp only [pA]
        refine wpAnyH_ready (rs := [10]) (by kernel_rfl) (by simp) ?_
        refine AllReadyH.cons rfl (fun K hK => ?_) AllReadyH.nil
        rw [if_pos (by kernel_rfl)]
        refine wp_store_cell 29 (.tmp 23) (.tmp 22) rfl (w.heap.size + 1 + 1) 5 v' ov (by kernel_rfl) h1v rfl rfl d5 f5 ?_
        have HW3 := Lib.hid (HWA.out.step HB2.out HO2.out)
        clear d5 f5 h1v
        refine hK.out _ _ ⟨HW3.out.src, HRN.out _ HW3.out.below⟩ (fun hHeld => ?_)
        clear hK K hHeld HWA HB2 HO2 HM2 HB3
        generalize World.setCell _ _ _ = W4 at *
        refine wpAnyH_done (by kernel_rfl) ?_ _
        go_wp2
        go_roundw
        case rel => exact ⟨k + 1, v', by omega, by go_num, HW3⟩
        case measure => simp [intOf]; omega
    · obtain rfl : k = m.segs.length := by omega
      have HO := Lib.hid (show wr.ownsRow (w.heap.size + 1 + 1 + 1) 46 4 ov m.segs.length (sgCells m.segs) by have := HW.out.own; rwa [List.take_length] at this)
      have HONE := Lib.hid (show ov.oneCell' = true by obtain ⟨o1, c1, e, _, _⟩ := own_shape HO.out; rw [e]; rfl)
      have HM := Lib.hid HW.out.mine
      have HR := Lib.hid HW.out.res
      go_wp2_with (first | (with_reducible refine wpList_load_mn rfl (.tmp 3) rfl (w.heap.size + 1 + 1) m ov rfl HM.out ?_) | (with_reducible refine wpList_store_mn rfl (.tmp 2) (.tmp 25) rfl (w.heap.size + 1) zeroM m (.slice none 0 0) ov rfl rfl HR.out HONE.out ?_))
      intro w2 hw2
      have HM2 := Lib.hid (show MnBlk w2 (w.heap.size + 1) m ov by rw [hw2.out]; exact HR.out.row)
      have HB2 := Lib.hid (show Below w.heap.size w w2 by rw [hw2.out]; exact below_row HW.out.below (Nat.le_succ _) _)
      have HT2 := Lib.hid (show Turned (fun k => k = w.heap.size + 1) wr w2 by rw [hw2.out]; exact ⟨rfl, rfl, rfl, by simp, fun k _ hn => setRow_other _ _ _ _ hn⟩)
      have HS2 := Lib.hid (((sgIn_own (A := fun k => w.heap.size + 1 + 1 + 1 ≤ k) HO.out (fun k hk => hk)).turned HT2.out (fun k hk => by omega)).mono (A' := fun k => w.heap.size ≤ k) (fun k hk => by omega))
      clear hw2 HT2
      go_wp2
      exact bodyPost_ret (v := mnV m ov) (results_mn1 rfl _ _ (w.heap.size + 1) m ov rfl HM2.out) rfl ⟨_, rfl, HS2.out, HONE.out, HB2.out⟩

end Go.Proofs.YtlobohpbgghleaaGreatDoor

namespace Go.Proofs.YtlobohpbgghleaaGreatDoor
open Go.RowKit

/-! ## RecoveryApplies: what the walk leans on -/

theorem nib_of {w : World} {l : List (String × DataW Unit)} (hl : l = [("daybook/crc.nibbles", Rows.laid_daybook_crc_nibbles)]) (h : laidMet Tryz.prog l w) : NibTab w := by
  subst hl
  exact Lib.tabIs_of_head (g := 0) (t := 316) (e := 214) (by kernel_rfl) (by kernel_rfl) Tryz.underlying316 Tryz.underlying214 (by kernel_rfl) (by kernel_rfl) h
theorem turned_below {S : Nat → Prop} {B : Nat} {w0 w w' : World} (hb : Below B w0 w) (ht : Turned S w w') (hS : ∀ k, S k → B ≤ k) (hB : B ≤ w.heap.size) : Below B w0 w' :=
  ⟨ht.os.trans hb.os, ht.tape.trans hb.tape, ht.output.trans hb.output, Nat.le_trans hb.size ht.size, fun k hk => (ht.block k (Nat.lt_of_lt_of_le hk hB) (fun hc => by have := hS k hc; omega)).trans (hb.block k hk)⟩
theorem sgRow_low {w : World} {v : Value} {l : List Sg} (h : SgRow w v l) : SgIn (fun k => k < w.heap.size) w v l := by
  obtain ⟨oa, cap, h1, h2, h3, h4⟩ := h
  exact ⟨oa, cap, h1, h2, h3, fun i g hg => by obtain ⟨b, off, e, hc⟩ := h4 i g hg; exact ⟨b, off, e, World.block_lt_of_cell? w _ (hc 0 _ rfl), hc⟩⟩
/-- 'append([]string{}, l...)' -/
theorem run_appS {B : Nat} {w : World} {v x : Value} {l : List (List UInt8)} (hown : w.ownsRow B 9 1 v 0 []) (hB : B ≤ w.heap.size) (hx : StRow w x l) (hl : l.length ≤ 1048576) (ty : TypeId) :
    ∃ v' w', (Builtin.append_ #[32, 32] ty #[v, x]).run Tryz.prog w = .ok v' w' ∧ w'.ownsRow B 9 1 v' l.length (l.map fun s => .string ⟨s.toArray⟩) ∧ Below B w w' := by
  obtain ⟨i0, hi, hz0, hz1, hz2⟩ := info_parts (show (Tryz.prog.info? 9).map (fun i => (i.zero, i.size, i.bytes)) = some (some (.string ⟨#[]⟩), 1, 16) by kernel_rfl)
  obtain ⟨oa, xc, rfl, hxl, _, hxc⟩ := hx
  have key : ∀ a : Addr, oa = some a → (∀ j u, (l.map fun s => Value.string ⟨s.toArray⟩)[j]? = some u → w.cell? (a.add j) = some u) →
      ∃ v' w', (Builtin.append_ #[32, 32] ty #[v, .slice oa l.length xc]).run Tryz.prog w = .ok v' w' ∧ w'.ownsRow B 9 1 v' l.length (l.map fun s => .string ⟨s.toArray⟩) ∧ Below B w w' := by
    rintro a rfl hc
    obtain ⟨v', w', h1, h2, h3, _⟩ := run_append_own (P := Tryz.prog) w B 32 ty 9 i0 (.string ⟨#[]⟩) 1 16 Tryz.underlying32 hi hz0 hz1 hz2 rfl (by decide) v 0 [] hown a l.length xc (l.map fun s => Value.string ⟨s.toArray⟩) (by simp) hc (fun u hu => by obtain ⟨_, _, rfl⟩ := List.mem_map.1 hu; rfl) (by unfold maxLen; omega) (by omega) hB
    exact ⟨v', w', h1, by simpa using h2, below_of_grown hown hB h3⟩
  by_cases hm : l = []
  · subst hm
    rcases oa with _ | a
    · obtain ⟨ao, cap, rfl, hc, _⟩ := own_shape hown
      refine ⟨.slice ao 0 cap, w, ?_, by simpa using hown, Below.refl _ _⟩
      rcases ao with _ | ao <;> simp [Builtin.append_, run_underlying Tryz.underlying32, sizeOf, typeInfo, hi, Builtin.lenOf, Builtin.firstCells, storeCells]
    · exact key a rfl (fun j u hj => by simp at hj)
  · obtain ⟨y, hy⟩ := List.exists_mem_of_ne_nil _ hm
    obtain ⟨i, hi'⟩ := List.getElem?_of_mem hy
    obtain ⟨b, off, rfl, _⟩ := hxc i y hi'
    refine key _ rfl fun j u hj => ?_
    rw [List.getElem?_map] at hj
    obtain ⟨z, hz, rfl⟩ := Option.map_eq_some_iff.1 hj
    obtain ⟨b', off', e, hcell⟩ := hxc j z hz
    simp only [Option.some.injEq, Addr.mk.injEq, and_true] at e
    obtain ⟨rfl, rfl⟩ := e
    rw [addr_add]
    exact hcell
theorem wpList_appS {ops : Array Oper} {rest : List Oper} {o : Oper} {a : Act} {Q : Exit → Act → World → Prop} {w : World} (hgd : o.guard = none) (s y : Operand) (ho : o.op = .call { callee := .builtin .append, args := #[s, y], argTypes := #[32, 32] }) {B : Nat} {v x : Value} {l : List (List UInt8)}
    (hs : a.eval s = v) (hy : a.eval y = x) (hown : w.ownsRow B 9 1 v 0 []) (hB : B ≤ w.heap.size) (hx : StRow w x l) (hl : l.length ≤ 1048576)
    (h : ∀ v' w', w'.ownsRow B 9 1 v' l.length (l.map fun s => .string ⟨s.toArray⟩) → Below B w w' → wpList Tryz.prog ops Q rest (a.put o.dst v') w') : wpList Tryz.prog ops Q (o :: rest) a w := by
  refine wpList_plain hgd fun K hK => ?_
  obtain ⟨v', w', hr, h1, h2⟩ := run_appS hown hB hx hl o.type
  unfold Oper.wp
  simp [execOp, ho, resolve, invoke, builtin, hs, hy, hr, Result.andThen]
  exact hK _ _ (h v' w' h1 h2)
theorem stIn_own {A : Nat → Prop} {w : World} {B : Nat} {v : Value} {l : List (List UInt8)} (h : w.ownsRow B 9 1 v l.length (l.map fun s => .string ⟨s.toArray⟩)) (hA : ∀ k, B ≤ k → A k) : StIn A w v l := by
  by_cases hn : l = []
  · subst hn
    obtain ⟨oa, cap, rfl, h1, h2⟩ := own_shape h
    exact ⟨oa, cap, rfl, h1, by unfold maxLen at h2; omega, fun i g hg => by simp at hg⟩
  · obtain ⟨g, cap, rfl, hB, _, h1, h2, h3⟩ := own_get h (List.length_pos_iff.2 hn)
    exact ⟨_, cap, rfl, h1, by unfold maxLen at h2; omega, fun i x hx => ⟨g, 0, rfl, hA g hB, by rw [Nat.zero_add]; exact h3 _ _ (by rw [List.getElem?_map, hx]; rfl)⟩⟩
theorem StIn.turned {A S : Nat → Prop} {w w' : World} {v : Value} {l : List (List UInt8)} (h : StIn A w v l) (ht : Turned S w w') (hS : ∀ k, A k → ¬ S k) : StIn A w' v l := by
  obtain ⟨oa, cap, h1, h2, h3, h4⟩ := h
  exact ⟨oa, cap, h1, h2, h3, fun i g hg => by obtain ⟨b, off, e, ha, hc⟩ := h4 i g hg; exact ⟨b, off, e, ha, ht.cell hc (hS b ha)⟩⟩
theorem row_setCell {w : World} {b : Nat} {cs : Array Value} {ty : TypeId} (h : w.heap[b]? = some (.cells cs ty (0, 0))) (j : Nat) (v : Value) : (w.setCell ⟨b, j, none⟩ v).heap[b]? = some (.cells (cs.setIfInBounds j v) ty (0, 0)) := by
  simp [World.setCell, Array.getElem?_modify, h]
/-- the plan's manifest is stored -/
theorem PlBlk.setMan {w : World} {b : Nat} {p : Pl} {sv rv sv' : Value} (h : PlBlk w b p sv rv) : PlBlk (w.setCells b 1 (mnCs p.man sv').toList) b p sv' rv := by
  unfold PlBlk at h ⊢
  have e : ((((((plCs p sv rv).setIfInBounds 1 (.int .i64 p.man.gen)).setIfInBounds 2 (.int .i64 p.man.next)).setIfInBounds 3 (.int .i64 p.man.floor)).setIfInBounds 4 (.int .i64 p.man.snap)).setIfInBounds 5 (.int .i64 p.man.snapSeq)).setIfInBounds 6 sv' = plCs p sv' rv := rfl
  rw [← e]
  exact row_setCell (row_setCell (row_setCell (row_setCell (row_setCell (row_setCell h 1 _) 2 _) 3 _) 4 _) 5 _) 6 _
theorem PlBlk.free {w : World} {b : Nat} {p : Pl} {sv rv : Value} (h : PlBlk w b p sv rv) (j : Nat) : w.frozen? ⟨b, j, none⟩ = false := by unfold PlBlk at h; simp [World.frozen?, h]
theorem PlBlk.there {w : World} {b : Nat} {p : Pl} {sv rv : Value} (h : PlBlk w b p sv rv) : w.there b 1 6 := fun j hj => by
  refine ⟨?_, h.free _⟩
  rw [h.cell]
  have : j = 0 ∨ j = 1 ∨ j = 2 ∨ j = 3 ∨ j = 4 ∨ j = 5 := by omega
  rcases this with rfl | rfl | rfl | rfl | rfl | rfl <;> rfl
theorem PlBlk.setRem {w : World} {b : Nat} {p : Pl} {sv rv rv' : Value} (h : PlBlk w b p sv rv) : PlBlk (w.setCell ⟨b, 7, none⟩ rv') b p sv rv' := by
  unfold PlBlk at h ⊢
  have e : (plCs p sv rv).setIfInBounds 7 rv' = plCs p sv rv' := rfl
  rw [← e]
  exact row_setCell h 7 _
theorem setCells_block (b k : Nat) (hk : k ≠ b) : ∀ (vs : List Value) (o : Nat) (w : World), (w.setCells b o vs).heap[k]? = w.heap[k]?
  | [], _, _ => rfl
  | v :: r, o, w => by
    rw [World.setCells, setCells_block b k hk r (o + 1) _]
    simp only [World.setCell, Array.getElem?_modify]
    rw [if_neg (fun e => hk e.symm)]
/-- the document's Apply, and the program's: whatever the plan -/
theorem refApply_any {A : Nat → Prop} (d : Disk) (fv : Value) (p : Pl) (sv rv : Value) (w : World) (hf : FilesIn A w fv d.files) (hA : ∀ k, w.heap.size ≤ k → A k) (hd : DiskOk d) (hst : d.steps = 0) (hs : SgRow w sv p.man.segs) (hr : StRow w rv p.remove) (hn : p.remove.length ≤ 1048576) (hc : p.cut ≤ 9223372036854775807) :
    Calls Tryz.prog 25 #[dkV d fv, plV p sv rv] w (RaPost A w (applyD d p)) := by
  rcases hok : manOk p.man
  · exact refApply_bad d fv p sv rv w hf hs hok
  · exact refApply_good d fv p sv rv w hf hA hd (by omega) hs hr hn hc hok
theorem recApply_any (w : World) (f m : Nat) (d : Disk) (L : List Slot) (h : FsAt w f m d L) (p : Pl) (sv rv : Value) (hs : SgIn (fun k => ¬ foot f m L k) w sv p.man.segs) (hr : StIn (fun k => ¬ foot f m L k) w rv p.remove)
    (hn : NibTab w) (hg : ¬ foot f m L 0) (hst : d.steps = 0) (hl : p.remove.length ≤ 1048576) :
    Calls Tryz.prog 26 #[.pointer (some ⟨f, 0, none⟩), plV p sv rv] w (RunPost w f m L (applyD d p)) := by
  rcases hok : manOk p.man
  · exact recApply_bad w f m d L h p sv rv hs.row hok
  · exact recApply_good w f m d L h p sv rv hs hr hn hg (by omega) hok
theorem setCells_turned (b : Nat) : ∀ (vs : List Value) (o : Nat) (w : World), Turned (fun k => k = b) w (w.setCells b o vs)
  | [], _, _ => Turned.refl _ _
  | v :: r, o, w => (Turned.setCell (S := fun k => k = b) w ⟨b, o, none⟩ v rfl).trans (setCells_turned b r (o + 1) _) (fun _ h => .inl h)
theorem wpList_store_plMan {ops : Array Oper} {rest : List Oper} {o : Oper} {a : Act} {w : World} {Q : Exit → Act → World → Prop} (hgd : o.guard = none) (x y : Operand) (ho : o.op = .store 31 x y)
    (b : Nat) (p : Pl) (sv rv sv' : Value) (hx : a.eval x = .pointer (some ⟨b, 1, none⟩)) (hy : a.eval y = mnV p.man sv') (hE : PlBlk w b p sv rv) (h1 : sv'.oneCell' = true)
    (h : ∀ W, PlBlk W b p sv' rv → Turned (fun k => k = b) w W → wpList Tryz.prog ops Q rest (a.put o.dst undef) W) : wpList Tryz.prog ops Q (o :: rest) a w :=
  wpList_store_mid hgd 31 x y ho b 1 (mnCs p.man sv') hx hy hE.there mnInfo (mnCs_all p.man sv' h1) (h _ hE.setMan (setCells_turned b _ _ _))
theorem wpList_store_plRem {ops : Array Oper} {rest : List Oper} {o : Oper} {a : Act} {w : World} {Q : Exit → Act → World → Prop} (hgd : o.guard = none) (x y : Operand) (ho : o.op = .store 32 x y)
    (b : Nat) (p : Pl) (sv rv rv' : Value) (hx : a.eval x = .pointer (some ⟨b, 7, none⟩)) (hy : a.eval y = rv') (hE : PlBlk w b p sv rv) (h1 : rv'.oneCell' = true)
    (h : ∀ W, PlBlk W b p sv rv' → Turned (fun k => k = b) w W → wpList Tryz.prog ops Q rest (a.put o.dst undef) W) : wpList Tryz.prog ops Q (o :: rest) a w :=
  wpList_store_cellV hgd 32 x y ho b 7 rv' rv (by kernel_rfl) h1 hx hy hE.c7 (hE.free 7) fun W hW => by
    have e := hW.out
    subst e
    exact h _ hE.setRem (Turned.setCell w ⟨b, 7, none⟩ rv' rfl)
theorem usedF_mem {fs : List Fil} {x : Fil} (h : x ∈ fs) : x.data.length ≤ usedF fs := by
  obtain ⟨k, hk⟩ := List.getElem?_of_mem h
  have h1 := usedF_take_succ hk
  have h2 := usedF_take_le fs (k + 1)
  omega
theorem mountD_ok3 {room : Int} {fs : List Fil} (h : (mountD room fs).2 = 0) : DiskOk (mountD room fs).1 ∧ (mountD room fs).1.steps = 0 := ⟨(mountD_ok h).1, (mountD_ok h).2.1⟩
theorem run_setRow_turned (w : World) (g : Nat) (cs : Array Value) : Turned (fun k => k = g) w (w.setRow g cs) := ⟨rfl, rfl, rfl, by simp, fun k _ hn => setRow_other _ _ _ _ hn⟩
theorem SgIn.mono' {A A' : Nat → Prop} {w : World} {v : Value} {l : List Sg} (h : SgIn A w v l) (hA : ∀ k, A k → A' k) : SgIn A' w v l := by
  obtain ⟨oa, cap, h1, h2, h3, h4⟩ := h
  exact ⟨oa, cap, h1, h2, h3, fun i g hg => by obtain ⟨b, off, e, ha, hc⟩ := h4 i g hg; exact ⟨b, off, e, hA b ha, hc⟩⟩

end Go.Proofs.YtlobohpbgghleaaGreatDoor
