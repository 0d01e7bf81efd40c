import Derived.Test.YtecmpmnidlfgnaaGreatDoorDumpOpen
import Derived.Test.YtecmpmnidlfgnaaGreatDoorScriptCopy
namespace Go.Proofs.YtecmpmnidlfgnaaGreatDoor
open Go.RowKit Go.ChangeShapes Go.WideShapes

/-! ## commands as arguments -/

def RRowN {α : Type} (n : Nat) (R : World → List Value → α → Prop) (w : World) (cs : List Value) (xs : List α) : Prop := ∃ v, cs = [v] ∧ RowU n R w v xs ∧ NilOk v
theorem opensU_sliceN {P : Program} {t e : TypeId} {n : Nat} {α : Type} {R : World → List Value → α → Prop} (ht : P.underlying t = some (.slice e)) (hc : P.cellsOf e = n) (hn : 0 < n)
    (he : OpensU P e n R) : OpensU P t 1 (RRowN n R) := by
  intro H enc W fuel cs x hx hz
  obtain ⟨_, xs, v, rfl, hr⟩ := opensU_slice ht hc hn he enc W fuel cs x hx hz
  refine ⟨rfl, xs, v, rfl, hr, ?_⟩
  intro m c hv
  subst hv
  rcases DataW.trod_slice ht hx with ⟨h1, _⟩ | ⟨a, len, cap, _, _, _, _, h1, _⟩
  · simp at h1; exact h1.2
  · simp at h1

theorem intRow_of {w : World} {v : Value} {zs : List Int} (h : RowU 1 (RInt .i64) w v zs) : IntRow .i64 w v zs ∧ zs.length ≤ 1048576 ∧ ∀ n ∈ zs, I64 n := by
  obtain ⟨oa, cap, rfl, h1, h2, h3⟩ := h
  have hw : ∀ z ∈ zs, (Lit.int .i64 z).wf = true := fun z hzm => by
    obtain ⟨i, hi, he⟩ := List.getElem_of_mem hzm
    obtain ⟨b, off, _, h5⟩ := h3 (by rintro rfl; simp at hi)
    obtain ⟨cs, _, _, hR⟩ := h5 i z (by rw [List.getElem?_eq_getElem hi, he])
    exact hR.2
  refine ⟨⟨oa, cap, rfl, h1, by unfold maxLen; omega, hw, fun hn => ?_⟩, by omega, fun n hn => i64_of_wf (hw n hn)⟩
  obtain ⟨b, off, h4, h5⟩ := h3 hn
  refine ⟨b, off, h4, fun i x hx => ?_⟩
  obtain ⟨cs, _, hcs, hR⟩ := h5 i x hx
  have := hcs 0 (.int .i64 x) (by rw [hR.1]; rfl)
  simpa using this
theorem u8_of {z : Int} (h : (Lit.int .u8 z).wf = true) : ((UInt8.ofNat z.toNat).toNat : Int) = z := by
  have h' : 0 ≤ z ∧ z ≤ 255 := by simpa [Lit.wf, show IntKind.u8.min = 0 from by decide, show IntKind.u8.max = 255 from by decide] using h
  rw [UInt8.toNat_ofNat']
  omega
theorem bRow_of {w : World} {v : Value} {zs : List Int} (h : RowU 1 (RInt .u8) w v zs) : BRow w v (zs.map fun z => UInt8.ofNat z.toNat) ∧ zs.length ≤ 1048576 := by
  obtain ⟨oa, cap, rfl, h1, h2, h3⟩ := h
  have hw : ∀ z ∈ zs, (Lit.int .u8 z).wf = true := fun z hzm => by
    obtain ⟨i, hi, he⟩ := List.getElem_of_mem hzm
    obtain ⟨b, off, _, h5⟩ := h3 (by rintro rfl; simp at hi)
    obtain ⟨cs, _, _, hR⟩ := h5 i z (by rw [List.getElem?_eq_getElem hi, he])
    exact hR.2
  refine ⟨⟨oa, cap, by rw [List.length_map], by simpa using h1, fun hn => ?_⟩, by omega⟩
  obtain ⟨b, off, h4, h5⟩ := h3 (by rintro rfl; exact hn rfl)
  refine ⟨b, off, h4, fun i x hx => ?_⟩
  rw [List.getElem?_map] at hx
  obtain ⟨z, hz1, rfl⟩ := Option.map_eq_some_iff.1 hx
  obtain ⟨cs, _, hcs, hR⟩ := h5 i z hz1
  have := hcs 0 (.int .u8 z) (by rw [hR.1]; rfl)
  rw [u8_of (hw z (List.mem_of_getElem? hz1))]
  simpa using this

/-- a command's cells -/
def RCmd (w : World) (cs : List Value) (c : Cmd) : Prop := ∃ nv rv, cs = (cmCs c nv rv).toList ∧ CmIn w c nv rv ∧ CmOk 1048576 c

theorem opensU_Command : OpensU Tryz.prog 59 13 RCmd := by
  intro H enc W fuel cs x hx hz
  have ho : OpensU Tryz.prog 59 13 (RCons 1 RStrU (RCons 1 (RRowN 1 (RInt .i64)) (RCons 10 REv (RCons 1 (RRowN 1 (RInt .u8)) RNil)))) :=
    opensU_struct Tryz.underlying59 (by kernel_rfl) (opensU_cons rfl (by kernel_rfl) (opensU_str Tryz.underlying9) (opensU_cons rfl (by kernel_rfl) (opensU_sliceN Tryz.underlying56 (by kernel_rfl) (by decide) (opensU_int Tryz.underlying3))
      (opensU_cons rfl (by kernel_rfl) opensU_Event' (opensU_cons rfl (by kernel_rfl) (opensU_sliceN Tryz.underlying57 (by kernel_rfl) (by decide) (opensU_int (k := .u8) Tryz.underlying5)) opensU_nil))))
  obtain ⟨hl, ⟨vb, ns, e, rs, _⟩, h0, h1, h2, h3, _⟩ := ho enc W fuel cs x hx hz
  obtain ⟨nv, e1, r1, k1⟩ := h1
  obtain ⟨rv, e3, r3, k3⟩ := h3
  obtain ⟨a1, a2, a3⟩ := intRow_of r1
  obtain ⟨b1, b2⟩ := bRow_of r3
  refine ⟨hl, ⟨vb, ns, e, rs.map fun z => UInt8.ofNat z.toNat⟩, nv, rv, ?_, ⟨⟨a1, b1⟩, k1, k3⟩, ⟨h0.2, a2, a3, h2.2, by rw [List.length_map]; exact b2⟩⟩
  match cs, hl with
  | [c0, c1, c2, c3, c4, c5, c6, c7, c8, c9, c10, c11, c12], _ =>
    have e0 := h0.1
    have e2 := h2.1
    simp [evCs] at e0 e1 e2 e3
    simp [cmCs, e0, e1, e2, e3]

/-- a command as an argument -/
def RdCmd (w : World) (v : Value) (c : Cmd) : Prop := ∃ nv rv, v = cmV c nv rv ∧ CmIn w c nv rv ∧ CmOk 1048576 c
set_option maxRecDepth 100000 in
theorem openU_api_Command {H : Type} {enc : TypeId × Value → H} {W : World} {base : Nat} {v : Value} {d : DataW H} {p : List MemPlace}
    (hok : Value.okWide Tryz.prog W .any base 59 v) (h : DataW.Trod enc Tryz.prog W 0 (fun _ => true) true 59 v d p) (hz : Rows.uptoBulk d ≤ 1048576) :
    ∃ a, RdCmd W v a := by
  obtain ⟨cs, c, rfl, hl, nv, rv, h1, h2, h3⟩ := openU_struct_by (P := Tryz.prog) opensU_Command Tryz.underlying59 hok h hz
  refine ⟨c, nv, rv, ?_, h2, h3⟩
  obtain ⟨l⟩ := cs
  have : l = (cmCs c nv rv).toList := h1
  subst this
  rfl

/-- a slice of commands as an argument -/
def RdCmds (w : World) (v : Value) (cs : List Cmd) : Prop := CmdRow w v cs ∧ cs.length ≤ 1048576 ∧ ∀ c ∈ cs, CmOk 1048576 c
set_option maxRecDepth 100000 in
theorem openU_sl_api_Command {H : Type} {enc : TypeId × Value → H} {W : World} {base : Nat} {v : Value} {d : DataW H} {p : List MemPlace}
    (hok : Value.okWide Tryz.prog W .any base 60 v) (h : DataW.Trod enc Tryz.prog W 0 (fun _ => true) true 60 v d p) (hz : Rows.uptoBulk d ≤ 1048576) :
    ∃ a, RdCmds W v a := by
  obtain ⟨rs, oa, cap, rfl, h1, h2, h3⟩ := openU_slice_by (P := Tryz.prog) (opensU_slice Tryz.underlying60 (by kernel_rfl) (by decide) opensU_Command) Tryz.underlying60 hok h hz
  refine ⟨rs, ⟨oa, cap, rfl, h1, by omega, fun hn => ?_⟩, by omega, fun r hr => ?_⟩
  · obtain ⟨b, off, h4, h5⟩ := h3 hn
    refine ⟨b, off, h4, fun i r hi => ?_⟩
    obtain ⟨cs, _, hc, nv, rv, hR, hI, _⟩ := h5 i r hi
    exact ⟨nv, rv, hI, fun j u hj => hc j u (by rw [hR]; simpa using hj)⟩
  · obtain ⟨i, hi, he⟩ := List.getElem_of_mem hr
    obtain ⟨b, off, h4, h5⟩ := h3 (by rintro rfl; simp at hi)
    obtain ⟨cs, _, _, nv, rv, _, _, hO⟩ := h5 i r (by rw [List.getElem?_eq_getElem hi, he])
    exact hO

end Go.Proofs.YtecmpmnidlfgnaaGreatDoor
