import Derived.Test.YtkapjnlhkchpiaaDoorFaultPath
namespace Go.Proofs.YtkapjnlhkchpiaaDoor
open Go.RowKit Go.Extern.Stop Go.Stop Go.Extern

theorem Path_nil (w : World) : Calls Tryd.prog 13 #[.nilIface] w fun x w' => x = .returned (.slice none 0 0) ∧ w = w' := by
  go_enter Tryd.func13, Tryd.ntmps13
  go_wp2
  refine wp_loop_rounds 1 ?_
  rw [rounds_succ]
  go_wp2
  go_ret
  exact ⟨rfl, rfl⟩

set_option maxHeartbeats 1000000 in
theorem Path_chain (a : Addr) (w : World) (v : Value) (fs : List (List UInt8 × Int)) (hv : ErrChain w (.iface 59 (.pointer (some a))) v fs) (hE : EType w) (hn : fs.length * 16 ≤ 140737488355328) :
    Calls Tryd.prog 13 #[v] w fun x w' => ∃ r, x = .returned r ∧ w'.ownsRow w.heap.size 9 1 r fs.length (strs (fs.map (·.1))) ∧ Below w.heap.size w w' := by
  obtain ⟨t', x', rfl⟩ := hv.iface
  obtain ⟨i0, hi, hz0, hz1, hz2⟩ := info_parts infoStr
  have HV := Lib.hid hv
  have HE := Lib.hid hE
  have HI := Lib.hid hi
  have HZ0 := Lib.hid hz0
  have HZ1 := Lib.hid hz1
  have HZ2 := Lib.hid hz2
  clear hv hE hi hz0 hz1 hz2
  go_enter Tryd.func13, Tryd.ntmps13
  go_wp2
  go_loopg [0, 3] fs.length (fun k p o wr => ∃ done todo, fs = done ++ todo ∧ k = todo.length ∧ ErrChain w (.iface 59 (.pointer (some a))) p todo ∧ wr.ownsRow w.heap.size 9 1 o done.length (strs (done.map (·.1))) ∧ Below w.heap.size w wr)
  case atStart => exact ⟨[], fs, rfl, rfl, HV.out, World.ownsRow_nil _ _ _ _, Below.refl _ _⟩
  case round =>
    obtain ⟨done, todo, hfs, rfl, hch, hown, hb⟩ := hrel
    have HB := Lib.hid hb
    have HO := Lib.hid hown
    have HF := Lib.hid hfs
    clear hb hown hfs
    cases todo with
    | nil =>
      obtain rfl : _ = _ := hch
      go_wp2_with (go_at_call 26; (with_reducible refine (As_sent _ _ _ (EType.below HE.out (Below.alloc HB.out HB.out.size _))).mono ?_); rintro e w2 ⟨rfl, hb2⟩)
      go_ret
      have hfs := HF.out
      rw [List.append_nil] at hfs
      subst hfs
      have hb3 : Below w.heap.size w w2 := (Below.alloc HB.out HB.out.size _).trans (hb2.mono (by have := HB.out.size; simp; omega))
      exact ⟨_, rfl, own_later (HO.out.alloc _) hb2, hb3⟩
    | cons f todo =>
      obtain ⟨op, p⟩ := f
      obtain ⟨b, inner, rfl, hblk, hin⟩ := hch
      obtain ⟨ti, xi, rfl⟩ := hin.iface
      have HIn := Lib.hid hin
      have HBk := Lib.hid hblk
      clear hin hblk
      go_wp2_with fail
      have hbA : Below w.heap.size w (wr.alloc (.cells #[.pointer none] 52)) := Below.alloc HB.out HB.out.size _
      refine (As_fault ⟨b, 0, none⟩ wr.heap.size (.pointer none) 52 _ (EType.below HE.out hbA) (heap_alloc_new wr _)).mono ?_
      rintro x w2 ⟨rfl, hc2, hb2⟩
      have hb0 : Below wr.heap.size wr w2 := ((Below.refl _ _).alloc (Nat.le_refl _) _).trans hb2
      have hbB : Below w.heap.size w w2 := HB.out.trans (hb0.mono HB.out.size)
      have c1 : w2.cell? ⟨wr.heap.size, 0, none⟩ = some (.pointer (some ⟨b, 0, none⟩)) := by simp [World.cell?, hc2]
      have hlb := lt_of_block HBk.out
      have hk2 : w2.heap[b]? = some (.cells #[.string ⟨op.toArray⟩, .int .i64 p, .iface ti xi] 54 (0, 0)) := by rw [hbB.block _ hlb]; exact HBk.out
      have c2 : w2.cell? ⟨b, 0, none⟩ = some (.string ⟨op.toArray⟩) := by simp [World.cell?, hk2]
      have ho2 := Lib.hid (own_later HO.out hb0)
      have hlen : done.length + (todo.length + 1) = fs.length := by rw [HF.out]; simp
      have hsz2 := hbB.size
      have hown := HO.out.lt
      have HBB := Lib.hid hbB
      have HK2 := Lib.hid hk2
      have HOW := Lib.hid hown
      clear hb0 hbB hc2 hb2 hbA hk2 hown
      go_wp2_with (first
        | (at_builtin; refine wpList_append_own _ rfl _ _ 22 rfl w.heap.size 9 i0 (.string ByteArray.empty) 1 16 Tryd.underlying22 HI.out HZ0.out HZ1.out HZ2.out rfl (by decide) _ _ _ rfl (ho2.out.alloc _) ⟨w2.heap.size, 0, none⟩ 1 1 [.string ⟨op.toArray⟩] rfl rfl ?c1 ?c2 ?c3 ?c4 ?c5 ?_))
      case c1 =>
        intro j u hj
        match j, hj with
        | 0, hj => simp at hj; subst hj; simp [Addr.add]
      case c2 => intro u hu; simp at hu; subst hu; rfl
      case c3 => unfold maxLen; omega
      case c4 => omega
      case c5 => simp; omega
      · intro v' w3 hown' hgrow _
        have hl2 := World.block_lt_of_cell? _ _ c1
        simp only at hl2
        have c1' : w3.cell? ⟨wr.heap.size, 0, none⟩ = some (.pointer (some ⟨b, 0, none⟩)) :=
          hgrow.cell (cell_later ((Below.refl _ _).alloc (Nat.le_refl _) _) c1) (fun e => by have := (HOW.out _ e.symm).2; simp only at this; omega)
        have hb3 : Below w.heap.size w w3 := (Below.alloc HBB.out HBB.out.size _).grown hgrow (by simp; omega) (fun k e => (HOW.out k e).1)
        have hk3 : w3.heap[b]? = some (.cells #[.string ⟨op.toArray⟩, .int .i64 p, .iface ti xi] 54 (0, 0)) := by rw [hb3.block _ hlb]; exact HBk.out
        have c3 : w3.cell? ⟨b, 2, none⟩ = some (.iface ti xi) := by simp [World.cell?, hk3]
        have HB3 := Lib.hid hb3
        have HO3 := Lib.hid hown'
        clear hb3 hk3 hown' hgrow c1 c2 hl2
        go_wp2
        go_roundg todo.length
        case measure => simp
        case rel => exact ⟨done ++ [(op, p)], todo, by rw [HF.out]; simp, rfl, HIn.out, by simpa [strs] using HO3.out, HB3.out⟩

end Go.Proofs.YtkapjnlhkchpiaaDoor
