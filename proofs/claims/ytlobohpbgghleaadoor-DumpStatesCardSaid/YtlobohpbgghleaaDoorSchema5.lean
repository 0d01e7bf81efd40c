import Derived.Test.YtlobohpbgghleaaDoorSchema4
import Derived.Test.YtlobohpbgghleaaDoorSchemaV12
import Derived.Test.YtlobohpbgghleaaDoorSchemaV34
namespace Go.Proofs.YtlobohpbgghleaaDoor
open Go.RowKit

set_option maxRecDepth 100000 in
set_option maxHeartbeats 4000000 in
theorem schemaCheck_5 (e : Ev) (w : World) (hw : e.who.length ≤ 281474976710656) (hn : e.note.length ≤ 281474976710656) : Calls Tryd.prog 36 #[.int .i64 5, evV e] w (ChkPost (evCheck 5 e) w) := by
  have HT := Lib.hid (fun W => (show typedV 5 e = Value.iface 109 (v5V e) from rfl) ▸ typed_any 5 e W)
  have HLa := Lib.hid (fun W => last5_any e W)
  have HFi := Lib.hid (fun W => fits5_any e W (by omega))
  have HEv := Lib.hid (fun W => event5_any e W)
  unfold v5V at HT
  have ml := fun k W => m5last k e W
  have mf := fun k W => m5fits k e W
  have me := fun k W => m5event k e W
  unfold v5V at ml
  unfold v5V at mf me
  have HQ := fun W => run_evNeq e e W
  unfold evV at HQ HEv
  have hE := Lib.hid (evAt_alloc w e 49)
  unfold evV
  by_cases h1 : e.kind < 1 ∨ 10 < e.kind
  · have hf := Lib.hid (chk31 (v := 5) (e := e) (by decide) h1)
    by_cases hk : e.kind < 1
    · have d1 := decide_eq_true hk
      clear h1 hk
      go_enter Tryd.func36, Tryd.ntmps36
      go_wp2_with fail
      refine (HT.out _).mono ?_
      rintro x w2 ⟨rfl, hb⟩
      have HB := Lib.hid (Below.next ((Below.refl _ _).alloc (Nat.le_refl _) _) hb)
      have c0 := (hE.out.below hb).c0
      clear hb
      go_wp2
      go_quiet (fail)
      go_wp2
      go_ret
      exact ⟨by rw [hf.out]; rfl, Below.next HB.out (below_drewN' _ _)⟩
    · have d1 := decide_eq_false hk
      have hk2 : 10 < e.kind := by rcases h1 with h | h; exact absurd h hk; exact h
      have d2 := decide_eq_true hk2
      clear h1 hk hk2
      go_enter Tryd.func36, Tryd.ntmps36
      go_wp2_with fail
      refine (HT.out _).mono ?_
      rintro x w2 ⟨rfl, hb⟩
      have HB := Lib.hid (Below.next ((Below.refl _ _).alloc (Nat.le_refl _) _) hb)
      have c0 := (hE.out.below hb).c0
      clear hb
      go_wp2
      go_region_held3 (fun w' => w'.cell? ⟨w.heap.size, 0, none⟩ = some (.int .i64 e.kind)) (first | assumption | exact cell_later hb2 c0 | go_keep)
        (first | (go_at_call 98; refine (HLa.out _).mono ?_; rintro x w3 ⟨rfl, hb2⟩))
      go_wp2
      go_ret
      exact ⟨by rw [hf.out]; rfl, Below.next HB.out (Below.next ((Below.refl _ _).drew) hb2)⟩
  · have hk : ¬ e.kind < 1 := fun h => h1 (.inl h)
    have hk2 : ¬ 10 < e.kind := fun h => h1 (.inr h)
    have d1 := decide_eq_false hk
    have d2 := decide_eq_false hk2
    by_cases h3 : 16 < e.who.length ∨ 120 < e.note.length
    · have hf := Lib.hid (chk24 (v := 5) (e := e) (by decide) h1 h3)
      clear h1 hk hk2
      go_enter Tryd.func36, Tryd.ntmps36
      go_wp2_with fail
      refine (HT.out _).mono ?_
      rintro x w2 ⟨rfl, hb⟩
      have HB := Lib.hid (Below.next ((Below.refl _ _).alloc (Nat.le_refl _) _) hb)
      have HE2 := Lib.hid (hE.out.below hb)
      have c0 := HE2.out.c0
      clear hb
      go_wp2
      go_region_held3 (fun w' => w'.cell? ⟨w.heap.size, 0, none⟩ = some (.int .i64 e.kind)) (first | assumption | exact cell_later hb2 c0 | go_keep)
        (first | (go_at_call 98; refine (HLa.out _).mono ?_; rintro x w3 ⟨rfl, hb2⟩))
      have hb3 := Below.next ((Below.refl _ _).drew) hb2
      have HB3 := Lib.hid (Below.next HB.out hb3)
      have c7 := (HE2.out.below hb3).c7
      have c9 := (HE2.out.below hb3).c9
      clear hb3 hb2
      by_cases hw3 : 16 < e.who.length
      · go_wp2
        go_ret
        exact ⟨by rw [hf.out]; rfl, HB3.out⟩
      · have hn3 : 120 < e.note.length := by omega
        clear h3
        go_wp2
        go_ret
        exact ⟨by rw [hf.out]; rfl, HB3.out⟩
    · have hf := Lib.hid (chkRest (v := 5) (e := e) (by decide) h1 h3)
      have hw16 : e.who.length ≤ 16 := by omega
      have hn120 : e.note.length ≤ 120 := by omega
      obtain ⟨F, hF⟩ : ∃ F, F = fits5 e := ⟨_, rfl⟩
      obtain ⟨Q, hQ⟩ : ∃ Q, Q = evSame e e := ⟨_, rfl⟩
      have HR := Lib.hid (show evFits 5 e = (F && Q) by rw [evFits_5, hF, hQ, (evSame_iff e e).2 rfl, Bool.and_true])
      rw [← hF] at HFi
      rw [← hQ] at HQ
      clear h1 hk hk2 h3 hF hQ
      cases F
      · have hfin := Lib.hid (show evCheck 5 e = 32 by rw [hf.out, HR.out]; rfl)
        go_enter Tryd.func36, Tryd.ntmps36
        go_wp2_with fail
        refine (HT.out _).mono ?_
        rintro x w2 ⟨rfl, hb⟩
        have HB := Lib.hid (Below.next ((Below.refl _ _).alloc (Nat.le_refl _) _) hb)
        have HE2 := Lib.hid (hE.out.below hb)
        have c0 := HE2.out.c0
        clear hb
        go_wp2
        go_region_held3 (fun w' => w'.cell? ⟨w.heap.size, 0, none⟩ = some (.int .i64 e.kind)) (first | assumption | exact cell_later hb2 c0 | go_keep)
          (first | (go_at_call 98; refine (HLa.out _).mono ?_; rintro x w3 ⟨rfl, hb2⟩))
        have hb3 := Below.next ((Below.refl _ _).drew) hb2
        have HB3 := Lib.hid (Below.next HB.out hb3)
        have HE3 := Lib.hid (HE2.out.below hb3)
        have c7 := HE3.out.c7
        have c9 := HE3.out.c9
        clear hb3 hb2
        go_wp2
        first | (go_region_with (go_at_call 97; refine (HFi.out _).mono ?_; rintro x w4 ⟨rfl, hb4⟩)) | fail
        all_goals go_wp2
        all_goals go_ret
        all_goals exact ⟨by rw [hfin.out]; rfl, Below.next HB3.out (Below.next ((Below.refl _ _).drew) hb4)⟩
      · cases Q
        · have hfin := Lib.hid (show evCheck 5 e = 32 by rw [hf.out, HR.out]; rfl)
          go_enter Tryd.func36, Tryd.ntmps36
          go_wp2_with fail
          refine (HT.out _).mono ?_
          rintro x w2 ⟨rfl, hb⟩
          have HB := Lib.hid (Below.next ((Below.refl _ _).alloc (Nat.le_refl _) _) hb)
          have HE2 := Lib.hid (hE.out.below hb)
          have c0 := HE2.out.c0
          clear hb
          go_wp2
          go_region_held3 (fun w' => w'.cell? ⟨w.heap.size, 0, none⟩ = some (.int .i64 e.kind)) (first | assumption | exact cell_later hb2 c0 | go_keep)
            (first | (go_at_call 98; refine (HLa.out _).mono ?_; rintro x w3 ⟨rfl, hb2⟩))
          have hb3 := Below.next ((Below.refl _ _).drew) hb2
          have HB3 := Lib.hid (Below.next HB.out hb3)
          have HE3 := Lib.hid (HE2.out.below hb3)
          have c7 := HE3.out.c7
          have c9 := HE3.out.c9
          clear hb3 hb2
          go_wp2
          have HC0 := Lib.hid (evCells HE3.out)
          have HCK := Lib.hid (show ∀ W, Below w3.drew.heap.size w3.drew W → _ from fun W h => evCells (HE3.out.below (Below.next ((Below.refl _ _).drew) h)))
          obtain ⟨d0, d1', d2', d3', d4', d5', d6', d7', d8', d9'⟩ := HC0.out
          have HKK := Lib.hid (show ∀ W W', (W.cell? ⟨w.heap.size, 0, none⟩ = some (.int .i64 e.kind) ∧ W.cell? ⟨w.heap.size, 1, none⟩ = some (.int .i64 e.order) ∧ W.cell? ⟨w.heap.size, 2, none⟩ = some (.int .i64 e.item) ∧ W.cell? ⟨w.heap.size, 3, none⟩ = some (.int .i64 e.qty) ∧ W.cell? ⟨w.heap.size, 4, none⟩ = some (.int .i64 e.price) ∧ W.cell? ⟨w.heap.size, 5, none⟩ = some (.int .i64 e.cur) ∧ W.cell? ⟨w.heap.size, 6, none⟩ = some (.int .i64 e.tax) ∧ W.cell? ⟨w.heap.size, 7, none⟩ = some (.string ⟨e.who.toArray⟩) ∧ W.cell? ⟨w.heap.size, 8, none⟩ = some (.int .i64 e.stamp) ∧ W.cell? ⟨w.heap.size, 9, none⟩ = some (.string ⟨e.note.toArray⟩)) ∧ Below w3.drew.heap.size w3.drew W → Below W.heap.size W W' → (W'.cell? ⟨w.heap.size, 0, none⟩ = some (.int .i64 e.kind) ∧ W'.cell? ⟨w.heap.size, 1, none⟩ = some (.int .i64 e.order) ∧ W'.cell? ⟨w.heap.size, 2, none⟩ = some (.int .i64 e.item) ∧ W'.cell? ⟨w.heap.size, 3, none⟩ = some (.int .i64 e.qty) ∧ W'.cell? ⟨w.heap.size, 4, none⟩ = some (.int .i64 e.price) ∧ W'.cell? ⟨w.heap.size, 5, none⟩ = some (.int .i64 e.cur) ∧ W'.cell? ⟨w.heap.size, 6, none⟩ = some (.int .i64 e.tax) ∧ W'.cell? ⟨w.heap.size, 7, none⟩ = some (.string ⟨e.who.toArray⟩) ∧ W'.cell? ⟨w.heap.size, 8, none⟩ = some (.int .i64 e.stamp) ∧ W'.cell? ⟨w.heap.size, 9, none⟩ = some (.string ⟨e.note.toArray⟩)) ∧ Below w3.drew.heap.size w3.drew W' from fun W W' h k => ⟨HCK.out W' (Below.next h.2 k), Below.next h.2 k⟩)
          first | (go_region_held3 (fun w' => (w'.cell? ⟨w.heap.size, 0, none⟩ = some (.int .i64 e.kind) ∧ w'.cell? ⟨w.heap.size, 1, none⟩ = some (.int .i64 e.order) ∧ w'.cell? ⟨w.heap.size, 2, none⟩ = some (.int .i64 e.item) ∧ w'.cell? ⟨w.heap.size, 3, none⟩ = some (.int .i64 e.qty) ∧ w'.cell? ⟨w.heap.size, 4, none⟩ = some (.int .i64 e.price) ∧ w'.cell? ⟨w.heap.size, 5, none⟩ = some (.int .i64 e.cur) ∧ w'.cell? ⟨w.heap.size, 6, none⟩ = some (.int .i64 e.tax) ∧ w'.cell? ⟨w.heap.size, 7, none⟩ = some (.string ⟨e.who.toArray⟩) ∧ w'.cell? ⟨w.heap.size, 8, none⟩ = some (.int .i64 e.stamp) ∧ w'.cell? ⟨w.heap.size, 9, none⟩ = some (.string ⟨e.note.toArray⟩)) ∧ Below w3.drew.heap.size w3.drew w')
            (first | exact ⟨HC0.out, Below.refl _ _⟩ | assumption | (refine HKK.out _ _ ?_ hb4; assumption))
            (first
              | (go_at_call 97; refine (HFi.out _).mono ?_; rintro x w4 ⟨rfl, hb4⟩)
              | (go_at_call 96; refine (HEv.out _).mono ?_; rintro x w4 ⟨rfl, hb4⟩))) | fail
          go_split_ands
          go_wp2
          go_ret
          exact ⟨by rw [hfin.out]; rfl, Below.next HB3.out (Below.next ((Below.refl _ _).drew) (by assumption))⟩
        · have hfin := Lib.hid (show evCheck 5 e = 0 by rw [hf.out, HR.out]; rfl)
          go_enter Tryd.func36, Tryd.ntmps36
          go_wp2_with fail
          refine (HT.out _).mono ?_
          rintro x w2 ⟨rfl, hb⟩
          have HB := Lib.hid (Below.next ((Below.refl _ _).alloc (Nat.le_refl _) _) hb)
          have HE2 := Lib.hid (hE.out.below hb)
          have c0 := HE2.out.c0
          clear hb
          go_wp2
          go_region_held3 (fun w' => w'.cell? ⟨w.heap.size, 0, none⟩ = some (.int .i64 e.kind)) (first | assumption | exact cell_later hb2 c0 | go_keep)
            (first | (go_at_call 98; refine (HLa.out _).mono ?_; rintro x w3 ⟨rfl, hb2⟩))
          have hb3 := Below.next ((Below.refl _ _).drew) hb2
          have HB3 := Lib.hid (Below.next HB.out hb3)
          have HE3 := Lib.hid (HE2.out.below hb3)
          have c7 := HE3.out.c7
          have c9 := HE3.out.c9
          clear hb3 hb2
          go_wp2
          have HC0 := Lib.hid (evCells HE3.out)
          have HCK := Lib.hid (show ∀ W, Below w3.drew.heap.size w3.drew W → _ from fun W h => evCells (HE3.out.below (Below.next ((Below.refl _ _).drew) h)))
          obtain ⟨d0, d1', d2', d3', d4', d5', d6', d7', d8', d9'⟩ := HC0.out
          have HKK := Lib.hid (show ∀ W W', (W.cell? ⟨w.heap.size, 0, none⟩ = some (.int .i64 e.kind) ∧ W.cell? ⟨w.heap.size, 1, none⟩ = some (.int .i64 e.order) ∧ W.cell? ⟨w.heap.size, 2, none⟩ = some (.int .i64 e.item) ∧ W.cell? ⟨w.heap.size, 3, none⟩ = some (.int .i64 e.qty) ∧ W.cell? ⟨w.heap.size, 4, none⟩ = some (.int .i64 e.price) ∧ W.cell? ⟨w.heap.size, 5, none⟩ = some (.int .i64 e.cur) ∧ W.cell? ⟨w.heap.size, 6, none⟩ = some (.int .i64 e.tax) ∧ W.cell? ⟨w.heap.size, 7, none⟩ = some (.string ⟨e.who.toArray⟩) ∧ W.cell? ⟨w.heap.size, 8, none⟩ = some (.int .i64 e.stamp) ∧ W.cell? ⟨w.heap.size, 9, none⟩ = some (.string ⟨e.note.toArray⟩)) ∧ Below w3.drew.heap.size w3.drew W → Below W.heap.size W W' → (W'.cell? ⟨w.heap.size, 0, none⟩ = some (.int .i64 e.kind) ∧ W'.cell? ⟨w.heap.size, 1, none⟩ = some (.int .i64 e.order) ∧ W'.cell? ⟨w.heap.size, 2, none⟩ = some (.int .i64 e.item) ∧ W'.cell? ⟨w.heap.size, 3, none⟩ = some (.int .i64 e.qty) ∧ W'.cell? ⟨w.heap.size, 4, none⟩ = some (.int .i64 e.price) ∧ W'.cell? ⟨w.heap.size, 5, none⟩ = some (.int .i64 e.cur) ∧ W'.cell? ⟨w.heap.size, 6, none⟩ = some (.int .i64 e.tax) ∧ W'.cell? ⟨w.heap.size, 7, none⟩ = some (.string ⟨e.who.toArray⟩) ∧ W'.cell? ⟨w.heap.size, 8, none⟩ = some (.int .i64 e.stamp) ∧ W'.cell? ⟨w.heap.size, 9, none⟩ = some (.string ⟨e.note.toArray⟩)) ∧ Below w3.drew.heap.size w3.drew W' from fun W W' h k => ⟨HCK.out W' (Below.next h.2 k), Below.next h.2 k⟩)
          first | (go_region_held3 (fun w' => (w'.cell? ⟨w.heap.size, 0, none⟩ = some (.int .i64 e.kind) ∧ w'.cell? ⟨w.heap.size, 1, none⟩ = some (.int .i64 e.order) ∧ w'.cell? ⟨w.heap.size, 2, none⟩ = some (.int .i64 e.item) ∧ w'.cell? ⟨w.heap.size, 3, none⟩ = some (.int .i64 e.qty) ∧ w'.cell? ⟨w.heap.size, 4, none⟩ = some (.int .i64 e.price) ∧ w'.cell? ⟨w.heap.size, 5, none⟩ = some (.int .i64 e.cur) ∧ w'.cell? ⟨w.heap.size, 6, none⟩ = some (.int .i64 e.tax) ∧ w'.cell? ⟨w.heap.size, 7, none⟩ = some (.string ⟨e.who.toArray⟩) ∧ w'.cell? ⟨w.heap.size, 8, none⟩ = some (.int .i64 e.stamp) ∧ w'.cell? ⟨w.heap.size, 9, none⟩ = some (.string ⟨e.note.toArray⟩)) ∧ Below w3.drew.heap.size w3.drew w')
            (first | exact ⟨HC0.out, Below.refl _ _⟩ | assumption | (refine HKK.out _ _ ?_ hb4; assumption))
            (first
              | (go_at_call 97; refine (HFi.out _).mono ?_; rintro x w4 ⟨rfl, hb4⟩)
              | (go_at_call 96; refine (HEv.out _).mono ?_; rintro x w4 ⟨rfl, hb4⟩))) | fail
          go_split_ands
          go_wp2
          go_ret
          exact ⟨by rw [hfin.out]; rfl, Below.next HB3.out (Below.next ((Below.refl _ _).drew) (by assumption))⟩

end Go.Proofs.YtlobohpbgghleaaDoor

namespace Go.Proofs.YtlobohpbgghleaaDoor
open Go.RowKit

theorem schemaCheckB_any (v : Int) (e : Ev) (w : World) (hok : EvOk 281474976710656 e) : Calls Tryd.prog 36 #[.int .i64 v, evV e] w (ChkPost (evCheck v e) w) := by
  by_cases h : v < 1 ∨ 5 < v
  · exact schemaCheck_version v e w h
  · rcases (show v = 1 ∨ v = 2 ∨ v = 3 ∨ v = 4 ∨ v = 5 by omega) with rfl | rfl | rfl | rfl | rfl
    · exact schemaCheck_1 e w hok.who hok.note
    · exact schemaCheck_2 e w hok.who hok.note
    · exact schemaCheck_3 e w hok.who hok.note
    · exact schemaCheck_4 e w hok.who hok.note
    · exact schemaCheck_5 e w hok.who hok.note
theorem schemaCheck_any (v : Int) (e : Ev) (w : World) (hok : EvOk 2097152 e) : Calls Tryd.prog 36 #[.int .i64 v, evV e] w (ChkPost (evCheck v e) w) :=
  schemaCheckB_any v e w ⟨hok.kind, hok.order, hok.item, hok.qty, hok.price, hok.cur, hok.tax, hok.stamp, Nat.le_trans hok.who (by decide), Nat.le_trans hok.note (by decide)⟩

end Go.Proofs.YtlobohpbgghleaaDoor
