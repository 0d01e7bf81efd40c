import Derived.Test.YtlobohpbgghleaaGreatDoorPr5
namespace Go.Proofs.YtlobohpbgghleaaGreatDoor
open Go.RowKit
set_option maxRecDepth 100000 in
set_option maxHeartbeats 16000000 in
theorem oValid_5_0_0 (s:St) (lv:Value) (w:World) (hr:LnRow w lv s.lines) (hw:s.who.length≤281474976710656) (hf:boundedB s=true) (hm: ¬ dueOf s<s.paid) (hs:s.status=5) (hp:s.prior=0) (g1:(s.paid==dueOf s)=false):
  Calls Tryz.prog 160 #[stV s lv] w fun e w'=>e= .returned (.bool (validB s))∧Below w.heap.size w w':=by
 have HVb:=Lib.hid (show validB s=noneB s.lines by
  have h1:validB s=standB s 5:=by unfold validB;rw [hf,decide_eq_true (by omega),hs,hp];rfl
  have h2:(s.paid==dueOf s&&decide (0<s.paid))=false:=by rw [g1];rfl
  rw [h1];unfold standB;rw [h2];rfl)
 have hbp:=bounded_p hf
 have HBO:=Lib.hid (show ∀ W:World,LnRow W lv s.lines→Calls Tryz.prog 194 #[stV s lv] W fun e w'=>e= .returned (.bool true)∧Below W.heap.size W w' from fun W h=>hf▸obounded s lv W h hw)
 obtain⟨D,hD⟩: ∃ D,D=dueOf s:=⟨_,rfl⟩
 have HDU:=Lib.hid (show ∀ W:World,LnRow W lv s.lines→Calls Tryz.prog 195 #[stV s lv] W fun e w'=>e= .returned (.int .i64 D)∧Below W.heap.size W w' from fun W h=>hD▸odue_any s lv W h hbp.fine hbp.few hbp.tax.1 hbp.tax.2)
 have HH:=Lib.hid (show StBlk (w.alloc (.cells (stCs s lv) 164)).drew w.heap.size s lv∧LnRow (w.alloc (.cells (stCs s lv) 164)).drew lv s.lines∧Below w.heap.size w (w.alloc (.cells (stCs s lv) 164)).drew from by
  have hb:Below w.heap.size w (w.alloc (.cells (stCs s lv) 164)):=(Below.refl _ _).alloc (Nat.le_refl _) _
  exact⟨stBlk_alloc w s lv,hr.below (Below.next hb (below_drewN' _ 1)),Below.next hb (below_drewN' _ 1)⟩)
 have HSH:=Lib.hid (show ∀ W:World,LnRow W lv s.lines→Calls Tryz.prog 196 #[stV s lv] W fun e w'=>e= .returned (.tuple #[.bool (noneB s.lines),.bool (wholeB s.lines)])∧Below W.heap.size W w' from fun W h=>oshipped_any s lv W h)
 obtain⟨nB,hnB⟩: ∃ x,x=noneB s.lines:=⟨_,rfl⟩
 obtain⟨wB,hwB⟩: ∃ x,x=wholeB s.lines:=⟨_,rfl⟩
 rw [←hnB,←hwB] at HSH
 rw [←hD] at hm g1
 rw [←hnB] at HVb
 have d1:decide (D<s.paid)=false:=decide_eq_false hm
 have hm2:s.paid≤D:=by omega
 have HS:=Lib.hid hs
 have HP:=Lib.hid hp
 obtain⟨oa,cap,hlv,_,_,_⟩:=hr.shape
 have HLV:=Lib.hid hlv
 clear hr hw hf hbp hD hm hs hp hnB hwB hlv
 go_enter Tryz.func160,Tryz.ntmps160
 go_wp2
 refine wp_region_held_drew (S:=fun w'=>StBlk w' w.heap.size s lv∧LnRow w' lv s.lines∧Below w.heap.size w w') (by kernel_rfl) HH.out (fun hHeld=> ?_)
 refine wpAnyH_take (i:=0) (oi:=⟨_,_,_,_,_,_⟩) (v:=stV s lv) rfl (by kernel_rfl) (by kernel_rfl) (by kernel_rfl) (fun _ _ _ h=>h) (yieldsIf_load_mid (by kernel_rfl) 164 (.tmp 1) rfl w.heap.size 0 rfl (stCs s lv).toList _ (fun w' h j v hv=>by rw [Nat.zero_add,h.1.cell];simpa using hv) Tryz.underlying164 rfl (by rw [stInfo];rfl)) (by assumption) ?_
 simp only [pA,pB,pC,pD]
 refine wpAnyH_ready (rs:=[1]) (by kernel_rfl) (by simp) ?_
 refine AllReadyH.cons rfl (fun K hK=> ?_) AllReadyH.nil
 go_simp
 go_at_call 194
 obtain⟨hSt,hLn,hBe⟩:=hHeld
 refine(HBO.out _ hLn).mono ?_
 rintro x w1 ⟨rfl,hb⟩
 go_wp2_with fail
 refine hK.out _ _ ⟨hSt.below hb,hLn.below hb,Below.next hBe hb⟩ (fun hHeld=> ?_)
 clear hK K hSt hLn hBe hb
 refine tk 2 rfl ?v_2_22 ?hy_2_22 ?r_2_22
 case hy_2_22=>intro w h;have k1:=h.1.c1;have k6:=h.1.c6;go_simp;try with_reducible rfl
 simp only [pA,pB,pC,pD]
 refine tk 3 rfl ?v_3_23 ?hy_3_23 ?r_3_23
 case hy_3_23=>intro w h;have k1:=h.1.c1;have k6:=h.1.c6;go_simp;try with_reducible rfl
 simp only [pA,pB,pC,pD]
 refine tk 4 rfl ?v_4_24 ?hy_4_24 ?r_4_24
 case hy_4_24=>intro w h;have k1:=h.1.c1;have k6:=h.1.c6;go_simp;try with_reducible rfl
 simp only [pA,pB,pC,pD]
 refine tk 5 rfl ?v_5_25 ?hy_5_25 ?r_5_25
 case hy_5_25=>intro w h;have k1:=h.1.c1;have k6:=h.1.c6;go_simp;try with_reducible rfl
 simp only [pA,pB,pC,pD]
 refine wpAnyH_take (i:=6) (oi:=⟨_,_,_,_,_,_⟩) (v:=stV s lv) rfl (by kernel_rfl) (by kernel_rfl) (by kernel_rfl) (fun _ _ _ h=>h) (yieldsIf_load_mid (by kernel_rfl) 164 (.tmp 1) rfl w.heap.size 0 rfl (stCs s lv).toList _ (fun w' h j v hv=>by rw [Nat.zero_add,h.1.cell];simpa using hv) Tryz.underlying164 rfl (by rw [stInfo];rfl)) (by assumption) ?_
 simp only [pA,pB,pC,pD]
 refine wpAnyH_ready (rs:=[7]) (by kernel_rfl) (by simp) ?_
 refine AllReadyH.cons rfl (fun K hK=> ?_) AllReadyH.nil
 go_simp
 go_at_call 195
 obtain⟨hSt,hLn,hBe⟩:=hHeld
 refine(HDU.out _ hLn).mono ?_
 rintro x w2 ⟨rfl,hb⟩
 go_wp2_with fail
 refine hK.out _ _ ⟨hSt.below hb,hLn.below hb,Below.next hBe hb⟩ (fun hHeld=> ?_)
 clear hK K hSt hLn hBe hb
 refine tk 8 rfl ?v_8_26 ?hy_8_26 ?r_8_26
 case hy_8_26=>intro w h;have k1:=h.1.c1;have k6:=h.1.c6;go_simp;try with_reducible rfl
 simp only [pA,pB,pC,pD]
 refine tk 9 rfl ?v_9_27 ?hy_9_27 ?r_9_27
 case hy_9_27=>intro w h;have k1:=h.1.c1;have k6:=h.1.c6;go_simp;try with_reducible rfl
 simp only [pA,pB,pC,pD]
 refine wpAnyH_done (by kernel_rfl) ?_ _
 have c1:w2.cell? ⟨w.heap.size,1,none⟩=some (.int .i64 5):=by rw [hHeld.1.cell 1,stCs,HS.out];rfl
 have c2:w2.cell? ⟨w.heap.size,2,none⟩=some (.int .i64 0):=by rw [hHeld.1.cell 2,stCs,HP.out];rfl
 have HE:=Lib.hid hHeld
 clear hHeld HBO HH
 go_wp2_with (first
  | (with_reducible refine wpList_load_st rfl (.tmp 1) rfl w.heap.size s lv rfl HE.out.1 ?_)
  | (go_at_call 196;refine(HSH.out _ HE.out.2.1).mono ?_;rintro x w3 ⟨rfl,hb⟩;have HE3:=Lib.hid (show StBlk w3 w.heap.size s lv∧LnRow w3 lv s.lines∧Below w.heap.size w w3 from⟨HE.out.1.below hb,HE.out.2.1.below hb,Below.next HE.out.2.2 hb⟩);clear hb))
 clear c1 c2 HE HSH
 refine wp_region_held_drew (S:=fun w'=>StBlk w' w.heap.size s lv∧LnRow w' lv s.lines∧Below w.heap.size w w') (by kernel_rfl) ⟨HE3.out.1,HE3.out.2.1,Below.next HE3.out.2.2 (below_drewN' _ 1)⟩ (fun hHeld=> ?_)
 refine tk 0 rfl ?v_0_28 ?hy_0_28 ?r_0_28
 case hy_0_28=>intro w h;have k1:=h.1.c1;have k6:=h.1.c6;go_simp;try with_reducible rfl
 simp only [pA,pB,pC,pD]
 refine tk 1 rfl ?v_1_29 ?hy_1_29 ?r_1_29
 case hy_1_29=>intro w h;have k1:=h.1.c1;have k6:=h.1.c6;go_simp;try with_reducible rfl
 simp only [pA,pB,pC,pD]
 refine wpAnyH_take (i:=2) (oi:=⟨_,_,_,_,_,_⟩) (v:=stV s lv) rfl (by kernel_rfl) (by kernel_rfl) (by kernel_rfl) (fun _ _ _ h=>h) (yieldsIf_load_mid (by kernel_rfl) 164 (.tmp 1) rfl w.heap.size 0 rfl (stCs s lv).toList _ (fun w' h j v hv=>by rw [Nat.zero_add,h.1.cell];simpa using hv) Tryz.underlying164 rfl (by rw [stInfo];rfl)) (by assumption) ?_
 simp only [pA,pB,pC,pD]
 refine wpAnyH_ready (rs:=[3]) (by kernel_rfl) (by simp) ?_
 refine AllReadyH.cons rfl (fun K hK=> ?_) AllReadyH.nil
 go_simp
 go_at_call 195
 obtain⟨hSt,hLn,hBe⟩:=hHeld
 refine(HDU.out _ hLn).mono ?_
 rintro x w4 ⟨rfl,hb⟩
 go_wp2_with fail
 refine hK.out _ _ ⟨hSt.below hb,hLn.below hb,Below.next hBe hb⟩ (fun hHeld=> ?_)
 clear hK K hSt hLn hBe hb
 refine tk 4 rfl ?v_4_30 ?hy_4_30 ?r_4_30
 case hy_4_30=>intro w h;have k1:=h.1.c1;have k6:=h.1.c6;go_simp;try with_reducible rfl
 simp only [pA,pB,pC,pD]
 refine tk 5 rfl ?v_5_31 ?hy_5_31 ?r_5_31
 case hy_5_31=>intro w h;have k1:=h.1.c1;have k6:=h.1.c6;go_simp;try with_reducible rfl
 simp only [pA,pB,pC,pD]
 refine tkn 6 rfl ?_
 simp only [pA,pB,pC,pD]
 refine tkn 7 rfl ?_
 simp only [pA,pB,pC,pD]
 refine tkn 8 rfl ?_
 simp only [pA,pB,pC,pD]
 refine tk 9 rfl ?v_9_32 ?hy_9_32 ?r_9_32
 case hy_9_32=>intro w h;have k1:=h.1.c1;have k6:=h.1.c6;go_simp;try with_reducible rfl
 simp only [pA,pB,pC,pD]
 refine tk 10 rfl ?v_10_33 ?hy_10_33 ?r_10_33
 case hy_10_33=>intro w h;have k1:=h.1.c1;have k6:=h.1.c6;go_simp;try with_reducible rfl
 simp only [pA,pB,pC,pD]
 refine wpAnyH_done (by kernel_rfl) ?_ _
 have HB:=Lib.hid hHeld.2.2
 have d3:w4.cell? ⟨w.heap.size,3,none⟩=some (.int .i64 s.cur):=hHeld.1.cell 3
 have d4:w4.cell? ⟨w.heap.size,4,none⟩=some (.int .i64 s.tax):=hHeld.1.cell 4
 have d5:w4.cell? ⟨w.heap.size,5,none⟩=some (.slice oa s.lines.length cap):=by rw [hHeld.1.cell 5,stCs,HLV.out];rfl
 have d7:w4.cell? ⟨w.heap.size,7,none⟩=some (.int .i64 s.refunded):=hHeld.1.cell 7
 have d8:w4.cell? ⟨w.heap.size,8,none⟩=some (.int .i64 s.events):=hHeld.1.cell 8
 have d9:w4.cell? ⟨w.heap.size,9,none⟩=some (.int .i64 s.refused):=hHeld.1.cell 9
 have d10:w4.cell? ⟨w.heap.size,10,none⟩=some (.int .i64 s.stamp):=hHeld.1.cell 10
 have d11:w4.cell? ⟨w.heap.size,11,none⟩=some (.string ⟨s.who.toArray⟩):=hHeld.1.cell 11
 clear hHeld HE3 HDU
 go_wp2
 go_ret
 exact⟨by rw [HVb.out];rfl,HB.out⟩
set_option maxRecDepth 100000 in
set_option maxHeartbeats 16000000 in
theorem oValid_5_0_1 (s:St) (lv:Value) (w:World) (hr:LnRow w lv s.lines) (hw:s.who.length≤281474976710656) (hf:boundedB s=true) (hm: ¬ dueOf s<s.paid) (hs:s.status=5) (hp:s.prior=0) (g1:(s.paid==dueOf s)=true) (g3:decide (0<s.paid)=false):
  Calls Tryz.prog 160 #[stV s lv] w fun e w'=>e= .returned (.bool (validB s))∧Below w.heap.size w w':=by
 have HVb:=Lib.hid (show validB s=noneB s.lines by
  have h1:validB s=standB s 5:=by unfold validB;rw [hf,decide_eq_true (by omega),hs,hp];rfl
  have h2:(s.paid==dueOf s&&decide (0<s.paid))=false:=by rw [g1,g3];rfl
  rw [h1];unfold standB;rw [h2];rfl)
 have hbp:=bounded_p hf
 have HBO:=Lib.hid (show ∀ W:World,LnRow W lv s.lines→Calls Tryz.prog 194 #[stV s lv] W fun e w'=>e= .returned (.bool true)∧Below W.heap.size W w' from fun W h=>hf▸obounded s lv W h hw)
 obtain⟨D,hD⟩: ∃ D,D=dueOf s:=⟨_,rfl⟩
 have HDU:=Lib.hid (show ∀ W:World,LnRow W lv s.lines→Calls Tryz.prog 195 #[stV s lv] W fun e w'=>e= .returned (.int .i64 D)∧Below W.heap.size W w' from fun W h=>hD▸odue_any s lv W h hbp.fine hbp.few hbp.tax.1 hbp.tax.2)
 have HH:=Lib.hid (show StBlk (w.alloc (.cells (stCs s lv) 164)).drew w.heap.size s lv∧LnRow (w.alloc (.cells (stCs s lv) 164)).drew lv s.lines∧Below w.heap.size w (w.alloc (.cells (stCs s lv) 164)).drew from by
  have hb:Below w.heap.size w (w.alloc (.cells (stCs s lv) 164)):=(Below.refl _ _).alloc (Nat.le_refl _) _
  exact⟨stBlk_alloc w s lv,hr.below (Below.next hb (below_drewN' _ 1)),Below.next hb (below_drewN' _ 1)⟩)
 have HSH:=Lib.hid (show ∀ W:World,LnRow W lv s.lines→Calls Tryz.prog 196 #[stV s lv] W fun e w'=>e= .returned (.tuple #[.bool (noneB s.lines),.bool (wholeB s.lines)])∧Below W.heap.size W w' from fun W h=>oshipped_any s lv W h)
 obtain⟨nB,hnB⟩: ∃ x,x=noneB s.lines:=⟨_,rfl⟩
 obtain⟨wB,hwB⟩: ∃ x,x=wholeB s.lines:=⟨_,rfl⟩
 rw [←hnB,←hwB] at HSH
 rw [←hD] at hm g1
 rw [←hnB] at HVb
 have d1:decide (D<s.paid)=false:=decide_eq_false hm
 have hm2:s.paid≤D:=by omega
 have HS:=Lib.hid hs
 have HP:=Lib.hid hp
 obtain⟨oa,cap,hlv,_,_,_⟩:=hr.shape
 have HLV:=Lib.hid hlv
 clear hr hw hf hbp hD hm hs hp hnB hwB hlv
 go_enter Tryz.func160,Tryz.ntmps160
 go_wp2
 refine wp_region_held_drew (S:=fun w'=>StBlk w' w.heap.size s lv∧LnRow w' lv s.lines∧Below w.heap.size w w') (by kernel_rfl) HH.out (fun hHeld=> ?_)
 refine wpAnyH_take (i:=0) (oi:=⟨_,_,_,_,_,_⟩) (v:=stV s lv) rfl (by kernel_rfl) (by kernel_rfl) (by kernel_rfl) (fun _ _ _ h=>h) (yieldsIf_load_mid (by kernel_rfl) 164 (.tmp 1) rfl w.heap.size 0 rfl (stCs s lv).toList _ (fun w' h j v hv=>by rw [Nat.zero_add,h.1.cell];simpa using hv) Tryz.underlying164 rfl (by rw [stInfo];rfl)) (by assumption) ?_
 simp only [pA,pB,pC,pD]
 refine wpAnyH_ready (rs:=[1]) (by kernel_rfl) (by simp) ?_
 refine AllReadyH.cons rfl (fun K hK=> ?_) AllReadyH.nil
 go_simp
 go_at_call 194
 obtain⟨hSt,hLn,hBe⟩:=hHeld
 refine(HBO.out _ hLn).mono ?_
 rintro x w1 ⟨rfl,hb⟩
 go_wp2_with fail
 refine hK.out _ _ ⟨hSt.below hb,hLn.below hb,Below.next hBe hb⟩ (fun hHeld=> ?_)
 clear hK K hSt hLn hBe hb
 refine tk 2 rfl ?v_2_34 ?hy_2_34 ?r_2_34
 case hy_2_34=>intro w h;have k1:=h.1.c1;have k6:=h.1.c6;go_simp;try with_reducible rfl
 simp only [pA,pB,pC,pD]
 refine tk 3 rfl ?v_3_35 ?hy_3_35 ?r_3_35
 case hy_3_35=>intro w h;have k1:=h.1.c1;have k6:=h.1.c6;go_simp;try with_reducible rfl
 simp only [pA,pB,pC,pD]
 refine tk 4 rfl ?v_4_36 ?hy_4_36 ?r_4_36
 case hy_4_36=>intro w h;have k1:=h.1.c1;have k6:=h.1.c6;go_simp;try with_reducible rfl
 simp only [pA,pB,pC,pD]
 refine tk 5 rfl ?v_5_37 ?hy_5_37 ?r_5_37
 case hy_5_37=>intro w h;have k1:=h.1.c1;have k6:=h.1.c6;go_simp;try with_reducible rfl
 simp only [pA,pB,pC,pD]
 refine wpAnyH_take (i:=6) (oi:=⟨_,_,_,_,_,_⟩) (v:=stV s lv) rfl (by kernel_rfl) (by kernel_rfl) (by kernel_rfl) (fun _ _ _ h=>h) (yieldsIf_load_mid (by kernel_rfl) 164 (.tmp 1) rfl w.heap.size 0 rfl (stCs s lv).toList _ (fun w' h j v hv=>by rw [Nat.zero_add,h.1.cell];simpa using hv) Tryz.underlying164 rfl (by rw [stInfo];rfl)) (by assumption) ?_
 simp only [pA,pB,pC,pD]
 refine wpAnyH_ready (rs:=[7]) (by kernel_rfl) (by simp) ?_
 refine AllReadyH.cons rfl (fun K hK=> ?_) AllReadyH.nil
 go_simp
 go_at_call 195
 obtain⟨hSt,hLn,hBe⟩:=hHeld
 refine(HDU.out _ hLn).mono ?_
 rintro x w2 ⟨rfl,hb⟩
 go_wp2_with fail
 refine hK.out _ _ ⟨hSt.below hb,hLn.below hb,Below.next hBe hb⟩ (fun hHeld=> ?_)
 clear hK K hSt hLn hBe hb
 refine tk 8 rfl ?v_8_38 ?hy_8_38 ?r_8_38
 case hy_8_38=>intro w h;have k1:=h.1.c1;have k6:=h.1.c6;go_simp;try with_reducible rfl
 simp only [pA,pB,pC,pD]
 refine tk 9 rfl ?v_9_39 ?hy_9_39 ?r_9_39
 case hy_9_39=>intro w h;have k1:=h.1.c1;have k6:=h.1.c6;go_simp;try with_reducible rfl
 simp only [pA,pB,pC,pD]
 refine wpAnyH_done (by kernel_rfl) ?_ _
 have c1:w2.cell? ⟨w.heap.size,1,none⟩=some (.int .i64 5):=by rw [hHeld.1.cell 1,stCs,HS.out];rfl
 have c2:w2.cell? ⟨w.heap.size,2,none⟩=some (.int .i64 0):=by rw [hHeld.1.cell 2,stCs,HP.out];rfl
 have HE:=Lib.hid hHeld
 clear hHeld HBO HH
 go_wp2_with (first
  | (with_reducible refine wpList_load_st rfl (.tmp 1) rfl w.heap.size s lv rfl HE.out.1 ?_)
  | (go_at_call 196;refine(HSH.out _ HE.out.2.1).mono ?_;rintro x w3 ⟨rfl,hb⟩;have HE3:=Lib.hid (show StBlk w3 w.heap.size s lv∧LnRow w3 lv s.lines∧Below w.heap.size w w3 from⟨HE.out.1.below hb,HE.out.2.1.below hb,Below.next HE.out.2.2 hb⟩);clear hb))
 clear c1 c2 HE HSH
 refine wp_region_held_drew (S:=fun w'=>StBlk w' w.heap.size s lv∧LnRow w' lv s.lines∧Below w.heap.size w w') (by kernel_rfl) ⟨HE3.out.1,HE3.out.2.1,Below.next HE3.out.2.2 (below_drewN' _ 1)⟩ (fun hHeld=> ?_)
 refine tk 0 rfl ?v_0_40 ?hy_0_40 ?r_0_40
 case hy_0_40=>intro w h;have k1:=h.1.c1;have k6:=h.1.c6;go_simp;try with_reducible rfl
 simp only [pA,pB,pC,pD]
 refine tk 1 rfl ?v_1_41 ?hy_1_41 ?r_1_41
 case hy_1_41=>intro w h;have k1:=h.1.c1;have k6:=h.1.c6;go_simp;try with_reducible rfl
 simp only [pA,pB,pC,pD]
 refine wpAnyH_take (i:=2) (oi:=⟨_,_,_,_,_,_⟩) (v:=stV s lv) rfl (by kernel_rfl) (by kernel_rfl) (by kernel_rfl) (fun _ _ _ h=>h) (yieldsIf_load_mid (by kernel_rfl) 164 (.tmp 1) rfl w.heap.size 0 rfl (stCs s lv).toList _ (fun w' h j v hv=>by rw [Nat.zero_add,h.1.cell];simpa using hv) Tryz.underlying164 rfl (by rw [stInfo];rfl)) (by assumption) ?_
 simp only [pA,pB,pC,pD]
 refine wpAnyH_ready (rs:=[3]) (by kernel_rfl) (by simp) ?_
 refine AllReadyH.cons rfl (fun K hK=> ?_) AllReadyH.nil
 go_simp
 go_at_call 195
 obtain⟨hSt,hLn,hBe⟩:=hHeld
 refine(HDU.out _ hLn).mono ?_
 rintro x w4 ⟨rfl,hb⟩
 go_wp2_with fail
 refine hK.out _ _ ⟨hSt.below hb,hLn.below hb,Below.next hBe hb⟩ (fun hHeld=> ?_)
 clear hK K hSt hLn hBe hb
 refine tk 4 rfl ?v_4_42 ?hy_4_42 ?r_4_42
 case hy_4_42=>intro w h;have k1:=h.1.c1;have k6:=h.1.c6;go_simp;try with_reducible rfl
 simp only [pA,pB,pC,pD]
 refine tk 5 rfl ?v_5_43 ?hy_5_43 ?r_5_43
 case hy_5_43=>intro w h;have k1:=h.1.c1;have k6:=h.1.c6;go_simp;try with_reducible rfl
 simp only [pA,pB,pC,pD]
 refine tk 6 rfl ?v_6_44 ?hy_6_44 ?r_6_44
 case hy_6_44=>intro w h;have k1:=h.1.c1;have k6:=h.1.c6;go_simp;try with_reducible rfl
 simp only [pA,pB,pC,pD]
 refine tk 7 rfl ?v_7_45 ?hy_7_45 ?r_7_45
 case hy_7_45=>intro w h;have k1:=h.1.c1;have k6:=h.1.c6;go_simp;try with_reducible rfl
 simp only [pA,pB,pC,pD]
 refine tk 8 rfl ?v_8_46 ?hy_8_46 ?r_8_46
 case hy_8_46=>intro w h;have k1:=h.1.c1;have k6:=h.1.c6;go_simp;try with_reducible rfl
 simp only [pA,pB,pC,pD]
 refine tk 9 rfl ?v_9_47 ?hy_9_47 ?r_9_47
 case hy_9_47=>intro w h;have k1:=h.1.c1;have k6:=h.1.c6;go_simp;try with_reducible rfl
 simp only [pA,pB,pC,pD]
 refine tk 10 rfl ?v_10_48 ?hy_10_48 ?r_10_48
 case hy_10_48=>intro w h;have k1:=h.1.c1;have k6:=h.1.c6;go_simp;try with_reducible rfl
 simp only [pA,pB,pC,pD]
 refine wpAnyH_done (by kernel_rfl) ?_ _
 have HB:=Lib.hid hHeld.2.2
 have d3:w4.cell? ⟨w.heap.size,3,none⟩=some (.int .i64 s.cur):=hHeld.1.cell 3
 have d4:w4.cell? ⟨w.heap.size,4,none⟩=some (.int .i64 s.tax):=hHeld.1.cell 4
 have d5:w4.cell? ⟨w.heap.size,5,none⟩=some (.slice oa s.lines.length cap):=by rw [hHeld.1.cell 5,stCs,HLV.out];rfl
 have d7:w4.cell? ⟨w.heap.size,7,none⟩=some (.int .i64 s.refunded):=hHeld.1.cell 7
 have d8:w4.cell? ⟨w.heap.size,8,none⟩=some (.int .i64 s.events):=hHeld.1.cell 8
 have d9:w4.cell? ⟨w.heap.size,9,none⟩=some (.int .i64 s.refused):=hHeld.1.cell 9
 have d10:w4.cell? ⟨w.heap.size,10,none⟩=some (.int .i64 s.stamp):=hHeld.1.cell 10
 have d11:w4.cell? ⟨w.heap.size,11,none⟩=some (.string ⟨s.who.toArray⟩):=hHeld.1.cell 11
 clear hHeld HE3 HDU
 go_wp2
 go_ret
 exact⟨by rw [HVb.out];rfl,HB.out⟩
set_option maxRecDepth 100000 in
set_option maxHeartbeats 16000000 in
theorem oValid_5_0_2 (s:St) (lv:Value) (w:World) (hr:LnRow w lv s.lines) (hw:s.who.length≤281474976710656) (hf:boundedB s=true) (hm: ¬ dueOf s<s.paid) (hs:s.status=5) (hp:s.prior=0) (g1:(s.paid==dueOf s)=true) (g3:decide (0<s.paid)=true):
  Calls Tryz.prog 160 #[stV s lv] w fun e w'=>e= .returned (.bool (validB s))∧Below w.heap.size w w':=by
 have HVb:=Lib.hid (show validB s=noneB s.lines by
  have h1:validB s=standB s 5:=by unfold validB;rw [hf,decide_eq_true (by omega),hs,hp];rfl
  have h2:(s.paid==dueOf s&&decide (0<s.paid))=true:=by rw [g1,g3];rfl
  rw [h1];unfold standB;rw [h2];rfl)
 have hbp:=bounded_p hf
 have HBO:=Lib.hid (show ∀ W:World,LnRow W lv s.lines→Calls Tryz.prog 194 #[stV s lv] W fun e w'=>e= .returned (.bool true)∧Below W.heap.size W w' from fun W h=>hf▸obounded s lv W h hw)
 obtain⟨D,hD⟩: ∃ D,D=dueOf s:=⟨_,rfl⟩
 have HDU:=Lib.hid (show ∀ W:World,LnRow W lv s.lines→Calls Tryz.prog 195 #[stV s lv] W fun e w'=>e= .returned (.int .i64 D)∧Below W.heap.size W w' from fun W h=>hD▸odue_any s lv W h hbp.fine hbp.few hbp.tax.1 hbp.tax.2)
 have HH:=Lib.hid (show StBlk (w.alloc (.cells (stCs s lv) 164)).drew w.heap.size s lv∧LnRow (w.alloc (.cells (stCs s lv) 164)).drew lv s.lines∧Below w.heap.size w (w.alloc (.cells (stCs s lv) 164)).drew from by
  have hb:Below w.heap.size w (w.alloc (.cells (stCs s lv) 164)):=(Below.refl _ _).alloc (Nat.le_refl _) _
  exact⟨stBlk_alloc w s lv,hr.below (Below.next hb (below_drewN' _ 1)),Below.next hb (below_drewN' _ 1)⟩)
 have HSH:=Lib.hid (show ∀ W:World,LnRow W lv s.lines→Calls Tryz.prog 196 #[stV s lv] W fun e w'=>e= .returned (.tuple #[.bool (noneB s.lines),.bool (wholeB s.lines)])∧Below W.heap.size W w' from fun W h=>oshipped_any s lv W h)
 obtain⟨nB,hnB⟩: ∃ x,x=noneB s.lines:=⟨_,rfl⟩
 obtain⟨wB,hwB⟩: ∃ x,x=wholeB s.lines:=⟨_,rfl⟩
 rw [←hnB,←hwB] at HSH
 rw [←hD] at hm g1
 rw [←hnB] at HVb
 have d1:decide (D<s.paid)=false:=decide_eq_false hm
 have hm2:s.paid≤D:=by omega
 have HS:=Lib.hid hs
 have HP:=Lib.hid hp
 obtain⟨oa,cap,hlv,_,_,_⟩:=hr.shape
 have HLV:=Lib.hid hlv
 clear hr hw hf hbp hD hm hs hp hnB hwB hlv
 go_enter Tryz.func160,Tryz.ntmps160
 go_wp2
 refine wp_region_held_drew (S:=fun w'=>StBlk w' w.heap.size s lv∧LnRow w' lv s.lines∧Below w.heap.size w w') (by kernel_rfl) HH.out (fun hHeld=> ?_)
 refine wpAnyH_take (i:=0) (oi:=⟨_,_,_,_,_,_⟩) (v:=stV s lv) rfl (by kernel_rfl) (by kernel_rfl) (by kernel_rfl) (fun _ _ _ h=>h) (yieldsIf_load_mid (by kernel_rfl) 164 (.tmp 1) rfl w.heap.size 0 rfl (stCs s lv).toList _ (fun w' h j v hv=>by rw [Nat.zero_add,h.1.cell];simpa using hv) Tryz.underlying164 rfl (by rw [stInfo];rfl)) (by assumption) ?_
 simp only [pA,pB,pC,pD]
 refine wpAnyH_ready (rs:=[1]) (by kernel_rfl) (by simp) ?_
 refine AllReadyH.cons rfl (fun K hK=> ?_) AllReadyH.nil
 go_simp
 go_at_call 194
 obtain⟨hSt,hLn,hBe⟩:=hHeld
 refine(HBO.out _ hLn).mono ?_
 rintro x w1 ⟨rfl,hb⟩
 go_wp2_with fail
 refine hK.out _ _ ⟨hSt.below hb,hLn.below hb,Below.next hBe hb⟩ (fun hHeld=> ?_)
 clear hK K hSt hLn hBe hb
 refine tk 2 rfl ?v_2_49 ?hy_2_49 ?r_2_49
 case hy_2_49=>intro w h;have k1:=h.1.c1;have k6:=h.1.c6;go_simp;try with_reducible rfl
 simp only [pA,pB,pC,pD]
 refine tk 3 rfl ?v_3_50 ?hy_3_50 ?r_3_50
 case hy_3_50=>intro w h;have k1:=h.1.c1;have k6:=h.1.c6;go_simp;try with_reducible rfl
 simp only [pA,pB,pC,pD]
 refine tk 4 rfl ?v_4_51 ?hy_4_51 ?r_4_51
 case hy_4_51=>intro w h;have k1:=h.1.c1;have k6:=h.1.c6;go_simp;try with_reducible rfl
 simp only [pA,pB,pC,pD]
 refine tk 5 rfl ?v_5_52 ?hy_5_52 ?r_5_52
 case hy_5_52=>intro w h;have k1:=h.1.c1;have k6:=h.1.c6;go_simp;try with_reducible rfl
 simp only [pA,pB,pC,pD]
 refine wpAnyH_take (i:=6) (oi:=⟨_,_,_,_,_,_⟩) (v:=stV s lv) rfl (by kernel_rfl) (by kernel_rfl) (by kernel_rfl) (fun _ _ _ h=>h) (yieldsIf_load_mid (by kernel_rfl) 164 (.tmp 1) rfl w.heap.size 0 rfl (stCs s lv).toList _ (fun w' h j v hv=>by rw [Nat.zero_add,h.1.cell];simpa using hv) Tryz.underlying164 rfl (by rw [stInfo];rfl)) (by assumption) ?_
 simp only [pA,pB,pC,pD]
 refine wpAnyH_ready (rs:=[7]) (by kernel_rfl) (by simp) ?_
 refine AllReadyH.cons rfl (fun K hK=> ?_) AllReadyH.nil
 go_simp
 go_at_call 195
 obtain⟨hSt,hLn,hBe⟩:=hHeld
 refine(HDU.out _ hLn).mono ?_
 rintro x w2 ⟨rfl,hb⟩
 go_wp2_with fail
 refine hK.out _ _ ⟨hSt.below hb,hLn.below hb,Below.next hBe hb⟩ (fun hHeld=> ?_)
 clear hK K hSt hLn hBe hb
 refine tk 8 rfl ?v_8_53 ?hy_8_53 ?r_8_53
 case hy_8_53=>intro w h;have k1:=h.1.c1;have k6:=h.1.c6;go_simp;try with_reducible rfl
 simp only [pA,pB,pC,pD]
 refine tk 9 rfl ?v_9_54 ?hy_9_54 ?r_9_54
 case hy_9_54=>intro w h;have k1:=h.1.c1;have k6:=h.1.c6;go_simp;try with_reducible rfl
 simp only [pA,pB,pC,pD]
 refine wpAnyH_done (by kernel_rfl) ?_ _
 have c1:w2.cell? ⟨w.heap.size,1,none⟩=some (.int .i64 5):=by rw [hHeld.1.cell 1,stCs,HS.out];rfl
 have c2:w2.cell? ⟨w.heap.size,2,none⟩=some (.int .i64 0):=by rw [hHeld.1.cell 2,stCs,HP.out];rfl
 have HE:=Lib.hid hHeld
 clear hHeld HBO HH
 go_wp2_with (first
  | (with_reducible refine wpList_load_st rfl (.tmp 1) rfl w.heap.size s lv rfl HE.out.1 ?_)
  | (go_at_call 196;refine(HSH.out _ HE.out.2.1).mono ?_;rintro x w3 ⟨rfl,hb⟩;have HE3:=Lib.hid (show StBlk w3 w.heap.size s lv∧LnRow w3 lv s.lines∧Below w.heap.size w w3 from⟨HE.out.1.below hb,HE.out.2.1.below hb,Below.next HE.out.2.2 hb⟩);clear hb))
 clear c1 c2 HE HSH
 refine wp_region_held_drew (S:=fun w'=>StBlk w' w.heap.size s lv∧LnRow w' lv s.lines∧Below w.heap.size w w') (by kernel_rfl) ⟨HE3.out.1,HE3.out.2.1,Below.next HE3.out.2.2 (below_drewN' _ 1)⟩ (fun hHeld=> ?_)
 refine tk 0 rfl ?v_0_55 ?hy_0_55 ?r_0_55
 case hy_0_55=>intro w h;have k1:=h.1.c1;have k6:=h.1.c6;go_simp;try with_reducible rfl
 simp only [pA,pB,pC,pD]
 refine tk 1 rfl ?v_1_56 ?hy_1_56 ?r_1_56
 case hy_1_56=>intro w h;have k1:=h.1.c1;have k6:=h.1.c6;go_simp;try with_reducible rfl
 simp only [pA,pB,pC,pD]
 refine wpAnyH_take (i:=2) (oi:=⟨_,_,_,_,_,_⟩) (v:=stV s lv) rfl (by kernel_rfl) (by kernel_rfl) (by kernel_rfl) (fun _ _ _ h=>h) (yieldsIf_load_mid (by kernel_rfl) 164 (.tmp 1) rfl w.heap.size 0 rfl (stCs s lv).toList _ (fun w' h j v hv=>by rw [Nat.zero_add,h.1.cell];simpa using hv) Tryz.underlying164 rfl (by rw [stInfo];rfl)) (by assumption) ?_
 simp only [pA,pB,pC,pD]
 refine wpAnyH_ready (rs:=[3]) (by kernel_rfl) (by simp) ?_
 refine AllReadyH.cons rfl (fun K hK=> ?_) AllReadyH.nil
 go_simp
 go_at_call 195
 obtain⟨hSt,hLn,hBe⟩:=hHeld
 refine(HDU.out _ hLn).mono ?_
 rintro x w4 ⟨rfl,hb⟩
 go_wp2_with fail
 refine hK.out _ _ ⟨hSt.below hb,hLn.below hb,Below.next hBe hb⟩ (fun hHeld=> ?_)
 clear hK K hSt hLn hBe hb
 refine tk 4 rfl ?v_4_57 ?hy_4_57 ?r_4_57
 case hy_4_57=>intro w h;have k1:=h.1.c1;have k6:=h.1.c6;go_simp;try with_reducible rfl
 simp only [pA,pB,pC,pD]
 refine tk 5 rfl ?v_5_58 ?hy_5_58 ?r_5_58
 case hy_5_58=>intro w h;have k1:=h.1.c1;have k6:=h.1.c6;go_simp;try with_reducible rfl
 simp only [pA,pB,pC,pD]
 refine tk 6 rfl ?v_6_59 ?hy_6_59 ?r_6_59
 case hy_6_59=>intro w h;have k1:=h.1.c1;have k6:=h.1.c6;go_simp;try with_reducible rfl
 simp only [pA,pB,pC,pD]
 refine tk 7 rfl ?v_7_60 ?hy_7_60 ?r_7_60
 case hy_7_60=>intro w h;have k1:=h.1.c1;have k6:=h.1.c6;go_simp;try with_reducible rfl
 simp only [pA,pB,pC,pD]
 refine tk 8 rfl ?v_8_61 ?hy_8_61 ?r_8_61
 case hy_8_61=>intro w h;have k1:=h.1.c1;have k6:=h.1.c6;go_simp;try with_reducible rfl
 simp only [pA,pB,pC,pD]
 refine tk 9 rfl ?v_9_62 ?hy_9_62 ?r_9_62
 case hy_9_62=>intro w h;have k1:=h.1.c1;have k6:=h.1.c6;go_simp;try with_reducible rfl
 simp only [pA,pB,pC,pD]
 refine tk 10 rfl ?v_10_63 ?hy_10_63 ?r_10_63
 case hy_10_63=>intro w h;have k1:=h.1.c1;have k6:=h.1.c6;go_simp;try with_reducible rfl
 simp only [pA,pB,pC,pD]
 refine wpAnyH_done (by kernel_rfl) ?_ _
 have HB:=Lib.hid hHeld.2.2
 have d3:w4.cell? ⟨w.heap.size,3,none⟩=some (.int .i64 s.cur):=hHeld.1.cell 3
 have d4:w4.cell? ⟨w.heap.size,4,none⟩=some (.int .i64 s.tax):=hHeld.1.cell 4
 have d5:w4.cell? ⟨w.heap.size,5,none⟩=some (.slice oa s.lines.length cap):=by rw [hHeld.1.cell 5,stCs,HLV.out];rfl
 have d7:w4.cell? ⟨w.heap.size,7,none⟩=some (.int .i64 s.refunded):=hHeld.1.cell 7
 have d8:w4.cell? ⟨w.heap.size,8,none⟩=some (.int .i64 s.events):=hHeld.1.cell 8
 have d9:w4.cell? ⟨w.heap.size,9,none⟩=some (.int .i64 s.refused):=hHeld.1.cell 9
 have d10:w4.cell? ⟨w.heap.size,10,none⟩=some (.int .i64 s.stamp):=hHeld.1.cell 10
 have d11:w4.cell? ⟨w.heap.size,11,none⟩=some (.string ⟨s.who.toArray⟩):=hHeld.1.cell 11
 clear hHeld HE3 HDU
 go_wp2
 go_ret
 exact⟨by rw [HVb.out];rfl,HB.out⟩
end Go.Proofs.YtlobohpbgghleaaGreatDoor

namespace Go.Proofs.YtlobohpbgghleaaGreatDoor
open Go.RowKit
set_option maxRecDepth 100000 in
set_option maxHeartbeats 16000000 in
theorem oValid_3_0_0 (s:St) (lv:Value) (w:World) (hr:LnRow w lv s.lines) (hw:s.who.length≤281474976710656) (hf:boundedB s=true) (hm: ¬ dueOf s<s.paid) (hs:s.status=3) (hp:s.prior=0) (g1:(s.paid==dueOf s)=false):
  Calls Tryz.prog 160 #[stV s lv] w fun e w'=>e= .returned (.bool (validB s))∧Below w.heap.size w w':=by
 have HVb:=Lib.hid (show validB s=(false&& !wholeB s.lines) by
  have h1:validB s=standB s 3:=by unfold validB;rw [hf,decide_eq_true (by omega),hs,hp];rfl
  have h2:(s.paid==dueOf s&&decide (0<s.paid))=false:=by rw [g1];rfl
  rw [h1];unfold standB;rw [h2];rfl)
 have hbp:=bounded_p hf
 have HBO:=Lib.hid (show ∀ W:World,LnRow W lv s.lines→Calls Tryz.prog 194 #[stV s lv] W fun e w'=>e= .returned (.bool true)∧Below W.heap.size W w' from fun W h=>hf▸obounded s lv W h hw)
 obtain⟨D,hD⟩: ∃ D,D=dueOf s:=⟨_,rfl⟩
 have HDU:=Lib.hid (show ∀ W:World,LnRow W lv s.lines→Calls Tryz.prog 195 #[stV s lv] W fun e w'=>e= .returned (.int .i64 D)∧Below W.heap.size W w' from fun W h=>hD▸odue_any s lv W h hbp.fine hbp.few hbp.tax.1 hbp.tax.2)
 have HH:=Lib.hid (show StBlk (w.alloc (.cells (stCs s lv) 164)).drew w.heap.size s lv∧LnRow (w.alloc (.cells (stCs s lv) 164)).drew lv s.lines∧Below w.heap.size w (w.alloc (.cells (stCs s lv) 164)).drew from by
  have hb:Below w.heap.size w (w.alloc (.cells (stCs s lv) 164)):=(Below.refl _ _).alloc (Nat.le_refl _) _
  exact⟨stBlk_alloc w s lv,hr.below (Below.next hb (below_drewN' _ 1)),Below.next hb (below_drewN' _ 1)⟩)
 have HSH:=Lib.hid (show ∀ W:World,LnRow W lv s.lines→Calls Tryz.prog 196 #[stV s lv] W fun e w'=>e= .returned (.tuple #[.bool (noneB s.lines),.bool (wholeB s.lines)])∧Below W.heap.size W w' from fun W h=>oshipped_any s lv W h)
 obtain⟨nB,hnB⟩: ∃ x,x=noneB s.lines:=⟨_,rfl⟩
 obtain⟨wB,hwB⟩: ∃ x,x=wholeB s.lines:=⟨_,rfl⟩
 rw [←hnB,←hwB] at HSH
 rw [←hD] at hm g1
 rw [←hwB] at HVb
 have d1:decide (D<s.paid)=false:=decide_eq_false hm
 have hm2:s.paid≤D:=by omega
 have HS:=Lib.hid hs
 have HP:=Lib.hid hp
 obtain⟨oa,cap,hlv,_,_,_⟩:=hr.shape
 have HLV:=Lib.hid hlv
 clear hr hw hf hbp hD hm hs hp hnB hwB hlv
 go_enter Tryz.func160,Tryz.ntmps160
 go_wp2
 refine wp_region_held_drew (S:=fun w'=>StBlk w' w.heap.size s lv∧LnRow w' lv s.lines∧Below w.heap.size w w') (by kernel_rfl) HH.out (fun hHeld=> ?_)
 refine wpAnyH_take (i:=0) (oi:=⟨_,_,_,_,_,_⟩) (v:=stV s lv) rfl (by kernel_rfl) (by kernel_rfl) (by kernel_rfl) (fun _ _ _ h=>h) (yieldsIf_load_mid (by kernel_rfl) 164 (.tmp 1) rfl w.heap.size 0 rfl (stCs s lv).toList _ (fun w' h j v hv=>by rw [Nat.zero_add,h.1.cell];simpa using hv) Tryz.underlying164 rfl (by rw [stInfo];rfl)) (by assumption) ?_
 simp only [pA,pB,pC,pD]
 refine wpAnyH_ready (rs:=[1]) (by kernel_rfl) (by simp) ?_
 refine AllReadyH.cons rfl (fun K hK=> ?_) AllReadyH.nil
 go_simp
 go_at_call 194
 obtain⟨hSt,hLn,hBe⟩:=hHeld
 refine(HBO.out _ hLn).mono ?_
 rintro x w1 ⟨rfl,hb⟩
 go_wp2_with fail
 refine hK.out _ _ ⟨hSt.below hb,hLn.below hb,Below.next hBe hb⟩ (fun hHeld=> ?_)
 clear hK K hSt hLn hBe hb
 refine tk 2 rfl ?v_2_64 ?hy_2_64 ?r_2_64
 case hy_2_64=>intro w h;have k1:=h.1.c1;have k6:=h.1.c6;go_simp;try with_reducible rfl
 simp only [pA,pB,pC,pD]
 refine tk 3 rfl ?v_3_65 ?hy_3_65 ?r_3_65
 case hy_3_65=>intro w h;have k1:=h.1.c1;have k6:=h.1.c6;go_simp;try with_reducible rfl
 simp only [pA,pB,pC,pD]
 refine tk 4 rfl ?v_4_66 ?hy_4_66 ?r_4_66
 case hy_4_66=>intro w h;have k1:=h.1.c1;have k6:=h.1.c6;go_simp;try with_reducible rfl
 simp only [pA,pB,pC,pD]
 refine tk 5 rfl ?v_5_67 ?hy_5_67 ?r_5_67
 case hy_5_67=>intro w h;have k1:=h.1.c1;have k6:=h.1.c6;go_simp;try with_reducible rfl
 simp only [pA,pB,pC,pD]
 refine wpAnyH_take (i:=6) (oi:=⟨_,_,_,_,_,_⟩) (v:=stV s lv) rfl (by kernel_rfl) (by kernel_rfl) (by kernel_rfl) (fun _ _ _ h=>h) (yieldsIf_load_mid (by kernel_rfl) 164 (.tmp 1) rfl w.heap.size 0 rfl (stCs s lv).toList _ (fun w' h j v hv=>by rw [Nat.zero_add,h.1.cell];simpa using hv) Tryz.underlying164 rfl (by rw [stInfo];rfl)) (by assumption) ?_
 simp only [pA,pB,pC,pD]
 refine wpAnyH_ready (rs:=[7]) (by kernel_rfl) (by simp) ?_
 refine AllReadyH.cons rfl (fun K hK=> ?_) AllReadyH.nil
 go_simp
 go_at_call 195
 obtain⟨hSt,hLn,hBe⟩:=hHeld
 refine(HDU.out _ hLn).mono ?_
 rintro x w2 ⟨rfl,hb⟩
 go_wp2_with fail
 refine hK.out _ _ ⟨hSt.below hb,hLn.below hb,Below.next hBe hb⟩ (fun hHeld=> ?_)
 clear hK K hSt hLn hBe hb
 refine tk 8 rfl ?v_8_68 ?hy_8_68 ?r_8_68
 case hy_8_68=>intro w h;have k1:=h.1.c1;have k6:=h.1.c6;go_simp;try with_reducible rfl
 simp only [pA,pB,pC,pD]
 refine tk 9 rfl ?v_9_69 ?hy_9_69 ?r_9_69
 case hy_9_69=>intro w h;have k1:=h.1.c1;have k6:=h.1.c6;go_simp;try with_reducible rfl
 simp only [pA,pB,pC,pD]
 refine wpAnyH_done (by kernel_rfl) ?_ _
 have c1:w2.cell? ⟨w.heap.size,1,none⟩=some (.int .i64 3):=by rw [hHeld.1.cell 1,stCs,HS.out];rfl
 have c2:w2.cell? ⟨w.heap.size,2,none⟩=some (.int .i64 0):=by rw [hHeld.1.cell 2,stCs,HP.out];rfl
 have HE:=Lib.hid hHeld
 clear hHeld HBO HH
 go_wp2_with (first
  | (with_reducible refine wpList_load_st rfl (.tmp 1) rfl w.heap.size s lv rfl HE.out.1 ?_)
  | (go_at_call 196;refine(HSH.out _ HE.out.2.1).mono ?_;rintro x w3 ⟨rfl,hb⟩;have HE3:=Lib.hid (show StBlk w3 w.heap.size s lv∧LnRow w3 lv s.lines∧Below w.heap.size w w3 from⟨HE.out.1.below hb,HE.out.2.1.below hb,Below.next HE.out.2.2 hb⟩);clear hb))
 clear c1 c2 HE HSH
 refine wp_region_held_drew (S:=fun w'=>StBlk w' w.heap.size s lv∧LnRow w' lv s.lines∧Below w.heap.size w w') (by kernel_rfl) ⟨HE3.out.1,HE3.out.2.1,Below.next HE3.out.2.2 (below_drewN' _ 1)⟩ (fun hHeld=> ?_)
 refine tk 0 rfl ?v_0_70 ?hy_0_70 ?r_0_70
 case hy_0_70=>intro w h;have k1:=h.1.c1;have k6:=h.1.c6;go_simp;try with_reducible rfl
 simp only [pA,pB,pC,pD]
 refine tk 1 rfl ?v_1_71 ?hy_1_71 ?r_1_71
 case hy_1_71=>intro w h;have k1:=h.1.c1;have k6:=h.1.c6;go_simp;try with_reducible rfl
 simp only [pA,pB,pC,pD]
 refine wpAnyH_take (i:=2) (oi:=⟨_,_,_,_,_,_⟩) (v:=stV s lv) rfl (by kernel_rfl) (by kernel_rfl) (by kernel_rfl) (fun _ _ _ h=>h) (yieldsIf_load_mid (by kernel_rfl) 164 (.tmp 1) rfl w.heap.size 0 rfl (stCs s lv).toList _ (fun w' h j v hv=>by rw [Nat.zero_add,h.1.cell];simpa using hv) Tryz.underlying164 rfl (by rw [stInfo];rfl)) (by assumption) ?_
 simp only [pA,pB,pC,pD]
 refine wpAnyH_ready (rs:=[3]) (by kernel_rfl) (by simp) ?_
 refine AllReadyH.cons rfl (fun K hK=> ?_) AllReadyH.nil
 go_simp
 go_at_call 195
 obtain⟨hSt,hLn,hBe⟩:=hHeld
 refine(HDU.out _ hLn).mono ?_
 rintro x w4 ⟨rfl,hb⟩
 go_wp2_with fail
 refine hK.out _ _ ⟨hSt.below hb,hLn.below hb,Below.next hBe hb⟩ (fun hHeld=> ?_)
 clear hK K hSt hLn hBe hb
 refine tk 4 rfl ?v_4_72 ?hy_4_72 ?r_4_72
 case hy_4_72=>intro w h;have k1:=h.1.c1;have k6:=h.1.c6;go_simp;try with_reducible rfl
 simp only [pA,pB,pC,pD]
 refine tk 5 rfl ?v_5_73 ?hy_5_73 ?r_5_73
 case hy_5_73=>intro w h;have k1:=h.1.c1;have k6:=h.1.c6;go_simp;try with_reducible rfl
 simp only [pA,pB,pC,pD]
 refine tkn 6 rfl ?_
 simp only [pA,pB,pC,pD]
 refine tkn 7 rfl ?_
 simp only [pA,pB,pC,pD]
 refine tkn 8 rfl ?_
 simp only [pA,pB,pC,pD]
 refine tk 9 rfl ?v_9_74 ?hy_9_74 ?r_9_74
 case hy_9_74=>intro w h;have k1:=h.1.c1;have k6:=h.1.c6;go_simp;try with_reducible rfl
 simp only [pA,pB,pC,pD]
 refine tk 10 rfl ?v_10_75 ?hy_10_75 ?r_10_75
 case hy_10_75=>intro w h;have k1:=h.1.c1;have k6:=h.1.c6;go_simp;try with_reducible rfl
 simp only [pA,pB,pC,pD]
 refine wpAnyH_done (by kernel_rfl) ?_ _
 have HB:=Lib.hid hHeld.2.2
 have d3:w4.cell? ⟨w.heap.size,3,none⟩=some (.int .i64 s.cur):=hHeld.1.cell 3
 have d4:w4.cell? ⟨w.heap.size,4,none⟩=some (.int .i64 s.tax):=hHeld.1.cell 4
 have d5:w4.cell? ⟨w.heap.size,5,none⟩=some (.slice oa s.lines.length cap):=by rw [hHeld.1.cell 5,stCs,HLV.out];rfl
 have d7:w4.cell? ⟨w.heap.size,7,none⟩=some (.int .i64 s.refunded):=hHeld.1.cell 7
 have d8:w4.cell? ⟨w.heap.size,8,none⟩=some (.int .i64 s.events):=hHeld.1.cell 8
 have d9:w4.cell? ⟨w.heap.size,9,none⟩=some (.int .i64 s.refused):=hHeld.1.cell 9
 have d10:w4.cell? ⟨w.heap.size,10,none⟩=some (.int .i64 s.stamp):=hHeld.1.cell 10
 have d11:w4.cell? ⟨w.heap.size,11,none⟩=some (.string ⟨s.who.toArray⟩):=hHeld.1.cell 11
 clear hHeld HE3 HDU
 go_wp2
 go_ret
 exact⟨by rw [HVb.out];rfl,HB.out⟩
set_option maxRecDepth 100000 in
set_option maxHeartbeats 16000000 in
theorem oValid_3_0_1 (s:St) (lv:Value) (w:World) (hr:LnRow w lv s.lines) (hw:s.who.length≤281474976710656) (hf:boundedB s=true) (hm: ¬ dueOf s<s.paid) (hs:s.status=3) (hp:s.prior=0) (g1:(s.paid==dueOf s)=true) (g3:decide (0<s.paid)=false):
  Calls Tryz.prog 160 #[stV s lv] w fun e w'=>e= .returned (.bool (validB s))∧Below w.heap.size w w':=by
 have HVb:=Lib.hid (show validB s=(false&& !wholeB s.lines) by
  have h1:validB s=standB s 3:=by unfold validB;rw [hf,decide_eq_true (by omega),hs,hp];rfl
  have h2:(s.paid==dueOf s&&decide (0<s.paid))=false:=by rw [g1,g3];rfl
  rw [h1];unfold standB;rw [h2];rfl)
 have hbp:=bounded_p hf
 have HBO:=Lib.hid (show ∀ W:World,LnRow W lv s.lines→Calls Tryz.prog 194 #[stV s lv] W fun e w'=>e= .returned (.bool true)∧Below W.heap.size W w' from fun W h=>hf▸obounded s lv W h hw)
 obtain⟨D,hD⟩: ∃ D,D=dueOf s:=⟨_,rfl⟩
 have HDU:=Lib.hid (show ∀ W:World,LnRow W lv s.lines→Calls Tryz.prog 195 #[stV s lv] W fun e w'=>e= .returned (.int .i64 D)∧Below W.heap.size W w' from fun W h=>hD▸odue_any s lv W h hbp.fine hbp.few hbp.tax.1 hbp.tax.2)
 have HH:=Lib.hid (show StBlk (w.alloc (.cells (stCs s lv) 164)).drew w.heap.size s lv∧LnRow (w.alloc (.cells (stCs s lv) 164)).drew lv s.lines∧Below w.heap.size w (w.alloc (.cells (stCs s lv) 164)).drew from by
  have hb:Below w.heap.size w (w.alloc (.cells (stCs s lv) 164)):=(Below.refl _ _).alloc (Nat.le_refl _) _
  exact⟨stBlk_alloc w s lv,hr.below (Below.next hb (below_drewN' _ 1)),Below.next hb (below_drewN' _ 1)⟩)
 have HSH:=Lib.hid (show ∀ W:World,LnRow W lv s.lines→Calls Tryz.prog 196 #[stV s lv] W fun e w'=>e= .returned (.tuple #[.bool (noneB s.lines),.bool (wholeB s.lines)])∧Below W.heap.size W w' from fun W h=>oshipped_any s lv W h)
 obtain⟨nB,hnB⟩: ∃ x,x=noneB s.lines:=⟨_,rfl⟩
 obtain⟨wB,hwB⟩: ∃ x,x=wholeB s.lines:=⟨_,rfl⟩
 rw [←hnB,←hwB] at HSH
 rw [←hD] at hm g1
 rw [←hwB] at HVb
 have d1:decide (D<s.paid)=false:=decide_eq_false hm
 have hm2:s.paid≤D:=by omega
 have HS:=Lib.hid hs
 have HP:=Lib.hid hp
 obtain⟨oa,cap,hlv,_,_,_⟩:=hr.shape
 have HLV:=Lib.hid hlv
 clear hr hw hf hbp hD hm hs hp hnB hwB hlv
 go_enter Tryz.func160,Tryz.ntmps160
 go_wp2
 refine wp_region_held_drew (S:=fun w'=>StBlk w' w.heap.size s lv∧LnRow w' lv s.lines∧Below w.heap.size w w') (by kernel_rfl) HH.out (fun hHeld=> ?_)
 refine wpAnyH_take (i:=0) (oi:=⟨_,_,_,_,_,_⟩) (v:=stV s lv) rfl (by kernel_rfl) (by kernel_rfl) (by kernel_rfl) (fun _ _ _ h=>h) (yieldsIf_load_mid (by kernel_rfl) 164 (.tmp 1) rfl w.heap.size 0 rfl (stCs s lv).toList _ (fun w' h j v hv=>by rw [Nat.zero_add,h.1.cell];simpa using hv) Tryz.underlying164 rfl (by rw [stInfo];rfl)) (by assumption) ?_
 simp only [pA,pB,pC,pD]
 refine wpAnyH_ready (rs:=[1]) (by kernel_rfl) (by simp) ?_
 refine AllReadyH.cons rfl (fun K hK=> ?_) AllReadyH.nil
 go_simp
 go_at_call 194
 obtain⟨hSt,hLn,hBe⟩:=hHeld
 refine(HBO.out _ hLn).mono ?_
 rintro x w1 ⟨rfl,hb⟩
 go_wp2_with fail
 refine hK.out _ _ ⟨hSt.below hb,hLn.below hb,Below.next hBe hb⟩ (fun hHeld=> ?_)
 clear hK K hSt hLn hBe hb
 refine tk 2 rfl ?v_2_76 ?hy_2_76 ?r_2_76
 case hy_2_76=>intro w h;have k1:=h.1.c1;have k6:=h.1.c6;go_simp;try with_reducible rfl
 simp only [pA,pB,pC,pD]
 refine tk 3 rfl ?v_3_77 ?hy_3_77 ?r_3_77
 case hy_3_77=>intro w h;have k1:=h.1.c1;have k6:=h.1.c6;go_simp;try with_reducible rfl
 simp only [pA,pB,pC,pD]
 refine tk 4 rfl ?v_4_78 ?hy_4_78 ?r_4_78
 case hy_4_78=>intro w h;have k1:=h.1.c1;have k6:=h.1.c6;go_simp;try with_reducible rfl
 simp only [pA,pB,pC,pD]
 refine tk 5 rfl ?v_5_79 ?hy_5_79 ?r_5_79
 case hy_5_79=>intro w h;have k1:=h.1.c1;have k6:=h.1.c6;go_simp;try with_reducible rfl
 simp only [pA,pB,pC,pD]
 refine wpAnyH_take (i:=6) (oi:=⟨_,_,_,_,_,_⟩) (v:=stV s lv) rfl (by kernel_rfl) (by kernel_rfl) (by kernel_rfl) (fun _ _ _ h=>h) (yieldsIf_load_mid (by kernel_rfl) 164 (.tmp 1) rfl w.heap.size 0 rfl (stCs s lv).toList _ (fun w' h j v hv=>by rw [Nat.zero_add,h.1.cell];simpa using hv) Tryz.underlying164 rfl (by rw [stInfo];rfl)) (by assumption) ?_
 simp only [pA,pB,pC,pD]
 refine wpAnyH_ready (rs:=[7]) (by kernel_rfl) (by simp) ?_
 refine AllReadyH.cons rfl (fun K hK=> ?_) AllReadyH.nil
 go_simp
 go_at_call 195
 obtain⟨hSt,hLn,hBe⟩:=hHeld
 refine(HDU.out _ hLn).mono ?_
 rintro x w2 ⟨rfl,hb⟩
 go_wp2_with fail
 refine hK.out _ _ ⟨hSt.below hb,hLn.below hb,Below.next hBe hb⟩ (fun hHeld=> ?_)
 clear hK K hSt hLn hBe hb
 refine tk 8 rfl ?v_8_80 ?hy_8_80 ?r_8_80
 case hy_8_80=>intro w h;have k1:=h.1.c1;have k6:=h.1.c6;go_simp;try with_reducible rfl
 simp only [pA,pB,pC,pD]
 refine tk 9 rfl ?v_9_81 ?hy_9_81 ?r_9_81
 case hy_9_81=>intro w h;have k1:=h.1.c1;have k6:=h.1.c6;go_simp;try with_reducible rfl
 simp only [pA,pB,pC,pD]
 refine wpAnyH_done (by kernel_rfl) ?_ _
 have c1:w2.cell? ⟨w.heap.size,1,none⟩=some (.int .i64 3):=by rw [hHeld.1.cell 1,stCs,HS.out];rfl
 have c2:w2.cell? ⟨w.heap.size,2,none⟩=some (.int .i64 0):=by rw [hHeld.1.cell 2,stCs,HP.out];rfl
 have HE:=Lib.hid hHeld
 clear hHeld HBO HH
 go_wp2_with (first
  | (with_reducible refine wpList_load_st rfl (.tmp 1) rfl w.heap.size s lv rfl HE.out.1 ?_)
  | (go_at_call 196;refine(HSH.out _ HE.out.2.1).mono ?_;rintro x w3 ⟨rfl,hb⟩;have HE3:=Lib.hid (show StBlk w3 w.heap.size s lv∧LnRow w3 lv s.lines∧Below w.heap.size w w3 from⟨HE.out.1.below hb,HE.out.2.1.below hb,Below.next HE.out.2.2 hb⟩);clear hb))
 clear c1 c2 HE HSH
 refine wp_region_held_drew (S:=fun w'=>StBlk w' w.heap.size s lv∧LnRow w' lv s.lines∧Below w.heap.size w w') (by kernel_rfl) ⟨HE3.out.1,HE3.out.2.1,Below.next HE3.out.2.2 (below_drewN' _ 1)⟩ (fun hHeld=> ?_)
 refine tk 0 rfl ?v_0_82 ?hy_0_82 ?r_0_82
 case hy_0_82=>intro w h;have k1:=h.1.c1;have k6:=h.1.c6;go_simp;try with_reducible rfl
 simp only [pA,pB,pC,pD]
 refine tk 1 rfl ?v_1_83 ?hy_1_83 ?r_1_83
 case hy_1_83=>intro w h;have k1:=h.1.c1;have k6:=h.1.c6;go_simp;try with_reducible rfl
 simp only [pA,pB,pC,pD]
 refine wpAnyH_take (i:=2) (oi:=⟨_,_,_,_,_,_⟩) (v:=stV s lv) rfl (by kernel_rfl) (by kernel_rfl) (by kernel_rfl) (fun _ _ _ h=>h) (yieldsIf_load_mid (by kernel_rfl) 164 (.tmp 1) rfl w.heap.size 0 rfl (stCs s lv).toList _ (fun w' h j v hv=>by rw [Nat.zero_add,h.1.cell];simpa using hv) Tryz.underlying164 rfl (by rw [stInfo];rfl)) (by assumption) ?_
 simp only [pA,pB,pC,pD]
 refine wpAnyH_ready (rs:=[3]) (by kernel_rfl) (by simp) ?_
 refine AllReadyH.cons rfl (fun K hK=> ?_) AllReadyH.nil
 go_simp
 go_at_call 195
 obtain⟨hSt,hLn,hBe⟩:=hHeld
 refine(HDU.out _ hLn).mono ?_
 rintro x w4 ⟨rfl,hb⟩
 go_wp2_with fail
 refine hK.out _ _ ⟨hSt.below hb,hLn.below hb,Below.next hBe hb⟩ (fun hHeld=> ?_)
 clear hK K hSt hLn hBe hb
 refine tk 4 rfl ?v_4_84 ?hy_4_84 ?r_4_84
 case hy_4_84=>intro w h;have k1:=h.1.c1;have k6:=h.1.c6;go_simp;try with_reducible rfl
 simp only [pA,pB,pC,pD]
 refine tk 5 rfl ?v_5_85 ?hy_5_85 ?r_5_85
 case hy_5_85=>intro w h;have k1:=h.1.c1;have k6:=h.1.c6;go_simp;try with_reducible rfl
 simp only [pA,pB,pC,pD]
 refine tk 6 rfl ?v_6_86 ?hy_6_86 ?r_6_86
 case hy_6_86=>intro w h;have k1:=h.1.c1;have k6:=h.1.c6;go_simp;try with_reducible rfl
 simp only [pA,pB,pC,pD]
 refine tk 7 rfl ?v_7_87 ?hy_7_87 ?r_7_87
 case hy_7_87=>intro w h;have k1:=h.1.c1;have k6:=h.1.c6;go_simp;try with_reducible rfl
 simp only [pA,pB,pC,pD]
 refine tk 8 rfl ?v_8_88 ?hy_8_88 ?r_8_88
 case hy_8_88=>intro w h;have k1:=h.1.c1;have k6:=h.1.c6;go_simp;try with_reducible rfl
 simp only [pA,pB,pC,pD]
 refine tk 9 rfl ?v_9_89 ?hy_9_89 ?r_9_89
 case hy_9_89=>intro w h;have k1:=h.1.c1;have k6:=h.1.c6;go_simp;try with_reducible rfl
 simp only [pA,pB,pC,pD]
 refine tk 10 rfl ?v_10_90 ?hy_10_90 ?r_10_90
 case hy_10_90=>intro w h;have k1:=h.1.c1;have k6:=h.1.c6;go_simp;try with_reducible rfl
 simp only [pA,pB,pC,pD]
 refine wpAnyH_done (by kernel_rfl) ?_ _
 have HB:=Lib.hid hHeld.2.2
 have d3:w4.cell? ⟨w.heap.size,3,none⟩=some (.int .i64 s.cur):=hHeld.1.cell 3
 have d4:w4.cell? ⟨w.heap.size,4,none⟩=some (.int .i64 s.tax):=hHeld.1.cell 4
 have d5:w4.cell? ⟨w.heap.size,5,none⟩=some (.slice oa s.lines.length cap):=by rw [hHeld.1.cell 5,stCs,HLV.out];rfl
 have d7:w4.cell? ⟨w.heap.size,7,none⟩=some (.int .i64 s.refunded):=hHeld.1.cell 7
 have d8:w4.cell? ⟨w.heap.size,8,none⟩=some (.int .i64 s.events):=hHeld.1.cell 8
 have d9:w4.cell? ⟨w.heap.size,9,none⟩=some (.int .i64 s.refused):=hHeld.1.cell 9
 have d10:w4.cell? ⟨w.heap.size,10,none⟩=some (.int .i64 s.stamp):=hHeld.1.cell 10
 have d11:w4.cell? ⟨w.heap.size,11,none⟩=some (.string ⟨s.who.toArray⟩):=hHeld.1.cell 11
 clear hHeld HE3 HDU
 go_wp2
 go_ret
 exact⟨by rw [HVb.out];rfl,HB.out⟩
set_option maxRecDepth 100000 in
set_option maxHeartbeats 16000000 in
theorem oValid_3_0_2 (s:St) (lv:Value) (w:World) (hr:LnRow w lv s.lines) (hw:s.who.length≤281474976710656) (hf:boundedB s=true) (hm: ¬ dueOf s<s.paid) (hs:s.status=3) (hp:s.prior=0) (g1:(s.paid==dueOf s)=true) (g3:decide (0<s.paid)=true):
  Calls Tryz.prog 160 #[stV s lv] w fun e w'=>e= .returned (.bool (validB s))∧Below w.heap.size w w':=by
 have HVb:=Lib.hid (show validB s=(true&& !wholeB s.lines) by
  have h1:validB s=standB s 3:=by unfold validB;rw [hf,decide_eq_true (by omega),hs,hp];rfl
  have h2:(s.paid==dueOf s&&decide (0<s.paid))=true:=by rw [g1,g3];rfl
  rw [h1];unfold standB;rw [h2];rfl)
 have hbp:=bounded_p hf
 have HBO:=Lib.hid (show ∀ W:World,LnRow W lv s.lines→Calls Tryz.prog 194 #[stV s lv] W fun e w'=>e= .returned (.bool true)∧Below W.heap.size W w' from fun W h=>hf▸obounded s lv W h hw)
 obtain⟨D,hD⟩: ∃ D,D=dueOf s:=⟨_,rfl⟩
 have HDU:=Lib.hid (show ∀ W:World,LnRow W lv s.lines→Calls Tryz.prog 195 #[stV s lv] W fun e w'=>e= .returned (.int .i64 D)∧Below W.heap.size W w' from fun W h=>hD▸odue_any s lv W h hbp.fine hbp.few hbp.tax.1 hbp.tax.2)
 have HH:=Lib.hid (show StBlk (w.alloc (.cells (stCs s lv) 164)).drew w.heap.size s lv∧LnRow (w.alloc (.cells (stCs s lv) 164)).drew lv s.lines∧Below w.heap.size w (w.alloc (.cells (stCs s lv) 164)).drew from by
  have hb:Below w.heap.size w (w.alloc (.cells (stCs s lv) 164)):=(Below.refl _ _).alloc (Nat.le_refl _) _
  exact⟨stBlk_alloc w s lv,hr.below (Below.next hb (below_drewN' _ 1)),Below.next hb (below_drewN' _ 1)⟩)
 have HSH:=Lib.hid (show ∀ W:World,LnRow W lv s.lines→Calls Tryz.prog 196 #[stV s lv] W fun e w'=>e= .returned (.tuple #[.bool (noneB s.lines),.bool (wholeB s.lines)])∧Below W.heap.size W w' from fun W h=>oshipped_any s lv W h)
 obtain⟨nB,hnB⟩: ∃ x,x=noneB s.lines:=⟨_,rfl⟩
 obtain⟨wB,hwB⟩: ∃ x,x=wholeB s.lines:=⟨_,rfl⟩
 rw [←hnB,←hwB] at HSH
 rw [←hD] at hm g1
 rw [←hwB] at HVb
 have d1:decide (D<s.paid)=false:=decide_eq_false hm
 have hm2:s.paid≤D:=by omega
 have HS:=Lib.hid hs
 have HP:=Lib.hid hp
 obtain⟨oa,cap,hlv,_,_,_⟩:=hr.shape
 have HLV:=Lib.hid hlv
 clear hr hw hf hbp hD hm hs hp hnB hwB hlv
 go_enter Tryz.func160,Tryz.ntmps160
 go_wp2
 refine wp_region_held_drew (S:=fun w'=>StBlk w' w.heap.size s lv∧LnRow w' lv s.lines∧Below w.heap.size w w') (by kernel_rfl) HH.out (fun hHeld=> ?_)
 refine wpAnyH_take (i:=0) (oi:=⟨_,_,_,_,_,_⟩) (v:=stV s lv) rfl (by kernel_rfl) (by kernel_rfl) (by kernel_rfl) (fun _ _ _ h=>h) (yieldsIf_load_mid (by kernel_rfl) 164 (.tmp 1) rfl w.heap.size 0 rfl (stCs s lv).toList _ (fun w' h j v hv=>by rw [Nat.zero_add,h.1.cell];simpa using hv) Tryz.underlying164 rfl (by rw [stInfo];rfl)) (by assumption) ?_
 simp only [pA,pB,pC,pD]
 refine wpAnyH_ready (rs:=[1]) (by kernel_rfl) (by simp) ?_
 refine AllReadyH.cons rfl (fun K hK=> ?_) AllReadyH.nil
 go_simp
 go_at_call 194
 obtain⟨hSt,hLn,hBe⟩:=hHeld
 refine(HBO.out _ hLn).mono ?_
 rintro x w1 ⟨rfl,hb⟩
 go_wp2_with fail
 refine hK.out _ _ ⟨hSt.below hb,hLn.below hb,Below.next hBe hb⟩ (fun hHeld=> ?_)
 clear hK K hSt hLn hBe hb
 refine tk 2 rfl ?v_2_91 ?hy_2_91 ?r_2_91
 case hy_2_91=>intro w h;have k1:=h.1.c1;have k6:=h.1.c6;go_simp;try with_reducible rfl
 simp only [pA,pB,pC,pD]
 refine tk 3 rfl ?v_3_92 ?hy_3_92 ?r_3_92
 case hy_3_92=>intro w h;have k1:=h.1.c1;have k6:=h.1.c6;go_simp;try with_reducible rfl
 simp only [pA,pB,pC,pD]
 refine tk 4 rfl ?v_4_93 ?hy_4_93 ?r_4_93
 case hy_4_93=>intro w h;have k1:=h.1.c1;have k6:=h.1.c6;go_simp;try with_reducible rfl
 simp only [pA,pB,pC,pD]
 refine tk 5 rfl ?v_5_94 ?hy_5_94 ?r_5_94
 case hy_5_94=>intro w h;have k1:=h.1.c1;have k6:=h.1.c6;go_simp;try with_reducible rfl
 simp only [pA,pB,pC,pD]
 refine wpAnyH_take (i:=6) (oi:=⟨_,_,_,_,_,_⟩) (v:=stV s lv) rfl (by kernel_rfl) (by kernel_rfl) (by kernel_rfl) (fun _ _ _ h=>h) (yieldsIf_load_mid (by kernel_rfl) 164 (.tmp 1) rfl w.heap.size 0 rfl (stCs s lv).toList _ (fun w' h j v hv=>by rw [Nat.zero_add,h.1.cell];simpa using hv) Tryz.underlying164 rfl (by rw [stInfo];rfl)) (by assumption) ?_
 simp only [pA,pB,pC,pD]
 refine wpAnyH_ready (rs:=[7]) (by kernel_rfl) (by simp) ?_
 refine AllReadyH.cons rfl (fun K hK=> ?_) AllReadyH.nil
 go_simp
 go_at_call 195
 obtain⟨hSt,hLn,hBe⟩:=hHeld
 refine(HDU.out _ hLn).mono ?_
 rintro x w2 ⟨rfl,hb⟩
 go_wp2_with fail
 refine hK.out _ _ ⟨hSt.below hb,hLn.below hb,Below.next hBe hb⟩ (fun hHeld=> ?_)
 clear hK K hSt hLn hBe hb
 refine tk 8 rfl ?v_8_95 ?hy_8_95 ?r_8_95
 case hy_8_95=>intro w h;have k1:=h.1.c1;have k6:=h.1.c6;go_simp;try with_reducible rfl
 simp only [pA,pB,pC,pD]
 refine tk 9 rfl ?v_9_96 ?hy_9_96 ?r_9_96
 case hy_9_96=>intro w h;have k1:=h.1.c1;have k6:=h.1.c6;go_simp;try with_reducible rfl
 simp only [pA,pB,pC,pD]
 refine wpAnyH_done (by kernel_rfl) ?_ _
 have c1:w2.cell? ⟨w.heap.size,1,none⟩=some (.int .i64 3):=by rw [hHeld.1.cell 1,stCs,HS.out];rfl
 have c2:w2.cell? ⟨w.heap.size,2,none⟩=some (.int .i64 0):=by rw [hHeld.1.cell 2,stCs,HP.out];rfl
 have HE:=Lib.hid hHeld
 clear hHeld HBO HH
 go_wp2_with (first
  | (with_reducible refine wpList_load_st rfl (.tmp 1) rfl w.heap.size s lv rfl HE.out.1 ?_)
  | (go_at_call 196;refine(HSH.out _ HE.out.2.1).mono ?_;rintro x w3 ⟨rfl,hb⟩;have HE3:=Lib.hid (show StBlk w3 w.heap.size s lv∧LnRow w3 lv s.lines∧Below w.heap.size w w3 from⟨HE.out.1.below hb,HE.out.2.1.below hb,Below.next HE.out.2.2 hb⟩);clear hb))
 clear c1 c2 HE HSH
 refine wp_region_held_drew (S:=fun w'=>StBlk w' w.heap.size s lv∧LnRow w' lv s.lines∧Below w.heap.size w w') (by kernel_rfl) ⟨HE3.out.1,HE3.out.2.1,Below.next HE3.out.2.2 (below_drewN' _ 1)⟩ (fun hHeld=> ?_)
 refine tk 0 rfl ?v_0_97 ?hy_0_97 ?r_0_97
 case hy_0_97=>intro w h;have k1:=h.1.c1;have k6:=h.1.c6;go_simp;try with_reducible rfl
 simp only [pA,pB,pC,pD]
 refine tk 1 rfl ?v_1_98 ?hy_1_98 ?r_1_98
 case hy_1_98=>intro w h;have k1:=h.1.c1;have k6:=h.1.c6;go_simp;try with_reducible rfl
 simp only [pA,pB,pC,pD]
 refine wpAnyH_take (i:=2) (oi:=⟨_,_,_,_,_,_⟩) (v:=stV s lv) rfl (by kernel_rfl) (by kernel_rfl) (by kernel_rfl) (fun _ _ _ h=>h) (yieldsIf_load_mid (by kernel_rfl) 164 (.tmp 1) rfl w.heap.size 0 rfl (stCs s lv).toList _ (fun w' h j v hv=>by rw [Nat.zero_add,h.1.cell];simpa using hv) Tryz.underlying164 rfl (by rw [stInfo];rfl)) (by assumption) ?_
 simp only [pA,pB,pC,pD]
 refine wpAnyH_ready (rs:=[3]) (by kernel_rfl) (by simp) ?_
 refine AllReadyH.cons rfl (fun K hK=> ?_) AllReadyH.nil
 go_simp
 go_at_call 195
 obtain⟨hSt,hLn,hBe⟩:=hHeld
 refine(HDU.out _ hLn).mono ?_
 rintro x w4 ⟨rfl,hb⟩
 go_wp2_with fail
 refine hK.out _ _ ⟨hSt.below hb,hLn.below hb,Below.next hBe hb⟩ (fun hHeld=> ?_)
 clear hK K hSt hLn hBe hb
 refine tk 4 rfl ?v_4_99 ?hy_4_99 ?r_4_99
 case hy_4_99=>intro w h;have k1:=h.1.c1;have k6:=h.1.c6;go_simp;try with_reducible rfl
 simp only [pA,pB,pC,pD]
 refine tk 5 rfl ?v_5_100 ?hy_5_100 ?r_5_100
 case hy_5_100=>intro w h;have k1:=h.1.c1;have k6:=h.1.c6;go_simp;try with_reducible rfl
 simp only [pA,pB,pC,pD]
 refine tk 6 rfl ?v_6_101 ?hy_6_101 ?r_6_101
 case hy_6_101=>intro w h;have k1:=h.1.c1;have k6:=h.1.c6;go_simp;try with_reducible rfl
 simp only [pA,pB,pC,pD]
 refine tk 7 rfl ?v_7_102 ?hy_7_102 ?r_7_102
 case hy_7_102=>intro w h;have k1:=h.1.c1;have k6:=h.1.c6;go_simp;try with_reducible rfl
 simp only [pA,pB,pC,pD]
 refine tk 8 rfl ?v_8_103 ?hy_8_103 ?r_8_103
 case hy_8_103=>intro w h;have k1:=h.1.c1;have k6:=h.1.c6;go_simp;try with_reducible rfl
 simp only [pA,pB,pC,pD]
 refine tk 9 rfl ?v_9_104 ?hy_9_104 ?r_9_104
 case hy_9_104=>intro w h;have k1:=h.1.c1;have k6:=h.1.c6;go_simp;try with_reducible rfl
 simp only [pA,pB,pC,pD]
 refine tk 10 rfl ?v_10_105 ?hy_10_105 ?r_10_105
 case hy_10_105=>intro w h;have k1:=h.1.c1;have k6:=h.1.c6;go_simp;try with_reducible rfl
 simp only [pA,pB,pC,pD]
 refine wpAnyH_done (by kernel_rfl) ?_ _
 have HB:=Lib.hid hHeld.2.2
 have d3:w4.cell? ⟨w.heap.size,3,none⟩=some (.int .i64 s.cur):=hHeld.1.cell 3
 have d4:w4.cell? ⟨w.heap.size,4,none⟩=some (.int .i64 s.tax):=hHeld.1.cell 4
 have d5:w4.cell? ⟨w.heap.size,5,none⟩=some (.slice oa s.lines.length cap):=by rw [hHeld.1.cell 5,stCs,HLV.out];rfl
 have d7:w4.cell? ⟨w.heap.size,7,none⟩=some (.int .i64 s.refunded):=hHeld.1.cell 7
 have d8:w4.cell? ⟨w.heap.size,8,none⟩=some (.int .i64 s.events):=hHeld.1.cell 8
 have d9:w4.cell? ⟨w.heap.size,9,none⟩=some (.int .i64 s.refused):=hHeld.1.cell 9
 have d10:w4.cell? ⟨w.heap.size,10,none⟩=some (.int .i64 s.stamp):=hHeld.1.cell 10
 have d11:w4.cell? ⟨w.heap.size,11,none⟩=some (.string ⟨s.who.toArray⟩):=hHeld.1.cell 11
 clear hHeld HE3 HDU
 cases wB
 ·skip
  go_wp2
  go_ret
  exact⟨by rw [HVb.out];rfl,HB.out⟩
 ·skip
  go_wp2
  go_ret
  exact⟨by rw [HVb.out];rfl,HB.out⟩
set_option maxRecDepth 100000 in
set_option maxHeartbeats 16000000 in
theorem oValid_4_0_0 (s:St) (lv:Value) (w:World) (hr:LnRow w lv s.lines) (hw:s.who.length≤281474976710656) (hf:boundedB s=true) (hm: ¬ dueOf s<s.paid) (hs:s.status=4) (hp:s.prior=0) (g1:(s.paid==dueOf s)=false):
  Calls Tryz.prog 160 #[stV s lv] w fun e w'=>e= .returned (.bool (validB s))∧Below w.heap.size w w':=by
 have HVb:=Lib.hid (show validB s=(false&&wholeB s.lines) by
  have h1:validB s=standB s 4:=by unfold validB;rw [hf,decide_eq_true (by omega),hs,hp];rfl
  have h2:(s.paid==dueOf s&&decide (0<s.paid))=false:=by rw [g1];rfl
  rw [h1];unfold standB;rw [h2];rfl)
 have hbp:=bounded_p hf
 have HBO:=Lib.hid (show ∀ W:World,LnRow W lv s.lines→Calls Tryz.prog 194 #[stV s lv] W fun e w'=>e= .returned (.bool true)∧Below W.heap.size W w' from fun W h=>hf▸obounded s lv W h hw)
 obtain⟨D,hD⟩: ∃ D,D=dueOf s:=⟨_,rfl⟩
 have HDU:=Lib.hid (show ∀ W:World,LnRow W lv s.lines→Calls Tryz.prog 195 #[stV s lv] W fun e w'=>e= .returned (.int .i64 D)∧Below W.heap.size W w' from fun W h=>hD▸odue_any s lv W h hbp.fine hbp.few hbp.tax.1 hbp.tax.2)
 have HH:=Lib.hid (show StBlk (w.alloc (.cells (stCs s lv) 164)).drew w.heap.size s lv∧LnRow (w.alloc (.cells (stCs s lv) 164)).drew lv s.lines∧Below w.heap.size w (w.alloc (.cells (stCs s lv) 164)).drew from by
  have hb:Below w.heap.size w (w.alloc (.cells (stCs s lv) 164)):=(Below.refl _ _).alloc (Nat.le_refl _) _
  exact⟨stBlk_alloc w s lv,hr.below (Below.next hb (below_drewN' _ 1)),Below.next hb (below_drewN' _ 1)⟩)
 have HSH:=Lib.hid (show ∀ W:World,LnRow W lv s.lines→Calls Tryz.prog 196 #[stV s lv] W fun e w'=>e= .returned (.tuple #[.bool (noneB s.lines),.bool (wholeB s.lines)])∧Below W.heap.size W w' from fun W h=>oshipped_any s lv W h)
 obtain⟨nB,hnB⟩: ∃ x,x=noneB s.lines:=⟨_,rfl⟩
 obtain⟨wB,hwB⟩: ∃ x,x=wholeB s.lines:=⟨_,rfl⟩
 rw [←hnB,←hwB] at HSH
 rw [←hD] at hm g1
 rw [←hwB] at HVb
 have d1:decide (D<s.paid)=false:=decide_eq_false hm
 have hm2:s.paid≤D:=by omega
 have HS:=Lib.hid hs
 have HP:=Lib.hid hp
 obtain⟨oa,cap,hlv,_,_,_⟩:=hr.shape
 have HLV:=Lib.hid hlv
 clear hr hw hf hbp hD hm hs hp hnB hwB hlv
 go_enter Tryz.func160,Tryz.ntmps160
 go_wp2
 refine wp_region_held_drew (S:=fun w'=>StBlk w' w.heap.size s lv∧LnRow w' lv s.lines∧Below w.heap.size w w') (by kernel_rfl) HH.out (fun hHeld=> ?_)
 refine wpAnyH_take (i:=0) (oi:=⟨_,_,_,_,_,_⟩) (v:=stV s lv) rfl (by kernel_rfl) (by kernel_rfl) (by kernel_rfl) (fun _ _ _ h=>h) (yieldsIf_load_mid (by kernel_rfl) 164 (.tmp 1) rfl w.heap.size 0 rfl (stCs s lv).toList _ (fun w' h j v hv=>by rw [Nat.zero_add,h.1.cell];simpa using hv) Tryz.underlying164 rfl (by rw [stInfo];rfl)) (by assumption) ?_
 simp only [pA,pB,pC,pD]
 refine wpAnyH_ready (rs:=[1]) (by kernel_rfl) (by simp) ?_
 refine AllReadyH.cons rfl (fun K hK=> ?_) AllReadyH.nil
 go_simp
 go_at_call 194
 obtain⟨hSt,hLn,hBe⟩:=hHeld
 refine(HBO.out _ hLn).mono ?_
 rintro x w1 ⟨rfl,hb⟩
 go_wp2_with fail
 refine hK.out _ _ ⟨hSt.below hb,hLn.below hb,Below.next hBe hb⟩ (fun hHeld=> ?_)
 clear hK K hSt hLn hBe hb
 refine tk 2 rfl ?v_2_106 ?hy_2_106 ?r_2_106
 case hy_2_106=>intro w h;have k1:=h.1.c1;have k6:=h.1.c6;go_simp;try with_reducible rfl
 simp only [pA,pB,pC,pD]
 refine tk 3 rfl ?v_3_107 ?hy_3_107 ?r_3_107
 case hy_3_107=>intro w h;have k1:=h.1.c1;have k6:=h.1.c6;go_simp;try with_reducible rfl
 simp only [pA,pB,pC,pD]
 refine tk 4 rfl ?v_4_108 ?hy_4_108 ?r_4_108
 case hy_4_108=>intro w h;have k1:=h.1.c1;have k6:=h.1.c6;go_simp;try with_reducible rfl
 simp only [pA,pB,pC,pD]
 refine tk 5 rfl ?v_5_109 ?hy_5_109 ?r_5_109
 case hy_5_109=>intro w h;have k1:=h.1.c1;have k6:=h.1.c6;go_simp;try with_reducible rfl
 simp only [pA,pB,pC,pD]
 refine wpAnyH_take (i:=6) (oi:=⟨_,_,_,_,_,_⟩) (v:=stV s lv) rfl (by kernel_rfl) (by kernel_rfl) (by kernel_rfl) (fun _ _ _ h=>h) (yieldsIf_load_mid (by kernel_rfl) 164 (.tmp 1) rfl w.heap.size 0 rfl (stCs s lv).toList _ (fun w' h j v hv=>by rw [Nat.zero_add,h.1.cell];simpa using hv) Tryz.underlying164 rfl (by rw [stInfo];rfl)) (by assumption) ?_
 simp only [pA,pB,pC,pD]
 refine wpAnyH_ready (rs:=[7]) (by kernel_rfl) (by simp) ?_
 refine AllReadyH.cons rfl (fun K hK=> ?_) AllReadyH.nil
 go_simp
 go_at_call 195
 obtain⟨hSt,hLn,hBe⟩:=hHeld
 refine(HDU.out _ hLn).mono ?_
 rintro x w2 ⟨rfl,hb⟩
 go_wp2_with fail
 refine hK.out _ _ ⟨hSt.below hb,hLn.below hb,Below.next hBe hb⟩ (fun hHeld=> ?_)
 clear hK K hSt hLn hBe hb
 refine tk 8 rfl ?v_8_110 ?hy_8_110 ?r_8_110
 case hy_8_110=>intro w h;have k1:=h.1.c1;have k6:=h.1.c6;go_simp;try with_reducible rfl
 simp only [pA,pB,pC,pD]
 refine tk 9 rfl ?v_9_111 ?hy_9_111 ?r_9_111
 case hy_9_111=>intro w h;have k1:=h.1.c1;have k6:=h.1.c6;go_simp;try with_reducible rfl
 simp only [pA,pB,pC,pD]
 refine wpAnyH_done (by kernel_rfl) ?_ _
 have c1:w2.cell? ⟨w.heap.size,1,none⟩=some (.int .i64 4):=by rw [hHeld.1.cell 1,stCs,HS.out];rfl
 have c2:w2.cell? ⟨w.heap.size,2,none⟩=some (.int .i64 0):=by rw [hHeld.1.cell 2,stCs,HP.out];rfl
 have HE:=Lib.hid hHeld
 clear hHeld HBO HH
 go_wp2_with (first
  | (with_reducible refine wpList_load_st rfl (.tmp 1) rfl w.heap.size s lv rfl HE.out.1 ?_)
  | (go_at_call 196;refine(HSH.out _ HE.out.2.1).mono ?_;rintro x w3 ⟨rfl,hb⟩;have HE3:=Lib.hid (show StBlk w3 w.heap.size s lv∧LnRow w3 lv s.lines∧Below w.heap.size w w3 from⟨HE.out.1.below hb,HE.out.2.1.below hb,Below.next HE.out.2.2 hb⟩);clear hb))
 clear c1 c2 HE HSH
 refine wp_region_held_drew (S:=fun w'=>StBlk w' w.heap.size s lv∧LnRow w' lv s.lines∧Below w.heap.size w w') (by kernel_rfl) ⟨HE3.out.1,HE3.out.2.1,Below.next HE3.out.2.2 (below_drewN' _ 1)⟩ (fun hHeld=> ?_)
 refine tk 0 rfl ?v_0_112 ?hy_0_112 ?r_0_112
 case hy_0_112=>intro w h;have k1:=h.1.c1;have k6:=h.1.c6;go_simp;try with_reducible rfl
 simp only [pA,pB,pC,pD]
 refine tk 1 rfl ?v_1_113 ?hy_1_113 ?r_1_113
 case hy_1_113=>intro w h;have k1:=h.1.c1;have k6:=h.1.c6;go_simp;try with_reducible rfl
 simp only [pA,pB,pC,pD]
 refine wpAnyH_take (i:=2) (oi:=⟨_,_,_,_,_,_⟩) (v:=stV s lv) rfl (by kernel_rfl) (by kernel_rfl) (by kernel_rfl) (fun _ _ _ h=>h) (yieldsIf_load_mid (by kernel_rfl) 164 (.tmp 1) rfl w.heap.size 0 rfl (stCs s lv).toList _ (fun w' h j v hv=>by rw [Nat.zero_add,h.1.cell];simpa using hv) Tryz.underlying164 rfl (by rw [stInfo];rfl)) (by assumption) ?_
 simp only [pA,pB,pC,pD]
 refine wpAnyH_ready (rs:=[3]) (by kernel_rfl) (by simp) ?_
 refine AllReadyH.cons rfl (fun K hK=> ?_) AllReadyH.nil
 go_simp
 go_at_call 195
 obtain⟨hSt,hLn,hBe⟩:=hHeld
 refine(HDU.out _ hLn).mono ?_
 rintro x w4 ⟨rfl,hb⟩
 go_wp2_with fail
 refine hK.out _ _ ⟨hSt.below hb,hLn.below hb,Below.next hBe hb⟩ (fun hHeld=> ?_)
 clear hK K hSt hLn hBe hb
 refine tk 4 rfl ?v_4_114 ?hy_4_114 ?r_4_114
 case hy_4_114=>intro w h;have k1:=h.1.c1;have k6:=h.1.c6;go_simp;try with_reducible rfl
 simp only [pA,pB,pC,pD]
 refine tk 5 rfl ?v_5_115 ?hy_5_115 ?r_5_115
 case hy_5_115=>intro w h;have k1:=h.1.c1;have k6:=h.1.c6;go_simp;try with_reducible rfl
 simp only [pA,pB,pC,pD]
 refine tkn 6 rfl ?_
 simp only [pA,pB,pC,pD]
 refine tkn 7 rfl ?_
 simp only [pA,pB,pC,pD]
 refine tkn 8 rfl ?_
 simp only [pA,pB,pC,pD]
 refine tk 9 rfl ?v_9_116 ?hy_9_116 ?r_9_116
 case hy_9_116=>intro w h;have k1:=h.1.c1;have k6:=h.1.c6;go_simp;try with_reducible rfl
 simp only [pA,pB,pC,pD]
 refine tk 10 rfl ?v_10_117 ?hy_10_117 ?r_10_117
 case hy_10_117=>intro w h;have k1:=h.1.c1;have k6:=h.1.c6;go_simp;try with_reducible rfl
 simp only [pA,pB,pC,pD]
 refine wpAnyH_done (by kernel_rfl) ?_ _
 have HB:=Lib.hid hHeld.2.2
 have d3:w4.cell? ⟨w.heap.size,3,none⟩=some (.int .i64 s.cur):=hHeld.1.cell 3
 have d4:w4.cell? ⟨w.heap.size,4,none⟩=some (.int .i64 s.tax):=hHeld.1.cell 4
 have d5:w4.cell? ⟨w.heap.size,5,none⟩=some (.slice oa s.lines.length cap):=by rw [hHeld.1.cell 5,stCs,HLV.out];rfl
 have d7:w4.cell? ⟨w.heap.size,7,none⟩=some (.int .i64 s.refunded):=hHeld.1.cell 7
 have d8:w4.cell? ⟨w.heap.size,8,none⟩=some (.int .i64 s.events):=hHeld.1.cell 8
 have d9:w4.cell? ⟨w.heap.size,9,none⟩=some (.int .i64 s.refused):=hHeld.1.cell 9
 have d10:w4.cell? ⟨w.heap.size,10,none⟩=some (.int .i64 s.stamp):=hHeld.1.cell 10
 have d11:w4.cell? ⟨w.heap.size,11,none⟩=some (.string ⟨s.who.toArray⟩):=hHeld.1.cell 11
 clear hHeld HE3 HDU
 go_wp2
 go_ret
 exact⟨by rw [HVb.out];rfl,HB.out⟩
set_option maxRecDepth 100000 in
set_option maxHeartbeats 16000000 in
theorem oValid_4_0_1 (s:St) (lv:Value) (w:World) (hr:LnRow w lv s.lines) (hw:s.who.length≤281474976710656) (hf:boundedB s=true) (hm: ¬ dueOf s<s.paid) (hs:s.status=4) (hp:s.prior=0) (g1:(s.paid==dueOf s)=true) (g3:decide (0<s.paid)=false):
  Calls Tryz.prog 160 #[stV s lv] w fun e w'=>e= .returned (.bool (validB s))∧Below w.heap.size w w':=by
 have HVb:=Lib.hid (show validB s=(false&&wholeB s.lines) by
  have h1:validB s=standB s 4:=by unfold validB;rw [hf,decide_eq_true (by omega),hs,hp];rfl
  have h2:(s.paid==dueOf s&&decide (0<s.paid))=false:=by rw [g1,g3];rfl
  rw [h1];unfold standB;rw [h2];rfl)
 have hbp:=bounded_p hf
 have HBO:=Lib.hid (show ∀ W:World,LnRow W lv s.lines→Calls Tryz.prog 194 #[stV s lv] W fun e w'=>e= .returned (.bool true)∧Below W.heap.size W w' from fun W h=>hf▸obounded s lv W h hw)
 obtain⟨D,hD⟩: ∃ D,D=dueOf s:=⟨_,rfl⟩
 have HDU:=Lib.hid (show ∀ W:World,LnRow W lv s.lines→Calls Tryz.prog 195 #[stV s lv] W fun e w'=>e= .returned (.int .i64 D)∧Below W.heap.size W w' from fun W h=>hD▸odue_any s lv W h hbp.fine hbp.few hbp.tax.1 hbp.tax.2)
 have HH:=Lib.hid (show StBlk (w.alloc (.cells (stCs s lv) 164)).drew w.heap.size s lv∧LnRow (w.alloc (.cells (stCs s lv) 164)).drew lv s.lines∧Below w.heap.size w (w.alloc (.cells (stCs s lv) 164)).drew from by
  have hb:Below w.heap.size w (w.alloc (.cells (stCs s lv) 164)):=(Below.refl _ _).alloc (Nat.le_refl _) _
  exact⟨stBlk_alloc w s lv,hr.below (Below.next hb (below_drewN' _ 1)),Below.next hb (below_drewN' _ 1)⟩)
 have HSH:=Lib.hid (show ∀ W:World,LnRow W lv s.lines→Calls Tryz.prog 196 #[stV s lv] W fun e w'=>e= .returned (.tuple #[.bool (noneB s.lines),.bool (wholeB s.lines)])∧Below W.heap.size W w' from fun W h=>oshipped_any s lv W h)
 obtain⟨nB,hnB⟩: ∃ x,x=noneB s.lines:=⟨_,rfl⟩
 obtain⟨wB,hwB⟩: ∃ x,x=wholeB s.lines:=⟨_,rfl⟩
 rw [←hnB,←hwB] at HSH
 rw [←hD] at hm g1
 rw [←hwB] at HVb
 have d1:decide (D<s.paid)=false:=decide_eq_false hm
 have hm2:s.paid≤D:=by omega
 have HS:=Lib.hid hs
 have HP:=Lib.hid hp
 obtain⟨oa,cap,hlv,_,_,_⟩:=hr.shape
 have HLV:=Lib.hid hlv
 clear hr hw hf hbp hD hm hs hp hnB hwB hlv
 go_enter Tryz.func160,Tryz.ntmps160
 go_wp2
 refine wp_region_held_drew (S:=fun w'=>StBlk w' w.heap.size s lv∧LnRow w' lv s.lines∧Below w.heap.size w w') (by kernel_rfl) HH.out (fun hHeld=> ?_)
 refine wpAnyH_take (i:=0) (oi:=⟨_,_,_,_,_,_⟩) (v:=stV s lv) rfl (by kernel_rfl) (by kernel_rfl) (by kernel_rfl) (fun _ _ _ h=>h) (yieldsIf_load_mid (by kernel_rfl) 164 (.tmp 1) rfl w.heap.size 0 rfl (stCs s lv).toList _ (fun w' h j v hv=>by rw [Nat.zero_add,h.1.cell];simpa using hv) Tryz.underlying164 rfl (by rw [stInfo];rfl)) (by assumption) ?_
 simp only [pA,pB,pC,pD]
 refine wpAnyH_ready (rs:=[1]) (by kernel_rfl) (by simp) ?_
 refine AllReadyH.cons rfl (fun K hK=> ?_) AllReadyH.nil
 go_simp
 go_at_call 194
 obtain⟨hSt,hLn,hBe⟩:=hHeld
 refine(HBO.out _ hLn).mono ?_
 rintro x w1 ⟨rfl,hb⟩
 go_wp2_with fail
 refine hK.out _ _ ⟨hSt.below hb,hLn.below hb,Below.next hBe hb⟩ (fun hHeld=> ?_)
 clear hK K hSt hLn hBe hb
 refine tk 2 rfl ?v_2_118 ?hy_2_118 ?r_2_118
 case hy_2_118=>intro w h;have k1:=h.1.c1;have k6:=h.1.c6;go_simp;try with_reducible rfl
 simp only [pA,pB,pC,pD]
 refine tk 3 rfl ?v_3_119 ?hy_3_119 ?r_3_119
 case hy_3_119=>intro w h;have k1:=h.1.c1;have k6:=h.1.c6;go_simp;try with_reducible rfl
 simp only [pA,pB,pC,pD]
 refine tk 4 rfl ?v_4_120 ?hy_4_120 ?r_4_120
 case hy_4_120=>intro w h;have k1:=h.1.c1;have k6:=h.1.c6;go_simp;try with_reducible rfl
 simp only [pA,pB,pC,pD]
 refine tk 5 rfl ?v_5_121 ?hy_5_121 ?r_5_121
 case hy_5_121=>intro w h;have k1:=h.1.c1;have k6:=h.1.c6;go_simp;try with_reducible rfl
 simp only [pA,pB,pC,pD]
 refine wpAnyH_take (i:=6) (oi:=⟨_,_,_,_,_,_⟩) (v:=stV s lv) rfl (by kernel_rfl) (by kernel_rfl) (by kernel_rfl) (fun _ _ _ h=>h) (yieldsIf_load_mid (by kernel_rfl) 164 (.tmp 1) rfl w.heap.size 0 rfl (stCs s lv).toList _ (fun w' h j v hv=>by rw [Nat.zero_add,h.1.cell];simpa using hv) Tryz.underlying164 rfl (by rw [stInfo];rfl)) (by assumption) ?_
 simp only [pA,pB,pC,pD]
 refine wpAnyH_ready (rs:=[7]) (by kernel_rfl) (by simp) ?_
 refine AllReadyH.cons rfl (fun K hK=> ?_) AllReadyH.nil
 go_simp
 go_at_call 195
 obtain⟨hSt,hLn,hBe⟩:=hHeld
 refine(HDU.out _ hLn).mono ?_
 rintro x w2 ⟨rfl,hb⟩
 go_wp2_with fail
 refine hK.out _ _ ⟨hSt.below hb,hLn.below hb,Below.next hBe hb⟩ (fun hHeld=> ?_)
 clear hK K hSt hLn hBe hb
 refine tk 8 rfl ?v_8_122 ?hy_8_122 ?r_8_122
 case hy_8_122=>intro w h;have k1:=h.1.c1;have k6:=h.1.c6;go_simp;try with_reducible rfl
 simp only [pA,pB,pC,pD]
 refine tk 9 rfl ?v_9_123 ?hy_9_123 ?r_9_123
 case hy_9_123=>intro w h;have k1:=h.1.c1;have k6:=h.1.c6;go_simp;try with_reducible rfl
 simp only [pA,pB,pC,pD]
 refine wpAnyH_done (by kernel_rfl) ?_ _
 have c1:w2.cell? ⟨w.heap.size,1,none⟩=some (.int .i64 4):=by rw [hHeld.1.cell 1,stCs,HS.out];rfl
 have c2:w2.cell? ⟨w.heap.size,2,none⟩=some (.int .i64 0):=by rw [hHeld.1.cell 2,stCs,HP.out];rfl
 have HE:=Lib.hid hHeld
 clear hHeld HBO HH
 go_wp2_with (first
  | (with_reducible refine wpList_load_st rfl (.tmp 1) rfl w.heap.size s lv rfl HE.out.1 ?_)
  | (go_at_call 196;refine(HSH.out _ HE.out.2.1).mono ?_;rintro x w3 ⟨rfl,hb⟩;have HE3:=Lib.hid (show StBlk w3 w.heap.size s lv∧LnRow w3 lv s.lines∧Below w.heap.size w w3 from⟨HE.out.1.below hb,HE.out.2.1.below hb,Below.next HE.out.2.2 hb⟩);clear hb))
 clear c1 c2 HE HSH
 refine wp_region_held_drew (S:=fun w'=>StBlk w' w.heap.size s lv∧LnRow w' lv s.lines∧Below w.heap.size w w') (by kernel_rfl) ⟨HE3.out.1,HE3.out.2.1,Below.next HE3.out.2.2 (below_drewN' _ 1)⟩ (fun hHeld=> ?_)
 refine tk 0 rfl ?v_0_124 ?hy_0_124 ?r_0_124
 case hy_0_124=>intro w h;have k1:=h.1.c1;have k6:=h.1.c6;go_simp;try with_reducible rfl
 simp only [pA,pB,pC,pD]
 refine tk 1 rfl ?v_1_125 ?hy_1_125 ?r_1_125
 case hy_1_125=>intro w h;have k1:=h.1.c1;have k6:=h.1.c6;go_simp;try with_reducible rfl
 simp only [pA,pB,pC,pD]
 refine wpAnyH_take (i:=2) (oi:=⟨_,_,_,_,_,_⟩) (v:=stV s lv) rfl (by kernel_rfl) (by kernel_rfl) (by kernel_rfl) (fun _ _ _ h=>h) (yieldsIf_load_mid (by kernel_rfl) 164 (.tmp 1) rfl w.heap.size 0 rfl (stCs s lv).toList _ (fun w' h j v hv=>by rw [Nat.zero_add,h.1.cell];simpa using hv) Tryz.underlying164 rfl (by rw [stInfo];rfl)) (by assumption) ?_
 simp only [pA,pB,pC,pD]
 refine wpAnyH_ready (rs:=[3]) (by kernel_rfl) (by simp) ?_
 refine AllReadyH.cons rfl (fun K hK=> ?_) AllReadyH.nil
 go_simp
 go_at_call 195
 obtain⟨hSt,hLn,hBe⟩:=hHeld
 refine(HDU.out _ hLn).mono ?_
 rintro x w4 ⟨rfl,hb⟩
 go_wp2_with fail
 refine hK.out _ _ ⟨hSt.below hb,hLn.below hb,Below.next hBe hb⟩ (fun hHeld=> ?_)
 clear hK K hSt hLn hBe hb
 refine tk 4 rfl ?v_4_126 ?hy_4_126 ?r_4_126
 case hy_4_126=>intro w h;have k1:=h.1.c1;have k6:=h.1.c6;go_simp;try with_reducible rfl
 simp only [pA,pB,pC,pD]
 refine tk 5 rfl ?v_5_127 ?hy_5_127 ?r_5_127
 case hy_5_127=>intro w h;have k1:=h.1.c1;have k6:=h.1.c6;go_simp;try with_reducible rfl
 simp only [pA,pB,pC,pD]
 refine tk 6 rfl ?v_6_128 ?hy_6_128 ?r_6_128
 case hy_6_128=>intro w h;have k1:=h.1.c1;have k6:=h.1.c6;go_simp;try with_reducible rfl
 simp only [pA,pB,pC,pD]
 refine tk 7 rfl ?v_7_129 ?hy_7_129 ?r_7_129
 case hy_7_129=>intro w h;have k1:=h.1.c1;have k6:=h.1.c6;go_simp;try with_reducible rfl
 simp only [pA,pB,pC,pD]
 refine tk 8 rfl ?v_8_130 ?hy_8_130 ?r_8_130
 case hy_8_130=>intro w h;have k1:=h.1.c1;have k6:=h.1.c6;go_simp;try with_reducible rfl
 simp only [pA,pB,pC,pD]
 refine tk 9 rfl ?v_9_131 ?hy_9_131 ?r_9_131
 case hy_9_131=>intro w h;have k1:=h.1.c1;have k6:=h.1.c6;go_simp;try with_reducible rfl
 simp only [pA,pB,pC,pD]
 refine tk 10 rfl ?v_10_132 ?hy_10_132 ?r_10_132
 case hy_10_132=>intro w h;have k1:=h.1.c1;have k6:=h.1.c6;go_simp;try with_reducible rfl
 simp only [pA,pB,pC,pD]
 refine wpAnyH_done (by kernel_rfl) ?_ _
 have HB:=Lib.hid hHeld.2.2
 have d3:w4.cell? ⟨w.heap.size,3,none⟩=some (.int .i64 s.cur):=hHeld.1.cell 3
 have d4:w4.cell? ⟨w.heap.size,4,none⟩=some (.int .i64 s.tax):=hHeld.1.cell 4
 have d5:w4.cell? ⟨w.heap.size,5,none⟩=some (.slice oa s.lines.length cap):=by rw [hHeld.1.cell 5,stCs,HLV.out];rfl
 have d7:w4.cell? ⟨w.heap.size,7,none⟩=some (.int .i64 s.refunded):=hHeld.1.cell 7
 have d8:w4.cell? ⟨w.heap.size,8,none⟩=some (.int .i64 s.events):=hHeld.1.cell 8
 have d9:w4.cell? ⟨w.heap.size,9,none⟩=some (.int .i64 s.refused):=hHeld.1.cell 9
 have d10:w4.cell? ⟨w.heap.size,10,none⟩=some (.int .i64 s.stamp):=hHeld.1.cell 10
 have d11:w4.cell? ⟨w.heap.size,11,none⟩=some (.string ⟨s.who.toArray⟩):=hHeld.1.cell 11
 clear hHeld HE3 HDU
 go_wp2
 go_ret
 exact⟨by rw [HVb.out];rfl,HB.out⟩
set_option maxRecDepth 100000 in
set_option maxHeartbeats 16000000 in
theorem oValid_4_0_2 (s:St) (lv:Value) (w:World) (hr:LnRow w lv s.lines) (hw:s.who.length≤281474976710656) (hf:boundedB s=true) (hm: ¬ dueOf s<s.paid) (hs:s.status=4) (hp:s.prior=0) (g1:(s.paid==dueOf s)=true) (g3:decide (0<s.paid)=true):
  Calls Tryz.prog 160 #[stV s lv] w fun e w'=>e= .returned (.bool (validB s))∧Below w.heap.size w w':=by
 have HVb:=Lib.hid (show validB s=(true&&wholeB s.lines) by
  have h1:validB s=standB s 4:=by unfold validB;rw [hf,decide_eq_true (by omega),hs,hp];rfl
  have h2:(s.paid==dueOf s&&decide (0<s.paid))=true:=by rw [g1,g3];rfl
  rw [h1];unfold standB;rw [h2];rfl)
 have hbp:=bounded_p hf
 have HBO:=Lib.hid (show ∀ W:World,LnRow W lv s.lines→Calls Tryz.prog 194 #[stV s lv] W fun e w'=>e= .returned (.bool true)∧Below W.heap.size W w' from fun W h=>hf▸obounded s lv W h hw)
 obtain⟨D,hD⟩: ∃ D,D=dueOf s:=⟨_,rfl⟩
 have HDU:=Lib.hid (show ∀ W:World,LnRow W lv s.lines→Calls Tryz.prog 195 #[stV s lv] W fun e w'=>e= .returned (.int .i64 D)∧Below W.heap.size W w' from fun W h=>hD▸odue_any s lv W h hbp.fine hbp.few hbp.tax.1 hbp.tax.2)
 have HH:=Lib.hid (show StBlk (w.alloc (.cells (stCs s lv) 164)).drew w.heap.size s lv∧LnRow (w.alloc (.cells (stCs s lv) 164)).drew lv s.lines∧Below w.heap.size w (w.alloc (.cells (stCs s lv) 164)).drew from by
  have hb:Below w.heap.size w (w.alloc (.cells (stCs s lv) 164)):=(Below.refl _ _).alloc (Nat.le_refl _) _
  exact⟨stBlk_alloc w s lv,hr.below (Below.next hb (below_drewN' _ 1)),Below.next hb (below_drewN' _ 1)⟩)
 have HSH:=Lib.hid (show ∀ W:World,LnRow W lv s.lines→Calls Tryz.prog 196 #[stV s lv] W fun e w'=>e= .returned (.tuple #[.bool (noneB s.lines),.bool (wholeB s.lines)])∧Below W.heap.size W w' from fun W h=>oshipped_any s lv W h)
 obtain⟨nB,hnB⟩: ∃ x,x=noneB s.lines:=⟨_,rfl⟩
 obtain⟨wB,hwB⟩: ∃ x,x=wholeB s.lines:=⟨_,rfl⟩
 rw [←hnB,←hwB] at HSH
 rw [←hD] at hm g1
 rw [←hwB] at HVb
 have d1:decide (D<s.paid)=false:=decide_eq_false hm
 have hm2:s.paid≤D:=by omega
 have HS:=Lib.hid hs
 have HP:=Lib.hid hp
 obtain⟨oa,cap,hlv,_,_,_⟩:=hr.shape
 have HLV:=Lib.hid hlv
 clear hr hw hf hbp hD hm hs hp hnB hwB hlv
 go_enter Tryz.func160,Tryz.ntmps160
 go_wp2
 refine wp_region_held_drew (S:=fun w'=>StBlk w' w.heap.size s lv∧LnRow w' lv s.lines∧Below w.heap.size w w') (by kernel_rfl) HH.out (fun hHeld=> ?_)
 refine wpAnyH_take (i:=0) (oi:=⟨_,_,_,_,_,_⟩) (v:=stV s lv) rfl (by kernel_rfl) (by kernel_rfl) (by kernel_rfl) (fun _ _ _ h=>h) (yieldsIf_load_mid (by kernel_rfl) 164 (.tmp 1) rfl w.heap.size 0 rfl (stCs s lv).toList _ (fun w' h j v hv=>by rw [Nat.zero_add,h.1.cell];simpa using hv) Tryz.underlying164 rfl (by rw [stInfo];rfl)) (by assumption) ?_
 simp only [pA,pB,pC,pD]
 refine wpAnyH_ready (rs:=[1]) (by kernel_rfl) (by simp) ?_
 refine AllReadyH.cons rfl (fun K hK=> ?_) AllReadyH.nil
 go_simp
 go_at_call 194
 obtain⟨hSt,hLn,hBe⟩:=hHeld
 refine(HBO.out _ hLn).mono ?_
 rintro x w1 ⟨rfl,hb⟩
 go_wp2_with fail
 refine hK.out _ _ ⟨hSt.below hb,hLn.below hb,Below.next hBe hb⟩ (fun hHeld=> ?_)
 clear hK K hSt hLn hBe hb
 refine tk 2 rfl ?v_2_133 ?hy_2_133 ?r_2_133
 case hy_2_133=>intro w h;have k1:=h.1.c1;have k6:=h.1.c6;go_simp;try with_reducible rfl
 simp only [pA,pB,pC,pD]
 refine tk 3 rfl ?v_3_134 ?hy_3_134 ?r_3_134
 case hy_3_134=>intro w h;have k1:=h.1.c1;have k6:=h.1.c6;go_simp;try with_reducible rfl
 simp only [pA,pB,pC,pD]
 refine tk 4 rfl ?v_4_135 ?hy_4_135 ?r_4_135
 case hy_4_135=>intro w h;have k1:=h.1.c1;have k6:=h.1.c6;go_simp;try with_reducible rfl
 simp only [pA,pB,pC,pD]
 refine tk 5 rfl ?v_5_136 ?hy_5_136 ?r_5_136
 case hy_5_136=>intro w h;have k1:=h.1.c1;have k6:=h.1.c6;go_simp;try with_reducible rfl
 simp only [pA,pB,pC,pD]
 refine wpAnyH_take (i:=6) (oi:=⟨_,_,_,_,_,_⟩) (v:=stV s lv) rfl (by kernel_rfl) (by kernel_rfl) (by kernel_rfl) (fun _ _ _ h=>h) (yieldsIf_load_mid (by kernel_rfl) 164 (.tmp 1) rfl w.heap.size 0 rfl (stCs s lv).toList _ (fun w' h j v hv=>by rw [Nat.zero_add,h.1.cell];simpa using hv) Tryz.underlying164 rfl (by rw [stInfo];rfl)) (by assumption) ?_
 simp only [pA,pB,pC,pD]
 refine wpAnyH_ready (rs:=[7]) (by kernel_rfl) (by simp) ?_
 refine AllReadyH.cons rfl (fun K hK=> ?_) AllReadyH.nil
 go_simp
 go_at_call 195
 obtain⟨hSt,hLn,hBe⟩:=hHeld
 refine(HDU.out _ hLn).mono ?_
 rintro x w2 ⟨rfl,hb⟩
 go_wp2_with fail
 refine hK.out _ _ ⟨hSt.below hb,hLn.below hb,Below.next hBe hb⟩ (fun hHeld=> ?_)
 clear hK K hSt hLn hBe hb
 refine tk 8 rfl ?v_8_137 ?hy_8_137 ?r_8_137
 case hy_8_137=>intro w h;have k1:=h.1.c1;have k6:=h.1.c6;go_simp;try with_reducible rfl
 simp only [pA,pB,pC,pD]
 refine tk 9 rfl ?v_9_138 ?hy_9_138 ?r_9_138
 case hy_9_138=>intro w h;have k1:=h.1.c1;have k6:=h.1.c6;go_simp;try with_reducible rfl
 simp only [pA,pB,pC,pD]
 refine wpAnyH_done (by kernel_rfl) ?_ _
 have c1:w2.cell? ⟨w.heap.size,1,none⟩=some (.int .i64 4):=by rw [hHeld.1.cell 1,stCs,HS.out];rfl
 have c2:w2.cell? ⟨w.heap.size,2,none⟩=some (.int .i64 0):=by rw [hHeld.1.cell 2,stCs,HP.out];rfl
 have HE:=Lib.hid hHeld
 clear hHeld HBO HH
 go_wp2_with (first
  | (with_reducible refine wpList_load_st rfl (.tmp 1) rfl w.heap.size s lv rfl HE.out.1 ?_)
  | (go_at_call 196;refine(HSH.out _ HE.out.2.1).mono ?_;rintro x w3 ⟨rfl,hb⟩;have HE3:=Lib.hid (show StBlk w3 w.heap.size s lv∧LnRow w3 lv s.lines∧Below w.heap.size w w3 from⟨HE.out.1.below hb,HE.out.2.1.below hb,Below.next HE.out.2.2 hb⟩);clear hb))
 clear c1 c2 HE HSH
 refine wp_region_held_drew (S:=fun w'=>StBlk w' w.heap.size s lv∧LnRow w' lv s.lines∧Below w.heap.size w w') (by kernel_rfl) ⟨HE3.out.1,HE3.out.2.1,Below.next HE3.out.2.2 (below_drewN' _ 1)⟩ (fun hHeld=> ?_)
 refine tk 0 rfl ?v_0_139 ?hy_0_139 ?r_0_139
 case hy_0_139=>intro w h;have k1:=h.1.c1;have k6:=h.1.c6;go_simp;try with_reducible rfl
 simp only [pA,pB,pC,pD]
 refine tk 1 rfl ?v_1_140 ?hy_1_140 ?r_1_140
 case hy_1_140=>intro w h;have k1:=h.1.c1;have k6:=h.1.c6;go_simp;try with_reducible rfl
 simp only [pA,pB,pC,pD]
 refine wpAnyH_take (i:=2) (oi:=⟨_,_,_,_,_,_⟩) (v:=stV s lv) rfl (by kernel_rfl) (by kernel_rfl) (by kernel_rfl) (fun _ _ _ h=>h) (yieldsIf_load_mid (by kernel_rfl) 164 (.tmp 1) rfl w.heap.size 0 rfl (stCs s lv).toList _ (fun w' h j v hv=>by rw [Nat.zero_add,h.1.cell];simpa using hv) Tryz.underlying164 rfl (by rw [stInfo];rfl)) (by assumption) ?_
 simp only [pA,pB,pC,pD]
 refine wpAnyH_ready (rs:=[3]) (by kernel_rfl) (by simp) ?_
 refine AllReadyH.cons rfl (fun K hK=> ?_) AllReadyH.nil
 go_simp
 go_at_call 195
 obtain⟨hSt,hLn,hBe⟩:=hHeld
 refine(HDU.out _ hLn).mono ?_
 rintro x w4 ⟨rfl,hb⟩
 go_wp2_with fail
 refine hK.out _ _ ⟨hSt.below hb,hLn.below hb,Below.next hBe hb⟩ (fun hHeld=> ?_)
 clear hK K hSt hLn hBe hb
 refine tk 4 rfl ?v_4_141 ?hy_4_141 ?r_4_141
 case hy_4_141=>intro w h;have k1:=h.1.c1;have k6:=h.1.c6;go_simp;try with_reducible rfl
 simp only [pA,pB,pC,pD]
 refine tk 5 rfl ?v_5_142 ?hy_5_142 ?r_5_142
 case hy_5_142=>intro w h;have k1:=h.1.c1;have k6:=h.1.c6;go_simp;try with_reducible rfl
 simp only [pA,pB,pC,pD]
 refine tk 6 rfl ?v_6_143 ?hy_6_143 ?r_6_143
 case hy_6_143=>intro w h;have k1:=h.1.c1;have k6:=h.1.c6;go_simp;try with_reducible rfl
 simp only [pA,pB,pC,pD]
 refine tk 7 rfl ?v_7_144 ?hy_7_144 ?r_7_144
 case hy_7_144=>intro w h;have k1:=h.1.c1;have k6:=h.1.c6;go_simp;try with_reducible rfl
 simp only [pA,pB,pC,pD]
 refine tk 8 rfl ?v_8_145 ?hy_8_145 ?r_8_145
 case hy_8_145=>intro w h;have k1:=h.1.c1;have k6:=h.1.c6;go_simp;try with_reducible rfl
 simp only [pA,pB,pC,pD]
 refine tk 9 rfl ?v_9_146 ?hy_9_146 ?r_9_146
 case hy_9_146=>intro w h;have k1:=h.1.c1;have k6:=h.1.c6;go_simp;try with_reducible rfl
 simp only [pA,pB,pC,pD]
 refine tk 10 rfl ?v_10_147 ?hy_10_147 ?r_10_147
 case hy_10_147=>intro w h;have k1:=h.1.c1;have k6:=h.1.c6;go_simp;try with_reducible rfl
 simp only [pA,pB,pC,pD]
 refine wpAnyH_done (by kernel_rfl) ?_ _
 have HB:=Lib.hid hHeld.2.2
 have d3:w4.cell? ⟨w.heap.size,3,none⟩=some (.int .i64 s.cur):=hHeld.1.cell 3
 have d4:w4.cell? ⟨w.heap.size,4,none⟩=some (.int .i64 s.tax):=hHeld.1.cell 4
 have d5:w4.cell? ⟨w.heap.size,5,none⟩=some (.slice oa s.lines.length cap):=by rw [hHeld.1.cell 5,stCs,HLV.out];rfl
 have d7:w4.cell? ⟨w.heap.size,7,none⟩=some (.int .i64 s.refunded):=hHeld.1.cell 7
 have d8:w4.cell? ⟨w.heap.size,8,none⟩=some (.int .i64 s.events):=hHeld.1.cell 8
 have d9:w4.cell? ⟨w.heap.size,9,none⟩=some (.int .i64 s.refused):=hHeld.1.cell 9
 have d10:w4.cell? ⟨w.heap.size,10,none⟩=some (.int .i64 s.stamp):=hHeld.1.cell 10
 have d11:w4.cell? ⟨w.heap.size,11,none⟩=some (.string ⟨s.who.toArray⟩):=hHeld.1.cell 11
 clear hHeld HE3 HDU
 cases wB
 ·skip
  go_wp2
  go_ret
  exact⟨by rw [HVb.out];rfl,HB.out⟩
 ·skip
  go_wp2
  go_ret
  exact⟨by rw [HVb.out];rfl,HB.out⟩
end Go.Proofs.YtlobohpbgghleaaGreatDoor

namespace Go.Proofs.YtlobohpbgghleaaGreatDoor
open Go.RowKit
set_option maxRecDepth 100000 in
set_option maxHeartbeats 16000000 in
theorem oValid_2_1_0 (s:St) (lv:Value) (w:World) (hr:LnRow w lv s.lines) (hw:s.who.length≤281474976710656) (hf:boundedB s=true) (hm: ¬ dueOf s<s.paid) (hs:s.status=2) (hp:s.prior=1) (g1:(s.paid==dueOf s)=false):
  Calls Tryz.prog 160 #[stV s lv] w fun e w'=>e= .returned (.bool (validB s))∧Below w.heap.size w w':=by
 have HVb:=Lib.hid (show validB s=(noneB s.lines&& !false&&s.refunded==0) by
  have h1:validB s=standB s 1:=by unfold validB;rw [hf,decide_eq_true (by omega),hs,hp];rfl
  have h2:(s.paid==dueOf s&&decide (0<s.paid))=false:=by rw [g1];rfl
  rw [h1];unfold standB;rw [h2];rfl)
 have hbp:=bounded_p hf
 have HBO:=Lib.hid (show ∀ W:World,LnRow W lv s.lines→Calls Tryz.prog 194 #[stV s lv] W fun e w'=>e= .returned (.bool true)∧Below W.heap.size W w' from fun W h=>hf▸obounded s lv W h hw)
 obtain⟨D,hD⟩: ∃ D,D=dueOf s:=⟨_,rfl⟩
 have HDU:=Lib.hid (show ∀ W:World,LnRow W lv s.lines→Calls Tryz.prog 195 #[stV s lv] W fun e w'=>e= .returned (.int .i64 D)∧Below W.heap.size W w' from fun W h=>hD▸odue_any s lv W h hbp.fine hbp.few hbp.tax.1 hbp.tax.2)
 have HH:=Lib.hid (show StBlk (w.alloc (.cells (stCs s lv) 164)).drew w.heap.size s lv∧LnRow (w.alloc (.cells (stCs s lv) 164)).drew lv s.lines∧Below w.heap.size w (w.alloc (.cells (stCs s lv) 164)).drew from by
  have hb:Below w.heap.size w (w.alloc (.cells (stCs s lv) 164)):=(Below.refl _ _).alloc (Nat.le_refl _) _
  exact⟨stBlk_alloc w s lv,hr.below (Below.next hb (below_drewN' _ 1)),Below.next hb (below_drewN' _ 1)⟩)
 have HSH:=Lib.hid (show ∀ W:World,LnRow W lv s.lines→Calls Tryz.prog 196 #[stV s lv] W fun e w'=>e= .returned (.tuple #[.bool (noneB s.lines),.bool (wholeB s.lines)])∧Below W.heap.size W w' from fun W h=>oshipped_any s lv W h)
 obtain⟨nB,hnB⟩: ∃ x,x=noneB s.lines:=⟨_,rfl⟩
 obtain⟨wB,hwB⟩: ∃ x,x=wholeB s.lines:=⟨_,rfl⟩
 rw [←hnB,←hwB] at HSH
 rw [←hD] at hm g1
 rw [←hnB] at HVb
 have d1:decide (D<s.paid)=false:=decide_eq_false hm
 have hm2:s.paid≤D:=by omega
 have HS:=Lib.hid hs
 have HP:=Lib.hid hp
 obtain⟨oa,cap,hlv,_,_,_⟩:=hr.shape
 have HLV:=Lib.hid hlv
 clear hr hw hf hbp hD hm hs hp hnB hwB hlv
 go_enter Tryz.func160,Tryz.ntmps160
 go_wp2
 refine wp_region_held_drew (S:=fun w'=>StBlk w' w.heap.size s lv∧LnRow w' lv s.lines∧Below w.heap.size w w') (by kernel_rfl) HH.out (fun hHeld=> ?_)
 refine wpAnyH_take (i:=0) (oi:=⟨_,_,_,_,_,_⟩) (v:=stV s lv) rfl (by kernel_rfl) (by kernel_rfl) (by kernel_rfl) (fun _ _ _ h=>h) (yieldsIf_load_mid (by kernel_rfl) 164 (.tmp 1) rfl w.heap.size 0 rfl (stCs s lv).toList _ (fun w' h j v hv=>by rw [Nat.zero_add,h.1.cell];simpa using hv) Tryz.underlying164 rfl (by rw [stInfo];rfl)) (by assumption) ?_
 simp only [pA,pB,pC,pD]
 refine wpAnyH_ready (rs:=[1]) (by kernel_rfl) (by simp) ?_
 refine AllReadyH.cons rfl (fun K hK=> ?_) AllReadyH.nil
 go_simp
 go_at_call 194
 obtain⟨hSt,hLn,hBe⟩:=hHeld
 refine(HBO.out _ hLn).mono ?_
 rintro x w1 ⟨rfl,hb⟩
 go_wp2_with fail
 refine hK.out _ _ ⟨hSt.below hb,hLn.below hb,Below.next hBe hb⟩ (fun hHeld=> ?_)
 clear hK K hSt hLn hBe hb
 refine tk 2 rfl ?v_2_148 ?hy_2_148 ?r_2_148
 case hy_2_148=>intro w h;have k1:=h.1.c1;have k6:=h.1.c6;go_simp;try with_reducible rfl
 simp only [pA,pB,pC,pD]
 refine tk 3 rfl ?v_3_149 ?hy_3_149 ?r_3_149
 case hy_3_149=>intro w h;have k1:=h.1.c1;have k6:=h.1.c6;go_simp;try with_reducible rfl
 simp only [pA,pB,pC,pD]
 refine tk 4 rfl ?v_4_150 ?hy_4_150 ?r_4_150
 case hy_4_150=>intro w h;have k1:=h.1.c1;have k6:=h.1.c6;go_simp;try with_reducible rfl
 simp only [pA,pB,pC,pD]
 refine tk 5 rfl ?v_5_151 ?hy_5_151 ?r_5_151
 case hy_5_151=>intro w h;have k1:=h.1.c1;have k6:=h.1.c6;go_simp;try with_reducible rfl
 simp only [pA,pB,pC,pD]
 refine wpAnyH_take (i:=6) (oi:=⟨_,_,_,_,_,_⟩) (v:=stV s lv) rfl (by kernel_rfl) (by kernel_rfl) (by kernel_rfl) (fun _ _ _ h=>h) (yieldsIf_load_mid (by kernel_rfl) 164 (.tmp 1) rfl w.heap.size 0 rfl (stCs s lv).toList _ (fun w' h j v hv=>by rw [Nat.zero_add,h.1.cell];simpa using hv) Tryz.underlying164 rfl (by rw [stInfo];rfl)) (by assumption) ?_
 simp only [pA,pB,pC,pD]
 refine wpAnyH_ready (rs:=[7]) (by kernel_rfl) (by simp) ?_
 refine AllReadyH.cons rfl (fun K hK=> ?_) AllReadyH.nil
 go_simp
 go_at_call 195
 obtain⟨hSt,hLn,hBe⟩:=hHeld
 refine(HDU.out _ hLn).mono ?_
 rintro x w2 ⟨rfl,hb⟩
 go_wp2_with fail
 refine hK.out _ _ ⟨hSt.below hb,hLn.below hb,Below.next hBe hb⟩ (fun hHeld=> ?_)
 clear hK K hSt hLn hBe hb
 refine tk 8 rfl ?v_8_152 ?hy_8_152 ?r_8_152
 case hy_8_152=>intro w h;have k1:=h.1.c1;have k6:=h.1.c6;go_simp;try with_reducible rfl
 simp only [pA,pB,pC,pD]
 refine tk 9 rfl ?v_9_153 ?hy_9_153 ?r_9_153
 case hy_9_153=>intro w h;have k1:=h.1.c1;have k6:=h.1.c6;go_simp;try with_reducible rfl
 simp only [pA,pB,pC,pD]
 refine wpAnyH_done (by kernel_rfl) ?_ _
 have c1:w2.cell? ⟨w.heap.size,1,none⟩=some (.int .i64 2):=by rw [hHeld.1.cell 1,stCs,HS.out];rfl
 have c2:w2.cell? ⟨w.heap.size,2,none⟩=some (.int .i64 1):=by rw [hHeld.1.cell 2,stCs,HP.out];rfl
 have HE:=Lib.hid hHeld
 clear hHeld HBO HH
 go_wp2_with (first
  | (with_reducible refine wpList_load_st rfl (.tmp 1) rfl w.heap.size s lv rfl HE.out.1 ?_)
  | (go_at_call 196;refine(HSH.out _ HE.out.2.1).mono ?_;rintro x w3 ⟨rfl,hb⟩;have HE3:=Lib.hid (show StBlk w3 w.heap.size s lv∧LnRow w3 lv s.lines∧Below w.heap.size w w3 from⟨HE.out.1.below hb,HE.out.2.1.below hb,Below.next HE.out.2.2 hb⟩);clear hb))
 clear c1 c2 HE HSH
 refine wp_region_held_drew (S:=fun w'=>StBlk w' w.heap.size s lv∧LnRow w' lv s.lines∧Below w.heap.size w w') (by kernel_rfl) ⟨HE3.out.1,HE3.out.2.1,Below.next HE3.out.2.2 (below_drewN' _ 1)⟩ (fun hHeld=> ?_)
 refine tk 0 rfl ?v_0_154 ?hy_0_154 ?r_0_154
 case hy_0_154=>intro w h;have k1:=h.1.c1;have k6:=h.1.c6;go_simp;try with_reducible rfl
 simp only [pA,pB,pC,pD]
 refine tk 1 rfl ?v_1_155 ?hy_1_155 ?r_1_155
 case hy_1_155=>intro w h;have k1:=h.1.c1;have k6:=h.1.c6;go_simp;try with_reducible rfl
 simp only [pA,pB,pC,pD]
 refine wpAnyH_take (i:=2) (oi:=⟨_,_,_,_,_,_⟩) (v:=stV s lv) rfl (by kernel_rfl) (by kernel_rfl) (by kernel_rfl) (fun _ _ _ h=>h) (yieldsIf_load_mid (by kernel_rfl) 164 (.tmp 1) rfl w.heap.size 0 rfl (stCs s lv).toList _ (fun w' h j v hv=>by rw [Nat.zero_add,h.1.cell];simpa using hv) Tryz.underlying164 rfl (by rw [stInfo];rfl)) (by assumption) ?_
 simp only [pA,pB,pC,pD]
 refine wpAnyH_ready (rs:=[3]) (by kernel_rfl) (by simp) ?_
 refine AllReadyH.cons rfl (fun K hK=> ?_) AllReadyH.nil
 go_simp
 go_at_call 195
 obtain⟨hSt,hLn,hBe⟩:=hHeld
 refine(HDU.out _ hLn).mono ?_
 rintro x w4 ⟨rfl,hb⟩
 go_wp2_with fail
 refine hK.out _ _ ⟨hSt.below hb,hLn.below hb,Below.next hBe hb⟩ (fun hHeld=> ?_)
 clear hK K hSt hLn hBe hb
 refine tk 4 rfl ?v_4_156 ?hy_4_156 ?r_4_156
 case hy_4_156=>intro w h;have k1:=h.1.c1;have k6:=h.1.c6;go_simp;try with_reducible rfl
 simp only [pA,pB,pC,pD]
 refine tk 5 rfl ?v_5_157 ?hy_5_157 ?r_5_157
 case hy_5_157=>intro w h;have k1:=h.1.c1;have k6:=h.1.c6;go_simp;try with_reducible rfl
 simp only [pA,pB,pC,pD]
 refine tkn 6 rfl ?_
 simp only [pA,pB,pC,pD]
 refine tkn 7 rfl ?_
 simp only [pA,pB,pC,pD]
 refine tkn 8 rfl ?_
 simp only [pA,pB,pC,pD]
 refine tk 9 rfl ?v_9_158 ?hy_9_158 ?r_9_158
 case hy_9_158=>intro w h;have k1:=h.1.c1;have k6:=h.1.c6;go_simp;try with_reducible rfl
 simp only [pA,pB,pC,pD]
 refine tk 10 rfl ?v_10_159 ?hy_10_159 ?r_10_159
 case hy_10_159=>intro w h;have k1:=h.1.c1;have k6:=h.1.c6;go_simp;try with_reducible rfl
 simp only [pA,pB,pC,pD]
 refine wpAnyH_done (by kernel_rfl) ?_ _
 have HB:=Lib.hid hHeld.2.2
 have d3:w4.cell? ⟨w.heap.size,3,none⟩=some (.int .i64 s.cur):=hHeld.1.cell 3
 have d4:w4.cell? ⟨w.heap.size,4,none⟩=some (.int .i64 s.tax):=hHeld.1.cell 4
 have d5:w4.cell? ⟨w.heap.size,5,none⟩=some (.slice oa s.lines.length cap):=by rw [hHeld.1.cell 5,stCs,HLV.out];rfl
 have d7:w4.cell? ⟨w.heap.size,7,none⟩=some (.int .i64 s.refunded):=hHeld.1.cell 7
 have d8:w4.cell? ⟨w.heap.size,8,none⟩=some (.int .i64 s.events):=hHeld.1.cell 8
 have d9:w4.cell? ⟨w.heap.size,9,none⟩=some (.int .i64 s.refused):=hHeld.1.cell 9
 have d10:w4.cell? ⟨w.heap.size,10,none⟩=some (.int .i64 s.stamp):=hHeld.1.cell 10
 have d11:w4.cell? ⟨w.heap.size,11,none⟩=some (.string ⟨s.who.toArray⟩):=hHeld.1.cell 11
 clear hHeld HE3 HDU
 cases nB
 ·skip
  go_wp2
  go_ret
  exact⟨by rw [HVb.out];rfl,HB.out⟩
 ·by_cases hrf:s.refunded=0
  ·have r1:(s.refunded==0)=true:=by rw [beq_iff_eq];exact hrf
   clear hrf
   go_wp2
   go_ret
   exact⟨by rw [HVb.out,r1];rfl,HB.out⟩
  ·have r1:(s.refunded==0)=false:=by rw [beq_eq_false_iff_ne];exact hrf
   clear hrf
   go_wp2
   go_ret
   exact⟨by rw [HVb.out,r1];rfl,HB.out⟩
set_option maxRecDepth 100000 in
set_option maxHeartbeats 16000000 in
theorem oValid_2_1_1 (s:St) (lv:Value) (w:World) (hr:LnRow w lv s.lines) (hw:s.who.length≤281474976710656) (hf:boundedB s=true) (hm: ¬ dueOf s<s.paid) (hs:s.status=2) (hp:s.prior=1) (g1:(s.paid==dueOf s)=true) (g3:decide (0<s.paid)=false):
  Calls Tryz.prog 160 #[stV s lv] w fun e w'=>e= .returned (.bool (validB s))∧Below w.heap.size w w':=by
 have HVb:=Lib.hid (show validB s=(noneB s.lines&& !false&&s.refunded==0) by
  have h1:validB s=standB s 1:=by unfold validB;rw [hf,decide_eq_true (by omega),hs,hp];rfl
  have h2:(s.paid==dueOf s&&decide (0<s.paid))=false:=by rw [g1,g3];rfl
  rw [h1];unfold standB;rw [h2];rfl)
 have hbp:=bounded_p hf
 have HBO:=Lib.hid (show ∀ W:World,LnRow W lv s.lines→Calls Tryz.prog 194 #[stV s lv] W fun e w'=>e= .returned (.bool true)∧Below W.heap.size W w' from fun W h=>hf▸obounded s lv W h hw)
 obtain⟨D,hD⟩: ∃ D,D=dueOf s:=⟨_,rfl⟩
 have HDU:=Lib.hid (show ∀ W:World,LnRow W lv s.lines→Calls Tryz.prog 195 #[stV s lv] W fun e w'=>e= .returned (.int .i64 D)∧Below W.heap.size W w' from fun W h=>hD▸odue_any s lv W h hbp.fine hbp.few hbp.tax.1 hbp.tax.2)
 have HH:=Lib.hid (show StBlk (w.alloc (.cells (stCs s lv) 164)).drew w.heap.size s lv∧LnRow (w.alloc (.cells (stCs s lv) 164)).drew lv s.lines∧Below w.heap.size w (w.alloc (.cells (stCs s lv) 164)).drew from by
  have hb:Below w.heap.size w (w.alloc (.cells (stCs s lv) 164)):=(Below.refl _ _).alloc (Nat.le_refl _) _
  exact⟨stBlk_alloc w s lv,hr.below (Below.next hb (below_drewN' _ 1)),Below.next hb (below_drewN' _ 1)⟩)
 have HSH:=Lib.hid (show ∀ W:World,LnRow W lv s.lines→Calls Tryz.prog 196 #[stV s lv] W fun e w'=>e= .returned (.tuple #[.bool (noneB s.lines),.bool (wholeB s.lines)])∧Below W.heap.size W w' from fun W h=>oshipped_any s lv W h)
 obtain⟨nB,hnB⟩: ∃ x,x=noneB s.lines:=⟨_,rfl⟩
 obtain⟨wB,hwB⟩: ∃ x,x=wholeB s.lines:=⟨_,rfl⟩
 rw [←hnB,←hwB] at HSH
 rw [←hD] at hm g1
 rw [←hnB] at HVb
 have d1:decide (D<s.paid)=false:=decide_eq_false hm
 have hm2:s.paid≤D:=by omega
 have HS:=Lib.hid hs
 have HP:=Lib.hid hp
 obtain⟨oa,cap,hlv,_,_,_⟩:=hr.shape
 have HLV:=Lib.hid hlv
 clear hr hw hf hbp hD hm hs hp hnB hwB hlv
 go_enter Tryz.func160,Tryz.ntmps160
 go_wp2
 refine wp_region_held_drew (S:=fun w'=>StBlk w' w.heap.size s lv∧LnRow w' lv s.lines∧Below w.heap.size w w') (by kernel_rfl) HH.out (fun hHeld=> ?_)
 refine wpAnyH_take (i:=0) (oi:=⟨_,_,_,_,_,_⟩) (v:=stV s lv) rfl (by kernel_rfl) (by kernel_rfl) (by kernel_rfl) (fun _ _ _ h=>h) (yieldsIf_load_mid (by kernel_rfl) 164 (.tmp 1) rfl w.heap.size 0 rfl (stCs s lv).toList _ (fun w' h j v hv=>by rw [Nat.zero_add,h.1.cell];simpa using hv) Tryz.underlying164 rfl (by rw [stInfo];rfl)) (by assumption) ?_
 simp only [pA,pB,pC,pD]
 refine wpAnyH_ready (rs:=[1]) (by kernel_rfl) (by simp) ?_
 refine AllReadyH.cons rfl (fun K hK=> ?_) AllReadyH.nil
 go_simp
 go_at_call 194
 obtain⟨hSt,hLn,hBe⟩:=hHeld
 refine(HBO.out _ hLn).mono ?_
 rintro x w1 ⟨rfl,hb⟩
 go_wp2_with fail
 refine hK.out _ _ ⟨hSt.below hb,hLn.below hb,Below.next hBe hb⟩ (fun hHeld=> ?_)
 clear hK K hSt hLn hBe hb
 refine tk 2 rfl ?v_2_160 ?hy_2_160 ?r_2_160
 case hy_2_160=>intro w h;have k1:=h.1.c1;have k6:=h.1.c6;go_simp;try with_reducible rfl
 simp only [pA,pB,pC,pD]
 refine tk 3 rfl ?v_3_161 ?hy_3_161 ?r_3_161
 case hy_3_161=>intro w h;have k1:=h.1.c1;have k6:=h.1.c6;go_simp;try with_reducible rfl
 simp only [pA,pB,pC,pD]
 refine tk 4 rfl ?v_4_162 ?hy_4_162 ?r_4_162
 case hy_4_162=>intro w h;have k1:=h.1.c1;have k6:=h.1.c6;go_simp;try with_reducible rfl
 simp only [pA,pB,pC,pD]
 refine tk 5 rfl ?v_5_163 ?hy_5_163 ?r_5_163
 case hy_5_163=>intro w h;have k1:=h.1.c1;have k6:=h.1.c6;go_simp;try with_reducible rfl
 simp only [pA,pB,pC,pD]
 refine wpAnyH_take (i:=6) (oi:=⟨_,_,_,_,_,_⟩) (v:=stV s lv) rfl (by kernel_rfl) (by kernel_rfl) (by kernel_rfl) (fun _ _ _ h=>h) (yieldsIf_load_mid (by kernel_rfl) 164 (.tmp 1) rfl w.heap.size 0 rfl (stCs s lv).toList _ (fun w' h j v hv=>by rw [Nat.zero_add,h.1.cell];simpa using hv) Tryz.underlying164 rfl (by rw [stInfo];rfl)) (by assumption) ?_
 simp only [pA,pB,pC,pD]
 refine wpAnyH_ready (rs:=[7]) (by kernel_rfl) (by simp) ?_
 refine AllReadyH.cons rfl (fun K hK=> ?_) AllReadyH.nil
 go_simp
 go_at_call 195
 obtain⟨hSt,hLn,hBe⟩:=hHeld
 refine(HDU.out _ hLn).mono ?_
 rintro x w2 ⟨rfl,hb⟩
 go_wp2_with fail
 refine hK.out _ _ ⟨hSt.below hb,hLn.below hb,Below.next hBe hb⟩ (fun hHeld=> ?_)
 clear hK K hSt hLn hBe hb
 refine tk 8 rfl ?v_8_164 ?hy_8_164 ?r_8_164
 case hy_8_164=>intro w h;have k1:=h.1.c1;have k6:=h.1.c6;go_simp;try with_reducible rfl
 simp only [pA,pB,pC,pD]
 refine tk 9 rfl ?v_9_165 ?hy_9_165 ?r_9_165
 case hy_9_165=>intro w h;have k1:=h.1.c1;have k6:=h.1.c6;go_simp;try with_reducible rfl
 simp only [pA,pB,pC,pD]
 refine wpAnyH_done (by kernel_rfl) ?_ _
 have c1:w2.cell? ⟨w.heap.size,1,none⟩=some (.int .i64 2):=by rw [hHeld.1.cell 1,stCs,HS.out];rfl
 have c2:w2.cell? ⟨w.heap.size,2,none⟩=some (.int .i64 1):=by rw [hHeld.1.cell 2,stCs,HP.out];rfl
 have HE:=Lib.hid hHeld
 clear hHeld HBO HH
 go_wp2_with (first
  | (with_reducible refine wpList_load_st rfl (.tmp 1) rfl w.heap.size s lv rfl HE.out.1 ?_)
  | (go_at_call 196;refine(HSH.out _ HE.out.2.1).mono ?_;rintro x w3 ⟨rfl,hb⟩;have HE3:=Lib.hid (show StBlk w3 w.heap.size s lv∧LnRow w3 lv s.lines∧Below w.heap.size w w3 from⟨HE.out.1.below hb,HE.out.2.1.below hb,Below.next HE.out.2.2 hb⟩);clear hb))
 clear c1 c2 HE HSH
 refine wp_region_held_drew (S:=fun w'=>StBlk w' w.heap.size s lv∧LnRow w' lv s.lines∧Below w.heap.size w w') (by kernel_rfl) ⟨HE3.out.1,HE3.out.2.1,Below.next HE3.out.2.2 (below_drewN' _ 1)⟩ (fun hHeld=> ?_)
 refine tk 0 rfl ?v_0_166 ?hy_0_166 ?r_0_166
 case hy_0_166=>intro w h;have k1:=h.1.c1;have k6:=h.1.c6;go_simp;try with_reducible rfl
 simp only [pA,pB,pC,pD]
 refine tk 1 rfl ?v_1_167 ?hy_1_167 ?r_1_167
 case hy_1_167=>intro w h;have k1:=h.1.c1;have k6:=h.1.c6;go_simp;try with_reducible rfl
 simp only [pA,pB,pC,pD]
 refine wpAnyH_take (i:=2) (oi:=⟨_,_,_,_,_,_⟩) (v:=stV s lv) rfl (by kernel_rfl) (by kernel_rfl) (by kernel_rfl) (fun _ _ _ h=>h) (yieldsIf_load_mid (by kernel_rfl) 164 (.tmp 1) rfl w.heap.size 0 rfl (stCs s lv).toList _ (fun w' h j v hv=>by rw [Nat.zero_add,h.1.cell];simpa using hv) Tryz.underlying164 rfl (by rw [stInfo];rfl)) (by assumption) ?_
 simp only [pA,pB,pC,pD]
 refine wpAnyH_ready (rs:=[3]) (by kernel_rfl) (by simp) ?_
 refine AllReadyH.cons rfl (fun K hK=> ?_) AllReadyH.nil
 go_simp
 go_at_call 195
 obtain⟨hSt,hLn,hBe⟩:=hHeld
 refine(HDU.out _ hLn).mono ?_
 rintro x w4 ⟨rfl,hb⟩
 go_wp2_with fail
 refine hK.out _ _ ⟨hSt.below hb,hLn.below hb,Below.next hBe hb⟩ (fun hHeld=> ?_)
 clear hK K hSt hLn hBe hb
 refine tk 4 rfl ?v_4_168 ?hy_4_168 ?r_4_168
 case hy_4_168=>intro w h;have k1:=h.1.c1;have k6:=h.1.c6;go_simp;try with_reducible rfl
 simp only [pA,pB,pC,pD]
 refine tk 5 rfl ?v_5_169 ?hy_5_169 ?r_5_169
 case hy_5_169=>intro w h;have k1:=h.1.c1;have k6:=h.1.c6;go_simp;try with_reducible rfl
 simp only [pA,pB,pC,pD]
 refine tk 6 rfl ?v_6_170 ?hy_6_170 ?r_6_170
 case hy_6_170=>intro w h;have k1:=h.1.c1;have k6:=h.1.c6;go_simp;try with_reducible rfl
 simp only [pA,pB,pC,pD]
 refine tk 7 rfl ?v_7_171 ?hy_7_171 ?r_7_171
 case hy_7_171=>intro w h;have k1:=h.1.c1;have k6:=h.1.c6;go_simp;try with_reducible rfl
 simp only [pA,pB,pC,pD]
 refine tk 8 rfl ?v_8_172 ?hy_8_172 ?r_8_172
 case hy_8_172=>intro w h;have k1:=h.1.c1;have k6:=h.1.c6;go_simp;try with_reducible rfl
 simp only [pA,pB,pC,pD]
 refine tk 9 rfl ?v_9_173 ?hy_9_173 ?r_9_173
 case hy_9_173=>intro w h;have k1:=h.1.c1;have k6:=h.1.c6;go_simp;try with_reducible rfl
 simp only [pA,pB,pC,pD]
 refine tk 10 rfl ?v_10_174 ?hy_10_174 ?r_10_174
 case hy_10_174=>intro w h;have k1:=h.1.c1;have k6:=h.1.c6;go_simp;try with_reducible rfl
 simp only [pA,pB,pC,pD]
 refine wpAnyH_done (by kernel_rfl) ?_ _
 have HB:=Lib.hid hHeld.2.2
 have d3:w4.cell? ⟨w.heap.size,3,none⟩=some (.int .i64 s.cur):=hHeld.1.cell 3
 have d4:w4.cell? ⟨w.heap.size,4,none⟩=some (.int .i64 s.tax):=hHeld.1.cell 4
 have d5:w4.cell? ⟨w.heap.size,5,none⟩=some (.slice oa s.lines.length cap):=by rw [hHeld.1.cell 5,stCs,HLV.out];rfl
 have d7:w4.cell? ⟨w.heap.size,7,none⟩=some (.int .i64 s.refunded):=hHeld.1.cell 7
 have d8:w4.cell? ⟨w.heap.size,8,none⟩=some (.int .i64 s.events):=hHeld.1.cell 8
 have d9:w4.cell? ⟨w.heap.size,9,none⟩=some (.int .i64 s.refused):=hHeld.1.cell 9
 have d10:w4.cell? ⟨w.heap.size,10,none⟩=some (.int .i64 s.stamp):=hHeld.1.cell 10
 have d11:w4.cell? ⟨w.heap.size,11,none⟩=some (.string ⟨s.who.toArray⟩):=hHeld.1.cell 11
 clear hHeld HE3 HDU
 cases nB
 ·skip
  go_wp2
  go_ret
  exact⟨by rw [HVb.out];rfl,HB.out⟩
 ·by_cases hrf:s.refunded=0
  ·have r1:(s.refunded==0)=true:=by rw [beq_iff_eq];exact hrf
   clear hrf
   go_wp2
   go_ret
   exact⟨by rw [HVb.out,r1];rfl,HB.out⟩
  ·have r1:(s.refunded==0)=false:=by rw [beq_eq_false_iff_ne];exact hrf
   clear hrf
   go_wp2
   go_ret
   exact⟨by rw [HVb.out,r1];rfl,HB.out⟩
set_option maxRecDepth 100000 in
set_option maxHeartbeats 16000000 in
theorem oValid_2_1_2 (s:St) (lv:Value) (w:World) (hr:LnRow w lv s.lines) (hw:s.who.length≤281474976710656) (hf:boundedB s=true) (hm: ¬ dueOf s<s.paid) (hs:s.status=2) (hp:s.prior=1) (g1:(s.paid==dueOf s)=true) (g3:decide (0<s.paid)=true):
  Calls Tryz.prog 160 #[stV s lv] w fun e w'=>e= .returned (.bool (validB s))∧Below w.heap.size w w':=by
 have HVb:=Lib.hid (show validB s=(noneB s.lines&& !true&&s.refunded==0) by
  have h1:validB s=standB s 1:=by unfold validB;rw [hf,decide_eq_true (by omega),hs,hp];rfl
  have h2:(s.paid==dueOf s&&decide (0<s.paid))=true:=by rw [g1,g3];rfl
  rw [h1];unfold standB;rw [h2];rfl)
 have hbp:=bounded_p hf
 have HBO:=Lib.hid (show ∀ W:World,LnRow W lv s.lines→Calls Tryz.prog 194 #[stV s lv] W fun e w'=>e= .returned (.bool true)∧Below W.heap.size W w' from fun W h=>hf▸obounded s lv W h hw)
 obtain⟨D,hD⟩: ∃ D,D=dueOf s:=⟨_,rfl⟩
 have HDU:=Lib.hid (show ∀ W:World,LnRow W lv s.lines→Calls Tryz.prog 195 #[stV s lv] W fun e w'=>e= .returned (.int .i64 D)∧Below W.heap.size W w' from fun W h=>hD▸odue_any s lv W h hbp.fine hbp.few hbp.tax.1 hbp.tax.2)
 have HH:=Lib.hid (show StBlk (w.alloc (.cells (stCs s lv) 164)).drew w.heap.size s lv∧LnRow (w.alloc (.cells (stCs s lv) 164)).drew lv s.lines∧Below w.heap.size w (w.alloc (.cells (stCs s lv) 164)).drew from by
  have hb:Below w.heap.size w (w.alloc (.cells (stCs s lv) 164)):=(Below.refl _ _).alloc (Nat.le_refl _) _
  exact⟨stBlk_alloc w s lv,hr.below (Below.next hb (below_drewN' _ 1)),Below.next hb (below_drewN' _ 1)⟩)
 have HSH:=Lib.hid (show ∀ W:World,LnRow W lv s.lines→Calls Tryz.prog 196 #[stV s lv] W fun e w'=>e= .returned (.tuple #[.bool (noneB s.lines),.bool (wholeB s.lines)])∧Below W.heap.size W w' from fun W h=>oshipped_any s lv W h)
 obtain⟨nB,hnB⟩: ∃ x,x=noneB s.lines:=⟨_,rfl⟩
 obtain⟨wB,hwB⟩: ∃ x,x=wholeB s.lines:=⟨_,rfl⟩
 rw [←hnB,←hwB] at HSH
 rw [←hD] at hm g1
 rw [←hnB] at HVb
 have d1:decide (D<s.paid)=false:=decide_eq_false hm
 have hm2:s.paid≤D:=by omega
 have HS:=Lib.hid hs
 have HP:=Lib.hid hp
 obtain⟨oa,cap,hlv,_,_,_⟩:=hr.shape
 have HLV:=Lib.hid hlv
 clear hr hw hf hbp hD hm hs hp hnB hwB hlv
 go_enter Tryz.func160,Tryz.ntmps160
 go_wp2
 refine wp_region_held_drew (S:=fun w'=>StBlk w' w.heap.size s lv∧LnRow w' lv s.lines∧Below w.heap.size w w') (by kernel_rfl) HH.out (fun hHeld=> ?_)
 refine wpAnyH_take (i:=0) (oi:=⟨_,_,_,_,_,_⟩) (v:=stV s lv) rfl (by kernel_rfl) (by kernel_rfl) (by kernel_rfl) (fun _ _ _ h=>h) (yieldsIf_load_mid (by kernel_rfl) 164 (.tmp 1) rfl w.heap.size 0 rfl (stCs s lv).toList _ (fun w' h j v hv=>by rw [Nat.zero_add,h.1.cell];simpa using hv) Tryz.underlying164 rfl (by rw [stInfo];rfl)) (by assumption) ?_
 simp only [pA,pB,pC,pD]
 refine wpAnyH_ready (rs:=[1]) (by kernel_rfl) (by simp) ?_
 refine AllReadyH.cons rfl (fun K hK=> ?_) AllReadyH.nil
 go_simp
 go_at_call 194
 obtain⟨hSt,hLn,hBe⟩:=hHeld
 refine(HBO.out _ hLn).mono ?_
 rintro x w1 ⟨rfl,hb⟩
 go_wp2_with fail
 refine hK.out _ _ ⟨hSt.below hb,hLn.below hb,Below.next hBe hb⟩ (fun hHeld=> ?_)
 clear hK K hSt hLn hBe hb
 refine tk 2 rfl ?v_2_175 ?hy_2_175 ?r_2_175
 case hy_2_175=>intro w h;have k1:=h.1.c1;have k6:=h.1.c6;go_simp;try with_reducible rfl
 simp only [pA,pB,pC,pD]
 refine tk 3 rfl ?v_3_176 ?hy_3_176 ?r_3_176
 case hy_3_176=>intro w h;have k1:=h.1.c1;have k6:=h.1.c6;go_simp;try with_reducible rfl
 simp only [pA,pB,pC,pD]
 refine tk 4 rfl ?v_4_177 ?hy_4_177 ?r_4_177
 case hy_4_177=>intro w h;have k1:=h.1.c1;have k6:=h.1.c6;go_simp;try with_reducible rfl
 simp only [pA,pB,pC,pD]
 refine tk 5 rfl ?v_5_178 ?hy_5_178 ?r_5_178
 case hy_5_178=>intro w h;have k1:=h.1.c1;have k6:=h.1.c6;go_simp;try with_reducible rfl
 simp only [pA,pB,pC,pD]
 refine wpAnyH_take (i:=6) (oi:=⟨_,_,_,_,_,_⟩) (v:=stV s lv) rfl (by kernel_rfl) (by kernel_rfl) (by kernel_rfl) (fun _ _ _ h=>h) (yieldsIf_load_mid (by kernel_rfl) 164 (.tmp 1) rfl w.heap.size 0 rfl (stCs s lv).toList _ (fun w' h j v hv=>by rw [Nat.zero_add,h.1.cell];simpa using hv) Tryz.underlying164 rfl (by rw [stInfo];rfl)) (by assumption) ?_
 simp only [pA,pB,pC,pD]
 refine wpAnyH_ready (rs:=[7]) (by kernel_rfl) (by simp) ?_
 refine AllReadyH.cons rfl (fun K hK=> ?_) AllReadyH.nil
 go_simp
 go_at_call 195
 obtain⟨hSt,hLn,hBe⟩:=hHeld
 refine(HDU.out _ hLn).mono ?_
 rintro x w2 ⟨rfl,hb⟩
 go_wp2_with fail
 refine hK.out _ _ ⟨hSt.below hb,hLn.below hb,Below.next hBe hb⟩ (fun hHeld=> ?_)
 clear hK K hSt hLn hBe hb
 refine tk 8 rfl ?v_8_179 ?hy_8_179 ?r_8_179
 case hy_8_179=>intro w h;have k1:=h.1.c1;have k6:=h.1.c6;go_simp;try with_reducible rfl
 simp only [pA,pB,pC,pD]
 refine tk 9 rfl ?v_9_180 ?hy_9_180 ?r_9_180
 case hy_9_180=>intro w h;have k1:=h.1.c1;have k6:=h.1.c6;go_simp;try with_reducible rfl
 simp only [pA,pB,pC,pD]
 refine wpAnyH_done (by kernel_rfl) ?_ _
 have c1:w2.cell? ⟨w.heap.size,1,none⟩=some (.int .i64 2):=by rw [hHeld.1.cell 1,stCs,HS.out];rfl
 have c2:w2.cell? ⟨w.heap.size,2,none⟩=some (.int .i64 1):=by rw [hHeld.1.cell 2,stCs,HP.out];rfl
 have HE:=Lib.hid hHeld
 clear hHeld HBO HH
 go_wp2_with (first
  | (with_reducible refine wpList_load_st rfl (.tmp 1) rfl w.heap.size s lv rfl HE.out.1 ?_)
  | (go_at_call 196;refine(HSH.out _ HE.out.2.1).mono ?_;rintro x w3 ⟨rfl,hb⟩;have HE3:=Lib.hid (show StBlk w3 w.heap.size s lv∧LnRow w3 lv s.lines∧Below w.heap.size w w3 from⟨HE.out.1.below hb,HE.out.2.1.below hb,Below.next HE.out.2.2 hb⟩);clear hb))
 clear c1 c2 HE HSH
 refine wp_region_held_drew (S:=fun w'=>StBlk w' w.heap.size s lv∧LnRow w' lv s.lines∧Below w.heap.size w w') (by kernel_rfl) ⟨HE3.out.1,HE3.out.2.1,Below.next HE3.out.2.2 (below_drewN' _ 1)⟩ (fun hHeld=> ?_)
 refine tk 0 rfl ?v_0_181 ?hy_0_181 ?r_0_181
 case hy_0_181=>intro w h;have k1:=h.1.c1;have k6:=h.1.c6;go_simp;try with_reducible rfl
 simp only [pA,pB,pC,pD]
 refine tk 1 rfl ?v_1_182 ?hy_1_182 ?r_1_182
 case hy_1_182=>intro w h;have k1:=h.1.c1;have k6:=h.1.c6;go_simp;try with_reducible rfl
 simp only [pA,pB,pC,pD]
 refine wpAnyH_take (i:=2) (oi:=⟨_,_,_,_,_,_⟩) (v:=stV s lv) rfl (by kernel_rfl) (by kernel_rfl) (by kernel_rfl) (fun _ _ _ h=>h) (yieldsIf_load_mid (by kernel_rfl) 164 (.tmp 1) rfl w.heap.size 0 rfl (stCs s lv).toList _ (fun w' h j v hv=>by rw [Nat.zero_add,h.1.cell];simpa using hv) Tryz.underlying164 rfl (by rw [stInfo];rfl)) (by assumption) ?_
 simp only [pA,pB,pC,pD]
 refine wpAnyH_ready (rs:=[3]) (by kernel_rfl) (by simp) ?_
 refine AllReadyH.cons rfl (fun K hK=> ?_) AllReadyH.nil
 go_simp
 go_at_call 195
 obtain⟨hSt,hLn,hBe⟩:=hHeld
 refine(HDU.out _ hLn).mono ?_
 rintro x w4 ⟨rfl,hb⟩
 go_wp2_with fail
 refine hK.out _ _ ⟨hSt.below hb,hLn.below hb,Below.next hBe hb⟩ (fun hHeld=> ?_)
 clear hK K hSt hLn hBe hb
 refine tk 4 rfl ?v_4_183 ?hy_4_183 ?r_4_183
 case hy_4_183=>intro w h;have k1:=h.1.c1;have k6:=h.1.c6;go_simp;try with_reducible rfl
 simp only [pA,pB,pC,pD]
 refine tk 5 rfl ?v_5_184 ?hy_5_184 ?r_5_184
 case hy_5_184=>intro w h;have k1:=h.1.c1;have k6:=h.1.c6;go_simp;try with_reducible rfl
 simp only [pA,pB,pC,pD]
 refine tk 6 rfl ?v_6_185 ?hy_6_185 ?r_6_185
 case hy_6_185=>intro w h;have k1:=h.1.c1;have k6:=h.1.c6;go_simp;try with_reducible rfl
 simp only [pA,pB,pC,pD]
 refine tk 7 rfl ?v_7_186 ?hy_7_186 ?r_7_186
 case hy_7_186=>intro w h;have k1:=h.1.c1;have k6:=h.1.c6;go_simp;try with_reducible rfl
 simp only [pA,pB,pC,pD]
 refine tk 8 rfl ?v_8_187 ?hy_8_187 ?r_8_187
 case hy_8_187=>intro w h;have k1:=h.1.c1;have k6:=h.1.c6;go_simp;try with_reducible rfl
 simp only [pA,pB,pC,pD]
 refine tk 9 rfl ?v_9_188 ?hy_9_188 ?r_9_188
 case hy_9_188=>intro w h;have k1:=h.1.c1;have k6:=h.1.c6;go_simp;try with_reducible rfl
 simp only [pA,pB,pC,pD]
 refine tk 10 rfl ?v_10_189 ?hy_10_189 ?r_10_189
 case hy_10_189=>intro w h;have k1:=h.1.c1;have k6:=h.1.c6;go_simp;try with_reducible rfl
 simp only [pA,pB,pC,pD]
 refine wpAnyH_done (by kernel_rfl) ?_ _
 have HB:=Lib.hid hHeld.2.2
 have d3:w4.cell? ⟨w.heap.size,3,none⟩=some (.int .i64 s.cur):=hHeld.1.cell 3
 have d4:w4.cell? ⟨w.heap.size,4,none⟩=some (.int .i64 s.tax):=hHeld.1.cell 4
 have d5:w4.cell? ⟨w.heap.size,5,none⟩=some (.slice oa s.lines.length cap):=by rw [hHeld.1.cell 5,stCs,HLV.out];rfl
 have d7:w4.cell? ⟨w.heap.size,7,none⟩=some (.int .i64 s.refunded):=hHeld.1.cell 7
 have d8:w4.cell? ⟨w.heap.size,8,none⟩=some (.int .i64 s.events):=hHeld.1.cell 8
 have d9:w4.cell? ⟨w.heap.size,9,none⟩=some (.int .i64 s.refused):=hHeld.1.cell 9
 have d10:w4.cell? ⟨w.heap.size,10,none⟩=some (.int .i64 s.stamp):=hHeld.1.cell 10
 have d11:w4.cell? ⟨w.heap.size,11,none⟩=some (.string ⟨s.who.toArray⟩):=hHeld.1.cell 11
 clear hHeld HE3 HDU
 cases nB
 ·skip
  go_wp2
  go_ret
  exact⟨by rw [HVb.out];rfl,HB.out⟩
 ·skip
  go_wp2
  go_ret
  exact⟨by rw [HVb.out];rfl,HB.out⟩
set_option maxRecDepth 100000 in
set_option maxHeartbeats 16000000 in
theorem oValid_1_0_0 (s:St) (lv:Value) (w:World) (hr:LnRow w lv s.lines) (hw:s.who.length≤281474976710656) (hf:boundedB s=true) (hm: ¬ dueOf s<s.paid) (hs:s.status=1) (hp:s.prior=0) (g1:(s.paid==dueOf s)=false):
  Calls Tryz.prog 160 #[stV s lv] w fun e w'=>e= .returned (.bool (validB s))∧Below w.heap.size w w':=by
 have HVb:=Lib.hid (show validB s=(noneB s.lines&& !false&&s.refunded==0) by
  have h1:validB s=standB s 1:=by unfold validB;rw [hf,decide_eq_true (by omega),hs,hp];rfl
  have h2:(s.paid==dueOf s&&decide (0<s.paid))=false:=by rw [g1];rfl
  rw [h1];unfold standB;rw [h2];rfl)
 have hbp:=bounded_p hf
 have HBO:=Lib.hid (show ∀ W:World,LnRow W lv s.lines→Calls Tryz.prog 194 #[stV s lv] W fun e w'=>e= .returned (.bool true)∧Below W.heap.size W w' from fun W h=>hf▸obounded s lv W h hw)
 obtain⟨D,hD⟩: ∃ D,D=dueOf s:=⟨_,rfl⟩
 have HDU:=Lib.hid (show ∀ W:World,LnRow W lv s.lines→Calls Tryz.prog 195 #[stV s lv] W fun e w'=>e= .returned (.int .i64 D)∧Below W.heap.size W w' from fun W h=>hD▸odue_any s lv W h hbp.fine hbp.few hbp.tax.1 hbp.tax.2)
 have HH:=Lib.hid (show StBlk (w.alloc (.cells (stCs s lv) 164)).drew w.heap.size s lv∧LnRow (w.alloc (.cells (stCs s lv) 164)).drew lv s.lines∧Below w.heap.size w (w.alloc (.cells (stCs s lv) 164)).drew from by
  have hb:Below w.heap.size w (w.alloc (.cells (stCs s lv) 164)):=(Below.refl _ _).alloc (Nat.le_refl _) _
  exact⟨stBlk_alloc w s lv,hr.below (Below.next hb (below_drewN' _ 1)),Below.next hb (below_drewN' _ 1)⟩)
 have HSH:=Lib.hid (show ∀ W:World,LnRow W lv s.lines→Calls Tryz.prog 196 #[stV s lv] W fun e w'=>e= .returned (.tuple #[.bool (noneB s.lines),.bool (wholeB s.lines)])∧Below W.heap.size W w' from fun W h=>oshipped_any s lv W h)
 obtain⟨nB,hnB⟩: ∃ x,x=noneB s.lines:=⟨_,rfl⟩
 obtain⟨wB,hwB⟩: ∃ x,x=wholeB s.lines:=⟨_,rfl⟩
 rw [←hnB,←hwB] at HSH
 rw [←hD] at hm g1
 rw [←hnB] at HVb
 have d1:decide (D<s.paid)=false:=decide_eq_false hm
 have hm2:s.paid≤D:=by omega
 have HS:=Lib.hid hs
 have HP:=Lib.hid hp
 obtain⟨oa,cap,hlv,_,_,_⟩:=hr.shape
 have HLV:=Lib.hid hlv
 clear hr hw hf hbp hD hm hs hp hnB hwB hlv
 go_enter Tryz.func160,Tryz.ntmps160
 go_wp2
 refine wp_region_held_drew (S:=fun w'=>StBlk w' w.heap.size s lv∧LnRow w' lv s.lines∧Below w.heap.size w w') (by kernel_rfl) HH.out (fun hHeld=> ?_)
 refine wpAnyH_take (i:=0) (oi:=⟨_,_,_,_,_,_⟩) (v:=stV s lv) rfl (by kernel_rfl) (by kernel_rfl) (by kernel_rfl) (fun _ _ _ h=>h) (yieldsIf_load_mid (by kernel_rfl) 164 (.tmp 1) rfl w.heap.size 0 rfl (stCs s lv).toList _ (fun w' h j v hv=>by rw [Nat.zero_add,h.1.cell];simpa using hv) Tryz.underlying164 rfl (by rw [stInfo];rfl)) (by assumption) ?_
 simp only [pA,pB,pC,pD]
 refine wpAnyH_ready (rs:=[1]) (by kernel_rfl) (by simp) ?_
 refine AllReadyH.cons rfl (fun K hK=> ?_) AllReadyH.nil
 go_simp
 go_at_call 194
 obtain⟨hSt,hLn,hBe⟩:=hHeld
 refine(HBO.out _ hLn).mono ?_
 rintro x w1 ⟨rfl,hb⟩
 go_wp2_with fail
 refine hK.out _ _ ⟨hSt.below hb,hLn.below hb,Below.next hBe hb⟩ (fun hHeld=> ?_)
 clear hK K hSt hLn hBe hb
 refine tk 2 rfl ?v_2_190 ?hy_2_190 ?r_2_190
 case hy_2_190=>intro w h;have k1:=h.1.c1;have k6:=h.1.c6;go_simp;try with_reducible rfl
 simp only [pA,pB,pC,pD]
 refine tk 3 rfl ?v_3_191 ?hy_3_191 ?r_3_191
 case hy_3_191=>intro w h;have k1:=h.1.c1;have k6:=h.1.c6;go_simp;try with_reducible rfl
 simp only [pA,pB,pC,pD]
 refine tk 4 rfl ?v_4_192 ?hy_4_192 ?r_4_192
 case hy_4_192=>intro w h;have k1:=h.1.c1;have k6:=h.1.c6;go_simp;try with_reducible rfl
 simp only [pA,pB,pC,pD]
 refine tk 5 rfl ?v_5_193 ?hy_5_193 ?r_5_193
 case hy_5_193=>intro w h;have k1:=h.1.c1;have k6:=h.1.c6;go_simp;try with_reducible rfl
 simp only [pA,pB,pC,pD]
 refine wpAnyH_take (i:=6) (oi:=⟨_,_,_,_,_,_⟩) (v:=stV s lv) rfl (by kernel_rfl) (by kernel_rfl) (by kernel_rfl) (fun _ _ _ h=>h) (yieldsIf_load_mid (by kernel_rfl) 164 (.tmp 1) rfl w.heap.size 0 rfl (stCs s lv).toList _ (fun w' h j v hv=>by rw [Nat.zero_add,h.1.cell];simpa using hv) Tryz.underlying164 rfl (by rw [stInfo];rfl)) (by assumption) ?_
 simp only [pA,pB,pC,pD]
 refine wpAnyH_ready (rs:=[7]) (by kernel_rfl) (by simp) ?_
 refine AllReadyH.cons rfl (fun K hK=> ?_) AllReadyH.nil
 go_simp
 go_at_call 195
 obtain⟨hSt,hLn,hBe⟩:=hHeld
 refine(HDU.out _ hLn).mono ?_
 rintro x w2 ⟨rfl,hb⟩
 go_wp2_with fail
 refine hK.out _ _ ⟨hSt.below hb,hLn.below hb,Below.next hBe hb⟩ (fun hHeld=> ?_)
 clear hK K hSt hLn hBe hb
 refine tk 8 rfl ?v_8_194 ?hy_8_194 ?r_8_194
 case hy_8_194=>intro w h;have k1:=h.1.c1;have k6:=h.1.c6;go_simp;try with_reducible rfl
 simp only [pA,pB,pC,pD]
 refine tk 9 rfl ?v_9_195 ?hy_9_195 ?r_9_195
 case hy_9_195=>intro w h;have k1:=h.1.c1;have k6:=h.1.c6;go_simp;try with_reducible rfl
 simp only [pA,pB,pC,pD]
 refine wpAnyH_done (by kernel_rfl) ?_ _
 have c1:w2.cell? ⟨w.heap.size,1,none⟩=some (.int .i64 1):=by rw [hHeld.1.cell 1,stCs,HS.out];rfl
 have c2:w2.cell? ⟨w.heap.size,2,none⟩=some (.int .i64 0):=by rw [hHeld.1.cell 2,stCs,HP.out];rfl
 have HE:=Lib.hid hHeld
 clear hHeld HBO HH
 go_wp2_with (first
  | (with_reducible refine wpList_load_st rfl (.tmp 1) rfl w.heap.size s lv rfl HE.out.1 ?_)
  | (go_at_call 196;refine(HSH.out _ HE.out.2.1).mono ?_;rintro x w3 ⟨rfl,hb⟩;have HE3:=Lib.hid (show StBlk w3 w.heap.size s lv∧LnRow w3 lv s.lines∧Below w.heap.size w w3 from⟨HE.out.1.below hb,HE.out.2.1.below hb,Below.next HE.out.2.2 hb⟩);clear hb))
 clear c1 c2 HE HSH
 refine wp_region_held_drew (S:=fun w'=>StBlk w' w.heap.size s lv∧LnRow w' lv s.lines∧Below w.heap.size w w') (by kernel_rfl) ⟨HE3.out.1,HE3.out.2.1,Below.next HE3.out.2.2 (below_drewN' _ 1)⟩ (fun hHeld=> ?_)
 refine tk 0 rfl ?v_0_196 ?hy_0_196 ?r_0_196
 case hy_0_196=>intro w h;have k1:=h.1.c1;have k6:=h.1.c6;go_simp;try with_reducible rfl
 simp only [pA,pB,pC,pD]
 refine tk 1 rfl ?v_1_197 ?hy_1_197 ?r_1_197
 case hy_1_197=>intro w h;have k1:=h.1.c1;have k6:=h.1.c6;go_simp;try with_reducible rfl
 simp only [pA,pB,pC,pD]
 refine wpAnyH_take (i:=2) (oi:=⟨_,_,_,_,_,_⟩) (v:=stV s lv) rfl (by kernel_rfl) (by kernel_rfl) (by kernel_rfl) (fun _ _ _ h=>h) (yieldsIf_load_mid (by kernel_rfl) 164 (.tmp 1) rfl w.heap.size 0 rfl (stCs s lv).toList _ (fun w' h j v hv=>by rw [Nat.zero_add,h.1.cell];simpa using hv) Tryz.underlying164 rfl (by rw [stInfo];rfl)) (by assumption) ?_
 simp only [pA,pB,pC,pD]
 refine wpAnyH_ready (rs:=[3]) (by kernel_rfl) (by simp) ?_
 refine AllReadyH.cons rfl (fun K hK=> ?_) AllReadyH.nil
 go_simp
 go_at_call 195
 obtain⟨hSt,hLn,hBe⟩:=hHeld
 refine(HDU.out _ hLn).mono ?_
 rintro x w4 ⟨rfl,hb⟩
 go_wp2_with fail
 refine hK.out _ _ ⟨hSt.below hb,hLn.below hb,Below.next hBe hb⟩ (fun hHeld=> ?_)
 clear hK K hSt hLn hBe hb
 refine tk 4 rfl ?v_4_198 ?hy_4_198 ?r_4_198
 case hy_4_198=>intro w h;have k1:=h.1.c1;have k6:=h.1.c6;go_simp;try with_reducible rfl
 simp only [pA,pB,pC,pD]
 refine tk 5 rfl ?v_5_199 ?hy_5_199 ?r_5_199
 case hy_5_199=>intro w h;have k1:=h.1.c1;have k6:=h.1.c6;go_simp;try with_reducible rfl
 simp only [pA,pB,pC,pD]
 refine tkn 6 rfl ?_
 simp only [pA,pB,pC,pD]
 refine tkn 7 rfl ?_
 simp only [pA,pB,pC,pD]
 refine tkn 8 rfl ?_
 simp only [pA,pB,pC,pD]
 refine tk 9 rfl ?v_9_200 ?hy_9_200 ?r_9_200
 case hy_9_200=>intro w h;have k1:=h.1.c1;have k6:=h.1.c6;go_simp;try with_reducible rfl
 simp only [pA,pB,pC,pD]
 refine tk 10 rfl ?v_10_201 ?hy_10_201 ?r_10_201
 case hy_10_201=>intro w h;have k1:=h.1.c1;have k6:=h.1.c6;go_simp;try with_reducible rfl
 simp only [pA,pB,pC,pD]
 refine wpAnyH_done (by kernel_rfl) ?_ _
 have HB:=Lib.hid hHeld.2.2
 have d3:w4.cell? ⟨w.heap.size,3,none⟩=some (.int .i64 s.cur):=hHeld.1.cell 3
 have d4:w4.cell? ⟨w.heap.size,4,none⟩=some (.int .i64 s.tax):=hHeld.1.cell 4
 have d5:w4.cell? ⟨w.heap.size,5,none⟩=some (.slice oa s.lines.length cap):=by rw [hHeld.1.cell 5,stCs,HLV.out];rfl
 have d7:w4.cell? ⟨w.heap.size,7,none⟩=some (.int .i64 s.refunded):=hHeld.1.cell 7
 have d8:w4.cell? ⟨w.heap.size,8,none⟩=some (.int .i64 s.events):=hHeld.1.cell 8
 have d9:w4.cell? ⟨w.heap.size,9,none⟩=some (.int .i64 s.refused):=hHeld.1.cell 9
 have d10:w4.cell? ⟨w.heap.size,10,none⟩=some (.int .i64 s.stamp):=hHeld.1.cell 10
 have d11:w4.cell? ⟨w.heap.size,11,none⟩=some (.string ⟨s.who.toArray⟩):=hHeld.1.cell 11
 clear hHeld HE3 HDU
 cases nB
 ·skip
  go_wp2
  go_ret
  exact⟨by rw [HVb.out];rfl,HB.out⟩
 ·by_cases hrf:s.refunded=0
  ·have r1:(s.refunded==0)=true:=by rw [beq_iff_eq];exact hrf
   clear hrf
   go_wp2
   go_ret
   exact⟨by rw [HVb.out,r1];rfl,HB.out⟩
  ·have r1:(s.refunded==0)=false:=by rw [beq_eq_false_iff_ne];exact hrf
   clear hrf
   go_wp2
   go_ret
   exact⟨by rw [HVb.out,r1];rfl,HB.out⟩
set_option maxRecDepth 100000 in
set_option maxHeartbeats 16000000 in
theorem oValid_1_0_1 (s:St) (lv:Value) (w:World) (hr:LnRow w lv s.lines) (hw:s.who.length≤281474976710656) (hf:boundedB s=true) (hm: ¬ dueOf s<s.paid) (hs:s.status=1) (hp:s.prior=0) (g1:(s.paid==dueOf s)=true) (g3:decide (0<s.paid)=false):
  Calls Tryz.prog 160 #[stV s lv] w fun e w'=>e= .returned (.bool (validB s))∧Below w.heap.size w w':=by
 have HVb:=Lib.hid (show validB s=(noneB s.lines&& !false&&s.refunded==0) by
  have h1:validB s=standB s 1:=by unfold validB;rw [hf,decide_eq_true (by omega),hs,hp];rfl
  have h2:(s.paid==dueOf s&&decide (0<s.paid))=false:=by rw [g1,g3];rfl
  rw [h1];unfold standB;rw [h2];rfl)
 have hbp:=bounded_p hf
 have HBO:=Lib.hid (show ∀ W:World,LnRow W lv s.lines→Calls Tryz.prog 194 #[stV s lv] W fun e w'=>e= .returned (.bool true)∧Below W.heap.size W w' from fun W h=>hf▸obounded s lv W h hw)
 obtain⟨D,hD⟩: ∃ D,D=dueOf s:=⟨_,rfl⟩
 have HDU:=Lib.hid (show ∀ W:World,LnRow W lv s.lines→Calls Tryz.prog 195 #[stV s lv] W fun e w'=>e= .returned (.int .i64 D)∧Below W.heap.size W w' from fun W h=>hD▸odue_any s lv W h hbp.fine hbp.few hbp.tax.1 hbp.tax.2)
 have HH:=Lib.hid (show StBlk (w.alloc (.cells (stCs s lv) 164)).drew w.heap.size s lv∧LnRow (w.alloc (.cells (stCs s lv) 164)).drew lv s.lines∧Below w.heap.size w (w.alloc (.cells (stCs s lv) 164)).drew from by
  have hb:Below w.heap.size w (w.alloc (.cells (stCs s lv) 164)):=(Below.refl _ _).alloc (Nat.le_refl _) _
  exact⟨stBlk_alloc w s lv,hr.below (Below.next hb (below_drewN' _ 1)),Below.next hb (below_drewN' _ 1)⟩)
 have HSH:=Lib.hid (show ∀ W:World,LnRow W lv s.lines→Calls Tryz.prog 196 #[stV s lv] W fun e w'=>e= .returned (.tuple #[.bool (noneB s.lines),.bool (wholeB s.lines)])∧Below W.heap.size W w' from fun W h=>oshipped_any s lv W h)
 obtain⟨nB,hnB⟩: ∃ x,x=noneB s.lines:=⟨_,rfl⟩
 obtain⟨wB,hwB⟩: ∃ x,x=wholeB s.lines:=⟨_,rfl⟩
 rw [←hnB,←hwB] at HSH
 rw [←hD] at hm g1
 rw [←hnB] at HVb
 have d1:decide (D<s.paid)=false:=decide_eq_false hm
 have hm2:s.paid≤D:=by omega
 have HS:=Lib.hid hs
 have HP:=Lib.hid hp
 obtain⟨oa,cap,hlv,_,_,_⟩:=hr.shape
 have HLV:=Lib.hid hlv
 clear hr hw hf hbp hD hm hs hp hnB hwB hlv
 go_enter Tryz.func160,Tryz.ntmps160
 go_wp2
 refine wp_region_held_drew (S:=fun w'=>StBlk w' w.heap.size s lv∧LnRow w' lv s.lines∧Below w.heap.size w w') (by kernel_rfl) HH.out (fun hHeld=> ?_)
 refine wpAnyH_take (i:=0) (oi:=⟨_,_,_,_,_,_⟩) (v:=stV s lv) rfl (by kernel_rfl) (by kernel_rfl) (by kernel_rfl) (fun _ _ _ h=>h) (yieldsIf_load_mid (by kernel_rfl) 164 (.tmp 1) rfl w.heap.size 0 rfl (stCs s lv).toList _ (fun w' h j v hv=>by rw [Nat.zero_add,h.1.cell];simpa using hv) Tryz.underlying164 rfl (by rw [stInfo];rfl)) (by assumption) ?_
 simp only [pA,pB,pC,pD]
 refine wpAnyH_ready (rs:=[1]) (by kernel_rfl) (by simp) ?_
 refine AllReadyH.cons rfl (fun K hK=> ?_) AllReadyH.nil
 go_simp
 go_at_call 194
 obtain⟨hSt,hLn,hBe⟩:=hHeld
 refine(HBO.out _ hLn).mono ?_
 rintro x w1 ⟨rfl,hb⟩
 go_wp2_with fail
 refine hK.out _ _ ⟨hSt.below hb,hLn.below hb,Below.next hBe hb⟩ (fun hHeld=> ?_)
 clear hK K hSt hLn hBe hb
 refine tk 2 rfl ?v_2_202 ?hy_2_202 ?r_2_202
 case hy_2_202=>intro w h;have k1:=h.1.c1;have k6:=h.1.c6;go_simp;try with_reducible rfl
 simp only [pA,pB,pC,pD]
 refine tk 3 rfl ?v_3_203 ?hy_3_203 ?r_3_203
 case hy_3_203=>intro w h;have k1:=h.1.c1;have k6:=h.1.c6;go_simp;try with_reducible rfl
 simp only [pA,pB,pC,pD]
 refine tk 4 rfl ?v_4_204 ?hy_4_204 ?r_4_204
 case hy_4_204=>intro w h;have k1:=h.1.c1;have k6:=h.1.c6;go_simp;try with_reducible rfl
 simp only [pA,pB,pC,pD]
 refine tk 5 rfl ?v_5_205 ?hy_5_205 ?r_5_205
 case hy_5_205=>intro w h;have k1:=h.1.c1;have k6:=h.1.c6;go_simp;try with_reducible rfl
 simp only [pA,pB,pC,pD]
 refine wpAnyH_take (i:=6) (oi:=⟨_,_,_,_,_,_⟩) (v:=stV s lv) rfl (by kernel_rfl) (by kernel_rfl) (by kernel_rfl) (fun _ _ _ h=>h) (yieldsIf_load_mid (by kernel_rfl) 164 (.tmp 1) rfl w.heap.size 0 rfl (stCs s lv).toList _ (fun w' h j v hv=>by rw [Nat.zero_add,h.1.cell];simpa using hv) Tryz.underlying164 rfl (by rw [stInfo];rfl)) (by assumption) ?_
 simp only [pA,pB,pC,pD]
 refine wpAnyH_ready (rs:=[7]) (by kernel_rfl) (by simp) ?_
 refine AllReadyH.cons rfl (fun K hK=> ?_) AllReadyH.nil
 go_simp
 go_at_call 195
 obtain⟨hSt,hLn,hBe⟩:=hHeld
 refine(HDU.out _ hLn).mono ?_
 rintro x w2 ⟨rfl,hb⟩
 go_wp2_with fail
 refine hK.out _ _ ⟨hSt.below hb,hLn.below hb,Below.next hBe hb⟩ (fun hHeld=> ?_)
 clear hK K hSt hLn hBe hb
 refine tk 8 rfl ?v_8_206 ?hy_8_206 ?r_8_206
 case hy_8_206=>intro w h;have k1:=h.1.c1;have k6:=h.1.c6;go_simp;try with_reducible rfl
 simp only [pA,pB,pC,pD]
 refine tk 9 rfl ?v_9_207 ?hy_9_207 ?r_9_207
 case hy_9_207=>intro w h;have k1:=h.1.c1;have k6:=h.1.c6;go_simp;try with_reducible rfl
 simp only [pA,pB,pC,pD]
 refine wpAnyH_done (by kernel_rfl) ?_ _
 have c1:w2.cell? ⟨w.heap.size,1,none⟩=some (.int .i64 1):=by rw [hHeld.1.cell 1,stCs,HS.out];rfl
 have c2:w2.cell? ⟨w.heap.size,2,none⟩=some (.int .i64 0):=by rw [hHeld.1.cell 2,stCs,HP.out];rfl
 have HE:=Lib.hid hHeld
 clear hHeld HBO HH
 go_wp2_with (first
  | (with_reducible refine wpList_load_st rfl (.tmp 1) rfl w.heap.size s lv rfl HE.out.1 ?_)
  | (go_at_call 196;refine(HSH.out _ HE.out.2.1).mono ?_;rintro x w3 ⟨rfl,hb⟩;have HE3:=Lib.hid (show StBlk w3 w.heap.size s lv∧LnRow w3 lv s.lines∧Below w.heap.size w w3 from⟨HE.out.1.below hb,HE.out.2.1.below hb,Below.next HE.out.2.2 hb⟩);clear hb))
 clear c1 c2 HE HSH
 refine wp_region_held_drew (S:=fun w'=>StBlk w' w.heap.size s lv∧LnRow w' lv s.lines∧Below w.heap.size w w') (by kernel_rfl) ⟨HE3.out.1,HE3.out.2.1,Below.next HE3.out.2.2 (below_drewN' _ 1)⟩ (fun hHeld=> ?_)
 refine tk 0 rfl ?v_0_208 ?hy_0_208 ?r_0_208
 case hy_0_208=>intro w h;have k1:=h.1.c1;have k6:=h.1.c6;go_simp;try with_reducible rfl
 simp only [pA,pB,pC,pD]
 refine tk 1 rfl ?v_1_209 ?hy_1_209 ?r_1_209
 case hy_1_209=>intro w h;have k1:=h.1.c1;have k6:=h.1.c6;go_simp;try with_reducible rfl
 simp only [pA,pB,pC,pD]
 refine wpAnyH_take (i:=2) (oi:=⟨_,_,_,_,_,_⟩) (v:=stV s lv) rfl (by kernel_rfl) (by kernel_rfl) (by kernel_rfl) (fun _ _ _ h=>h) (yieldsIf_load_mid (by kernel_rfl) 164 (.tmp 1) rfl w.heap.size 0 rfl (stCs s lv).toList _ (fun w' h j v hv=>by rw [Nat.zero_add,h.1.cell];simpa using hv) Tryz.underlying164 rfl (by rw [stInfo];rfl)) (by assumption) ?_
 simp only [pA,pB,pC,pD]
 refine wpAnyH_ready (rs:=[3]) (by kernel_rfl) (by simp) ?_
 refine AllReadyH.cons rfl (fun K hK=> ?_) AllReadyH.nil
 go_simp
 go_at_call 195
 obtain⟨hSt,hLn,hBe⟩:=hHeld
 refine(HDU.out _ hLn).mono ?_
 rintro x w4 ⟨rfl,hb⟩
 go_wp2_with fail
 refine hK.out _ _ ⟨hSt.below hb,hLn.below hb,Below.next hBe hb⟩ (fun hHeld=> ?_)
 clear hK K hSt hLn hBe hb
 refine tk 4 rfl ?v_4_210 ?hy_4_210 ?r_4_210
 case hy_4_210=>intro w h;have k1:=h.1.c1;have k6:=h.1.c6;go_simp;try with_reducible rfl
 simp only [pA,pB,pC,pD]
 refine tk 5 rfl ?v_5_211 ?hy_5_211 ?r_5_211
 case hy_5_211=>intro w h;have k1:=h.1.c1;have k6:=h.1.c6;go_simp;try with_reducible rfl
 simp only [pA,pB,pC,pD]
 refine tk 6 rfl ?v_6_212 ?hy_6_212 ?r_6_212
 case hy_6_212=>intro w h;have k1:=h.1.c1;have k6:=h.1.c6;go_simp;try with_reducible rfl
 simp only [pA,pB,pC,pD]
 refine tk 7 rfl ?v_7_213 ?hy_7_213 ?r_7_213
 case hy_7_213=>intro w h;have k1:=h.1.c1;have k6:=h.1.c6;go_simp;try with_reducible rfl
 simp only [pA,pB,pC,pD]
 refine tk 8 rfl ?v_8_214 ?hy_8_214 ?r_8_214
 case hy_8_214=>intro w h;have k1:=h.1.c1;have k6:=h.1.c6;go_simp;try with_reducible rfl
 simp only [pA,pB,pC,pD]
 refine tk 9 rfl ?v_9_215 ?hy_9_215 ?r_9_215
 case hy_9_215=>intro w h;have k1:=h.1.c1;have k6:=h.1.c6;go_simp;try with_reducible rfl
 simp only [pA,pB,pC,pD]
 refine tk 10 rfl ?v_10_216 ?hy_10_216 ?r_10_216
 case hy_10_216=>intro w h;have k1:=h.1.c1;have k6:=h.1.c6;go_simp;try with_reducible rfl
 simp only [pA,pB,pC,pD]
 refine wpAnyH_done (by kernel_rfl) ?_ _
 have HB:=Lib.hid hHeld.2.2
 have d3:w4.cell? ⟨w.heap.size,3,none⟩=some (.int .i64 s.cur):=hHeld.1.cell 3
 have d4:w4.cell? ⟨w.heap.size,4,none⟩=some (.int .i64 s.tax):=hHeld.1.cell 4
 have d5:w4.cell? ⟨w.heap.size,5,none⟩=some (.slice oa s.lines.length cap):=by rw [hHeld.1.cell 5,stCs,HLV.out];rfl
 have d7:w4.cell? ⟨w.heap.size,7,none⟩=some (.int .i64 s.refunded):=hHeld.1.cell 7
 have d8:w4.cell? ⟨w.heap.size,8,none⟩=some (.int .i64 s.events):=hHeld.1.cell 8
 have d9:w4.cell? ⟨w.heap.size,9,none⟩=some (.int .i64 s.refused):=hHeld.1.cell 9
 have d10:w4.cell? ⟨w.heap.size,10,none⟩=some (.int .i64 s.stamp):=hHeld.1.cell 10
 have d11:w4.cell? ⟨w.heap.size,11,none⟩=some (.string ⟨s.who.toArray⟩):=hHeld.1.cell 11
 clear hHeld HE3 HDU
 cases nB
 ·skip
  go_wp2
  go_ret
  exact⟨by rw [HVb.out];rfl,HB.out⟩
 ·by_cases hrf:s.refunded=0
  ·have r1:(s.refunded==0)=true:=by rw [beq_iff_eq];exact hrf
   clear hrf
   go_wp2
   go_ret
   exact⟨by rw [HVb.out,r1];rfl,HB.out⟩
  ·have r1:(s.refunded==0)=false:=by rw [beq_eq_false_iff_ne];exact hrf
   clear hrf
   go_wp2
   go_ret
   exact⟨by rw [HVb.out,r1];rfl,HB.out⟩
set_option maxRecDepth 100000 in
set_option maxHeartbeats 16000000 in
theorem oValid_1_0_2 (s:St) (lv:Value) (w:World) (hr:LnRow w lv s.lines) (hw:s.who.length≤281474976710656) (hf:boundedB s=true) (hm: ¬ dueOf s<s.paid) (hs:s.status=1) (hp:s.prior=0) (g1:(s.paid==dueOf s)=true) (g3:decide (0<s.paid)=true):
  Calls Tryz.prog 160 #[stV s lv] w fun e w'=>e= .returned (.bool (validB s))∧Below w.heap.size w w':=by
 have HVb:=Lib.hid (show validB s=(noneB s.lines&& !true&&s.refunded==0) by
  have h1:validB s=standB s 1:=by unfold validB;rw [hf,decide_eq_true (by omega),hs,hp];rfl
  have h2:(s.paid==dueOf s&&decide (0<s.paid))=true:=by rw [g1,g3];rfl
  rw [h1];unfold standB;rw [h2];rfl)
 have hbp:=bounded_p hf
 have HBO:=Lib.hid (show ∀ W:World,LnRow W lv s.lines→Calls Tryz.prog 194 #[stV s lv] W fun e w'=>e= .returned (.bool true)∧Below W.heap.size W w' from fun W h=>hf▸obounded s lv W h hw)
 obtain⟨D,hD⟩: ∃ D,D=dueOf s:=⟨_,rfl⟩
 have HDU:=Lib.hid (show ∀ W:World,LnRow W lv s.lines→Calls Tryz.prog 195 #[stV s lv] W fun e w'=>e= .returned (.int .i64 D)∧Below W.heap.size W w' from fun W h=>hD▸odue_any s lv W h hbp.fine hbp.few hbp.tax.1 hbp.tax.2)
 have HH:=Lib.hid (show StBlk (w.alloc (.cells (stCs s lv) 164)).drew w.heap.size s lv∧LnRow (w.alloc (.cells (stCs s lv) 164)).drew lv s.lines∧Below w.heap.size w (w.alloc (.cells (stCs s lv) 164)).drew from by
  have hb:Below w.heap.size w (w.alloc (.cells (stCs s lv) 164)):=(Below.refl _ _).alloc (Nat.le_refl _) _
  exact⟨stBlk_alloc w s lv,hr.below (Below.next hb (below_drewN' _ 1)),Below.next hb (below_drewN' _ 1)⟩)
 have HSH:=Lib.hid (show ∀ W:World,LnRow W lv s.lines→Calls Tryz.prog 196 #[stV s lv] W fun e w'=>e= .returned (.tuple #[.bool (noneB s.lines),.bool (wholeB s.lines)])∧Below W.heap.size W w' from fun W h=>oshipped_any s lv W h)
 obtain⟨nB,hnB⟩: ∃ x,x=noneB s.lines:=⟨_,rfl⟩
 obtain⟨wB,hwB⟩: ∃ x,x=wholeB s.lines:=⟨_,rfl⟩
 rw [←hnB,←hwB] at HSH
 rw [←hD] at hm g1
 rw [←hnB] at HVb
 have d1:decide (D<s.paid)=false:=decide_eq_false hm
 have hm2:s.paid≤D:=by omega
 have HS:=Lib.hid hs
 have HP:=Lib.hid hp
 obtain⟨oa,cap,hlv,_,_,_⟩:=hr.shape
 have HLV:=Lib.hid hlv
 clear hr hw hf hbp hD hm hs hp hnB hwB hlv
 go_enter Tryz.func160,Tryz.ntmps160
 go_wp2
 refine wp_region_held_drew (S:=fun w'=>StBlk w' w.heap.size s lv∧LnRow w' lv s.lines∧Below w.heap.size w w') (by kernel_rfl) HH.out (fun hHeld=> ?_)
 refine wpAnyH_take (i:=0) (oi:=⟨_,_,_,_,_,_⟩) (v:=stV s lv) rfl (by kernel_rfl) (by kernel_rfl) (by kernel_rfl) (fun _ _ _ h=>h) (yieldsIf_load_mid (by kernel_rfl) 164 (.tmp 1) rfl w.heap.size 0 rfl (stCs s lv).toList _ (fun w' h j v hv=>by rw [Nat.zero_add,h.1.cell];simpa using hv) Tryz.underlying164 rfl (by rw [stInfo];rfl)) (by assumption) ?_
 simp only [pA,pB,pC,pD]
 refine wpAnyH_ready (rs:=[1]) (by kernel_rfl) (by simp) ?_
 refine AllReadyH.cons rfl (fun K hK=> ?_) AllReadyH.nil
 go_simp
 go_at_call 194
 obtain⟨hSt,hLn,hBe⟩:=hHeld
 refine(HBO.out _ hLn).mono ?_
 rintro x w1 ⟨rfl,hb⟩
 go_wp2_with fail
 refine hK.out _ _ ⟨hSt.below hb,hLn.below hb,Below.next hBe hb⟩ (fun hHeld=> ?_)
 clear hK K hSt hLn hBe hb
 refine tk 2 rfl ?v_2_217 ?hy_2_217 ?r_2_217
 case hy_2_217=>intro w h;have k1:=h.1.c1;have k6:=h.1.c6;go_simp;try with_reducible rfl
 simp only [pA,pB,pC,pD]
 refine tk 3 rfl ?v_3_218 ?hy_3_218 ?r_3_218
 case hy_3_218=>intro w h;have k1:=h.1.c1;have k6:=h.1.c6;go_simp;try with_reducible rfl
 simp only [pA,pB,pC,pD]
 refine tk 4 rfl ?v_4_219 ?hy_4_219 ?r_4_219
 case hy_4_219=>intro w h;have k1:=h.1.c1;have k6:=h.1.c6;go_simp;try with_reducible rfl
 simp only [pA,pB,pC,pD]
 refine tk 5 rfl ?v_5_220 ?hy_5_220 ?r_5_220
 case hy_5_220=>intro w h;have k1:=h.1.c1;have k6:=h.1.c6;go_simp;try with_reducible rfl
 simp only [pA,pB,pC,pD]
 refine wpAnyH_take (i:=6) (oi:=⟨_,_,_,_,_,_⟩) (v:=stV s lv) rfl (by kernel_rfl) (by kernel_rfl) (by kernel_rfl) (fun _ _ _ h=>h) (yieldsIf_load_mid (by kernel_rfl) 164 (.tmp 1) rfl w.heap.size 0 rfl (stCs s lv).toList _ (fun w' h j v hv=>by rw [Nat.zero_add,h.1.cell];simpa using hv) Tryz.underlying164 rfl (by rw [stInfo];rfl)) (by assumption) ?_
 simp only [pA,pB,pC,pD]
 refine wpAnyH_ready (rs:=[7]) (by kernel_rfl) (by simp) ?_
 refine AllReadyH.cons rfl (fun K hK=> ?_) AllReadyH.nil
 go_simp
 go_at_call 195
 obtain⟨hSt,hLn,hBe⟩:=hHeld
 refine(HDU.out _ hLn).mono ?_
 rintro x w2 ⟨rfl,hb⟩
 go_wp2_with fail
 refine hK.out _ _ ⟨hSt.below hb,hLn.below hb,Below.next hBe hb⟩ (fun hHeld=> ?_)
 clear hK K hSt hLn hBe hb
 refine tk 8 rfl ?v_8_221 ?hy_8_221 ?r_8_221
 case hy_8_221=>intro w h;have k1:=h.1.c1;have k6:=h.1.c6;go_simp;try with_reducible rfl
 simp only [pA,pB,pC,pD]
 refine tk 9 rfl ?v_9_222 ?hy_9_222 ?r_9_222
 case hy_9_222=>intro w h;have k1:=h.1.c1;have k6:=h.1.c6;go_simp;try with_reducible rfl
 simp only [pA,pB,pC,pD]
 refine wpAnyH_done (by kernel_rfl) ?_ _
 have c1:w2.cell? ⟨w.heap.size,1,none⟩=some (.int .i64 1):=by rw [hHeld.1.cell 1,stCs,HS.out];rfl
 have c2:w2.cell? ⟨w.heap.size,2,none⟩=some (.int .i64 0):=by rw [hHeld.1.cell 2,stCs,HP.out];rfl
 have HE:=Lib.hid hHeld
 clear hHeld HBO HH
 go_wp2_with (first
  | (with_reducible refine wpList_load_st rfl (.tmp 1) rfl w.heap.size s lv rfl HE.out.1 ?_)
  | (go_at_call 196;refine(HSH.out _ HE.out.2.1).mono ?_;rintro x w3 ⟨rfl,hb⟩;have HE3:=Lib.hid (show StBlk w3 w.heap.size s lv∧LnRow w3 lv s.lines∧Below w.heap.size w w3 from⟨HE.out.1.below hb,HE.out.2.1.below hb,Below.next HE.out.2.2 hb⟩);clear hb))
 clear c1 c2 HE HSH
 refine wp_region_held_drew (S:=fun w'=>StBlk w' w.heap.size s lv∧LnRow w' lv s.lines∧Below w.heap.size w w') (by kernel_rfl) ⟨HE3.out.1,HE3.out.2.1,Below.next HE3.out.2.2 (below_drewN' _ 1)⟩ (fun hHeld=> ?_)
 refine tk 0 rfl ?v_0_223 ?hy_0_223 ?r_0_223
 case hy_0_223=>intro w h;have k1:=h.1.c1;have k6:=h.1.c6;go_simp;try with_reducible rfl
 simp only [pA,pB,pC,pD]
 refine tk 1 rfl ?v_1_224 ?hy_1_224 ?r_1_224
 case hy_1_224=>intro w h;have k1:=h.1.c1;have k6:=h.1.c6;go_simp;try with_reducible rfl
 simp only [pA,pB,pC,pD]
 refine wpAnyH_take (i:=2) (oi:=⟨_,_,_,_,_,_⟩) (v:=stV s lv) rfl (by kernel_rfl) (by kernel_rfl) (by kernel_rfl) (fun _ _ _ h=>h) (yieldsIf_load_mid (by kernel_rfl) 164 (.tmp 1) rfl w.heap.size 0 rfl (stCs s lv).toList _ (fun w' h j v hv=>by rw [Nat.zero_add,h.1.cell];simpa using hv) Tryz.underlying164 rfl (by rw [stInfo];rfl)) (by assumption) ?_
 simp only [pA,pB,pC,pD]
 refine wpAnyH_ready (rs:=[3]) (by kernel_rfl) (by simp) ?_
 refine AllReadyH.cons rfl (fun K hK=> ?_) AllReadyH.nil
 go_simp
 go_at_call 195
 obtain⟨hSt,hLn,hBe⟩:=hHeld
 refine(HDU.out _ hLn).mono ?_
 rintro x w4 ⟨rfl,hb⟩
 go_wp2_with fail
 refine hK.out _ _ ⟨hSt.below hb,hLn.below hb,Below.next hBe hb⟩ (fun hHeld=> ?_)
 clear hK K hSt hLn hBe hb
 refine tk 4 rfl ?v_4_225 ?hy_4_225 ?r_4_225
 case hy_4_225=>intro w h;have k1:=h.1.c1;have k6:=h.1.c6;go_simp;try with_reducible rfl
 simp only [pA,pB,pC,pD]
 refine tk 5 rfl ?v_5_226 ?hy_5_226 ?r_5_226
 case hy_5_226=>intro w h;have k1:=h.1.c1;have k6:=h.1.c6;go_simp;try with_reducible rfl
 simp only [pA,pB,pC,pD]
 refine tk 6 rfl ?v_6_227 ?hy_6_227 ?r_6_227
 case hy_6_227=>intro w h;have k1:=h.1.c1;have k6:=h.1.c6;go_simp;try with_reducible rfl
 simp only [pA,pB,pC,pD]
 refine tk 7 rfl ?v_7_228 ?hy_7_228 ?r_7_228
 case hy_7_228=>intro w h;have k1:=h.1.c1;have k6:=h.1.c6;go_simp;try with_reducible rfl
 simp only [pA,pB,pC,pD]
 refine tk 8 rfl ?v_8_229 ?hy_8_229 ?r_8_229
 case hy_8_229=>intro w h;have k1:=h.1.c1;have k6:=h.1.c6;go_simp;try with_reducible rfl
 simp only [pA,pB,pC,pD]
 refine tk 9 rfl ?v_9_230 ?hy_9_230 ?r_9_230
 case hy_9_230=>intro w h;have k1:=h.1.c1;have k6:=h.1.c6;go_simp;try with_reducible rfl
 simp only [pA,pB,pC,pD]
 refine tk 10 rfl ?v_10_231 ?hy_10_231 ?r_10_231
 case hy_10_231=>intro w h;have k1:=h.1.c1;have k6:=h.1.c6;go_simp;try with_reducible rfl
 simp only [pA,pB,pC,pD]
 refine wpAnyH_done (by kernel_rfl) ?_ _
 have HB:=Lib.hid hHeld.2.2
 have d3:w4.cell? ⟨w.heap.size,3,none⟩=some (.int .i64 s.cur):=hHeld.1.cell 3
 have d4:w4.cell? ⟨w.heap.size,4,none⟩=some (.int .i64 s.tax):=hHeld.1.cell 4
 have d5:w4.cell? ⟨w.heap.size,5,none⟩=some (.slice oa s.lines.length cap):=by rw [hHeld.1.cell 5,stCs,HLV.out];rfl
 have d7:w4.cell? ⟨w.heap.size,7,none⟩=some (.int .i64 s.refunded):=hHeld.1.cell 7
 have d8:w4.cell? ⟨w.heap.size,8,none⟩=some (.int .i64 s.events):=hHeld.1.cell 8
 have d9:w4.cell? ⟨w.heap.size,9,none⟩=some (.int .i64 s.refused):=hHeld.1.cell 9
 have d10:w4.cell? ⟨w.heap.size,10,none⟩=some (.int .i64 s.stamp):=hHeld.1.cell 10
 have d11:w4.cell? ⟨w.heap.size,11,none⟩=some (.string ⟨s.who.toArray⟩):=hHeld.1.cell 11
 clear hHeld HE3 HDU
 cases nB
 ·skip
  go_wp2
  go_ret
  exact⟨by rw [HVb.out];rfl,HB.out⟩
 ·skip
  go_wp2
  go_ret
  exact⟨by rw [HVb.out];rfl,HB.out⟩
end Go.Proofs.YtlobohpbgghleaaGreatDoor

namespace Go.Proofs.YtlobohpbgghleaaGreatDoor
open Go.RowKit
theorem sixB (b1 b2 b3 b4 b5 b6:Bool):b1=false∨(b1=true∧b2=false)∨(b1=true∧b2=true∧b3=false)∨(b1=true∧b2=true∧b3=true∧b4=false)∨(b1=true∧b2=true∧b3=true∧b4=true∧b5=false)∨(b1=true∧b2=true∧b3=true∧b4=true∧b5=true∧b6=false)∨(b1=true∧b2=true∧b3=true∧b4=true∧b5=true∧b6=true):=by
 cases b1<;>cases b2<;>cases b3<;>cases b4<;>cases b5<;>cases b6<;>decide
set_option maxRecDepth 100000 in
set_option maxHeartbeats 16000000 in
theorem oValid_0_0_0 (s:St) (lv:Value) (w:World) (hr:LnRow w lv s.lines) (hw:s.who.length≤281474976710656) (hf:boundedB s=true) (hm: ¬ dueOf s<s.paid) (hs:s.status=0) (hp:s.prior=0) (g1:(s.paid==dueOf s)=false):
  Calls Tryz.prog 160 #[stV s lv] w fun e w'=>e= .returned (.bool (validB s))∧Below w.heap.size w w':=by
 have HVb:=Lib.hid (show validB s=(s.lines.isEmpty&&s.cur==0&&s.tax==0&&s.events==s.refused&&s.stamp==0&&s.who.isEmpty) by
  have h1:validB s=standB s 0:=by unfold validB;rw [hf,decide_eq_true (by omega),hs,hp];rfl
  have h2:(s.paid==dueOf s&&decide (0<s.paid))=false:=by rw [g1];rfl
  rw [h1];unfold standB;rw [h2];rfl)
 have hbp:=bounded_p hf
 have HBO:=Lib.hid (show ∀ W:World,LnRow W lv s.lines→Calls Tryz.prog 194 #[stV s lv] W fun e w'=>e= .returned (.bool true)∧Below W.heap.size W w' from fun W h=>hf▸obounded s lv W h hw)
 obtain⟨D,hD⟩: ∃ D,D=dueOf s:=⟨_,rfl⟩
 have HDU:=Lib.hid (show ∀ W:World,LnRow W lv s.lines→Calls Tryz.prog 195 #[stV s lv] W fun e w'=>e= .returned (.int .i64 D)∧Below W.heap.size W w' from fun W h=>hD▸odue_any s lv W h hbp.fine hbp.few hbp.tax.1 hbp.tax.2)
 have HH:=Lib.hid (show StBlk (w.alloc (.cells (stCs s lv) 164)).drew w.heap.size s lv∧LnRow (w.alloc (.cells (stCs s lv) 164)).drew lv s.lines∧Below w.heap.size w (w.alloc (.cells (stCs s lv) 164)).drew from by
  have hb:Below w.heap.size w (w.alloc (.cells (stCs s lv) 164)):=(Below.refl _ _).alloc (Nat.le_refl _) _
  exact⟨stBlk_alloc w s lv,hr.below (Below.next hb (below_drewN' _ 1)),Below.next hb (below_drewN' _ 1)⟩)
 have HSH:=Lib.hid (show ∀ W:World,LnRow W lv s.lines→Calls Tryz.prog 196 #[stV s lv] W fun e w'=>e= .returned (.tuple #[.bool (noneB s.lines),.bool (wholeB s.lines)])∧Below W.heap.size W w' from fun W h=>oshipped_any s lv W h)
 obtain⟨nB,hnB⟩: ∃ x,x=noneB s.lines:=⟨_,rfl⟩
 obtain⟨wB,hwB⟩: ∃ x,x=wholeB s.lines:=⟨_,rfl⟩
 rw [←hnB,←hwB] at HSH
 rw [←hD] at hm g1
 have d1:decide (D<s.paid)=false:=decide_eq_false hm
 have hm2:s.paid≤D:=by omega
 have HS:=Lib.hid hs
 have HP:=Lib.hid hp
 obtain⟨oa,cap,hlv,_,_,_⟩:=hr.shape
 have HLV:=Lib.hid hlv
 clear hr hw hf hbp hD hm hs hp hnB hwB hlv
 go_enter Tryz.func160,Tryz.ntmps160
 go_wp2
 refine wp_region_held_drew (S:=fun w'=>StBlk w' w.heap.size s lv∧LnRow w' lv s.lines∧Below w.heap.size w w') (by kernel_rfl) HH.out (fun hHeld=> ?_)
 refine wpAnyH_take (i:=0) (oi:=⟨_,_,_,_,_,_⟩) (v:=stV s lv) rfl (by kernel_rfl) (by kernel_rfl) (by kernel_rfl) (fun _ _ _ h=>h) (yieldsIf_load_mid (by kernel_rfl) 164 (.tmp 1) rfl w.heap.size 0 rfl (stCs s lv).toList _ (fun w' h j v hv=>by rw [Nat.zero_add,h.1.cell];simpa using hv) Tryz.underlying164 rfl (by rw [stInfo];rfl)) (by assumption) ?_
 simp only [pA,pB,pC,pD]
 refine wpAnyH_ready (rs:=[1]) (by kernel_rfl) (by simp) ?_
 refine AllReadyH.cons rfl (fun K hK=> ?_) AllReadyH.nil
 go_simp
 go_at_call 194
 obtain⟨hSt,hLn,hBe⟩:=hHeld
 refine(HBO.out _ hLn).mono ?_
 rintro x w1 ⟨rfl,hb⟩
 go_wp2_with fail
 refine hK.out _ _ ⟨hSt.below hb,hLn.below hb,Below.next hBe hb⟩ (fun hHeld=> ?_)
 clear hK K hSt hLn hBe hb
 refine tk 2 rfl ?v_2_232 ?hy_2_232 ?r_2_232
 case hy_2_232=>intro w h;have k1:=h.1.c1;have k6:=h.1.c6;go_simp;try with_reducible rfl
 simp only [pA,pB,pC,pD]
 refine tk 3 rfl ?v_3_233 ?hy_3_233 ?r_3_233
 case hy_3_233=>intro w h;have k1:=h.1.c1;have k6:=h.1.c6;go_simp;try with_reducible rfl
 simp only [pA,pB,pC,pD]
 refine tk 4 rfl ?v_4_234 ?hy_4_234 ?r_4_234
 case hy_4_234=>intro w h;have k1:=h.1.c1;have k6:=h.1.c6;go_simp;try with_reducible rfl
 simp only [pA,pB,pC,pD]
 refine tk 5 rfl ?v_5_235 ?hy_5_235 ?r_5_235
 case hy_5_235=>intro w h;have k1:=h.1.c1;have k6:=h.1.c6;go_simp;try with_reducible rfl
 simp only [pA,pB,pC,pD]
 refine wpAnyH_take (i:=6) (oi:=⟨_,_,_,_,_,_⟩) (v:=stV s lv) rfl (by kernel_rfl) (by kernel_rfl) (by kernel_rfl) (fun _ _ _ h=>h) (yieldsIf_load_mid (by kernel_rfl) 164 (.tmp 1) rfl w.heap.size 0 rfl (stCs s lv).toList _ (fun w' h j v hv=>by rw [Nat.zero_add,h.1.cell];simpa using hv) Tryz.underlying164 rfl (by rw [stInfo];rfl)) (by assumption) ?_
 simp only [pA,pB,pC,pD]
 refine wpAnyH_ready (rs:=[7]) (by kernel_rfl) (by simp) ?_
 refine AllReadyH.cons rfl (fun K hK=> ?_) AllReadyH.nil
 go_simp
 go_at_call 195
 obtain⟨hSt,hLn,hBe⟩:=hHeld
 refine(HDU.out _ hLn).mono ?_
 rintro x w2 ⟨rfl,hb⟩
 go_wp2_with fail
 refine hK.out _ _ ⟨hSt.below hb,hLn.below hb,Below.next hBe hb⟩ (fun hHeld=> ?_)
 clear hK K hSt hLn hBe hb
 refine tk 8 rfl ?v_8_236 ?hy_8_236 ?r_8_236
 case hy_8_236=>intro w h;have k1:=h.1.c1;have k6:=h.1.c6;go_simp;try with_reducible rfl
 simp only [pA,pB,pC,pD]
 refine tk 9 rfl ?v_9_237 ?hy_9_237 ?r_9_237
 case hy_9_237=>intro w h;have k1:=h.1.c1;have k6:=h.1.c6;go_simp;try with_reducible rfl
 simp only [pA,pB,pC,pD]
 refine wpAnyH_done (by kernel_rfl) ?_ _
 have c1:w2.cell? ⟨w.heap.size,1,none⟩=some (.int .i64 0):=by rw [hHeld.1.cell 1,stCs,HS.out];rfl
 have c2:w2.cell? ⟨w.heap.size,2,none⟩=some (.int .i64 0):=by rw [hHeld.1.cell 2,stCs,HP.out];rfl
 have HE:=Lib.hid hHeld
 clear hHeld HBO HH
 go_wp2_with (first
  | (with_reducible refine wpList_load_st rfl (.tmp 1) rfl w.heap.size s lv rfl HE.out.1 ?_)
  | (go_at_call 196;refine(HSH.out _ HE.out.2.1).mono ?_;rintro x w3 ⟨rfl,hb⟩;have HE3:=Lib.hid (show StBlk w3 w.heap.size s lv∧LnRow w3 lv s.lines∧Below w.heap.size w w3 from⟨HE.out.1.below hb,HE.out.2.1.below hb,Below.next HE.out.2.2 hb⟩);clear hb))
 clear c1 c2 HE HSH
 refine wp_region_held_drew (S:=fun w'=>StBlk w' w.heap.size s lv∧LnRow w' lv s.lines∧Below w.heap.size w w') (by kernel_rfl) ⟨HE3.out.1,HE3.out.2.1,Below.next HE3.out.2.2 (below_drewN' _ 1)⟩ (fun hHeld=> ?_)
 refine tk 0 rfl ?v_0_238 ?hy_0_238 ?r_0_238
 case hy_0_238=>intro w h;have k1:=h.1.c1;have k6:=h.1.c6;go_simp;try with_reducible rfl
 simp only [pA,pB,pC,pD]
 refine tk 1 rfl ?v_1_239 ?hy_1_239 ?r_1_239
 case hy_1_239=>intro w h;have k1:=h.1.c1;have k6:=h.1.c6;go_simp;try with_reducible rfl
 simp only [pA,pB,pC,pD]
 refine wpAnyH_take (i:=2) (oi:=⟨_,_,_,_,_,_⟩) (v:=stV s lv) rfl (by kernel_rfl) (by kernel_rfl) (by kernel_rfl) (fun _ _ _ h=>h) (yieldsIf_load_mid (by kernel_rfl) 164 (.tmp 1) rfl w.heap.size 0 rfl (stCs s lv).toList _ (fun w' h j v hv=>by rw [Nat.zero_add,h.1.cell];simpa using hv) Tryz.underlying164 rfl (by rw [stInfo];rfl)) (by assumption) ?_
 simp only [pA,pB,pC,pD]
 refine wpAnyH_ready (rs:=[3]) (by kernel_rfl) (by simp) ?_
 refine AllReadyH.cons rfl (fun K hK=> ?_) AllReadyH.nil
 go_simp
 go_at_call 195
 obtain⟨hSt,hLn,hBe⟩:=hHeld
 refine(HDU.out _ hLn).mono ?_
 rintro x w4 ⟨rfl,hb⟩
 go_wp2_with fail
 refine hK.out _ _ ⟨hSt.below hb,hLn.below hb,Below.next hBe hb⟩ (fun hHeld=> ?_)
 clear hK K hSt hLn hBe hb
 refine tk 4 rfl ?v_4_240 ?hy_4_240 ?r_4_240
 case hy_4_240=>intro w h;have k1:=h.1.c1;have k6:=h.1.c6;go_simp;try with_reducible rfl
 simp only [pA,pB,pC,pD]
 refine tk 5 rfl ?v_5_241 ?hy_5_241 ?r_5_241
 case hy_5_241=>intro w h;have k1:=h.1.c1;have k6:=h.1.c6;go_simp;try with_reducible rfl
 simp only [pA,pB,pC,pD]
 refine tkn 6 rfl ?_
 simp only [pA,pB,pC,pD]
 refine tkn 7 rfl ?_
 simp only [pA,pB,pC,pD]
 refine tkn 8 rfl ?_
 simp only [pA,pB,pC,pD]
 refine tk 9 rfl ?v_9_242 ?hy_9_242 ?r_9_242
 case hy_9_242=>intro w h;have k1:=h.1.c1;have k6:=h.1.c6;go_simp;try with_reducible rfl
 simp only [pA,pB,pC,pD]
 refine tk 10 rfl ?v_10_243 ?hy_10_243 ?r_10_243
 case hy_10_243=>intro w h;have k1:=h.1.c1;have k6:=h.1.c6;go_simp;try with_reducible rfl
 simp only [pA,pB,pC,pD]
 refine wpAnyH_done (by kernel_rfl) ?_ _
 have HB:=Lib.hid hHeld.2.2
 have d3:w4.cell? ⟨w.heap.size,3,none⟩=some (.int .i64 s.cur):=hHeld.1.cell 3
 have d4:w4.cell? ⟨w.heap.size,4,none⟩=some (.int .i64 s.tax):=hHeld.1.cell 4
 have d5:w4.cell? ⟨w.heap.size,5,none⟩=some (.slice oa s.lines.length cap):=by rw [hHeld.1.cell 5,stCs,HLV.out];rfl
 have d7:w4.cell? ⟨w.heap.size,7,none⟩=some (.int .i64 s.refunded):=hHeld.1.cell 7
 have d8:w4.cell? ⟨w.heap.size,8,none⟩=some (.int .i64 s.events):=hHeld.1.cell 8
 have d9:w4.cell? ⟨w.heap.size,9,none⟩=some (.int .i64 s.refused):=hHeld.1.cell 9
 have d10:w4.cell? ⟨w.heap.size,10,none⟩=some (.int .i64 s.stamp):=hHeld.1.cell 10
 have d11:w4.cell? ⟨w.heap.size,11,none⟩=some (.string ⟨s.who.toArray⟩):=hHeld.1.cell 11
 clear hHeld HE3 HDU
 have l1:((s.lines.length:Int)==0)=s.lines.isEmpty:=by cases s.lines<;>simp<;>omega
 rcases sixB s.lines.isEmpty (s.cur==0) (s.tax==0) (s.events==s.refused) (s.stamp==0) s.who.isEmpty with k1 | ⟨k1,k2⟩ | ⟨k1,k2,k3⟩ | ⟨k1,k2,k3,k4⟩ | ⟨k1,k2,k3,k4,k5⟩ | ⟨k1,k2,k3,k4,k5,k6⟩ | ⟨k1,k2,k3,k4,k5,k6⟩
 ·rw [k1] at l1
  go_wp2
  go_ret
  exact⟨by rw [HVb.out,k1];rfl,HB.out⟩
 ·rw [k1] at l1
  go_wp2
  go_ret
  exact⟨by rw [HVb.out,k1,k2];rfl,HB.out⟩
 ·rw [k1] at l1
  go_wp2
  go_ret
  exact⟨by rw [HVb.out,k1,k2,k3];rfl,HB.out⟩
 ·rw [k1] at l1
  go_wp2
  go_ret
  exact⟨by rw [HVb.out,k1,k2,k3,k4];rfl,HB.out⟩
 ·rw [k1] at l1
  go_wp2
  go_ret
  exact⟨by rw [HVb.out,k1,k2,k3,k4,k5];rfl,HB.out⟩
 ·rw [k1] at l1
  go_wp2
  go_ret
  exact⟨by rw [HVb.out,k1,k2,k3,k4,k5,k6];rfl,HB.out⟩
 ·rw [k1] at l1
  go_wp2
  go_ret
  exact⟨by rw [HVb.out,k1,k2,k3,k4,k5,k6];rfl,HB.out⟩
set_option maxRecDepth 100000 in
set_option maxHeartbeats 16000000 in
theorem oValid_0_0_1 (s:St) (lv:Value) (w:World) (hr:LnRow w lv s.lines) (hw:s.who.length≤281474976710656) (hf:boundedB s=true) (hm: ¬ dueOf s<s.paid) (hs:s.status=0) (hp:s.prior=0) (g1:(s.paid==dueOf s)=true) (g3:decide (0<s.paid)=false):
  Calls Tryz.prog 160 #[stV s lv] w fun e w'=>e= .returned (.bool (validB s))∧Below w.heap.size w w':=by
 have HVb:=Lib.hid (show validB s=(s.lines.isEmpty&&s.cur==0&&s.tax==0&&s.events==s.refused&&s.stamp==0&&s.who.isEmpty) by
  have h1:validB s=standB s 0:=by unfold validB;rw [hf,decide_eq_true (by omega),hs,hp];rfl
  have h2:(s.paid==dueOf s&&decide (0<s.paid))=false:=by rw [g1,g3];rfl
  rw [h1];unfold standB;rw [h2];rfl)
 have hbp:=bounded_p hf
 have HBO:=Lib.hid (show ∀ W:World,LnRow W lv s.lines→Calls Tryz.prog 194 #[stV s lv] W fun e w'=>e= .returned (.bool true)∧Below W.heap.size W w' from fun W h=>hf▸obounded s lv W h hw)
 obtain⟨D,hD⟩: ∃ D,D=dueOf s:=⟨_,rfl⟩
 have HDU:=Lib.hid (show ∀ W:World,LnRow W lv s.lines→Calls Tryz.prog 195 #[stV s lv] W fun e w'=>e= .returned (.int .i64 D)∧Below W.heap.size W w' from fun W h=>hD▸odue_any s lv W h hbp.fine hbp.few hbp.tax.1 hbp.tax.2)
 have HH:=Lib.hid (show StBlk (w.alloc (.cells (stCs s lv) 164)).drew w.heap.size s lv∧LnRow (w.alloc (.cells (stCs s lv) 164)).drew lv s.lines∧Below w.heap.size w (w.alloc (.cells (stCs s lv) 164)).drew from by
  have hb:Below w.heap.size w (w.alloc (.cells (stCs s lv) 164)):=(Below.refl _ _).alloc (Nat.le_refl _) _
  exact⟨stBlk_alloc w s lv,hr.below (Below.next hb (below_drewN' _ 1)),Below.next hb (below_drewN' _ 1)⟩)
 have HSH:=Lib.hid (show ∀ W:World,LnRow W lv s.lines→Calls Tryz.prog 196 #[stV s lv] W fun e w'=>e= .returned (.tuple #[.bool (noneB s.lines),.bool (wholeB s.lines)])∧Below W.heap.size W w' from fun W h=>oshipped_any s lv W h)
 obtain⟨nB,hnB⟩: ∃ x,x=noneB s.lines:=⟨_,rfl⟩
 obtain⟨wB,hwB⟩: ∃ x,x=wholeB s.lines:=⟨_,rfl⟩
 rw [←hnB,←hwB] at HSH
 rw [←hD] at hm g1
 have d1:decide (D<s.paid)=false:=decide_eq_false hm
 have hm2:s.paid≤D:=by omega
 have HS:=Lib.hid hs
 have HP:=Lib.hid hp
 obtain⟨oa,cap,hlv,_,_,_⟩:=hr.shape
 have HLV:=Lib.hid hlv
 clear hr hw hf hbp hD hm hs hp hnB hwB hlv
 go_enter Tryz.func160,Tryz.ntmps160
 go_wp2
 refine wp_region_held_drew (S:=fun w'=>StBlk w' w.heap.size s lv∧LnRow w' lv s.lines∧Below w.heap.size w w') (by kernel_rfl) HH.out (fun hHeld=> ?_)
 refine wpAnyH_take (i:=0) (oi:=⟨_,_,_,_,_,_⟩) (v:=stV s lv) rfl (by kernel_rfl) (by kernel_rfl) (by kernel_rfl) (fun _ _ _ h=>h) (yieldsIf_load_mid (by kernel_rfl) 164 (.tmp 1) rfl w.heap.size 0 rfl (stCs s lv).toList _ (fun w' h j v hv=>by rw [Nat.zero_add,h.1.cell];simpa using hv) Tryz.underlying164 rfl (by rw [stInfo];rfl)) (by assumption) ?_
 simp only [pA,pB,pC,pD]
 refine wpAnyH_ready (rs:=[1]) (by kernel_rfl) (by simp) ?_
 refine AllReadyH.cons rfl (fun K hK=> ?_) AllReadyH.nil
 go_simp
 go_at_call 194
 obtain⟨hSt,hLn,hBe⟩:=hHeld
 refine(HBO.out _ hLn).mono ?_
 rintro x w1 ⟨rfl,hb⟩
 go_wp2_with fail
 refine hK.out _ _ ⟨hSt.below hb,hLn.below hb,Below.next hBe hb⟩ (fun hHeld=> ?_)
 clear hK K hSt hLn hBe hb
 refine tk 2 rfl ?v_2_244 ?hy_2_244 ?r_2_244
 case hy_2_244=>intro w h;have k1:=h.1.c1;have k6:=h.1.c6;go_simp;try with_reducible rfl
 simp only [pA,pB,pC,pD]
 refine tk 3 rfl ?v_3_245 ?hy_3_245 ?r_3_245
 case hy_3_245=>intro w h;have k1:=h.1.c1;have k6:=h.1.c6;go_simp;try with_reducible rfl
 simp only [pA,pB,pC,pD]
 refine tk 4 rfl ?v_4_246 ?hy_4_246 ?r_4_246
 case hy_4_246=>intro w h;have k1:=h.1.c1;have k6:=h.1.c6;go_simp;try with_reducible rfl
 simp only [pA,pB,pC,pD]
 refine tk 5 rfl ?v_5_247 ?hy_5_247 ?r_5_247
 case hy_5_247=>intro w h;have k1:=h.1.c1;have k6:=h.1.c6;go_simp;try with_reducible rfl
 simp only [pA,pB,pC,pD]
 refine wpAnyH_take (i:=6) (oi:=⟨_,_,_,_,_,_⟩) (v:=stV s lv) rfl (by kernel_rfl) (by kernel_rfl) (by kernel_rfl) (fun _ _ _ h=>h) (yieldsIf_load_mid (by kernel_rfl) 164 (.tmp 1) rfl w.heap.size 0 rfl (stCs s lv).toList _ (fun w' h j v hv=>by rw [Nat.zero_add,h.1.cell];simpa using hv) Tryz.underlying164 rfl (by rw [stInfo];rfl)) (by assumption) ?_
 simp only [pA,pB,pC,pD]
 refine wpAnyH_ready (rs:=[7]) (by kernel_rfl) (by simp) ?_
 refine AllReadyH.cons rfl (fun K hK=> ?_) AllReadyH.nil
 go_simp
 go_at_call 195
 obtain⟨hSt,hLn,hBe⟩:=hHeld
 refine(HDU.out _ hLn).mono ?_
 rintro x w2 ⟨rfl,hb⟩
 go_wp2_with fail
 refine hK.out _ _ ⟨hSt.below hb,hLn.below hb,Below.next hBe hb⟩ (fun hHeld=> ?_)
 clear hK K hSt hLn hBe hb
 refine tk 8 rfl ?v_8_248 ?hy_8_248 ?r_8_248
 case hy_8_248=>intro w h;have k1:=h.1.c1;have k6:=h.1.c6;go_simp;try with_reducible rfl
 simp only [pA,pB,pC,pD]
 refine tk 9 rfl ?v_9_249 ?hy_9_249 ?r_9_249
 case hy_9_249=>intro w h;have k1:=h.1.c1;have k6:=h.1.c6;go_simp;try with_reducible rfl
 simp only [pA,pB,pC,pD]
 refine wpAnyH_done (by kernel_rfl) ?_ _
 have c1:w2.cell? ⟨w.heap.size,1,none⟩=some (.int .i64 0):=by rw [hHeld.1.cell 1,stCs,HS.out];rfl
 have c2:w2.cell? ⟨w.heap.size,2,none⟩=some (.int .i64 0):=by rw [hHeld.1.cell 2,stCs,HP.out];rfl
 have HE:=Lib.hid hHeld
 clear hHeld HBO HH
 go_wp2_with (first
  | (with_reducible refine wpList_load_st rfl (.tmp 1) rfl w.heap.size s lv rfl HE.out.1 ?_)
  | (go_at_call 196;refine(HSH.out _ HE.out.2.1).mono ?_;rintro x w3 ⟨rfl,hb⟩;have HE3:=Lib.hid (show StBlk w3 w.heap.size s lv∧LnRow w3 lv s.lines∧Below w.heap.size w w3 from⟨HE.out.1.below hb,HE.out.2.1.below hb,Below.next HE.out.2.2 hb⟩);clear hb))
 clear c1 c2 HE HSH
 refine wp_region_held_drew (S:=fun w'=>StBlk w' w.heap.size s lv∧LnRow w' lv s.lines∧Below w.heap.size w w') (by kernel_rfl) ⟨HE3.out.1,HE3.out.2.1,Below.next HE3.out.2.2 (below_drewN' _ 1)⟩ (fun hHeld=> ?_)
 refine tk 0 rfl ?v_0_250 ?hy_0_250 ?r_0_250
 case hy_0_250=>intro w h;have k1:=h.1.c1;have k6:=h.1.c6;go_simp;try with_reducible rfl
 simp only [pA,pB,pC,pD]
 refine tk 1 rfl ?v_1_251 ?hy_1_251 ?r_1_251
 case hy_1_251=>intro w h;have k1:=h.1.c1;have k6:=h.1.c6;go_simp;try with_reducible rfl
 simp only [pA,pB,pC,pD]
 refine wpAnyH_take (i:=2) (oi:=⟨_,_,_,_,_,_⟩) (v:=stV s lv) rfl (by kernel_rfl) (by kernel_rfl) (by kernel_rfl) (fun _ _ _ h=>h) (yieldsIf_load_mid (by kernel_rfl) 164 (.tmp 1) rfl w.heap.size 0 rfl (stCs s lv).toList _ (fun w' h j v hv=>by rw [Nat.zero_add,h.1.cell];simpa using hv) Tryz.underlying164 rfl (by rw [stInfo];rfl)) (by assumption) ?_
 simp only [pA,pB,pC,pD]
 refine wpAnyH_ready (rs:=[3]) (by kernel_rfl) (by simp) ?_
 refine AllReadyH.cons rfl (fun K hK=> ?_) AllReadyH.nil
 go_simp
 go_at_call 195
 obtain⟨hSt,hLn,hBe⟩:=hHeld
 refine(HDU.out _ hLn).mono ?_
 rintro x w4 ⟨rfl,hb⟩
 go_wp2_with fail
 refine hK.out _ _ ⟨hSt.below hb,hLn.below hb,Below.next hBe hb⟩ (fun hHeld=> ?_)
 clear hK K hSt hLn hBe hb
 refine tk 4 rfl ?v_4_252 ?hy_4_252 ?r_4_252
 case hy_4_252=>intro w h;have k1:=h.1.c1;have k6:=h.1.c6;go_simp;try with_reducible rfl
 simp only [pA,pB,pC,pD]
 refine tk 5 rfl ?v_5_253 ?hy_5_253 ?r_5_253
 case hy_5_253=>intro w h;have k1:=h.1.c1;have k6:=h.1.c6;go_simp;try with_reducible rfl
 simp only [pA,pB,pC,pD]
 refine tk 6 rfl ?v_6_254 ?hy_6_254 ?r_6_254
 case hy_6_254=>intro w h;have k1:=h.1.c1;have k6:=h.1.c6;go_simp;try with_reducible rfl
 simp only [pA,pB,pC,pD]
 refine tk 7 rfl ?v_7_255 ?hy_7_255 ?r_7_255
 case hy_7_255=>intro w h;have k1:=h.1.c1;have k6:=h.1.c6;go_simp;try with_reducible rfl
 simp only [pA,pB,pC,pD]
 refine tk 8 rfl ?v_8_256 ?hy_8_256 ?r_8_256
 case hy_8_256=>intro w h;have k1:=h.1.c1;have k6:=h.1.c6;go_simp;try with_reducible rfl
 simp only [pA,pB,pC,pD]
 refine tk 9 rfl ?v_9_257 ?hy_9_257 ?r_9_257
 case hy_9_257=>intro w h;have k1:=h.1.c1;have k6:=h.1.c6;go_simp;try with_reducible rfl
 simp only [pA,pB,pC,pD]
 refine tk 10 rfl ?v_10_258 ?hy_10_258 ?r_10_258
 case hy_10_258=>intro w h;have k1:=h.1.c1;have k6:=h.1.c6;go_simp;try with_reducible rfl
 simp only [pA,pB,pC,pD]
 refine wpAnyH_done (by kernel_rfl) ?_ _
 have HB:=Lib.hid hHeld.2.2
 have d3:w4.cell? ⟨w.heap.size,3,none⟩=some (.int .i64 s.cur):=hHeld.1.cell 3
 have d4:w4.cell? ⟨w.heap.size,4,none⟩=some (.int .i64 s.tax):=hHeld.1.cell 4
 have d5:w4.cell? ⟨w.heap.size,5,none⟩=some (.slice oa s.lines.length cap):=by rw [hHeld.1.cell 5,stCs,HLV.out];rfl
 have d7:w4.cell? ⟨w.heap.size,7,none⟩=some (.int .i64 s.refunded):=hHeld.1.cell 7
 have d8:w4.cell? ⟨w.heap.size,8,none⟩=some (.int .i64 s.events):=hHeld.1.cell 8
 have d9:w4.cell? ⟨w.heap.size,9,none⟩=some (.int .i64 s.refused):=hHeld.1.cell 9
 have d10:w4.cell? ⟨w.heap.size,10,none⟩=some (.int .i64 s.stamp):=hHeld.1.cell 10
 have d11:w4.cell? ⟨w.heap.size,11,none⟩=some (.string ⟨s.who.toArray⟩):=hHeld.1.cell 11
 clear hHeld HE3 HDU
 have l1:((s.lines.length:Int)==0)=s.lines.isEmpty:=by cases s.lines<;>simp<;>omega
 rcases sixB s.lines.isEmpty (s.cur==0) (s.tax==0) (s.events==s.refused) (s.stamp==0) s.who.isEmpty with k1 | ⟨k1,k2⟩ | ⟨k1,k2,k3⟩ | ⟨k1,k2,k3,k4⟩ | ⟨k1,k2,k3,k4,k5⟩ | ⟨k1,k2,k3,k4,k5,k6⟩ | ⟨k1,k2,k3,k4,k5,k6⟩
 ·rw [k1] at l1
  go_wp2
  go_ret
  exact⟨by rw [HVb.out,k1];rfl,HB.out⟩
 ·rw [k1] at l1
  go_wp2
  go_ret
  exact⟨by rw [HVb.out,k1,k2];rfl,HB.out⟩
 ·rw [k1] at l1
  go_wp2
  go_ret
  exact⟨by rw [HVb.out,k1,k2,k3];rfl,HB.out⟩
 ·rw [k1] at l1
  go_wp2
  go_ret
  exact⟨by rw [HVb.out,k1,k2,k3,k4];rfl,HB.out⟩
 ·rw [k1] at l1
  go_wp2
  go_ret
  exact⟨by rw [HVb.out,k1,k2,k3,k4,k5];rfl,HB.out⟩
 ·rw [k1] at l1
  go_wp2
  go_ret
  exact⟨by rw [HVb.out,k1,k2,k3,k4,k5,k6];rfl,HB.out⟩
 ·rw [k1] at l1
  go_wp2
  go_ret
  exact⟨by rw [HVb.out,k1,k2,k3,k4,k5,k6];rfl,HB.out⟩
set_option maxRecDepth 100000 in
set_option maxHeartbeats 16000000 in
theorem oValid_0_0_2 (s:St) (lv:Value) (w:World) (hr:LnRow w lv s.lines) (hw:s.who.length≤281474976710656) (hf:boundedB s=true) (hm: ¬ dueOf s<s.paid) (hs:s.status=0) (hp:s.prior=0) (g1:(s.paid==dueOf s)=true) (g3:decide (0<s.paid)=true):
  Calls Tryz.prog 160 #[stV s lv] w fun e w'=>e= .returned (.bool (validB s))∧Below w.heap.size w w':=by
 have HVb:=Lib.hid (show validB s=(s.lines.isEmpty&&s.cur==0&&s.tax==0&&s.events==s.refused&&s.stamp==0&&s.who.isEmpty) by
  have h1:validB s=standB s 0:=by unfold validB;rw [hf,decide_eq_true (by omega),hs,hp];rfl
  have h2:(s.paid==dueOf s&&decide (0<s.paid))=true:=by rw [g1,g3];rfl
  rw [h1];unfold standB;rw [h2];rfl)
 have hbp:=bounded_p hf
 have HBO:=Lib.hid (show ∀ W:World,LnRow W lv s.lines→Calls Tryz.prog 194 #[stV s lv] W fun e w'=>e= .returned (.bool true)∧Below W.heap.size W w' from fun W h=>hf▸obounded s lv W h hw)
 obtain⟨D,hD⟩: ∃ D,D=dueOf s:=⟨_,rfl⟩
 have HDU:=Lib.hid (show ∀ W:World,LnRow W lv s.lines→Calls Tryz.prog 195 #[stV s lv] W fun e w'=>e= .returned (.int .i64 D)∧Below W.heap.size W w' from fun W h=>hD▸odue_any s lv W h hbp.fine hbp.few hbp.tax.1 hbp.tax.2)
 have HH:=Lib.hid (show StBlk (w.alloc (.cells (stCs s lv) 164)).drew w.heap.size s lv∧LnRow (w.alloc (.cells (stCs s lv) 164)).drew lv s.lines∧Below w.heap.size w (w.alloc (.cells (stCs s lv) 164)).drew from by
  have hb:Below w.heap.size w (w.alloc (.cells (stCs s lv) 164)):=(Below.refl _ _).alloc (Nat.le_refl _) _
  exact⟨stBlk_alloc w s lv,hr.below (Below.next hb (below_drewN' _ 1)),Below.next hb (below_drewN' _ 1)⟩)
 have HSH:=Lib.hid (show ∀ W:World,LnRow W lv s.lines→Calls Tryz.prog 196 #[stV s lv] W fun e w'=>e= .returned (.tuple #[.bool (noneB s.lines),.bool (wholeB s.lines)])∧Below W.heap.size W w' from fun W h=>oshipped_any s lv W h)
 obtain⟨nB,hnB⟩: ∃ x,x=noneB s.lines:=⟨_,rfl⟩
 obtain⟨wB,hwB⟩: ∃ x,x=wholeB s.lines:=⟨_,rfl⟩
 rw [←hnB,←hwB] at HSH
 rw [←hD] at hm g1
 have d1:decide (D<s.paid)=false:=decide_eq_false hm
 have hm2:s.paid≤D:=by omega
 have HS:=Lib.hid hs
 have HP:=Lib.hid hp
 obtain⟨oa,cap,hlv,_,_,_⟩:=hr.shape
 have HLV:=Lib.hid hlv
 clear hr hw hf hbp hD hm hs hp hnB hwB hlv
 go_enter Tryz.func160,Tryz.ntmps160
 go_wp2
 refine wp_region_held_drew (S:=fun w'=>StBlk w' w.heap.size s lv∧LnRow w' lv s.lines∧Below w.heap.size w w') (by kernel_rfl) HH.out (fun hHeld=> ?_)
 refine wpAnyH_take (i:=0) (oi:=⟨_,_,_,_,_,_⟩) (v:=stV s lv) rfl (by kernel_rfl) (by kernel_rfl) (by kernel_rfl) (fun _ _ _ h=>h) (yieldsIf_load_mid (by kernel_rfl) 164 (.tmp 1) rfl w.heap.size 0 rfl (stCs s lv).toList _ (fun w' h j v hv=>by rw [Nat.zero_add,h.1.cell];simpa using hv) Tryz.underlying164 rfl (by rw [stInfo];rfl)) (by assumption) ?_
 simp only [pA,pB,pC,pD]
 refine wpAnyH_ready (rs:=[1]) (by kernel_rfl) (by simp) ?_
 refine AllReadyH.cons rfl (fun K hK=> ?_) AllReadyH.nil
 go_simp
 go_at_call 194
 obtain⟨hSt,hLn,hBe⟩:=hHeld
 refine(HBO.out _ hLn).mono ?_
 rintro x w1 ⟨rfl,hb⟩
 go_wp2_with fail
 refine hK.out _ _ ⟨hSt.below hb,hLn.below hb,Below.next hBe hb⟩ (fun hHeld=> ?_)
 clear hK K hSt hLn hBe hb
 refine tk 2 rfl ?v_2_259 ?hy_2_259 ?r_2_259
 case hy_2_259=>intro w h;have k1:=h.1.c1;have k6:=h.1.c6;go_simp;try with_reducible rfl
 simp only [pA,pB,pC,pD]
 refine tk 3 rfl ?v_3_260 ?hy_3_260 ?r_3_260
 case hy_3_260=>intro w h;have k1:=h.1.c1;have k6:=h.1.c6;go_simp;try with_reducible rfl
 simp only [pA,pB,pC,pD]
 refine tk 4 rfl ?v_4_261 ?hy_4_261 ?r_4_261
 case hy_4_261=>intro w h;have k1:=h.1.c1;have k6:=h.1.c6;go_simp;try with_reducible rfl
 simp only [pA,pB,pC,pD]
 refine tk 5 rfl ?v_5_262 ?hy_5_262 ?r_5_262
 case hy_5_262=>intro w h;have k1:=h.1.c1;have k6:=h.1.c6;go_simp;try with_reducible rfl
 simp only [pA,pB,pC,pD]
 refine wpAnyH_take (i:=6) (oi:=⟨_,_,_,_,_,_⟩) (v:=stV s lv) rfl (by kernel_rfl) (by kernel_rfl) (by kernel_rfl) (fun _ _ _ h=>h) (yieldsIf_load_mid (by kernel_rfl) 164 (.tmp 1) rfl w.heap.size 0 rfl (stCs s lv).toList _ (fun w' h j v hv=>by rw [Nat.zero_add,h.1.cell];simpa using hv) Tryz.underlying164 rfl (by rw [stInfo];rfl)) (by assumption) ?_
 simp only [pA,pB,pC,pD]
 refine wpAnyH_ready (rs:=[7]) (by kernel_rfl) (by simp) ?_
 refine AllReadyH.cons rfl (fun K hK=> ?_) AllReadyH.nil
 go_simp
 go_at_call 195
 obtain⟨hSt,hLn,hBe⟩:=hHeld
 refine(HDU.out _ hLn).mono ?_
 rintro x w2 ⟨rfl,hb⟩
 go_wp2_with fail
 refine hK.out _ _ ⟨hSt.below hb,hLn.below hb,Below.next hBe hb⟩ (fun hHeld=> ?_)
 clear hK K hSt hLn hBe hb
 refine tk 8 rfl ?v_8_263 ?hy_8_263 ?r_8_263
 case hy_8_263=>intro w h;have k1:=h.1.c1;have k6:=h.1.c6;go_simp;try with_reducible rfl
 simp only [pA,pB,pC,pD]
 refine tk 9 rfl ?v_9_264 ?hy_9_264 ?r_9_264
 case hy_9_264=>intro w h;have k1:=h.1.c1;have k6:=h.1.c6;go_simp;try with_reducible rfl
 simp only [pA,pB,pC,pD]
 refine wpAnyH_done (by kernel_rfl) ?_ _
 have c1:w2.cell? ⟨w.heap.size,1,none⟩=some (.int .i64 0):=by rw [hHeld.1.cell 1,stCs,HS.out];rfl
 have c2:w2.cell? ⟨w.heap.size,2,none⟩=some (.int .i64 0):=by rw [hHeld.1.cell 2,stCs,HP.out];rfl
 have HE:=Lib.hid hHeld
 clear hHeld HBO HH
 go_wp2_with (first
  | (with_reducible refine wpList_load_st rfl (.tmp 1) rfl w.heap.size s lv rfl HE.out.1 ?_)
  | (go_at_call 196;refine(HSH.out _ HE.out.2.1).mono ?_;rintro x w3 ⟨rfl,hb⟩;have HE3:=Lib.hid (show StBlk w3 w.heap.size s lv∧LnRow w3 lv s.lines∧Below w.heap.size w w3 from⟨HE.out.1.below hb,HE.out.2.1.below hb,Below.next HE.out.2.2 hb⟩);clear hb))
 clear c1 c2 HE HSH
 refine wp_region_held_drew (S:=fun w'=>StBlk w' w.heap.size s lv∧LnRow w' lv s.lines∧Below w.heap.size w w') (by kernel_rfl) ⟨HE3.out.1,HE3.out.2.1,Below.next HE3.out.2.2 (below_drewN' _ 1)⟩ (fun hHeld=> ?_)
 refine tk 0 rfl ?v_0_265 ?hy_0_265 ?r_0_265
 case hy_0_265=>intro w h;have k1:=h.1.c1;have k6:=h.1.c6;go_simp;try with_reducible rfl
 simp only [pA,pB,pC,pD]
 refine tk 1 rfl ?v_1_266 ?hy_1_266 ?r_1_266
 case hy_1_266=>intro w h;have k1:=h.1.c1;have k6:=h.1.c6;go_simp;try with_reducible rfl
 simp only [pA,pB,pC,pD]
 refine wpAnyH_take (i:=2) (oi:=⟨_,_,_,_,_,_⟩) (v:=stV s lv) rfl (by kernel_rfl) (by kernel_rfl) (by kernel_rfl) (fun _ _ _ h=>h) (yieldsIf_load_mid (by kernel_rfl) 164 (.tmp 1) rfl w.heap.size 0 rfl (stCs s lv).toList _ (fun w' h j v hv=>by rw [Nat.zero_add,h.1.cell];simpa using hv) Tryz.underlying164 rfl (by rw [stInfo];rfl)) (by assumption) ?_
 simp only [pA,pB,pC,pD]
 refine wpAnyH_ready (rs:=[3]) (by kernel_rfl) (by simp) ?_
 refine AllReadyH.cons rfl (fun K hK=> ?_) AllReadyH.nil
 go_simp
 go_at_call 195
 obtain⟨hSt,hLn,hBe⟩:=hHeld
 refine(HDU.out _ hLn).mono ?_
 rintro x w4 ⟨rfl,hb⟩
 go_wp2_with fail
 refine hK.out _ _ ⟨hSt.below hb,hLn.below hb,Below.next hBe hb⟩ (fun hHeld=> ?_)
 clear hK K hSt hLn hBe hb
 refine tk 4 rfl ?v_4_267 ?hy_4_267 ?r_4_267
 case hy_4_267=>intro w h;have k1:=h.1.c1;have k6:=h.1.c6;go_simp;try with_reducible rfl
 simp only [pA,pB,pC,pD]
 refine tk 5 rfl ?v_5_268 ?hy_5_268 ?r_5_268
 case hy_5_268=>intro w h;have k1:=h.1.c1;have k6:=h.1.c6;go_simp;try with_reducible rfl
 simp only [pA,pB,pC,pD]
 refine tk 6 rfl ?v_6_269 ?hy_6_269 ?r_6_269
 case hy_6_269=>intro w h;have k1:=h.1.c1;have k6:=h.1.c6;go_simp;try with_reducible rfl
 simp only [pA,pB,pC,pD]
 refine tk 7 rfl ?v_7_270 ?hy_7_270 ?r_7_270
 case hy_7_270=>intro w h;have k1:=h.1.c1;have k6:=h.1.c6;go_simp;try with_reducible rfl
 simp only [pA,pB,pC,pD]
 refine tk 8 rfl ?v_8_271 ?hy_8_271 ?r_8_271
 case hy_8_271=>intro w h;have k1:=h.1.c1;have k6:=h.1.c6;go_simp;try with_reducible rfl
 simp only [pA,pB,pC,pD]
 refine tk 9 rfl ?v_9_272 ?hy_9_272 ?r_9_272
 case hy_9_272=>intro w h;have k1:=h.1.c1;have k6:=h.1.c6;go_simp;try with_reducible rfl
 simp only [pA,pB,pC,pD]
 refine tk 10 rfl ?v_10_273 ?hy_10_273 ?r_10_273
 case hy_10_273=>intro w h;have k1:=h.1.c1;have k6:=h.1.c6;go_simp;try with_reducible rfl
 simp only [pA,pB,pC,pD]
 refine wpAnyH_done (by kernel_rfl) ?_ _
 have HB:=Lib.hid hHeld.2.2
 have d3:w4.cell? ⟨w.heap.size,3,none⟩=some (.int .i64 s.cur):=hHeld.1.cell 3
 have d4:w4.cell? ⟨w.heap.size,4,none⟩=some (.int .i64 s.tax):=hHeld.1.cell 4
 have d5:w4.cell? ⟨w.heap.size,5,none⟩=some (.slice oa s.lines.length cap):=by rw [hHeld.1.cell 5,stCs,HLV.out];rfl
 have d7:w4.cell? ⟨w.heap.size,7,none⟩=some (.int .i64 s.refunded):=hHeld.1.cell 7
 have d8:w4.cell? ⟨w.heap.size,8,none⟩=some (.int .i64 s.events):=hHeld.1.cell 8
 have d9:w4.cell? ⟨w.heap.size,9,none⟩=some (.int .i64 s.refused):=hHeld.1.cell 9
 have d10:w4.cell? ⟨w.heap.size,10,none⟩=some (.int .i64 s.stamp):=hHeld.1.cell 10
 have d11:w4.cell? ⟨w.heap.size,11,none⟩=some (.string ⟨s.who.toArray⟩):=hHeld.1.cell 11
 clear hHeld HE3 HDU
 have l1:((s.lines.length:Int)==0)=s.lines.isEmpty:=by cases s.lines<;>simp<;>omega
 rcases sixB s.lines.isEmpty (s.cur==0) (s.tax==0) (s.events==s.refused) (s.stamp==0) s.who.isEmpty with k1 | ⟨k1,k2⟩ | ⟨k1,k2,k3⟩ | ⟨k1,k2,k3,k4⟩ | ⟨k1,k2,k3,k4,k5⟩ | ⟨k1,k2,k3,k4,k5,k6⟩ | ⟨k1,k2,k3,k4,k5,k6⟩
 ·rw [k1] at l1
  go_wp2
  go_ret
  exact⟨by rw [HVb.out,k1];rfl,HB.out⟩
 ·rw [k1] at l1
  go_wp2
  go_ret
  exact⟨by rw [HVb.out,k1,k2];rfl,HB.out⟩
 ·rw [k1] at l1
  go_wp2
  go_ret
  exact⟨by rw [HVb.out,k1,k2,k3];rfl,HB.out⟩
 ·rw [k1] at l1
  go_wp2
  go_ret
  exact⟨by rw [HVb.out,k1,k2,k3,k4];rfl,HB.out⟩
 ·rw [k1] at l1
  go_wp2
  go_ret
  exact⟨by rw [HVb.out,k1,k2,k3,k4,k5];rfl,HB.out⟩
 ·rw [k1] at l1
  go_wp2
  go_ret
  exact⟨by rw [HVb.out,k1,k2,k3,k4,k5,k6];rfl,HB.out⟩
 ·rw [k1] at l1
  go_wp2
  go_ret
  exact⟨by rw [HVb.out,k1,k2,k3,k4,k5,k6];rfl,HB.out⟩
set_option maxRecDepth 100000 in
set_option maxHeartbeats 16000000 in
theorem oValid_2_3_0 (s:St) (lv:Value) (w:World) (hr:LnRow w lv s.lines) (hw:s.who.length≤281474976710656) (hf:boundedB s=true) (hm: ¬ dueOf s<s.paid) (hs:s.status=2) (hp:s.prior=3) (g1:(s.paid==dueOf s)=false):
  Calls Tryz.prog 160 #[stV s lv] w fun e w'=>e= .returned (.bool (validB s))∧Below w.heap.size w w':=by
 have HVb:=Lib.hid (show validB s=(false&& !wholeB s.lines) by
  have h1:validB s=standB s 3:=by unfold validB;rw [hf,decide_eq_true (by omega),hs,hp];rfl
  have h2:(s.paid==dueOf s&&decide (0<s.paid))=false:=by rw [g1];rfl
  rw [h1];unfold standB;rw [h2];rfl)
 have hbp:=bounded_p hf
 have HBO:=Lib.hid (show ∀ W:World,LnRow W lv s.lines→Calls Tryz.prog 194 #[stV s lv] W fun e w'=>e= .returned (.bool true)∧Below W.heap.size W w' from fun W h=>hf▸obounded s lv W h hw)
 obtain⟨D,hD⟩: ∃ D,D=dueOf s:=⟨_,rfl⟩
 have HDU:=Lib.hid (show ∀ W:World,LnRow W lv s.lines→Calls Tryz.prog 195 #[stV s lv] W fun e w'=>e= .returned (.int .i64 D)∧Below W.heap.size W w' from fun W h=>hD▸odue_any s lv W h hbp.fine hbp.few hbp.tax.1 hbp.tax.2)
 have HH:=Lib.hid (show StBlk (w.alloc (.cells (stCs s lv) 164)).drew w.heap.size s lv∧LnRow (w.alloc (.cells (stCs s lv) 164)).drew lv s.lines∧Below w.heap.size w (w.alloc (.cells (stCs s lv) 164)).drew from by
  have hb:Below w.heap.size w (w.alloc (.cells (stCs s lv) 164)):=(Below.refl _ _).alloc (Nat.le_refl _) _
  exact⟨stBlk_alloc w s lv,hr.below (Below.next hb (below_drewN' _ 1)),Below.next hb (below_drewN' _ 1)⟩)
 have HSH:=Lib.hid (show ∀ W:World,LnRow W lv s.lines→Calls Tryz.prog 196 #[stV s lv] W fun e w'=>e= .returned (.tuple #[.bool (noneB s.lines),.bool (wholeB s.lines)])∧Below W.heap.size W w' from fun W h=>oshipped_any s lv W h)
 obtain⟨nB,hnB⟩: ∃ x,x=noneB s.lines:=⟨_,rfl⟩
 obtain⟨wB,hwB⟩: ∃ x,x=wholeB s.lines:=⟨_,rfl⟩
 rw [←hnB,←hwB] at HSH
 rw [←hD] at hm g1
 rw [←hwB] at HVb
 have d1:decide (D<s.paid)=false:=decide_eq_false hm
 have hm2:s.paid≤D:=by omega
 have HS:=Lib.hid hs
 have HP:=Lib.hid hp
 obtain⟨oa,cap,hlv,_,_,_⟩:=hr.shape
 have HLV:=Lib.hid hlv
 clear hr hw hf hbp hD hm hs hp hnB hwB hlv
 go_enter Tryz.func160,Tryz.ntmps160
 go_wp2
 refine wp_region_held_drew (S:=fun w'=>StBlk w' w.heap.size s lv∧LnRow w' lv s.lines∧Below w.heap.size w w') (by kernel_rfl) HH.out (fun hHeld=> ?_)
 refine wpAnyH_take (i:=0) (oi:=⟨_,_,_,_,_,_⟩) (v:=stV s lv) rfl (by kernel_rfl) (by kernel_rfl) (by kernel_rfl) (fun _ _ _ h=>h) (yieldsIf_load_mid (by kernel_rfl) 164 (.tmp 1) rfl w.heap.size 0 rfl (stCs s lv).toList _ (fun w' h j v hv=>by rw [Nat.zero_add,h.1.cell];simpa using hv) Tryz.underlying164 rfl (by rw [stInfo];rfl)) (by assumption) ?_
 simp only [pA,pB,pC,pD]
 refine wpAnyH_ready (rs:=[1]) (by kernel_rfl) (by simp) ?_
 refine AllReadyH.cons rfl (fun K hK=> ?_) AllReadyH.nil
 go_simp
 go_at_call 194
 obtain⟨hSt,hLn,hBe⟩:=hHeld
 refine(HBO.out _ hLn).mono ?_
 rintro x w1 ⟨rfl,hb⟩
 go_wp2_with fail
 refine hK.out _ _ ⟨hSt.below hb,hLn.below hb,Below.next hBe hb⟩ (fun hHeld=> ?_)
 clear hK K hSt hLn hBe hb
 refine tk 2 rfl ?v_2_274 ?hy_2_274 ?r_2_274
 case hy_2_274=>intro w h;have k1:=h.1.c1;have k6:=h.1.c6;go_simp;try with_reducible rfl
 simp only [pA,pB,pC,pD]
 refine tk 3 rfl ?v_3_275 ?hy_3_275 ?r_3_275
 case hy_3_275=>intro w h;have k1:=h.1.c1;have k6:=h.1.c6;go_simp;try with_reducible rfl
 simp only [pA,pB,pC,pD]
 refine tk 4 rfl ?v_4_276 ?hy_4_276 ?r_4_276
 case hy_4_276=>intro w h;have k1:=h.1.c1;have k6:=h.1.c6;go_simp;try with_reducible rfl
 simp only [pA,pB,pC,pD]
 refine tk 5 rfl ?v_5_277 ?hy_5_277 ?r_5_277
 case hy_5_277=>intro w h;have k1:=h.1.c1;have k6:=h.1.c6;go_simp;try with_reducible rfl
 simp only [pA,pB,pC,pD]
 refine wpAnyH_take (i:=6) (oi:=⟨_,_,_,_,_,_⟩) (v:=stV s lv) rfl (by kernel_rfl) (by kernel_rfl) (by kernel_rfl) (fun _ _ _ h=>h) (yieldsIf_load_mid (by kernel_rfl) 164 (.tmp 1) rfl w.heap.size 0 rfl (stCs s lv).toList _ (fun w' h j v hv=>by rw [Nat.zero_add,h.1.cell];simpa using hv) Tryz.underlying164 rfl (by rw [stInfo];rfl)) (by assumption) ?_
 simp only [pA,pB,pC,pD]
 refine wpAnyH_ready (rs:=[7]) (by kernel_rfl) (by simp) ?_
 refine AllReadyH.cons rfl (fun K hK=> ?_) AllReadyH.nil
 go_simp
 go_at_call 195
 obtain⟨hSt,hLn,hBe⟩:=hHeld
 refine(HDU.out _ hLn).mono ?_
 rintro x w2 ⟨rfl,hb⟩
 go_wp2_with fail
 refine hK.out _ _ ⟨hSt.below hb,hLn.below hb,Below.next hBe hb⟩ (fun hHeld=> ?_)
 clear hK K hSt hLn hBe hb
 refine tk 8 rfl ?v_8_278 ?hy_8_278 ?r_8_278
 case hy_8_278=>intro w h;have k1:=h.1.c1;have k6:=h.1.c6;go_simp;try with_reducible rfl
 simp only [pA,pB,pC,pD]
 refine tk 9 rfl ?v_9_279 ?hy_9_279 ?r_9_279
 case hy_9_279=>intro w h;have k1:=h.1.c1;have k6:=h.1.c6;go_simp;try with_reducible rfl
 simp only [pA,pB,pC,pD]
 refine wpAnyH_done (by kernel_rfl) ?_ _
 have c1:w2.cell? ⟨w.heap.size,1,none⟩=some (.int .i64 2):=by rw [hHeld.1.cell 1,stCs,HS.out];rfl
 have c2:w2.cell? ⟨w.heap.size,2,none⟩=some (.int .i64 3):=by rw [hHeld.1.cell 2,stCs,HP.out];rfl
 have HE:=Lib.hid hHeld
 clear hHeld HBO HH
 go_wp2_with (first
  | (with_reducible refine wpList_load_st rfl (.tmp 1) rfl w.heap.size s lv rfl HE.out.1 ?_)
  | (go_at_call 196;refine(HSH.out _ HE.out.2.1).mono ?_;rintro x w3 ⟨rfl,hb⟩;have HE3:=Lib.hid (show StBlk w3 w.heap.size s lv∧LnRow w3 lv s.lines∧Below w.heap.size w w3 from⟨HE.out.1.below hb,HE.out.2.1.below hb,Below.next HE.out.2.2 hb⟩);clear hb))
 clear c1 c2 HE HSH
 refine wp_region_held_drew (S:=fun w'=>StBlk w' w.heap.size s lv∧LnRow w' lv s.lines∧Below w.heap.size w w') (by kernel_rfl) ⟨HE3.out.1,HE3.out.2.1,Below.next HE3.out.2.2 (below_drewN' _ 1)⟩ (fun hHeld=> ?_)
 refine tk 0 rfl ?v_0_280 ?hy_0_280 ?r_0_280
 case hy_0_280=>intro w h;have k1:=h.1.c1;have k6:=h.1.c6;go_simp;try with_reducible rfl
 simp only [pA,pB,pC,pD]
 refine tk 1 rfl ?v_1_281 ?hy_1_281 ?r_1_281
 case hy_1_281=>intro w h;have k1:=h.1.c1;have k6:=h.1.c6;go_simp;try with_reducible rfl
 simp only [pA,pB,pC,pD]
 refine wpAnyH_take (i:=2) (oi:=⟨_,_,_,_,_,_⟩) (v:=stV s lv) rfl (by kernel_rfl) (by kernel_rfl) (by kernel_rfl) (fun _ _ _ h=>h) (yieldsIf_load_mid (by kernel_rfl) 164 (.tmp 1) rfl w.heap.size 0 rfl (stCs s lv).toList _ (fun w' h j v hv=>by rw [Nat.zero_add,h.1.cell];simpa using hv) Tryz.underlying164 rfl (by rw [stInfo];rfl)) (by assumption) ?_
 simp only [pA,pB,pC,pD]
 refine wpAnyH_ready (rs:=[3]) (by kernel_rfl) (by simp) ?_
 refine AllReadyH.cons rfl (fun K hK=> ?_) AllReadyH.nil
 go_simp
 go_at_call 195
 obtain⟨hSt,hLn,hBe⟩:=hHeld
 refine(HDU.out _ hLn).mono ?_
 rintro x w4 ⟨rfl,hb⟩
 go_wp2_with fail
 refine hK.out _ _ ⟨hSt.below hb,hLn.below hb,Below.next hBe hb⟩ (fun hHeld=> ?_)
 clear hK K hSt hLn hBe hb
 refine tk 4 rfl ?v_4_282 ?hy_4_282 ?r_4_282
 case hy_4_282=>intro w h;have k1:=h.1.c1;have k6:=h.1.c6;go_simp;try with_reducible rfl
 simp only [pA,pB,pC,pD]
 refine tk 5 rfl ?v_5_283 ?hy_5_283 ?r_5_283
 case hy_5_283=>intro w h;have k1:=h.1.c1;have k6:=h.1.c6;go_simp;try with_reducible rfl
 simp only [pA,pB,pC,pD]
 refine tkn 6 rfl ?_
 simp only [pA,pB,pC,pD]
 refine tkn 7 rfl ?_
 simp only [pA,pB,pC,pD]
 refine tkn 8 rfl ?_
 simp only [pA,pB,pC,pD]
 refine tk 9 rfl ?v_9_284 ?hy_9_284 ?r_9_284
 case hy_9_284=>intro w h;have k1:=h.1.c1;have k6:=h.1.c6;go_simp;try with_reducible rfl
 simp only [pA,pB,pC,pD]
 refine tk 10 rfl ?v_10_285 ?hy_10_285 ?r_10_285
 case hy_10_285=>intro w h;have k1:=h.1.c1;have k6:=h.1.c6;go_simp;try with_reducible rfl
 simp only [pA,pB,pC,pD]
 refine wpAnyH_done (by kernel_rfl) ?_ _
 have HB:=Lib.hid hHeld.2.2
 have d3:w4.cell? ⟨w.heap.size,3,none⟩=some (.int .i64 s.cur):=hHeld.1.cell 3
 have d4:w4.cell? ⟨w.heap.size,4,none⟩=some (.int .i64 s.tax):=hHeld.1.cell 4
 have d5:w4.cell? ⟨w.heap.size,5,none⟩=some (.slice oa s.lines.length cap):=by rw [hHeld.1.cell 5,stCs,HLV.out];rfl
 have d7:w4.cell? ⟨w.heap.size,7,none⟩=some (.int .i64 s.refunded):=hHeld.1.cell 7
 have d8:w4.cell? ⟨w.heap.size,8,none⟩=some (.int .i64 s.events):=hHeld.1.cell 8
 have d9:w4.cell? ⟨w.heap.size,9,none⟩=some (.int .i64 s.refused):=hHeld.1.cell 9
 have d10:w4.cell? ⟨w.heap.size,10,none⟩=some (.int .i64 s.stamp):=hHeld.1.cell 10
 have d11:w4.cell? ⟨w.heap.size,11,none⟩=some (.string ⟨s.who.toArray⟩):=hHeld.1.cell 11
 clear hHeld HE3 HDU
 go_wp2
 go_ret
 exact⟨by rw [HVb.out];rfl,HB.out⟩
set_option maxRecDepth 100000 in
set_option maxHeartbeats 16000000 in
theorem oValid_2_3_1 (s:St) (lv:Value) (w:World) (hr:LnRow w lv s.lines) (hw:s.who.length≤281474976710656) (hf:boundedB s=true) (hm: ¬ dueOf s<s.paid) (hs:s.status=2) (hp:s.prior=3) (g1:(s.paid==dueOf s)=true) (g3:decide (0<s.paid)=false):
  Calls Tryz.prog 160 #[stV s lv] w fun e w'=>e= .returned (.bool (validB s))∧Below w.heap.size w w':=by
 have HVb:=Lib.hid (show validB s=(false&& !wholeB s.lines) by
  have h1:validB s=standB s 3:=by unfold validB;rw [hf,decide_eq_true (by omega),hs,hp];rfl
  have h2:(s.paid==dueOf s&&decide (0<s.paid))=false:=by rw [g1,g3];rfl
  rw [h1];unfold standB;rw [h2];rfl)
 have hbp:=bounded_p hf
 have HBO:=Lib.hid (show ∀ W:World,LnRow W lv s.lines→Calls Tryz.prog 194 #[stV s lv] W fun e w'=>e= .returned (.bool true)∧Below W.heap.size W w' from fun W h=>hf▸obounded s lv W h hw)
 obtain⟨D,hD⟩: ∃ D,D=dueOf s:=⟨_,rfl⟩
 have HDU:=Lib.hid (show ∀ W:World,LnRow W lv s.lines→Calls Tryz.prog 195 #[stV s lv] W fun e w'=>e= .returned (.int .i64 D)∧Below W.heap.size W w' from fun W h=>hD▸odue_any s lv W h hbp.fine hbp.few hbp.tax.1 hbp.tax.2)
 have HH:=Lib.hid (show StBlk (w.alloc (.cells (stCs s lv) 164)).drew w.heap.size s lv∧LnRow (w.alloc (.cells (stCs s lv) 164)).drew lv s.lines∧Below w.heap.size w (w.alloc (.cells (stCs s lv) 164)).drew from by
  have hb:Below w.heap.size w (w.alloc (.cells (stCs s lv) 164)):=(Below.refl _ _).alloc (Nat.le_refl _) _
  exact⟨stBlk_alloc w s lv,hr.below (Below.next hb (below_drewN' _ 1)),Below.next hb (below_drewN' _ 1)⟩)
 have HSH:=Lib.hid (show ∀ W:World,LnRow W lv s.lines→Calls Tryz.prog 196 #[stV s lv] W fun e w'=>e= .returned (.tuple #[.bool (noneB s.lines),.bool (wholeB s.lines)])∧Below W.heap.size W w' from fun W h=>oshipped_any s lv W h)
 obtain⟨nB,hnB⟩: ∃ x,x=noneB s.lines:=⟨_,rfl⟩
 obtain⟨wB,hwB⟩: ∃ x,x=wholeB s.lines:=⟨_,rfl⟩
 rw [←hnB,←hwB] at HSH
 rw [←hD] at hm g1
 rw [←hwB] at HVb
 have d1:decide (D<s.paid)=false:=decide_eq_false hm
 have hm2:s.paid≤D:=by omega
 have HS:=Lib.hid hs
 have HP:=Lib.hid hp
 obtain⟨oa,cap,hlv,_,_,_⟩:=hr.shape
 have HLV:=Lib.hid hlv
 clear hr hw hf hbp hD hm hs hp hnB hwB hlv
 go_enter Tryz.func160,Tryz.ntmps160
 go_wp2
 refine wp_region_held_drew (S:=fun w'=>StBlk w' w.heap.size s lv∧LnRow w' lv s.lines∧Below w.heap.size w w') (by kernel_rfl) HH.out (fun hHeld=> ?_)
 refine wpAnyH_take (i:=0) (oi:=⟨_,_,_,_,_,_⟩) (v:=stV s lv) rfl (by kernel_rfl) (by kernel_rfl) (by kernel_rfl) (fun _ _ _ h=>h) (yieldsIf_load_mid (by kernel_rfl) 164 (.tmp 1) rfl w.heap.size 0 rfl (stCs s lv).toList _ (fun w' h j v hv=>by rw [Nat.zero_add,h.1.cell];simpa using hv) Tryz.underlying164 rfl (by rw [stInfo];rfl)) (by assumption) ?_
 simp only [pA,pB,pC,pD]
 refine wpAnyH_ready (rs:=[1]) (by kernel_rfl) (by simp) ?_
 refine AllReadyH.cons rfl (fun K hK=> ?_) AllReadyH.nil
 go_simp
 go_at_call 194
 obtain⟨hSt,hLn,hBe⟩:=hHeld
 refine(HBO.out _ hLn).mono ?_
 rintro x w1 ⟨rfl,hb⟩
 go_wp2_with fail
 refine hK.out _ _ ⟨hSt.below hb,hLn.below hb,Below.next hBe hb⟩ (fun hHeld=> ?_)
 clear hK K hSt hLn hBe hb
 refine tk 2 rfl ?v_2_286 ?hy_2_286 ?r_2_286
 case hy_2_286=>intro w h;have k1:=h.1.c1;have k6:=h.1.c6;go_simp;try with_reducible rfl
 simp only [pA,pB,pC,pD]
 refine tk 3 rfl ?v_3_287 ?hy_3_287 ?r_3_287
 case hy_3_287=>intro w h;have k1:=h.1.c1;have k6:=h.1.c6;go_simp;try with_reducible rfl
 simp only [pA,pB,pC,pD]
 refine tk 4 rfl ?v_4_288 ?hy_4_288 ?r_4_288
 case hy_4_288=>intro w h;have k1:=h.1.c1;have k6:=h.1.c6;go_simp;try with_reducible rfl
 simp only [pA,pB,pC,pD]
 refine tk 5 rfl ?v_5_289 ?hy_5_289 ?r_5_289
 case hy_5_289=>intro w h;have k1:=h.1.c1;have k6:=h.1.c6;go_simp;try with_reducible rfl
 simp only [pA,pB,pC,pD]
 refine wpAnyH_take (i:=6) (oi:=⟨_,_,_,_,_,_⟩) (v:=stV s lv) rfl (by kernel_rfl) (by kernel_rfl) (by kernel_rfl) (fun _ _ _ h=>h) (yieldsIf_load_mid (by kernel_rfl) 164 (.tmp 1) rfl w.heap.size 0 rfl (stCs s lv).toList _ (fun w' h j v hv=>by rw [Nat.zero_add,h.1.cell];simpa using hv) Tryz.underlying164 rfl (by rw [stInfo];rfl)) (by assumption) ?_
 simp only [pA,pB,pC,pD]
 refine wpAnyH_ready (rs:=[7]) (by kernel_rfl) (by simp) ?_
 refine AllReadyH.cons rfl (fun K hK=> ?_) AllReadyH.nil
 go_simp
 go_at_call 195
 obtain⟨hSt,hLn,hBe⟩:=hHeld
 refine(HDU.out _ hLn).mono ?_
 rintro x w2 ⟨rfl,hb⟩
 go_wp2_with fail
 refine hK.out _ _ ⟨hSt.below hb,hLn.below hb,Below.next hBe hb⟩ (fun hHeld=> ?_)
 clear hK K hSt hLn hBe hb
 refine tk 8 rfl ?v_8_290 ?hy_8_290 ?r_8_290
 case hy_8_290=>intro w h;have k1:=h.1.c1;have k6:=h.1.c6;go_simp;try with_reducible rfl
 simp only [pA,pB,pC,pD]
 refine tk 9 rfl ?v_9_291 ?hy_9_291 ?r_9_291
 case hy_9_291=>intro w h;have k1:=h.1.c1;have k6:=h.1.c6;go_simp;try with_reducible rfl
 simp only [pA,pB,pC,pD]
 refine wpAnyH_done (by kernel_rfl) ?_ _
 have c1:w2.cell? ⟨w.heap.size,1,none⟩=some (.int .i64 2):=by rw [hHeld.1.cell 1,stCs,HS.out];rfl
 have c2:w2.cell? ⟨w.heap.size,2,none⟩=some (.int .i64 3):=by rw [hHeld.1.cell 2,stCs,HP.out];rfl
 have HE:=Lib.hid hHeld
 clear hHeld HBO HH
 go_wp2_with (first
  | (with_reducible refine wpList_load_st rfl (.tmp 1) rfl w.heap.size s lv rfl HE.out.1 ?_)
  | (go_at_call 196;refine(HSH.out _ HE.out.2.1).mono ?_;rintro x w3 ⟨rfl,hb⟩;have HE3:=Lib.hid (show StBlk w3 w.heap.size s lv∧LnRow w3 lv s.lines∧Below w.heap.size w w3 from⟨HE.out.1.below hb,HE.out.2.1.below hb,Below.next HE.out.2.2 hb⟩);clear hb))
 clear c1 c2 HE HSH
 refine wp_region_held_drew (S:=fun w'=>StBlk w' w.heap.size s lv∧LnRow w' lv s.lines∧Below w.heap.size w w') (by kernel_rfl) ⟨HE3.out.1,HE3.out.2.1,Below.next HE3.out.2.2 (below_drewN' _ 1)⟩ (fun hHeld=> ?_)
 refine tk 0 rfl ?v_0_292 ?hy_0_292 ?r_0_292
 case hy_0_292=>intro w h;have k1:=h.1.c1;have k6:=h.1.c6;go_simp;try with_reducible rfl
 simp only [pA,pB,pC,pD]
 refine tk 1 rfl ?v_1_293 ?hy_1_293 ?r_1_293
 case hy_1_293=>intro w h;have k1:=h.1.c1;have k6:=h.1.c6;go_simp;try with_reducible rfl
 simp only [pA,pB,pC,pD]
 refine wpAnyH_take (i:=2) (oi:=⟨_,_,_,_,_,_⟩) (v:=stV s lv) rfl (by kernel_rfl) (by kernel_rfl) (by kernel_rfl) (fun _ _ _ h=>h) (yieldsIf_load_mid (by kernel_rfl) 164 (.tmp 1) rfl w.heap.size 0 rfl (stCs s lv).toList _ (fun w' h j v hv=>by rw [Nat.zero_add,h.1.cell];simpa using hv) Tryz.underlying164 rfl (by rw [stInfo];rfl)) (by assumption) ?_
 simp only [pA,pB,pC,pD]
 refine wpAnyH_ready (rs:=[3]) (by kernel_rfl) (by simp) ?_
 refine AllReadyH.cons rfl (fun K hK=> ?_) AllReadyH.nil
 go_simp
 go_at_call 195
 obtain⟨hSt,hLn,hBe⟩:=hHeld
 refine(HDU.out _ hLn).mono ?_
 rintro x w4 ⟨rfl,hb⟩
 go_wp2_with fail
 refine hK.out _ _ ⟨hSt.below hb,hLn.below hb,Below.next hBe hb⟩ (fun hHeld=> ?_)
 clear hK K hSt hLn hBe hb
 refine tk 4 rfl ?v_4_294 ?hy_4_294 ?r_4_294
 case hy_4_294=>intro w h;have k1:=h.1.c1;have k6:=h.1.c6;go_simp;try with_reducible rfl
 simp only [pA,pB,pC,pD]
 refine tk 5 rfl ?v_5_295 ?hy_5_295 ?r_5_295
 case hy_5_295=>intro w h;have k1:=h.1.c1;have k6:=h.1.c6;go_simp;try with_reducible rfl
 simp only [pA,pB,pC,pD]
 refine tk 6 rfl ?v_6_296 ?hy_6_296 ?r_6_296
 case hy_6_296=>intro w h;have k1:=h.1.c1;have k6:=h.1.c6;go_simp;try with_reducible rfl
 simp only [pA,pB,pC,pD]
 refine tk 7 rfl ?v_7_297 ?hy_7_297 ?r_7_297
 case hy_7_297=>intro w h;have k1:=h.1.c1;have k6:=h.1.c6;go_simp;try with_reducible rfl
 simp only [pA,pB,pC,pD]
 refine tk 8 rfl ?v_8_298 ?hy_8_298 ?r_8_298
 case hy_8_298=>intro w h;have k1:=h.1.c1;have k6:=h.1.c6;go_simp;try with_reducible rfl
 simp only [pA,pB,pC,pD]
 refine tk 9 rfl ?v_9_299 ?hy_9_299 ?r_9_299
 case hy_9_299=>intro w h;have k1:=h.1.c1;have k6:=h.1.c6;go_simp;try with_reducible rfl
 simp only [pA,pB,pC,pD]
 refine tk 10 rfl ?v_10_300 ?hy_10_300 ?r_10_300
 case hy_10_300=>intro w h;have k1:=h.1.c1;have k6:=h.1.c6;go_simp;try with_reducible rfl
 simp only [pA,pB,pC,pD]
 refine wpAnyH_done (by kernel_rfl) ?_ _
 have HB:=Lib.hid hHeld.2.2
 have d3:w4.cell? ⟨w.heap.size,3,none⟩=some (.int .i64 s.cur):=hHeld.1.cell 3
 have d4:w4.cell? ⟨w.heap.size,4,none⟩=some (.int .i64 s.tax):=hHeld.1.cell 4
 have d5:w4.cell? ⟨w.heap.size,5,none⟩=some (.slice oa s.lines.length cap):=by rw [hHeld.1.cell 5,stCs,HLV.out];rfl
 have d7:w4.cell? ⟨w.heap.size,7,none⟩=some (.int .i64 s.refunded):=hHeld.1.cell 7
 have d8:w4.cell? ⟨w.heap.size,8,none⟩=some (.int .i64 s.events):=hHeld.1.cell 8
 have d9:w4.cell? ⟨w.heap.size,9,none⟩=some (.int .i64 s.refused):=hHeld.1.cell 9
 have d10:w4.cell? ⟨w.heap.size,10,none⟩=some (.int .i64 s.stamp):=hHeld.1.cell 10
 have d11:w4.cell? ⟨w.heap.size,11,none⟩=some (.string ⟨s.who.toArray⟩):=hHeld.1.cell 11
 clear hHeld HE3 HDU
 go_wp2
 go_ret
 exact⟨by rw [HVb.out];rfl,HB.out⟩
set_option maxRecDepth 100000 in
set_option maxHeartbeats 16000000 in
theorem oValid_2_3_2 (s:St) (lv:Value) (w:World) (hr:LnRow w lv s.lines) (hw:s.who.length≤281474976710656) (hf:boundedB s=true) (hm: ¬ dueOf s<s.paid) (hs:s.status=2) (hp:s.prior=3) (g1:(s.paid==dueOf s)=true) (g3:decide (0<s.paid)=true):
  Calls Tryz.prog 160 #[stV s lv] w fun e w'=>e= .returned (.bool (validB s))∧Below w.heap.size w w':=by
 have HVb:=Lib.hid (show validB s=(true&& !wholeB s.lines) by
  have h1:validB s=standB s 3:=by unfold validB;rw [hf,decide_eq_true (by omega),hs,hp];rfl
  have h2:(s.paid==dueOf s&&decide (0<s.paid))=true:=by rw [g1,g3];rfl
  rw [h1];unfold standB;rw [h2];rfl)
 have hbp:=bounded_p hf
 have HBO:=Lib.hid (show ∀ W:World,LnRow W lv s.lines→Calls Tryz.prog 194 #[stV s lv] W fun e w'=>e= .returned (.bool true)∧Below W.heap.size W w' from fun W h=>hf▸obounded s lv W h hw)
 obtain⟨D,hD⟩: ∃ D,D=dueOf s:=⟨_,rfl⟩
 have HDU:=Lib.hid (show ∀ W:World,LnRow W lv s.lines→Calls Tryz.prog 195 #[stV s lv] W fun e w'=>e= .returned (.int .i64 D)∧Below W.heap.size W w' from fun W h=>hD▸odue_any s lv W h hbp.fine hbp.few hbp.tax.1 hbp.tax.2)
 have HH:=Lib.hid (show StBlk (w.alloc (.cells (stCs s lv) 164)).drew w.heap.size s lv∧LnRow (w.alloc (.cells (stCs s lv) 164)).drew lv s.lines∧Below w.heap.size w (w.alloc (.cells (stCs s lv) 164)).drew from by
  have hb:Below w.heap.size w (w.alloc (.cells (stCs s lv) 164)):=(Below.refl _ _).alloc (Nat.le_refl _) _
  exact⟨stBlk_alloc w s lv,hr.below (Below.next hb (below_drewN' _ 1)),Below.next hb (below_drewN' _ 1)⟩)
 have HSH:=Lib.hid (show ∀ W:World,LnRow W lv s.lines→Calls Tryz.prog 196 #[stV s lv] W fun e w'=>e= .returned (.tuple #[.bool (noneB s.lines),.bool (wholeB s.lines)])∧Below W.heap.size W w' from fun W h=>oshipped_any s lv W h)
 obtain⟨nB,hnB⟩: ∃ x,x=noneB s.lines:=⟨_,rfl⟩
 obtain⟨wB,hwB⟩: ∃ x,x=wholeB s.lines:=⟨_,rfl⟩
 rw [←hnB,←hwB] at HSH
 rw [←hD] at hm g1
 rw [←hwB] at HVb
 have d1:decide (D<s.paid)=false:=decide_eq_false hm
 have hm2:s.paid≤D:=by omega
 have HS:=Lib.hid hs
 have HP:=Lib.hid hp
 obtain⟨oa,cap,hlv,_,_,_⟩:=hr.shape
 have HLV:=Lib.hid hlv
 clear hr hw hf hbp hD hm hs hp hnB hwB hlv
 go_enter Tryz.func160,Tryz.ntmps160
 go_wp2
 refine wp_region_held_drew (S:=fun w'=>StBlk w' w.heap.size s lv∧LnRow w' lv s.lines∧Below w.heap.size w w') (by kernel_rfl) HH.out (fun hHeld=> ?_)
 refine wpAnyH_take (i:=0) (oi:=⟨_,_,_,_,_,_⟩) (v:=stV s lv) rfl (by kernel_rfl) (by kernel_rfl) (by kernel_rfl) (fun _ _ _ h=>h) (yieldsIf_load_mid (by kernel_rfl) 164 (.tmp 1) rfl w.heap.size 0 rfl (stCs s lv).toList _ (fun w' h j v hv=>by rw [Nat.zero_add,h.1.cell];simpa using hv) Tryz.underlying164 rfl (by rw [stInfo];rfl)) (by assumption) ?_
 simp only [pA,pB,pC,pD]
 refine wpAnyH_ready (rs:=[1]) (by kernel_rfl) (by simp) ?_
 refine AllReadyH.cons rfl (fun K hK=> ?_) AllReadyH.nil
 go_simp
 go_at_call 194
 obtain⟨hSt,hLn,hBe⟩:=hHeld
 refine(HBO.out _ hLn).mono ?_
 rintro x w1 ⟨rfl,hb⟩
 go_wp2_with fail
 refine hK.out _ _ ⟨hSt.below hb,hLn.below hb,Below.next hBe hb⟩ (fun hHeld=> ?_)
 clear hK K hSt hLn hBe hb
 refine tk 2 rfl ?v_2_301 ?hy_2_301 ?r_2_301
 case hy_2_301=>intro w h;have k1:=h.1.c1;have k6:=h.1.c6;go_simp;try with_reducible rfl
 simp only [pA,pB,pC,pD]
 refine tk 3 rfl ?v_3_302 ?hy_3_302 ?r_3_302
 case hy_3_302=>intro w h;have k1:=h.1.c1;have k6:=h.1.c6;go_simp;try with_reducible rfl
 simp only [pA,pB,pC,pD]
 refine tk 4 rfl ?v_4_303 ?hy_4_303 ?r_4_303
 case hy_4_303=>intro w h;have k1:=h.1.c1;have k6:=h.1.c6;go_simp;try with_reducible rfl
 simp only [pA,pB,pC,pD]
 refine tk 5 rfl ?v_5_304 ?hy_5_304 ?r_5_304
 case hy_5_304=>intro w h;have k1:=h.1.c1;have k6:=h.1.c6;go_simp;try with_reducible rfl
 simp only [pA,pB,pC,pD]
 refine wpAnyH_take (i:=6) (oi:=⟨_,_,_,_,_,_⟩) (v:=stV s lv) rfl (by kernel_rfl) (by kernel_rfl) (by kernel_rfl) (fun _ _ _ h=>h) (yieldsIf_load_mid (by kernel_rfl) 164 (.tmp 1) rfl w.heap.size 0 rfl (stCs s lv).toList _ (fun w' h j v hv=>by rw [Nat.zero_add,h.1.cell];simpa using hv) Tryz.underlying164 rfl (by rw [stInfo];rfl)) (by assumption) ?_
 simp only [pA,pB,pC,pD]
 refine wpAnyH_ready (rs:=[7]) (by kernel_rfl) (by simp) ?_
 refine AllReadyH.cons rfl (fun K hK=> ?_) AllReadyH.nil
 go_simp
 go_at_call 195
 obtain⟨hSt,hLn,hBe⟩:=hHeld
 refine(HDU.out _ hLn).mono ?_
 rintro x w2 ⟨rfl,hb⟩
 go_wp2_with fail
 refine hK.out _ _ ⟨hSt.below hb,hLn.below hb,Below.next hBe hb⟩ (fun hHeld=> ?_)
 clear hK K hSt hLn hBe hb
 refine tk 8 rfl ?v_8_305 ?hy_8_305 ?r_8_305
 case hy_8_305=>intro w h;have k1:=h.1.c1;have k6:=h.1.c6;go_simp;try with_reducible rfl
 simp only [pA,pB,pC,pD]
 refine tk 9 rfl ?v_9_306 ?hy_9_306 ?r_9_306
 case hy_9_306=>intro w h;have k1:=h.1.c1;have k6:=h.1.c6;go_simp;try with_reducible rfl
 simp only [pA,pB,pC,pD]
 refine wpAnyH_done (by kernel_rfl) ?_ _
 have c1:w2.cell? ⟨w.heap.size,1,none⟩=some (.int .i64 2):=by rw [hHeld.1.cell 1,stCs,HS.out];rfl
 have c2:w2.cell? ⟨w.heap.size,2,none⟩=some (.int .i64 3):=by rw [hHeld.1.cell 2,stCs,HP.out];rfl
 have HE:=Lib.hid hHeld
 clear hHeld HBO HH
 go_wp2_with (first
  | (with_reducible refine wpList_load_st rfl (.tmp 1) rfl w.heap.size s lv rfl HE.out.1 ?_)
  | (go_at_call 196;refine(HSH.out _ HE.out.2.1).mono ?_;rintro x w3 ⟨rfl,hb⟩;have HE3:=Lib.hid (show StBlk w3 w.heap.size s lv∧LnRow w3 lv s.lines∧Below w.heap.size w w3 from⟨HE.out.1.below hb,HE.out.2.1.below hb,Below.next HE.out.2.2 hb⟩);clear hb))
 clear c1 c2 HE HSH
 refine wp_region_held_drew (S:=fun w'=>StBlk w' w.heap.size s lv∧LnRow w' lv s.lines∧Below w.heap.size w w') (by kernel_rfl) ⟨HE3.out.1,HE3.out.2.1,Below.next HE3.out.2.2 (below_drewN' _ 1)⟩ (fun hHeld=> ?_)
 refine tk 0 rfl ?v_0_307 ?hy_0_307 ?r_0_307
 case hy_0_307=>intro w h;have k1:=h.1.c1;have k6:=h.1.c6;go_simp;try with_reducible rfl
 simp only [pA,pB,pC,pD]
 refine tk 1 rfl ?v_1_308 ?hy_1_308 ?r_1_308
 case hy_1_308=>intro w h;have k1:=h.1.c1;have k6:=h.1.c6;go_simp;try with_reducible rfl
 simp only [pA,pB,pC,pD]
 refine wpAnyH_take (i:=2) (oi:=⟨_,_,_,_,_,_⟩) (v:=stV s lv) rfl (by kernel_rfl) (by kernel_rfl) (by kernel_rfl) (fun _ _ _ h=>h) (yieldsIf_load_mid (by kernel_rfl) 164 (.tmp 1) rfl w.heap.size 0 rfl (stCs s lv).toList _ (fun w' h j v hv=>by rw [Nat.zero_add,h.1.cell];simpa using hv) Tryz.underlying164 rfl (by rw [stInfo];rfl)) (by assumption) ?_
 simp only [pA,pB,pC,pD]
 refine wpAnyH_ready (rs:=[3]) (by kernel_rfl) (by simp) ?_
 refine AllReadyH.cons rfl (fun K hK=> ?_) AllReadyH.nil
 go_simp
 go_at_call 195
 obtain⟨hSt,hLn,hBe⟩:=hHeld
 refine(HDU.out _ hLn).mono ?_
 rintro x w4 ⟨rfl,hb⟩
 go_wp2_with fail
 refine hK.out _ _ ⟨hSt.below hb,hLn.below hb,Below.next hBe hb⟩ (fun hHeld=> ?_)
 clear hK K hSt hLn hBe hb
 refine tk 4 rfl ?v_4_309 ?hy_4_309 ?r_4_309
 case hy_4_309=>intro w h;have k1:=h.1.c1;have k6:=h.1.c6;go_simp;try with_reducible rfl
 simp only [pA,pB,pC,pD]
 refine tk 5 rfl ?v_5_310 ?hy_5_310 ?r_5_310
 case hy_5_310=>intro w h;have k1:=h.1.c1;have k6:=h.1.c6;go_simp;try with_reducible rfl
 simp only [pA,pB,pC,pD]
 refine tk 6 rfl ?v_6_311 ?hy_6_311 ?r_6_311
 case hy_6_311=>intro w h;have k1:=h.1.c1;have k6:=h.1.c6;go_simp;try with_reducible rfl
 simp only [pA,pB,pC,pD]
 refine tk 7 rfl ?v_7_312 ?hy_7_312 ?r_7_312
 case hy_7_312=>intro w h;have k1:=h.1.c1;have k6:=h.1.c6;go_simp;try with_reducible rfl
 simp only [pA,pB,pC,pD]
 refine tk 8 rfl ?v_8_313 ?hy_8_313 ?r_8_313
 case hy_8_313=>intro w h;have k1:=h.1.c1;have k6:=h.1.c6;go_simp;try with_reducible rfl
 simp only [pA,pB,pC,pD]
 refine tk 9 rfl ?v_9_314 ?hy_9_314 ?r_9_314
 case hy_9_314=>intro w h;have k1:=h.1.c1;have k6:=h.1.c6;go_simp;try with_reducible rfl
 simp only [pA,pB,pC,pD]
 refine tk 10 rfl ?v_10_315 ?hy_10_315 ?r_10_315
 case hy_10_315=>intro w h;have k1:=h.1.c1;have k6:=h.1.c6;go_simp;try with_reducible rfl
 simp only [pA,pB,pC,pD]
 refine wpAnyH_done (by kernel_rfl) ?_ _
 have HB:=Lib.hid hHeld.2.2
 have d3:w4.cell? ⟨w.heap.size,3,none⟩=some (.int .i64 s.cur):=hHeld.1.cell 3
 have d4:w4.cell? ⟨w.heap.size,4,none⟩=some (.int .i64 s.tax):=hHeld.1.cell 4
 have d5:w4.cell? ⟨w.heap.size,5,none⟩=some (.slice oa s.lines.length cap):=by rw [hHeld.1.cell 5,stCs,HLV.out];rfl
 have d7:w4.cell? ⟨w.heap.size,7,none⟩=some (.int .i64 s.refunded):=hHeld.1.cell 7
 have d8:w4.cell? ⟨w.heap.size,8,none⟩=some (.int .i64 s.events):=hHeld.1.cell 8
 have d9:w4.cell? ⟨w.heap.size,9,none⟩=some (.int .i64 s.refused):=hHeld.1.cell 9
 have d10:w4.cell? ⟨w.heap.size,10,none⟩=some (.int .i64 s.stamp):=hHeld.1.cell 10
 have d11:w4.cell? ⟨w.heap.size,11,none⟩=some (.string ⟨s.who.toArray⟩):=hHeld.1.cell 11
 clear hHeld HE3 HDU
 cases wB
 ·skip
  go_wp2
  go_ret
  exact⟨by rw [HVb.out];rfl,HB.out⟩
 ·skip
  go_wp2
  go_ret
  exact⟨by rw [HVb.out];rfl,HB.out⟩
end Go.Proofs.YtlobohpbgghleaaGreatDoor
namespace Go.Proofs.YtlobohpbgghleaaGreatDoor
open Go.RowKit
theorem oValid_any (s:St) (lv:Value) (w:World) (hr:LnRow w lv s.lines) (hw:s.who.length≤281474976710656):
  Calls Tryz.prog 160 #[stV s lv] w fun e w'=>e= .returned (.bool (validB s))∧Below w.heap.size w w':=by
 cases hf:boundedB s
 case false=>exact oValid_out s lv w hr hw hf
 case true=>
 by_cases hm:dueOf s<s.paid
 ·exact oValid_much s lv w hr hw hf hm
 have hst:=(bounded_p hf).status
 have h7:(s.status=2∧s.prior≠1∧s.prior≠3)∨(s.status≠2∧s.prior≠0)∨(s.status=2∧s.prior=1)∨(s.status=2∧s.prior=3)∨(s.status=0∧s.prior=0)∨(s.status=1∧s.prior=0)∨(s.status=3∧s.prior=0)∨(s.status=4∧s.prior=0)∨(s.status=5∧s.prior=0):=by omega
 rcases h7 with⟨hs,hp1,hp3⟩ | ⟨hs,hp⟩ | ⟨hs,hp⟩ | ⟨hs,hp⟩ | ⟨hs,hp⟩ | ⟨hs,hp⟩ | ⟨hs,hp⟩ | ⟨hs,hp⟩ | ⟨hs,hp⟩
 ·exact oValid_held s lv w hr hw hf hm hs hp1 hp3
 ·exact oValid_prior s lv w hr hw hf hm hs hp
 ·rcases fullWays s.paid (dueOf s) with⟨g1,_⟩ | ⟨g1,g3,_⟩ | ⟨g1,g3,_⟩
  ·exact oValid_2_1_0 s lv w hr hw hf hm hs hp g1
  ·exact oValid_2_1_1 s lv w hr hw hf hm hs hp g1 g3
  ·exact oValid_2_1_2 s lv w hr hw hf hm hs hp g1 g3
 ·rcases fullWays s.paid (dueOf s) with⟨g1,_⟩ | ⟨g1,g3,_⟩ | ⟨g1,g3,_⟩
  ·exact oValid_2_3_0 s lv w hr hw hf hm hs hp g1
  ·exact oValid_2_3_1 s lv w hr hw hf hm hs hp g1 g3
  ·exact oValid_2_3_2 s lv w hr hw hf hm hs hp g1 g3
 ·rcases fullWays s.paid (dueOf s) with⟨g1,_⟩ | ⟨g1,g3,_⟩ | ⟨g1,g3,_⟩
  ·exact oValid_0_0_0 s lv w hr hw hf hm hs hp g1
  ·exact oValid_0_0_1 s lv w hr hw hf hm hs hp g1 g3
  ·exact oValid_0_0_2 s lv w hr hw hf hm hs hp g1 g3
 ·rcases fullWays s.paid (dueOf s) with⟨g1,_⟩ | ⟨g1,g3,_⟩ | ⟨g1,g3,_⟩
  ·exact oValid_1_0_0 s lv w hr hw hf hm hs hp g1
  ·exact oValid_1_0_1 s lv w hr hw hf hm hs hp g1 g3
  ·exact oValid_1_0_2 s lv w hr hw hf hm hs hp g1 g3
 ·rcases fullWays s.paid (dueOf s) with⟨g1,_⟩ | ⟨g1,g3,_⟩ | ⟨g1,g3,_⟩
  ·exact oValid_3_0_0 s lv w hr hw hf hm hs hp g1
  ·exact oValid_3_0_1 s lv w hr hw hf hm hs hp g1 g3
  ·exact oValid_3_0_2 s lv w hr hw hf hm hs hp g1 g3
 ·rcases fullWays s.paid (dueOf s) with⟨g1,_⟩ | ⟨g1,g3,_⟩ | ⟨g1,g3,_⟩
  ·exact oValid_4_0_0 s lv w hr hw hf hm hs hp g1
  ·exact oValid_4_0_1 s lv w hr hw hf hm hs hp g1 g3
  ·exact oValid_4_0_2 s lv w hr hw hf hm hs hp g1 g3
 ·rcases fullWays s.paid (dueOf s) with⟨g1,_⟩ | ⟨g1,g3,_⟩ | ⟨g1,g3,_⟩
  ·exact oValid_5_0_0 s lv w hr hw hf hm hs hp g1
  ·exact oValid_5_0_1 s lv w hr hw hf hm hs hp g1 g3
  ·exact oValid_5_0_2 s lv w hr hw hf hm hs hp g1 g3
end Go.Proofs.YtlobohpbgghleaaGreatDoor

namespace Go.Proofs.YtlobohpbgghleaaGreatDoor
open Go.RowKit
def chL (c:Nat→Nat) (al:Nat) (l:Array Bool) (i:Nat) (b:Bool):Array Bool:=
 let x:=(List.range i).foldl (fun l k=>l.setIfInBounds (c k) true) l
 if b then x.setIfInBounds al true else x
def chT (d:Nat→Nat) (v:Nat→Value) (da:Nat) (t:Array Value) (i:Nat) (o:Option Nat):Array Value:=
 let x:=(List.range i).foldl (fun t k=>t.setIfInBounds (d k) (v k)) t
 match o with
 | none=>x
 | some g=>x.setIfInBounds da (.pointer (some ⟨g,0,none⟩))
def chA (d:Nat→Nat) (v:Nat→Value) (da:Nat) (a:Act) (i:Nat) (o:Option Nat):Act:={a with tmps:=chT d v da a.tmps i o}
theorem chL_call {c:Nat→Nat} {al:Nat} {l:Array Bool} {i:Nat} {b:Bool} (h:c i≠al):(chL c al l i b).setIfInBounds (c i) true=chL c al l (i+1) b:=by
 unfold chL
 rw [List.range_succ,List.foldl_append]
 cases b
 ·rfl
 ·simp only [if_true,List.foldl_cons,List.foldl_nil]
  rw [Array.setIfInBounds_comm _ _ (Ne.symm h)]
theorem chL_alloc {c:Nat→Nat} {al:Nat} {l:Array Bool} {i:Nat}:(chL c al l i false).setIfInBounds al true=chL c al l i true:=rfl
theorem chA_call {d:Nat→Nat} {v:Nat→Value} {da:Nat} {a:Act} {i:Nat} {o:Option Nat} (h:d i≠da):(chA d v da a i o).put (some (d i)) (v i)=chA d v da a (i+1) o:=by
 unfold chA chT
 rw [List.range_succ,List.foldl_append]
 cases o with
 | none=>rfl
 | some g=>
  show ({a with tmps:=_}:Act)=_
  simp only [List.foldl_cons,List.foldl_nil]
  rw [Array.setIfInBounds_comm _ _ (Ne.symm h)]
theorem chA_alloc {d:Nat→Nat} {v:Nat→Value} {da:Nat} {a:Act} {i g:Nat}:(chA d v da a i none).put (some da) (.pointer (some ⟨g,0,none⟩))=chA d v da a i (some g):=rfl
section
variable {P : Program} {ops : Array Oper} {Q : Exit → Act → World → Prop} {md : Region.Mode} {S : World → Prop}
theorem wp_chain (n al:Nat) (c d:Nat→Nat) (v:Nat→Value) (da:Nat) (Inv:Nat→Option Nat→World→Prop) {l:Array Bool} {a:Act} (fuel:Nat)
  (hF: ∀ i,i<n→Region.ready md ops (chL c al l i false)=[c i,al]) (hT: ∀ i,i<n→Region.ready md ops (chL c al l i true)=[c i])
  (hc: ∀ i,i<n→c i≠al∧d i≠da) (hS: ∀ i o w,Inv i o w→S w)
  (hcall: ∀ i,i<n→ ∀ o w,Inv i o w→ ∀ K:Act→World→Prop,(∀ w',Inv (i+1) o w'→K ((chA d v da a i o).put (some (d i)) (v i)) w')→wpOp P ops Q (c i) K (chA d v da a i o) w)
  (hal: ∀ i,i<n→ ∀ w,Inv i none w→ ∀ K:Act→World→Prop,(∀ g w',Inv i (some g) w'→K ((chA d v da a i none).put (some da) (.pointer (some ⟨g,0,none⟩))) w')→wpOp P ops Q al K (chA d v da a i none) w)
  (hend: ∀ g w,Inv n (some g) w→wpAnyH P md ops Q S fuel (chL c al l n true) (chA d v da a n (some g)) w)
  (hend0: ∀ w,Inv n none w→wpAnyH P md ops Q S (fuel+1) (chL c al l n false) (chA d v da a n none) w):
  ∀ (j i:Nat) (w:World),i+j=n→(∀ g,Inv i (some g) w→wpAnyH P md ops Q S (fuel+j) (chL c al l i true) (chA d v da a i (some g)) w)∧(Inv i none w→wpAnyH P md ops Q S (fuel+j+1) (chL c al l i false) (chA d v da a i none) w)
 | 0,i,w,h=>by
  obtain rfl:i=n:=h
  exact⟨fun g hg=>hend g w hg,fun hi=>hend0 w hi⟩
 | j+1,i,w,h=>by
  have hi:i<n:=by omega
  refine⟨fun g hg=> ?_,fun hg=> ?_⟩
  ·refine wpAnyH_ready (fuel:=fuel+j) (hT i hi) (by simp) fun k hk=> ?_
   simp only [List.mem_singleton] at hk
   subst hk
   refine hcall i hi _ w hg _ fun w' hg'=>⟨hS _ _ _ hg',?_⟩
   rw [chA_call (hc i hi).2,chL_call (hc i hi).1]
   exact(wp_chain n al c d v da Inv fuel hF hT hc hS hcall hal hend hend0 j (i+1) w' (by omega)).1 g hg'
  ·refine wpAnyH_ready (fuel:=fuel+(j+1)) (hF i hi) (by simp) fun k hk=> ?_
   simp only [List.mem_cons,List.not_mem_nil,or_false] at hk
   rcases hk with rfl | hk
   ·refine hcall i hi _ w hg _ fun w' hg'=>⟨hS _ _ _ hg',?_⟩
    rw [chA_call (hc i hi).2,chL_call (hc i hi).1]
    exact(wp_chain n al c d v da Inv fuel hF hT hc hS hcall hal hend hend0 j (i+1) w' (by omega)).2 hg'
   ·rw [hk]
    refine hal i hi w hg _ fun g w' hg'=>⟨hS _ _ _ hg',?_⟩
    rw [chA_alloc,chL_alloc]
    refine wpAnyH_ready (fuel:=fuel+j) (hT i hi) (by simp) fun k hk=> ?_
    simp only [List.mem_singleton] at hk
    subst hk
    refine hcall i hi _ w' hg' _ fun w'' hg''=>⟨hS _ _ _ hg'',?_⟩
    rw [chA_call (hc i hi).2,chL_call (hc i hi).1]
    exact(wp_chain n al c d v da Inv fuel hF hT hc hS hcall hal hend hend0 j (i+1) w'' (by omega)).1 g hg''
theorem wp_chain0 (n al:Nat) (c d:Nat→Nat) (v:Nat→Value) (da:Nat) (Inv:Nat→Option Nat→World→Prop) {l:Array Bool} {a:Act} {w:World} (fuel:Nat)
  (hF:(List.range n).all (fun i=>Region.ready md ops (chL c al l i false)== [c i,al])=true) (hT:(List.range n).all (fun i=>Region.ready md ops (chL c al l i true)== [c i])=true)
  (hc:(List.range n).all (fun i=>decide (c i≠al)&&decide (d i≠da))=true) (hS: ∀ i o w,Inv i o w→S w)
  (hcall: ∀ i,i<n→ ∀ o w,Inv i o w→ ∀ K:Act→World→Prop,(∀ w',Inv (i+1) o w'→K ((chA d v da a i o).put (some (d i)) (v i)) w')→wpOp P ops Q (c i) K (chA d v da a i o) w)
  (hal: ∀ i,i<n→ ∀ w,Inv i none w→ ∀ K:Act→World→Prop,(∀ g w',Inv i (some g) w'→K ((chA d v da a i none).put (some da) (.pointer (some ⟨g,0,none⟩))) w')→wpOp P ops Q al K (chA d v da a i none) w)
  (hend: ∀ g w,Inv n (some g) w→wpAnyH P md ops Q S fuel (chL c al l n true) (chA d v da a n (some g)) w)
  (hend0: ∀ w,Inv n none w→wpAnyH P md ops Q S (fuel+1) (chL c al l n false) (chA d v da a n none) w)
  (h0:Inv 0 none w):wpAnyH P md ops Q S (fuel+n+1) l a w:=by
 have g1: ∀ i,i<n→Region.ready md ops (chL c al l i false)=[c i,al]:=fun i hi=>by
  have:=List.all_eq_true.1 hF i (List.mem_range.2 hi)
  simpa using this
 have g2: ∀ i,i<n→Region.ready md ops (chL c al l i true)=[c i]:=fun i hi=>by
  have:=List.all_eq_true.1 hT i (List.mem_range.2 hi)
  simpa using this
 have g3: ∀ i,i<n→c i≠al∧d i≠da:=fun i hi=>by
  have:=List.all_eq_true.1 hc i (List.mem_range.2 hi)
  simpa using this
 exact(wp_chain n al c d v da Inv fuel g1 g2 g3 hS hcall hal hend hend0 n 0 w (by omega)).2 h0
end
end Go.Proofs.YtlobohpbgghleaaGreatDoor
