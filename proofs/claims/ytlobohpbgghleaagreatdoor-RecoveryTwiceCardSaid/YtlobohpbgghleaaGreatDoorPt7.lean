import Derived.Deep.CutRange
import Derived.Test.YtlobohpbgghleaaGreatDoorPt6
namespace Go.Proofs.YtlobohpbgghleaaGreatDoor
open Go.RowKit
set_option maxRecDepth 100000 in
set_option maxHeartbeats 16000000 in
theorem oValid_2_1_0 (s:St) (lv:Value) (w:World) (hr:LnRow w lv s.lines) (hw:s.who.length≤281474976710656) (hf:boundedB s=true) (hm: ¬ dueOf s<s.paid) (hs:s.status=2) (hp:s.prior=1) (g1:(s.paid==dueOf s)=false):
  Calls Tryz.prog 160 #[stV s lv] w fun e w'=>e= .returned (.bool (validB s))∧Below w.heap.size w w':=by
 have HVb:=Lib.hid (show validB s=(noneB s.lines&& !false&&s.refunded==0) by
  have h1:validB s=standB s 1:=by unfold validB;rw [hf,decide_eq_true (by omega),hs,hp];rfl
  have h2:(s.paid==dueOf s&&decide (0<s.paid))=false:=by rw [g1];rfl
  rw [h1];unfold standB;rw [h2];rfl)
 have hbp:=bounded_p hf
 have HBO:=Lib.hid (stBO (lv:=lv) hf hw)
 obtain⟨D,hD⟩: ∃ D,D=dueOf s:=⟨_,rfl⟩
 have HDU:=Lib.hid (stDU (lv:=lv) hD hbp)
 have HH:=Lib.hid (stHH hr)
 have HSH:=Lib.hid (stSH s lv)
 obtain⟨nB,hnB⟩: ∃ x,x=noneB s.lines:=⟨_,rfl⟩
 obtain⟨wB,hwB⟩: ∃ x,x=wholeB s.lines:=⟨_,rfl⟩
 rw [←hnB,←hwB] at HSH
 rw [←hD] at hm g1
 rw [←hnB] at HVb
 have d1:decide (D<s.paid)=false:=decide_eq_false hm
 have hm2:s.paid≤D:=by omega
 have HS:=Lib.hid hs
 have HP:=Lib.hid hp
 obtain⟨oa,cap,hlv,_,_,_⟩:=hr.shape
 have HLV:=Lib.hid hlv
 clear hr hw hf hbp hD hm hs hp hnB hwB hlv
 go_enter Tryz.func160,Tryz.ntmps160
 go_wp2
 refine wp_region_held_drew (S:=fun w'=>StBlk w' w.heap.size s lv∧LnRow w' lv s.lines∧Below w.heap.size w w') (by kernel_rfl) HH.out (fun hHeld=> ?_)
 refine tst 0 (fun _ h=>h.1) ?_
 simp only [pA,pB,pC,pD]
 refine wpAnyH_ready (rs:=[1]) (by kernel_rfl) (by simp) ?_
 refine AllReadyH.cons rfl (fun K hK=> ?_) AllReadyH.nil
 go_simp
 go_at_call 194
 obtain⟨hSt,hLn,hBe⟩:=hHeld
 refine(HBO.out _ hLn).mono ?_
 rintro x w1 ⟨rfl,hb⟩
 go_wp2_with fail
 refine hK.out _ _ ⟨hSt.below hb,hLn.below hb,Below.next hBe hb⟩ (fun hHeld=> ?_)
 clear hK K hSt hLn hBe hb
 refine tf stF 2 rfl ?_
 refine tf stF 3 rfl ?_
 refine tf stF 4 rfl ?_
 refine tf stF 5 rfl ?_
 refine tst 6 (fun _ h=>h.1) ?_
 simp only [pA,pB,pC,pD]
 refine wpAnyH_ready (rs:=[7]) (by kernel_rfl) (by simp) ?_
 refine AllReadyH.cons rfl (fun K hK=> ?_) AllReadyH.nil
 go_simp
 go_at_call 195
 obtain⟨hSt,hLn,hBe⟩:=hHeld
 refine(HDU.out _ hLn).mono ?_
 rintro x w2 ⟨rfl,hb⟩
 go_wp2_with fail
 refine hK.out _ _ ⟨hSt.below hb,hLn.below hb,Below.next hBe hb⟩ (fun hHeld=> ?_)
 clear hK K hSt hLn hBe hb
 refine tf stF 8 rfl ?_
 refine tf stF 9 rfl ?_
 refine wpAnyH_done (by kernel_rfl) ?_ _
 have c1:w2.cell? ⟨w.heap.size,1,none⟩=some (.int .i64 2):=by rw [hHeld.1.cell 1,stCs,HS.out];rfl
 have c2:w2.cell? ⟨w.heap.size,2,none⟩=some (.int .i64 1):=by rw [hHeld.1.cell 2,stCs,HP.out];rfl
 have HE:=Lib.hid hHeld
 clear hHeld HBO HH
 go_wp2_with (first
  | (with_reducible refine wpList_load_st rfl (.tmp 1) rfl w.heap.size s lv rfl HE.out.1 ?_)
  | (go_at_call 196;refine(HSH.out _ HE.out.2.1).mono ?_;rintro x w3 ⟨rfl,hb⟩;have HE3:=Lib.hid (show StBlk w3 w.heap.size s lv∧LnRow w3 lv s.lines∧Below w.heap.size w w3 from⟨HE.out.1.below hb,HE.out.2.1.below hb,Below.next HE.out.2.2 hb⟩);clear hb))
 clear c1 c2 HE HSH
 refine wp_region_held_drew (S:=fun w'=>StBlk w' w.heap.size s lv∧LnRow w' lv s.lines∧Below w.heap.size w w') (by kernel_rfl) ⟨HE3.out.1,HE3.out.2.1,Below.next HE3.out.2.2 (below_drewN' _ 1)⟩ (fun hHeld=> ?_)
 refine tf stF 0 rfl ?_
 refine tf stF 1 rfl ?_
 refine tst 2 (fun _ h=>h.1) ?_
 simp only [pA,pB,pC,pD]
 refine wpAnyH_ready (rs:=[3]) (by kernel_rfl) (by simp) ?_
 refine AllReadyH.cons rfl (fun K hK=> ?_) AllReadyH.nil
 go_simp
 go_at_call 195
 obtain⟨hSt,hLn,hBe⟩:=hHeld
 refine(HDU.out _ hLn).mono ?_
 rintro x w4 ⟨rfl,hb⟩
 go_wp2_with fail
 refine hK.out _ _ ⟨hSt.below hb,hLn.below hb,Below.next hBe hb⟩ (fun hHeld=> ?_)
 clear hK K hSt hLn hBe hb
 refine tf stF 4 rfl ?_
 refine tf stF 5 rfl ?_
 refine tkn 6 rfl ?_
 simp only [pA,pB,pC,pD]
 refine tkn 7 rfl ?_
 simp only [pA,pB,pC,pD]
 refine tkn 8 rfl ?_
 simp only [pA,pB,pC,pD]
 refine tf stF 9 rfl ?_
 refine tf stF 10 rfl ?_
 refine wpAnyH_done (by kernel_rfl) ?_ _
 have HB:=Lib.hid hHeld.2.2
 have d3:w4.cell? ⟨w.heap.size,3,none⟩=some (.int .i64 s.cur):=hHeld.1.cell 3
 have d4:w4.cell? ⟨w.heap.size,4,none⟩=some (.int .i64 s.tax):=hHeld.1.cell 4
 have d5:w4.cell? ⟨w.heap.size,5,none⟩=some (.slice oa s.lines.length cap):=by rw [hHeld.1.cell 5,stCs,HLV.out];rfl
 have d7:w4.cell? ⟨w.heap.size,7,none⟩=some (.int .i64 s.refunded):=hHeld.1.cell 7
 have d8:w4.cell? ⟨w.heap.size,8,none⟩=some (.int .i64 s.events):=hHeld.1.cell 8
 have d9:w4.cell? ⟨w.heap.size,9,none⟩=some (.int .i64 s.refused):=hHeld.1.cell 9
 have d10:w4.cell? ⟨w.heap.size,10,none⟩=some (.int .i64 s.stamp):=hHeld.1.cell 10
 have d11:w4.cell? ⟨w.heap.size,11,none⟩=some (.string ⟨s.who.toArray⟩):=hHeld.1.cell 11
 clear hHeld HE3 HDU
 cases nB
 ·skip
  go_wp2
  go_ret
  exact⟨by rw [HVb.out];rfl,HB.out⟩
 ·by_cases hrf:s.refunded=0
  ·have r1:(s.refunded==0)=true:=by rw [beq_iff_eq];exact hrf
   clear hrf
   go_wp2
   go_ret
   exact⟨by rw [HVb.out,r1];rfl,HB.out⟩
  ·have r1:(s.refunded==0)=false:=by rw [beq_eq_false_iff_ne];exact hrf
   clear hrf
   go_wp2
   go_ret
   exact⟨by rw [HVb.out,r1];rfl,HB.out⟩
set_option maxRecDepth 100000 in
set_option maxHeartbeats 16000000 in
theorem oValid_2_1_1 (s:St) (lv:Value) (w:World) (hr:LnRow w lv s.lines) (hw:s.who.length≤281474976710656) (hf:boundedB s=true) (hm: ¬ dueOf s<s.paid) (hs:s.status=2) (hp:s.prior=1) (g1:(s.paid==dueOf s)=true) (g3:decide (0<s.paid)=false):
  Calls Tryz.prog 160 #[stV s lv] w fun e w'=>e= .returned (.bool (validB s))∧Below w.heap.size w w':=by
 have HVb:=Lib.hid (show validB s=(noneB s.lines&& !false&&s.refunded==0) by
  have h1:validB s=standB s 1:=by unfold validB;rw [hf,decide_eq_true (by omega),hs,hp];rfl
  have h2:(s.paid==dueOf s&&decide (0<s.paid))=false:=by rw [g1,g3];rfl
  rw [h1];unfold standB;rw [h2];rfl)
 have hbp:=bounded_p hf
 have HBO:=Lib.hid (stBO (lv:=lv) hf hw)
 obtain⟨D,hD⟩: ∃ D,D=dueOf s:=⟨_,rfl⟩
 have HDU:=Lib.hid (stDU (lv:=lv) hD hbp)
 have HH:=Lib.hid (stHH hr)
 have HSH:=Lib.hid (stSH s lv)
 obtain⟨nB,hnB⟩: ∃ x,x=noneB s.lines:=⟨_,rfl⟩
 obtain⟨wB,hwB⟩: ∃ x,x=wholeB s.lines:=⟨_,rfl⟩
 rw [←hnB,←hwB] at HSH
 rw [←hD] at hm g1
 rw [←hnB] at HVb
 have d1:decide (D<s.paid)=false:=decide_eq_false hm
 have hm2:s.paid≤D:=by omega
 have HS:=Lib.hid hs
 have HP:=Lib.hid hp
 obtain⟨oa,cap,hlv,_,_,_⟩:=hr.shape
 have HLV:=Lib.hid hlv
 clear hr hw hf hbp hD hm hs hp hnB hwB hlv
 go_enter Tryz.func160,Tryz.ntmps160
 go_wp2
 refine wp_region_held_drew (S:=fun w'=>StBlk w' w.heap.size s lv∧LnRow w' lv s.lines∧Below w.heap.size w w') (by kernel_rfl) HH.out (fun hHeld=> ?_)
 refine tst 0 (fun _ h=>h.1) ?_
 simp only [pA,pB,pC,pD]
 refine wpAnyH_ready (rs:=[1]) (by kernel_rfl) (by simp) ?_
 refine AllReadyH.cons rfl (fun K hK=> ?_) AllReadyH.nil
 go_simp
 go_at_call 194
 obtain⟨hSt,hLn,hBe⟩:=hHeld
 refine(HBO.out _ hLn).mono ?_
 rintro x w1 ⟨rfl,hb⟩
 go_wp2_with fail
 refine hK.out _ _ ⟨hSt.below hb,hLn.below hb,Below.next hBe hb⟩ (fun hHeld=> ?_)
 clear hK K hSt hLn hBe hb
 refine tf stF 2 rfl ?_
 refine tf stF 3 rfl ?_
 refine tf stF 4 rfl ?_
 refine tf stF 5 rfl ?_
 refine tst 6 (fun _ h=>h.1) ?_
 simp only [pA,pB,pC,pD]
 refine wpAnyH_ready (rs:=[7]) (by kernel_rfl) (by simp) ?_
 refine AllReadyH.cons rfl (fun K hK=> ?_) AllReadyH.nil
 go_simp
 go_at_call 195
 obtain⟨hSt,hLn,hBe⟩:=hHeld
 refine(HDU.out _ hLn).mono ?_
 rintro x w2 ⟨rfl,hb⟩
 go_wp2_with fail
 refine hK.out _ _ ⟨hSt.below hb,hLn.below hb,Below.next hBe hb⟩ (fun hHeld=> ?_)
 clear hK K hSt hLn hBe hb
 refine tf stF 8 rfl ?_
 refine tf stF 9 rfl ?_
 refine wpAnyH_done (by kernel_rfl) ?_ _
 have c1:w2.cell? ⟨w.heap.size,1,none⟩=some (.int .i64 2):=by rw [hHeld.1.cell 1,stCs,HS.out];rfl
 have c2:w2.cell? ⟨w.heap.size,2,none⟩=some (.int .i64 1):=by rw [hHeld.1.cell 2,stCs,HP.out];rfl
 have HE:=Lib.hid hHeld
 clear hHeld HBO HH
 go_wp2_with (first
  | (with_reducible refine wpList_load_st rfl (.tmp 1) rfl w.heap.size s lv rfl HE.out.1 ?_)
  | (go_at_call 196;refine(HSH.out _ HE.out.2.1).mono ?_;rintro x w3 ⟨rfl,hb⟩;have HE3:=Lib.hid (show StBlk w3 w.heap.size s lv∧LnRow w3 lv s.lines∧Below w.heap.size w w3 from⟨HE.out.1.below hb,HE.out.2.1.below hb,Below.next HE.out.2.2 hb⟩);clear hb))
 clear c1 c2 HE HSH
 refine wp_region_held_drew (S:=fun w'=>StBlk w' w.heap.size s lv∧LnRow w' lv s.lines∧Below w.heap.size w w') (by kernel_rfl) ⟨HE3.out.1,HE3.out.2.1,Below.next HE3.out.2.2 (below_drewN' _ 1)⟩ (fun hHeld=> ?_)
 refine tf stF 0 rfl ?_
 refine tf stF 1 rfl ?_
 refine tst 2 (fun _ h=>h.1) ?_
 simp only [pA,pB,pC,pD]
 refine wpAnyH_ready (rs:=[3]) (by kernel_rfl) (by simp) ?_
 refine AllReadyH.cons rfl (fun K hK=> ?_) AllReadyH.nil
 go_simp
 go_at_call 195
 obtain⟨hSt,hLn,hBe⟩:=hHeld
 refine(HDU.out _ hLn).mono ?_
 rintro x w4 ⟨rfl,hb⟩
 go_wp2_with fail
 refine hK.out _ _ ⟨hSt.below hb,hLn.below hb,Below.next hBe hb⟩ (fun hHeld=> ?_)
 clear hK K hSt hLn hBe hb
 refine tf stF 4 rfl ?_
 refine tf stF 5 rfl ?_
 refine tf stF 6 rfl ?_
 refine tf stF 7 rfl ?_
 refine tf stF 8 rfl ?_
 refine tf stF 9 rfl ?_
 refine tf stF 10 rfl ?_
 refine wpAnyH_done (by kernel_rfl) ?_ _
 have HB:=Lib.hid hHeld.2.2
 have d3:w4.cell? ⟨w.heap.size,3,none⟩=some (.int .i64 s.cur):=hHeld.1.cell 3
 have d4:w4.cell? ⟨w.heap.size,4,none⟩=some (.int .i64 s.tax):=hHeld.1.cell 4
 have d5:w4.cell? ⟨w.heap.size,5,none⟩=some (.slice oa s.lines.length cap):=by rw [hHeld.1.cell 5,stCs,HLV.out];rfl
 have d7:w4.cell? ⟨w.heap.size,7,none⟩=some (.int .i64 s.refunded):=hHeld.1.cell 7
 have d8:w4.cell? ⟨w.heap.size,8,none⟩=some (.int .i64 s.events):=hHeld.1.cell 8
 have d9:w4.cell? ⟨w.heap.size,9,none⟩=some (.int .i64 s.refused):=hHeld.1.cell 9
 have d10:w4.cell? ⟨w.heap.size,10,none⟩=some (.int .i64 s.stamp):=hHeld.1.cell 10
 have d11:w4.cell? ⟨w.heap.size,11,none⟩=some (.string ⟨s.who.toArray⟩):=hHeld.1.cell 11
 clear hHeld HE3 HDU
 cases nB
 ·skip
  go_wp2
  go_ret
  exact⟨by rw [HVb.out];rfl,HB.out⟩
 ·by_cases hrf:s.refunded=0
  ·have r1:(s.refunded==0)=true:=by rw [beq_iff_eq];exact hrf
   clear hrf
   go_wp2
   go_ret
   exact⟨by rw [HVb.out,r1];rfl,HB.out⟩
  ·have r1:(s.refunded==0)=false:=by rw [beq_eq_false_iff_ne];exact hrf
   clear hrf
   go_wp2
   go_ret
   exact⟨by rw [HVb.out,r1];rfl,HB.out⟩
set_option maxRecDepth 100000 in
set_option maxHeartbeats 16000000 in
theorem oValid_2_1_2 (s:St) (lv:Value) (w:World) (hr:LnRow w lv s.lines) (hw:s.who.length≤281474976710656) (hf:boundedB s=true) (hm: ¬ dueOf s<s.paid) (hs:s.status=2) (hp:s.prior=1) (g1:(s.paid==dueOf s)=true) (g3:decide (0<s.paid)=true):
  Calls Tryz.prog 160 #[stV s lv] w fun e w'=>e= .returned (.bool (validB s))∧Below w.heap.size w w':=by
 have HVb:=Lib.hid (show validB s=(noneB s.lines&& !true&&s.refunded==0) by
  have h1:validB s=standB s 1:=by unfold validB;rw [hf,decide_eq_true (by omega),hs,hp];rfl
  have h2:(s.paid==dueOf s&&decide (0<s.paid))=true:=by rw [g1,g3];rfl
  rw [h1];unfold standB;rw [h2];rfl)
 have hbp:=bounded_p hf
 have HBO:=Lib.hid (stBO (lv:=lv) hf hw)
 obtain⟨D,hD⟩: ∃ D,D=dueOf s:=⟨_,rfl⟩
 have HDU:=Lib.hid (stDU (lv:=lv) hD hbp)
 have HH:=Lib.hid (stHH hr)
 have HSH:=Lib.hid (stSH s lv)
 obtain⟨nB,hnB⟩: ∃ x,x=noneB s.lines:=⟨_,rfl⟩
 obtain⟨wB,hwB⟩: ∃ x,x=wholeB s.lines:=⟨_,rfl⟩
 rw [←hnB,←hwB] at HSH
 rw [←hD] at hm g1
 rw [←hnB] at HVb
 have d1:decide (D<s.paid)=false:=decide_eq_false hm
 have hm2:s.paid≤D:=by omega
 have HS:=Lib.hid hs
 have HP:=Lib.hid hp
 obtain⟨oa,cap,hlv,_,_,_⟩:=hr.shape
 have HLV:=Lib.hid hlv
 clear hr hw hf hbp hD hm hs hp hnB hwB hlv
 go_enter Tryz.func160,Tryz.ntmps160
 go_wp2
 refine wp_region_held_drew (S:=fun w'=>StBlk w' w.heap.size s lv∧LnRow w' lv s.lines∧Below w.heap.size w w') (by kernel_rfl) HH.out (fun hHeld=> ?_)
 refine tst 0 (fun _ h=>h.1) ?_
 simp only [pA,pB,pC,pD]
 refine wpAnyH_ready (rs:=[1]) (by kernel_rfl) (by simp) ?_
 refine AllReadyH.cons rfl (fun K hK=> ?_) AllReadyH.nil
 go_simp
 go_at_call 194
 obtain⟨hSt,hLn,hBe⟩:=hHeld
 refine(HBO.out _ hLn).mono ?_
 rintro x w1 ⟨rfl,hb⟩
 go_wp2_with fail
 refine hK.out _ _ ⟨hSt.below hb,hLn.below hb,Below.next hBe hb⟩ (fun hHeld=> ?_)
 clear hK K hSt hLn hBe hb
 refine tf stF 2 rfl ?_
 refine tf stF 3 rfl ?_
 refine tf stF 4 rfl ?_
 refine tf stF 5 rfl ?_
 refine tst 6 (fun _ h=>h.1) ?_
 simp only [pA,pB,pC,pD]
 refine wpAnyH_ready (rs:=[7]) (by kernel_rfl) (by simp) ?_
 refine AllReadyH.cons rfl (fun K hK=> ?_) AllReadyH.nil
 go_simp
 go_at_call 195
 obtain⟨hSt,hLn,hBe⟩:=hHeld
 refine(HDU.out _ hLn).mono ?_
 rintro x w2 ⟨rfl,hb⟩
 go_wp2_with fail
 refine hK.out _ _ ⟨hSt.below hb,hLn.below hb,Below.next hBe hb⟩ (fun hHeld=> ?_)
 clear hK K hSt hLn hBe hb
 refine tf stF 8 rfl ?_
 refine tf stF 9 rfl ?_
 refine wpAnyH_done (by kernel_rfl) ?_ _
 have c1:w2.cell? ⟨w.heap.size,1,none⟩=some (.int .i64 2):=by rw [hHeld.1.cell 1,stCs,HS.out];rfl
 have c2:w2.cell? ⟨w.heap.size,2,none⟩=some (.int .i64 1):=by rw [hHeld.1.cell 2,stCs,HP.out];rfl
 have HE:=Lib.hid hHeld
 clear hHeld HBO HH
 go_wp2_with (first
  | (with_reducible refine wpList_load_st rfl (.tmp 1) rfl w.heap.size s lv rfl HE.out.1 ?_)
  | (go_at_call 196;refine(HSH.out _ HE.out.2.1).mono ?_;rintro x w3 ⟨rfl,hb⟩;have HE3:=Lib.hid (show StBlk w3 w.heap.size s lv∧LnRow w3 lv s.lines∧Below w.heap.size w w3 from⟨HE.out.1.below hb,HE.out.2.1.below hb,Below.next HE.out.2.2 hb⟩);clear hb))
 clear c1 c2 HE HSH
 refine wp_region_held_drew (S:=fun w'=>StBlk w' w.heap.size s lv∧LnRow w' lv s.lines∧Below w.heap.size w w') (by kernel_rfl) ⟨HE3.out.1,HE3.out.2.1,Below.next HE3.out.2.2 (below_drewN' _ 1)⟩ (fun hHeld=> ?_)
 refine tf stF 0 rfl ?_
 refine tf stF 1 rfl ?_
 refine tst 2 (fun _ h=>h.1) ?_
 simp only [pA,pB,pC,pD]
 refine wpAnyH_ready (rs:=[3]) (by kernel_rfl) (by simp) ?_
 refine AllReadyH.cons rfl (fun K hK=> ?_) AllReadyH.nil
 go_simp
 go_at_call 195
 obtain⟨hSt,hLn,hBe⟩:=hHeld
 refine(HDU.out _ hLn).mono ?_
 rintro x w4 ⟨rfl,hb⟩
 go_wp2_with fail
 refine hK.out _ _ ⟨hSt.below hb,hLn.below hb,Below.next hBe hb⟩ (fun hHeld=> ?_)
 clear hK K hSt hLn hBe hb
 refine tf stF 4 rfl ?_
 refine tf stF 5 rfl ?_
 refine tf stF 6 rfl ?_
 refine tf stF 7 rfl ?_
 refine tf stF 8 rfl ?_
 refine tf stF 9 rfl ?_
 refine tf stF 10 rfl ?_
 refine wpAnyH_done (by kernel_rfl) ?_ _
 have HB:=Lib.hid hHeld.2.2
 have d3:w4.cell? ⟨w.heap.size,3,none⟩=some (.int .i64 s.cur):=hHeld.1.cell 3
 have d4:w4.cell? ⟨w.heap.size,4,none⟩=some (.int .i64 s.tax):=hHeld.1.cell 4
 have d5:w4.cell? ⟨w.heap.size,5,none⟩=some (.slice oa s.lines.length cap):=by rw [hHeld.1.cell 5,stCs,HLV.out];rfl
 have d7:w4.cell? ⟨w.heap.size,7,none⟩=some (.int .i64 s.refunded):=hHeld.1.cell 7
 have d8:w4.cell? ⟨w.heap.size,8,none⟩=some (.int .i64 s.events):=hHeld.1.cell 8
 have d9:w4.cell? ⟨w.heap.size,9,none⟩=some (.int .i64 s.refused):=hHeld.1.cell 9
 have d10:w4.cell? ⟨w.heap.size,10,none⟩=some (.int .i64 s.stamp):=hHeld.1.cell 10
 have d11:w4.cell? ⟨w.heap.size,11,none⟩=some (.string ⟨s.who.toArray⟩):=hHeld.1.cell 11
 clear hHeld HE3 HDU
 cases nB
 ·skip
  go_wp2
  go_ret
  exact⟨by rw [HVb.out];rfl,HB.out⟩
 ·skip
  go_wp2
  go_ret
  exact⟨by rw [HVb.out];rfl,HB.out⟩
set_option maxRecDepth 100000 in
set_option maxHeartbeats 16000000 in
theorem oValid_1_0_0 (s:St) (lv:Value) (w:World) (hr:LnRow w lv s.lines) (hw:s.who.length≤281474976710656) (hf:boundedB s=true) (hm: ¬ dueOf s<s.paid) (hs:s.status=1) (hp:s.prior=0) (g1:(s.paid==dueOf s)=false):
  Calls Tryz.prog 160 #[stV s lv] w fun e w'=>e= .returned (.bool (validB s))∧Below w.heap.size w w':=by
 have HVb:=Lib.hid (show validB s=(noneB s.lines&& !false&&s.refunded==0) by
  have h1:validB s=standB s 1:=by unfold validB;rw [hf,decide_eq_true (by omega),hs,hp];rfl
  have h2:(s.paid==dueOf s&&decide (0<s.paid))=false:=by rw [g1];rfl
  rw [h1];unfold standB;rw [h2];rfl)
 have hbp:=bounded_p hf
 have HBO:=Lib.hid (stBO (lv:=lv) hf hw)
 obtain⟨D,hD⟩: ∃ D,D=dueOf s:=⟨_,rfl⟩
 have HDU:=Lib.hid (stDU (lv:=lv) hD hbp)
 have HH:=Lib.hid (stHH hr)
 have HSH:=Lib.hid (stSH s lv)
 obtain⟨nB,hnB⟩: ∃ x,x=noneB s.lines:=⟨_,rfl⟩
 obtain⟨wB,hwB⟩: ∃ x,x=wholeB s.lines:=⟨_,rfl⟩
 rw [←hnB,←hwB] at HSH
 rw [←hD] at hm g1
 rw [←hnB] at HVb
 have d1:decide (D<s.paid)=false:=decide_eq_false hm
 have hm2:s.paid≤D:=by omega
 have HS:=Lib.hid hs
 have HP:=Lib.hid hp
 obtain⟨oa,cap,hlv,_,_,_⟩:=hr.shape
 have HLV:=Lib.hid hlv
 clear hr hw hf hbp hD hm hs hp hnB hwB hlv
 go_enter Tryz.func160,Tryz.ntmps160
 go_wp2
 refine wp_region_held_drew (S:=fun w'=>StBlk w' w.heap.size s lv∧LnRow w' lv s.lines∧Below w.heap.size w w') (by kernel_rfl) HH.out (fun hHeld=> ?_)
 refine tst 0 (fun _ h=>h.1) ?_
 simp only [pA,pB,pC,pD]
 refine wpAnyH_ready (rs:=[1]) (by kernel_rfl) (by simp) ?_
 refine AllReadyH.cons rfl (fun K hK=> ?_) AllReadyH.nil
 go_simp
 go_at_call 194
 obtain⟨hSt,hLn,hBe⟩:=hHeld
 refine(HBO.out _ hLn).mono ?_
 rintro x w1 ⟨rfl,hb⟩
 go_wp2_with fail
 refine hK.out _ _ ⟨hSt.below hb,hLn.below hb,Below.next hBe hb⟩ (fun hHeld=> ?_)
 clear hK K hSt hLn hBe hb
 refine tf stF 2 rfl ?_
 refine tf stF 3 rfl ?_
 refine tf stF 4 rfl ?_
 refine tf stF 5 rfl ?_
 refine tst 6 (fun _ h=>h.1) ?_
 simp only [pA,pB,pC,pD]
 refine wpAnyH_ready (rs:=[7]) (by kernel_rfl) (by simp) ?_
 refine AllReadyH.cons rfl (fun K hK=> ?_) AllReadyH.nil
 go_simp
 go_at_call 195
 obtain⟨hSt,hLn,hBe⟩:=hHeld
 refine(HDU.out _ hLn).mono ?_
 rintro x w2 ⟨rfl,hb⟩
 go_wp2_with fail
 refine hK.out _ _ ⟨hSt.below hb,hLn.below hb,Below.next hBe hb⟩ (fun hHeld=> ?_)
 clear hK K hSt hLn hBe hb
 refine tf stF 8 rfl ?_
 refine tf stF 9 rfl ?_
 refine wpAnyH_done (by kernel_rfl) ?_ _
 have c1:w2.cell? ⟨w.heap.size,1,none⟩=some (.int .i64 1):=by rw [hHeld.1.cell 1,stCs,HS.out];rfl
 have c2:w2.cell? ⟨w.heap.size,2,none⟩=some (.int .i64 0):=by rw [hHeld.1.cell 2,stCs,HP.out];rfl
 have HE:=Lib.hid hHeld
 clear hHeld HBO HH
 go_wp2_with (first
  | (with_reducible refine wpList_load_st rfl (.tmp 1) rfl w.heap.size s lv rfl HE.out.1 ?_)
  | (go_at_call 196;refine(HSH.out _ HE.out.2.1).mono ?_;rintro x w3 ⟨rfl,hb⟩;have HE3:=Lib.hid (show StBlk w3 w.heap.size s lv∧LnRow w3 lv s.lines∧Below w.heap.size w w3 from⟨HE.out.1.below hb,HE.out.2.1.below hb,Below.next HE.out.2.2 hb⟩);clear hb))
 clear c1 c2 HE HSH
 refine wp_region_held_drew (S:=fun w'=>StBlk w' w.heap.size s lv∧LnRow w' lv s.lines∧Below w.heap.size w w') (by kernel_rfl) ⟨HE3.out.1,HE3.out.2.1,Below.next HE3.out.2.2 (below_drewN' _ 1)⟩ (fun hHeld=> ?_)
 refine tf stF 0 rfl ?_
 refine tf stF 1 rfl ?_
 refine tst 2 (fun _ h=>h.1) ?_
 simp only [pA,pB,pC,pD]
 refine wpAnyH_ready (rs:=[3]) (by kernel_rfl) (by simp) ?_
 refine AllReadyH.cons rfl (fun K hK=> ?_) AllReadyH.nil
 go_simp
 go_at_call 195
 obtain⟨hSt,hLn,hBe⟩:=hHeld
 refine(HDU.out _ hLn).mono ?_
 rintro x w4 ⟨rfl,hb⟩
 go_wp2_with fail
 refine hK.out _ _ ⟨hSt.below hb,hLn.below hb,Below.next hBe hb⟩ (fun hHeld=> ?_)
 clear hK K hSt hLn hBe hb
 refine tf stF 4 rfl ?_
 refine tf stF 5 rfl ?_
 refine tkn 6 rfl ?_
 simp only [pA,pB,pC,pD]
 refine tkn 7 rfl ?_
 simp only [pA,pB,pC,pD]
 refine tkn 8 rfl ?_
 simp only [pA,pB,pC,pD]
 refine tf stF 9 rfl ?_
 refine tf stF 10 rfl ?_
 refine wpAnyH_done (by kernel_rfl) ?_ _
 have HB:=Lib.hid hHeld.2.2
 have d3:w4.cell? ⟨w.heap.size,3,none⟩=some (.int .i64 s.cur):=hHeld.1.cell 3
 have d4:w4.cell? ⟨w.heap.size,4,none⟩=some (.int .i64 s.tax):=hHeld.1.cell 4
 have d5:w4.cell? ⟨w.heap.size,5,none⟩=some (.slice oa s.lines.length cap):=by rw [hHeld.1.cell 5,stCs,HLV.out];rfl
 have d7:w4.cell? ⟨w.heap.size,7,none⟩=some (.int .i64 s.refunded):=hHeld.1.cell 7
 have d8:w4.cell? ⟨w.heap.size,8,none⟩=some (.int .i64 s.events):=hHeld.1.cell 8
 have d9:w4.cell? ⟨w.heap.size,9,none⟩=some (.int .i64 s.refused):=hHeld.1.cell 9
 have d10:w4.cell? ⟨w.heap.size,10,none⟩=some (.int .i64 s.stamp):=hHeld.1.cell 10
 have d11:w4.cell? ⟨w.heap.size,11,none⟩=some (.string ⟨s.who.toArray⟩):=hHeld.1.cell 11
 clear hHeld HE3 HDU
 cases nB
 ·skip
  go_wp2
  go_ret
  exact⟨by rw [HVb.out];rfl,HB.out⟩
 ·by_cases hrf:s.refunded=0
  ·have r1:(s.refunded==0)=true:=by rw [beq_iff_eq];exact hrf
   clear hrf
   go_wp2
   go_ret
   exact⟨by rw [HVb.out,r1];rfl,HB.out⟩
  ·have r1:(s.refunded==0)=false:=by rw [beq_eq_false_iff_ne];exact hrf
   clear hrf
   go_wp2
   go_ret
   exact⟨by rw [HVb.out,r1];rfl,HB.out⟩
set_option maxRecDepth 100000 in
set_option maxHeartbeats 16000000 in
theorem oValid_1_0_1 (s:St) (lv:Value) (w:World) (hr:LnRow w lv s.lines) (hw:s.who.length≤281474976710656) (hf:boundedB s=true) (hm: ¬ dueOf s<s.paid) (hs:s.status=1) (hp:s.prior=0) (g1:(s.paid==dueOf s)=true) (g3:decide (0<s.paid)=false):
  Calls Tryz.prog 160 #[stV s lv] w fun e w'=>e= .returned (.bool (validB s))∧Below w.heap.size w w':=by
 have HVb:=Lib.hid (show validB s=(noneB s.lines&& !false&&s.refunded==0) by
  have h1:validB s=standB s 1:=by unfold validB;rw [hf,decide_eq_true (by omega),hs,hp];rfl
  have h2:(s.paid==dueOf s&&decide (0<s.paid))=false:=by rw [g1,g3];rfl
  rw [h1];unfold standB;rw [h2];rfl)
 have hbp:=bounded_p hf
 have HBO:=Lib.hid (stBO (lv:=lv) hf hw)
 obtain⟨D,hD⟩: ∃ D,D=dueOf s:=⟨_,rfl⟩
 have HDU:=Lib.hid (stDU (lv:=lv) hD hbp)
 have HH:=Lib.hid (stHH hr)
 have HSH:=Lib.hid (stSH s lv)
 obtain⟨nB,hnB⟩: ∃ x,x=noneB s.lines:=⟨_,rfl⟩
 obtain⟨wB,hwB⟩: ∃ x,x=wholeB s.lines:=⟨_,rfl⟩
 rw [←hnB,←hwB] at HSH
 rw [←hD] at hm g1
 rw [←hnB] at HVb
 have d1:decide (D<s.paid)=false:=decide_eq_false hm
 have hm2:s.paid≤D:=by omega
 have HS:=Lib.hid hs
 have HP:=Lib.hid hp
 obtain⟨oa,cap,hlv,_,_,_⟩:=hr.shape
 have HLV:=Lib.hid hlv
 clear hr hw hf hbp hD hm hs hp hnB hwB hlv
 go_enter Tryz.func160,Tryz.ntmps160
 go_wp2
 refine wp_region_held_drew (S:=fun w'=>StBlk w' w.heap.size s lv∧LnRow w' lv s.lines∧Below w.heap.size w w') (by kernel_rfl) HH.out (fun hHeld=> ?_)
 refine tst 0 (fun _ h=>h.1) ?_
 simp only [pA,pB,pC,pD]
 refine wpAnyH_ready (rs:=[1]) (by kernel_rfl) (by simp) ?_
 refine AllReadyH.cons rfl (fun K hK=> ?_) AllReadyH.nil
 go_simp
 go_at_call 194
 obtain⟨hSt,hLn,hBe⟩:=hHeld
 refine(HBO.out _ hLn).mono ?_
 rintro x w1 ⟨rfl,hb⟩
 go_wp2_with fail
 refine hK.out _ _ ⟨hSt.below hb,hLn.below hb,Below.next hBe hb⟩ (fun hHeld=> ?_)
 clear hK K hSt hLn hBe hb
 refine tf stF 2 rfl ?_
 refine tf stF 3 rfl ?_
 refine tf stF 4 rfl ?_
 refine tf stF 5 rfl ?_
 refine tst 6 (fun _ h=>h.1) ?_
 simp only [pA,pB,pC,pD]
 refine wpAnyH_ready (rs:=[7]) (by kernel_rfl) (by simp) ?_
 refine AllReadyH.cons rfl (fun K hK=> ?_) AllReadyH.nil
 go_simp
 go_at_call 195
 obtain⟨hSt,hLn,hBe⟩:=hHeld
 refine(HDU.out _ hLn).mono ?_
 rintro x w2 ⟨rfl,hb⟩
 go_wp2_with fail
 refine hK.out _ _ ⟨hSt.below hb,hLn.below hb,Below.next hBe hb⟩ (fun hHeld=> ?_)
 clear hK K hSt hLn hBe hb
 refine tf stF 8 rfl ?_
 refine tf stF 9 rfl ?_
 refine wpAnyH_done (by kernel_rfl) ?_ _
 have c1:w2.cell? ⟨w.heap.size,1,none⟩=some (.int .i64 1):=by rw [hHeld.1.cell 1,stCs,HS.out];rfl
 have c2:w2.cell? ⟨w.heap.size,2,none⟩=some (.int .i64 0):=by rw [hHeld.1.cell 2,stCs,HP.out];rfl
 have HE:=Lib.hid hHeld
 clear hHeld HBO HH
 go_wp2_with (first
  | (with_reducible refine wpList_load_st rfl (.tmp 1) rfl w.heap.size s lv rfl HE.out.1 ?_)
  | (go_at_call 196;refine(HSH.out _ HE.out.2.1).mono ?_;rintro x w3 ⟨rfl,hb⟩;have HE3:=Lib.hid (show StBlk w3 w.heap.size s lv∧LnRow w3 lv s.lines∧Below w.heap.size w w3 from⟨HE.out.1.below hb,HE.out.2.1.below hb,Below.next HE.out.2.2 hb⟩);clear hb))
 clear c1 c2 HE HSH
 refine wp_region_held_drew (S:=fun w'=>StBlk w' w.heap.size s lv∧LnRow w' lv s.lines∧Below w.heap.size w w') (by kernel_rfl) ⟨HE3.out.1,HE3.out.2.1,Below.next HE3.out.2.2 (below_drewN' _ 1)⟩ (fun hHeld=> ?_)
 refine tf stF 0 rfl ?_
 refine tf stF 1 rfl ?_
 refine tst 2 (fun _ h=>h.1) ?_
 simp only [pA,pB,pC,pD]
 refine wpAnyH_ready (rs:=[3]) (by kernel_rfl) (by simp) ?_
 refine AllReadyH.cons rfl (fun K hK=> ?_) AllReadyH.nil
 go_simp
 go_at_call 195
 obtain⟨hSt,hLn,hBe⟩:=hHeld
 refine(HDU.out _ hLn).mono ?_
 rintro x w4 ⟨rfl,hb⟩
 go_wp2_with fail
 refine hK.out _ _ ⟨hSt.below hb,hLn.below hb,Below.next hBe hb⟩ (fun hHeld=> ?_)
 clear hK K hSt hLn hBe hb
 refine tf stF 4 rfl ?_
 refine tf stF 5 rfl ?_
 refine tf stF 6 rfl ?_
 refine tf stF 7 rfl ?_
 refine tf stF 8 rfl ?_
 refine tf stF 9 rfl ?_
 refine tf stF 10 rfl ?_
 refine wpAnyH_done (by kernel_rfl) ?_ _
 have HB:=Lib.hid hHeld.2.2
 have d3:w4.cell? ⟨w.heap.size,3,none⟩=some (.int .i64 s.cur):=hHeld.1.cell 3
 have d4:w4.cell? ⟨w.heap.size,4,none⟩=some (.int .i64 s.tax):=hHeld.1.cell 4
 have d5:w4.cell? ⟨w.heap.size,5,none⟩=some (.slice oa s.lines.length cap):=by rw [hHeld.1.cell 5,stCs,HLV.out];rfl
 have d7:w4.cell? ⟨w.heap.size,7,none⟩=some (.int .i64 s.refunded):=hHeld.1.cell 7
 have d8:w4.cell? ⟨w.heap.size,8,none⟩=some (.int .i64 s.events):=hHeld.1.cell 8
 have d9:w4.cell? ⟨w.heap.size,9,none⟩=some (.int .i64 s.refused):=hHeld.1.cell 9
 have d10:w4.cell? ⟨w.heap.size,10,none⟩=some (.int .i64 s.stamp):=hHeld.1.cell 10
 have d11:w4.cell? ⟨w.heap.size,11,none⟩=some (.string ⟨s.who.toArray⟩):=hHeld.1.cell 11
 clear hHeld HE3 HDU
 cases nB
 ·skip
  go_wp2
  go_ret
  exact⟨by rw [HVb.out];rfl,HB.out⟩
 ·by_cases hrf:s.refunded=0
  ·have r1:(s.refunded==0)=true:=by rw [beq_iff_eq];exact hrf
   clear hrf
   go_wp2
   go_ret
   exact⟨by rw [HVb.out,r1];rfl,HB.out⟩
  ·have r1:(s.refunded==0)=false:=by rw [beq_eq_false_iff_ne];exact hrf
   clear hrf
   go_wp2
   go_ret
   exact⟨by rw [HVb.out,r1];rfl,HB.out⟩
set_option maxRecDepth 100000 in
set_option maxHeartbeats 16000000 in
theorem oValid_1_0_2 (s:St) (lv:Value) (w:World) (hr:LnRow w lv s.lines) (hw:s.who.length≤281474976710656) (hf:boundedB s=true) (hm: ¬ dueOf s<s.paid) (hs:s.status=1) (hp:s.prior=0) (g1:(s.paid==dueOf s)=true) (g3:decide (0<s.paid)=true):
  Calls Tryz.prog 160 #[stV s lv] w fun e w'=>e= .returned (.bool (validB s))∧Below w.heap.size w w':=by
 have HVb:=Lib.hid (show validB s=(noneB s.lines&& !true&&s.refunded==0) by
  have h1:validB s=standB s 1:=by unfold validB;rw [hf,decide_eq_true (by omega),hs,hp];rfl
  have h2:(s.paid==dueOf s&&decide (0<s.paid))=true:=by rw [g1,g3];rfl
  rw [h1];unfold standB;rw [h2];rfl)
 have hbp:=bounded_p hf
 have HBO:=Lib.hid (stBO (lv:=lv) hf hw)
 obtain⟨D,hD⟩: ∃ D,D=dueOf s:=⟨_,rfl⟩
 have HDU:=Lib.hid (stDU (lv:=lv) hD hbp)
 have HH:=Lib.hid (stHH hr)
 have HSH:=Lib.hid (stSH s lv)
 obtain⟨nB,hnB⟩: ∃ x,x=noneB s.lines:=⟨_,rfl⟩
 obtain⟨wB,hwB⟩: ∃ x,x=wholeB s.lines:=⟨_,rfl⟩
 rw [←hnB,←hwB] at HSH
 rw [←hD] at hm g1
 rw [←hnB] at HVb
 have d1:decide (D<s.paid)=false:=decide_eq_false hm
 have hm2:s.paid≤D:=by omega
 have HS:=Lib.hid hs
 have HP:=Lib.hid hp
 obtain⟨oa,cap,hlv,_,_,_⟩:=hr.shape
 have HLV:=Lib.hid hlv
 clear hr hw hf hbp hD hm hs hp hnB hwB hlv
 go_enter Tryz.func160,Tryz.ntmps160
 go_wp2
 refine wp_region_held_drew (S:=fun w'=>StBlk w' w.heap.size s lv∧LnRow w' lv s.lines∧Below w.heap.size w w') (by kernel_rfl) HH.out (fun hHeld=> ?_)
 refine tst 0 (fun _ h=>h.1) ?_
 simp only [pA,pB,pC,pD]
 refine wpAnyH_ready (rs:=[1]) (by kernel_rfl) (by simp) ?_
 refine AllReadyH.cons rfl (fun K hK=> ?_) AllReadyH.nil
 go_simp
 go_at_call 194
 obtain⟨hSt,hLn,hBe⟩:=hHeld
 refine(HBO.out _ hLn).mono ?_
 rintro x w1 ⟨rfl,hb⟩
 go_wp2_with fail
 refine hK.out _ _ ⟨hSt.below hb,hLn.below hb,Below.next hBe hb⟩ (fun hHeld=> ?_)
 clear hK K hSt hLn hBe hb
 refine tf stF 2 rfl ?_
 refine tf stF 3 rfl ?_
 refine tf stF 4 rfl ?_
 refine tf stF 5 rfl ?_
 refine tst 6 (fun _ h=>h.1) ?_
 simp only [pA,pB,pC,pD]
 refine wpAnyH_ready (rs:=[7]) (by kernel_rfl) (by simp) ?_
 refine AllReadyH.cons rfl (fun K hK=> ?_) AllReadyH.nil
 go_simp
 go_at_call 195
 obtain⟨hSt,hLn,hBe⟩:=hHeld
 refine(HDU.out _ hLn).mono ?_
 rintro x w2 ⟨rfl,hb⟩
 go_wp2_with fail
 refine hK.out _ _ ⟨hSt.below hb,hLn.below hb,Below.next hBe hb⟩ (fun hHeld=> ?_)
 clear hK K hSt hLn hBe hb
 refine tf stF 8 rfl ?_
 refine tf stF 9 rfl ?_
 refine wpAnyH_done (by kernel_rfl) ?_ _
 have c1:w2.cell? ⟨w.heap.size,1,none⟩=some (.int .i64 1):=by rw [hHeld.1.cell 1,stCs,HS.out];rfl
 have c2:w2.cell? ⟨w.heap.size,2,none⟩=some (.int .i64 0):=by rw [hHeld.1.cell 2,stCs,HP.out];rfl
 have HE:=Lib.hid hHeld
 clear hHeld HBO HH
 go_wp2_with (first
  | (with_reducible refine wpList_load_st rfl (.tmp 1) rfl w.heap.size s lv rfl HE.out.1 ?_)
  | (go_at_call 196;refine(HSH.out _ HE.out.2.1).mono ?_;rintro x w3 ⟨rfl,hb⟩;have HE3:=Lib.hid (show StBlk w3 w.heap.size s lv∧LnRow w3 lv s.lines∧Below w.heap.size w w3 from⟨HE.out.1.below hb,HE.out.2.1.below hb,Below.next HE.out.2.2 hb⟩);clear hb))
 clear c1 c2 HE HSH
 refine wp_region_held_drew (S:=fun w'=>StBlk w' w.heap.size s lv∧LnRow w' lv s.lines∧Below w.heap.size w w') (by kernel_rfl) ⟨HE3.out.1,HE3.out.2.1,Below.next HE3.out.2.2 (below_drewN' _ 1)⟩ (fun hHeld=> ?_)
 refine tf stF 0 rfl ?_
 refine tf stF 1 rfl ?_
 refine tst 2 (fun _ h=>h.1) ?_
 simp only [pA,pB,pC,pD]
 refine wpAnyH_ready (rs:=[3]) (by kernel_rfl) (by simp) ?_
 refine AllReadyH.cons rfl (fun K hK=> ?_) AllReadyH.nil
 go_simp
 go_at_call 195
 obtain⟨hSt,hLn,hBe⟩:=hHeld
 refine(HDU.out _ hLn).mono ?_
 rintro x w4 ⟨rfl,hb⟩
 go_wp2_with fail
 refine hK.out _ _ ⟨hSt.below hb,hLn.below hb,Below.next hBe hb⟩ (fun hHeld=> ?_)
 clear hK K hSt hLn hBe hb
 refine tf stF 4 rfl ?_
 refine tf stF 5 rfl ?_
 refine tf stF 6 rfl ?_
 refine tf stF 7 rfl ?_
 refine tf stF 8 rfl ?_
 refine tf stF 9 rfl ?_
 refine tf stF 10 rfl ?_
 refine wpAnyH_done (by kernel_rfl) ?_ _
 have HB:=Lib.hid hHeld.2.2
 have d3:w4.cell? ⟨w.heap.size,3,none⟩=some (.int .i64 s.cur):=hHeld.1.cell 3
 have d4:w4.cell? ⟨w.heap.size,4,none⟩=some (.int .i64 s.tax):=hHeld.1.cell 4
 have d5:w4.cell? ⟨w.heap.size,5,none⟩=some (.slice oa s.lines.length cap):=by rw [hHeld.1.cell 5,stCs,HLV.out];rfl
 have d7:w4.cell? ⟨w.heap.size,7,none⟩=some (.int .i64 s.refunded):=hHeld.1.cell 7
 have d8:w4.cell? ⟨w.heap.size,8,none⟩=some (.int .i64 s.events):=hHeld.1.cell 8
 have d9:w4.cell? ⟨w.heap.size,9,none⟩=some (.int .i64 s.refused):=hHeld.1.cell 9
 have d10:w4.cell? ⟨w.heap.size,10,none⟩=some (.int .i64 s.stamp):=hHeld.1.cell 10
 have d11:w4.cell? ⟨w.heap.size,11,none⟩=some (.string ⟨s.who.toArray⟩):=hHeld.1.cell 11
 clear hHeld HE3 HDU
 cases nB
 ·skip
  go_wp2
  go_ret
  exact⟨by rw [HVb.out];rfl,HB.out⟩
 ·skip
  go_wp2
  go_ret
  exact⟨by rw [HVb.out];rfl,HB.out⟩
end Go.Proofs.YtlobohpbgghleaaGreatDoor

namespace Go.Proofs.YtlobohpbgghleaaGreatDoor
open Go.RowKit
theorem sixB (b1 b2 b3 b4 b5 b6:Bool):b1=false∨(b1=true∧b2=false)∨(b1=true∧b2=true∧b3=false)∨(b1=true∧b2=true∧b3=true∧b4=false)∨(b1=true∧b2=true∧b3=true∧b4=true∧b5=false)∨(b1=true∧b2=true∧b3=true∧b4=true∧b5=true∧b6=false)∨(b1=true∧b2=true∧b3=true∧b4=true∧b5=true∧b6=true):=by
 cases b1<;>cases b2<;>cases b3<;>cases b4<;>cases b5<;>cases b6<;>decide
set_option maxRecDepth 100000 in
set_option maxHeartbeats 16000000 in
theorem oValid_0_0_0 (s:St) (lv:Value) (w:World) (hr:LnRow w lv s.lines) (hw:s.who.length≤281474976710656) (hf:boundedB s=true) (hm: ¬ dueOf s<s.paid) (hs:s.status=0) (hp:s.prior=0) (g1:(s.paid==dueOf s)=false):
  Calls Tryz.prog 160 #[stV s lv] w fun e w'=>e= .returned (.bool (validB s))∧Below w.heap.size w w':=by
 have HVb:=Lib.hid (show validB s=(s.lines.isEmpty&&s.cur==0&&s.tax==0&&s.events==s.refused&&s.stamp==0&&s.who.isEmpty) by
  have h1:validB s=standB s 0:=by unfold validB;rw [hf,decide_eq_true (by omega),hs,hp];rfl
  have h2:(s.paid==dueOf s&&decide (0<s.paid))=false:=by rw [g1];rfl
  rw [h1];unfold standB;rw [h2];rfl)
 have hbp:=bounded_p hf
 have HBO:=Lib.hid (stBO (lv:=lv) hf hw)
 obtain⟨D,hD⟩: ∃ D,D=dueOf s:=⟨_,rfl⟩
 have HDU:=Lib.hid (stDU (lv:=lv) hD hbp)
 have HH:=Lib.hid (stHH hr)
 have HSH:=Lib.hid (stSH s lv)
 obtain⟨nB,hnB⟩: ∃ x,x=noneB s.lines:=⟨_,rfl⟩
 obtain⟨wB,hwB⟩: ∃ x,x=wholeB s.lines:=⟨_,rfl⟩
 rw [←hnB,←hwB] at HSH
 rw [←hD] at hm g1
 have d1:decide (D<s.paid)=false:=decide_eq_false hm
 have hm2:s.paid≤D:=by omega
 have HS:=Lib.hid hs
 have HP:=Lib.hid hp
 obtain⟨oa,cap,hlv,_,_,_⟩:=hr.shape
 have HLV:=Lib.hid hlv
 clear hr hw hf hbp hD hm hs hp hnB hwB hlv
 go_enter Tryz.func160,Tryz.ntmps160
 go_wp2
 refine wp_region_held_drew (S:=fun w'=>StBlk w' w.heap.size s lv∧LnRow w' lv s.lines∧Below w.heap.size w w') (by kernel_rfl) HH.out (fun hHeld=> ?_)
 refine tst 0 (fun _ h=>h.1) ?_
 simp only [pA,pB,pC,pD]
 refine wpAnyH_ready (rs:=[1]) (by kernel_rfl) (by simp) ?_
 refine AllReadyH.cons rfl (fun K hK=> ?_) AllReadyH.nil
 go_simp
 go_at_call 194
 obtain⟨hSt,hLn,hBe⟩:=hHeld
 refine(HBO.out _ hLn).mono ?_
 rintro x w1 ⟨rfl,hb⟩
 go_wp2_with fail
 refine hK.out _ _ ⟨hSt.below hb,hLn.below hb,Below.next hBe hb⟩ (fun hHeld=> ?_)
 clear hK K hSt hLn hBe hb
 refine tf stF 2 rfl ?_
 refine tf stF 3 rfl ?_
 refine tf stF 4 rfl ?_
 refine tf stF 5 rfl ?_
 refine tst 6 (fun _ h=>h.1) ?_
 simp only [pA,pB,pC,pD]
 refine wpAnyH_ready (rs:=[7]) (by kernel_rfl) (by simp) ?_
 refine AllReadyH.cons rfl (fun K hK=> ?_) AllReadyH.nil
 go_simp
 go_at_call 195
 obtain⟨hSt,hLn,hBe⟩:=hHeld
 refine(HDU.out _ hLn).mono ?_
 rintro x w2 ⟨rfl,hb⟩
 go_wp2_with fail
 refine hK.out _ _ ⟨hSt.below hb,hLn.below hb,Below.next hBe hb⟩ (fun hHeld=> ?_)
 clear hK K hSt hLn hBe hb
 refine tf stF 8 rfl ?_
 refine tf stF 9 rfl ?_
 refine wpAnyH_done (by kernel_rfl) ?_ _
 have c1:w2.cell? ⟨w.heap.size,1,none⟩=some (.int .i64 0):=by rw [hHeld.1.cell 1,stCs,HS.out];rfl
 have c2:w2.cell? ⟨w.heap.size,2,none⟩=some (.int .i64 0):=by rw [hHeld.1.cell 2,stCs,HP.out];rfl
 have HE:=Lib.hid hHeld
 clear hHeld HBO HH
 go_wp2_with (first
  | (with_reducible refine wpList_load_st rfl (.tmp 1) rfl w.heap.size s lv rfl HE.out.1 ?_)
  | (go_at_call 196;refine(HSH.out _ HE.out.2.1).mono ?_;rintro x w3 ⟨rfl,hb⟩;have HE3:=Lib.hid (show StBlk w3 w.heap.size s lv∧LnRow w3 lv s.lines∧Below w.heap.size w w3 from⟨HE.out.1.below hb,HE.out.2.1.below hb,Below.next HE.out.2.2 hb⟩);clear hb))
 clear c1 c2 HE HSH
 refine wp_region_held_drew (S:=fun w'=>StBlk w' w.heap.size s lv∧LnRow w' lv s.lines∧Below w.heap.size w w') (by kernel_rfl) ⟨HE3.out.1,HE3.out.2.1,Below.next HE3.out.2.2 (below_drewN' _ 1)⟩ (fun hHeld=> ?_)
 refine tf stF 0 rfl ?_
 refine tf stF 1 rfl ?_
 refine tst 2 (fun _ h=>h.1) ?_
 simp only [pA,pB,pC,pD]
 refine wpAnyH_ready (rs:=[3]) (by kernel_rfl) (by simp) ?_
 refine AllReadyH.cons rfl (fun K hK=> ?_) AllReadyH.nil
 go_simp
 go_at_call 195
 obtain⟨hSt,hLn,hBe⟩:=hHeld
 refine(HDU.out _ hLn).mono ?_
 rintro x w4 ⟨rfl,hb⟩
 go_wp2_with fail
 refine hK.out _ _ ⟨hSt.below hb,hLn.below hb,Below.next hBe hb⟩ (fun hHeld=> ?_)
 clear hK K hSt hLn hBe hb
 refine tf stF 4 rfl ?_
 refine tf stF 5 rfl ?_
 refine tkn 6 rfl ?_
 simp only [pA,pB,pC,pD]
 refine tkn 7 rfl ?_
 simp only [pA,pB,pC,pD]
 refine tkn 8 rfl ?_
 simp only [pA,pB,pC,pD]
 refine tf stF 9 rfl ?_
 refine tf stF 10 rfl ?_
 refine wpAnyH_done (by kernel_rfl) ?_ _
 have HB:=Lib.hid hHeld.2.2
 have d3:w4.cell? ⟨w.heap.size,3,none⟩=some (.int .i64 s.cur):=hHeld.1.cell 3
 have d4:w4.cell? ⟨w.heap.size,4,none⟩=some (.int .i64 s.tax):=hHeld.1.cell 4
 have d5:w4.cell? ⟨w.heap.size,5,none⟩=some (.slice oa s.lines.length cap):=by rw [hHeld.1.cell 5,stCs,HLV.out];rfl
 have d7:w4.cell? ⟨w.heap.size,7,none⟩=some (.int .i64 s.refunded):=hHeld.1.cell 7
 have d8:w4.cell? ⟨w.heap.size,8,none⟩=some (.int .i64 s.events):=hHeld.1.cell 8
 have d9:w4.cell? ⟨w.heap.size,9,none⟩=some (.int .i64 s.refused):=hHeld.1.cell 9
 have d10:w4.cell? ⟨w.heap.size,10,none⟩=some (.int .i64 s.stamp):=hHeld.1.cell 10
 have d11:w4.cell? ⟨w.heap.size,11,none⟩=some (.string ⟨s.who.toArray⟩):=hHeld.1.cell 11
 clear hHeld HE3 HDU
 have l1:((s.lines.length:Int)==0)=s.lines.isEmpty:=by cases s.lines<;>simp<;>omega
 rcases sixB s.lines.isEmpty (s.cur==0) (s.tax==0) (s.events==s.refused) (s.stamp==0) s.who.isEmpty with k1 | ⟨k1,k2⟩ | ⟨k1,k2,k3⟩ | ⟨k1,k2,k3,k4⟩ | ⟨k1,k2,k3,k4,k5⟩ | ⟨k1,k2,k3,k4,k5,k6⟩ | ⟨k1,k2,k3,k4,k5,k6⟩
 ·rw [k1] at l1
  go_wp2
  go_ret
  exact⟨by rw [HVb.out,k1];rfl,HB.out⟩
 ·rw [k1] at l1
  go_wp2
  go_ret
  exact⟨by rw [HVb.out,k1,k2];rfl,HB.out⟩
 ·rw [k1] at l1
  go_wp2
  go_ret
  exact⟨by rw [HVb.out,k1,k2,k3];rfl,HB.out⟩
 ·rw [k1] at l1
  go_wp2
  go_ret
  exact⟨by rw [HVb.out,k1,k2,k3,k4];rfl,HB.out⟩
 ·rw [k1] at l1
  go_wp2
  go_ret
  exact⟨by rw [HVb.out,k1,k2,k3,k4,k5];rfl,HB.out⟩
 ·rw [k1] at l1
  go_wp2
  go_ret
  exact⟨by rw [HVb.out,k1,k2,k3,k4,k5,k6];rfl,HB.out⟩
 ·rw [k1] at l1
  go_wp2
  go_ret
  exact⟨by rw [HVb.out,k1,k2,k3,k4,k5,k6];rfl,HB.out⟩
set_option maxRecDepth 100000 in
set_option maxHeartbeats 16000000 in
theorem oValid_0_0_1 (s:St) (lv:Value) (w:World) (hr:LnRow w lv s.lines) (hw:s.who.length≤281474976710656) (hf:boundedB s=true) (hm: ¬ dueOf s<s.paid) (hs:s.status=0) (hp:s.prior=0) (g1:(s.paid==dueOf s)=true) (g3:decide (0<s.paid)=false):
  Calls Tryz.prog 160 #[stV s lv] w fun e w'=>e= .returned (.bool (validB s))∧Below w.heap.size w w':=by
 have HVb:=Lib.hid (show validB s=(s.lines.isEmpty&&s.cur==0&&s.tax==0&&s.events==s.refused&&s.stamp==0&&s.who.isEmpty) by
  have h1:validB s=standB s 0:=by unfold validB;rw [hf,decide_eq_true (by omega),hs,hp];rfl
  have h2:(s.paid==dueOf s&&decide (0<s.paid))=false:=by rw [g1,g3];rfl
  rw [h1];unfold standB;rw [h2];rfl)
 have hbp:=bounded_p hf
 have HBO:=Lib.hid (stBO (lv:=lv) hf hw)
 obtain⟨D,hD⟩: ∃ D,D=dueOf s:=⟨_,rfl⟩
 have HDU:=Lib.hid (stDU (lv:=lv) hD hbp)
 have HH:=Lib.hid (stHH hr)
 have HSH:=Lib.hid (stSH s lv)
 obtain⟨nB,hnB⟩: ∃ x,x=noneB s.lines:=⟨_,rfl⟩
 obtain⟨wB,hwB⟩: ∃ x,x=wholeB s.lines:=⟨_,rfl⟩
 rw [←hnB,←hwB] at HSH
 rw [←hD] at hm g1
 have d1:decide (D<s.paid)=false:=decide_eq_false hm
 have hm2:s.paid≤D:=by omega
 have HS:=Lib.hid hs
 have HP:=Lib.hid hp
 obtain⟨oa,cap,hlv,_,_,_⟩:=hr.shape
 have HLV:=Lib.hid hlv
 clear hr hw hf hbp hD hm hs hp hnB hwB hlv
 go_enter Tryz.func160,Tryz.ntmps160
 go_wp2
 refine wp_region_held_drew (S:=fun w'=>StBlk w' w.heap.size s lv∧LnRow w' lv s.lines∧Below w.heap.size w w') (by kernel_rfl) HH.out (fun hHeld=> ?_)
 refine tst 0 (fun _ h=>h.1) ?_
 simp only [pA,pB,pC,pD]
 refine wpAnyH_ready (rs:=[1]) (by kernel_rfl) (by simp) ?_
 refine AllReadyH.cons rfl (fun K hK=> ?_) AllReadyH.nil
 go_simp
 go_at_call 194
 obtain⟨hSt,hLn,hBe⟩:=hHeld
 refine(HBO.out _ hLn).mono ?_
 rintro x w1 ⟨rfl,hb⟩
 go_wp2_with fail
 refine hK.out _ _ ⟨hSt.below hb,hLn.below hb,Below.next hBe hb⟩ (fun hHeld=> ?_)
 clear hK K hSt hLn hBe hb
 refine tf stF 2 rfl ?_
 refine tf stF 3 rfl ?_
 refine tf stF 4 rfl ?_
 refine tf stF 5 rfl ?_
 refine tst 6 (fun _ h=>h.1) ?_
 simp only [pA,pB,pC,pD]
 refine wpAnyH_ready (rs:=[7]) (by kernel_rfl) (by simp) ?_
 refine AllReadyH.cons rfl (fun K hK=> ?_) AllReadyH.nil
 go_simp
 go_at_call 195
 obtain⟨hSt,hLn,hBe⟩:=hHeld
 refine(HDU.out _ hLn).mono ?_
 rintro x w2 ⟨rfl,hb⟩
 go_wp2_with fail
 refine hK.out _ _ ⟨hSt.below hb,hLn.below hb,Below.next hBe hb⟩ (fun hHeld=> ?_)
 clear hK K hSt hLn hBe hb
 refine tf stF 8 rfl ?_
 refine tf stF 9 rfl ?_
 refine wpAnyH_done (by kernel_rfl) ?_ _
 have c1:w2.cell? ⟨w.heap.size,1,none⟩=some (.int .i64 0):=by rw [hHeld.1.cell 1,stCs,HS.out];rfl
 have c2:w2.cell? ⟨w.heap.size,2,none⟩=some (.int .i64 0):=by rw [hHeld.1.cell 2,stCs,HP.out];rfl
 have HE:=Lib.hid hHeld
 clear hHeld HBO HH
 go_wp2_with (first
  | (with_reducible refine wpList_load_st rfl (.tmp 1) rfl w.heap.size s lv rfl HE.out.1 ?_)
  | (go_at_call 196;refine(HSH.out _ HE.out.2.1).mono ?_;rintro x w3 ⟨rfl,hb⟩;have HE3:=Lib.hid (show StBlk w3 w.heap.size s lv∧LnRow w3 lv s.lines∧Below w.heap.size w w3 from⟨HE.out.1.below hb,HE.out.2.1.below hb,Below.next HE.out.2.2 hb⟩);clear hb))
 clear c1 c2 HE HSH
 refine wp_region_held_drew (S:=fun w'=>StBlk w' w.heap.size s lv∧LnRow w' lv s.lines∧Below w.heap.size w w') (by kernel_rfl) ⟨HE3.out.1,HE3.out.2.1,Below.next HE3.out.2.2 (below_drewN' _ 1)⟩ (fun hHeld=> ?_)
 refine tf stF 0 rfl ?_
 refine tf stF 1 rfl ?_
 refine tst 2 (fun _ h=>h.1) ?_
 simp only [pA,pB,pC,pD]
 refine wpAnyH_ready (rs:=[3]) (by kernel_rfl) (by simp) ?_
 refine AllReadyH.cons rfl (fun K hK=> ?_) AllReadyH.nil
 go_simp
 go_at_call 195
 obtain⟨hSt,hLn,hBe⟩:=hHeld
 refine(HDU.out _ hLn).mono ?_
 rintro x w4 ⟨rfl,hb⟩
 go_wp2_with fail
 refine hK.out _ _ ⟨hSt.below hb,hLn.below hb,Below.next hBe hb⟩ (fun hHeld=> ?_)
 clear hK K hSt hLn hBe hb
 refine tf stF 4 rfl ?_
 refine tf stF 5 rfl ?_
 refine tf stF 6 rfl ?_
 refine tf stF 7 rfl ?_
 refine tf stF 8 rfl ?_
 refine tf stF 9 rfl ?_
 refine tf stF 10 rfl ?_
 refine wpAnyH_done (by kernel_rfl) ?_ _
 have HB:=Lib.hid hHeld.2.2
 have d3:w4.cell? ⟨w.heap.size,3,none⟩=some (.int .i64 s.cur):=hHeld.1.cell 3
 have d4:w4.cell? ⟨w.heap.size,4,none⟩=some (.int .i64 s.tax):=hHeld.1.cell 4
 have d5:w4.cell? ⟨w.heap.size,5,none⟩=some (.slice oa s.lines.length cap):=by rw [hHeld.1.cell 5,stCs,HLV.out];rfl
 have d7:w4.cell? ⟨w.heap.size,7,none⟩=some (.int .i64 s.refunded):=hHeld.1.cell 7
 have d8:w4.cell? ⟨w.heap.size,8,none⟩=some (.int .i64 s.events):=hHeld.1.cell 8
 have d9:w4.cell? ⟨w.heap.size,9,none⟩=some (.int .i64 s.refused):=hHeld.1.cell 9
 have d10:w4.cell? ⟨w.heap.size,10,none⟩=some (.int .i64 s.stamp):=hHeld.1.cell 10
 have d11:w4.cell? ⟨w.heap.size,11,none⟩=some (.string ⟨s.who.toArray⟩):=hHeld.1.cell 11
 clear hHeld HE3 HDU
 have l1:((s.lines.length:Int)==0)=s.lines.isEmpty:=by cases s.lines<;>simp<;>omega
 rcases sixB s.lines.isEmpty (s.cur==0) (s.tax==0) (s.events==s.refused) (s.stamp==0) s.who.isEmpty with k1 | ⟨k1,k2⟩ | ⟨k1,k2,k3⟩ | ⟨k1,k2,k3,k4⟩ | ⟨k1,k2,k3,k4,k5⟩ | ⟨k1,k2,k3,k4,k5,k6⟩ | ⟨k1,k2,k3,k4,k5,k6⟩
 ·rw [k1] at l1
  go_wp2
  go_ret
  exact⟨by rw [HVb.out,k1];rfl,HB.out⟩
 ·rw [k1] at l1
  go_wp2
  go_ret
  exact⟨by rw [HVb.out,k1,k2];rfl,HB.out⟩
 ·rw [k1] at l1
  go_wp2
  go_ret
  exact⟨by rw [HVb.out,k1,k2,k3];rfl,HB.out⟩
 ·rw [k1] at l1
  go_wp2
  go_ret
  exact⟨by rw [HVb.out,k1,k2,k3,k4];rfl,HB.out⟩
 ·rw [k1] at l1
  go_wp2
  go_ret
  exact⟨by rw [HVb.out,k1,k2,k3,k4,k5];rfl,HB.out⟩
 ·rw [k1] at l1
  go_wp2
  go_ret
  exact⟨by rw [HVb.out,k1,k2,k3,k4,k5,k6];rfl,HB.out⟩
 ·rw [k1] at l1
  go_wp2
  go_ret
  exact⟨by rw [HVb.out,k1,k2,k3,k4,k5,k6];rfl,HB.out⟩
set_option maxRecDepth 100000 in
set_option maxHeartbeats 16000000 in
theorem oValid_0_0_2 (s:St) (lv:Value) (w:World) (hr:LnRow w lv s.lines) (hw:s.who.length≤281474976710656) (hf:boundedB s=true) (hm: ¬ dueOf s<s.paid) (hs:s.status=0) (hp:s.prior=0) (g1:(s.paid==dueOf s)=true) (g3:decide (0<s.paid)=true):
  Calls Tryz.prog 160 #[stV s lv] w fun e w'=>e= .returned (.bool (validB s))∧Below w.heap.size w w':=by
 have HVb:=Lib.hid (show validB s=(s.lines.isEmpty&&s.cur==0&&s.tax==0&&s.events==s.refused&&s.stamp==0&&s.who.isEmpty) by
  have h1:validB s=standB s 0:=by unfold validB;rw [hf,decide_eq_true (by omega),hs,hp];rfl
  have h2:(s.paid==dueOf s&&decide (0<s.paid))=true:=by rw [g1,g3];rfl
  rw [h1];unfold standB;rw [h2];rfl)
 have hbp:=bounded_p hf
 have HBO:=Lib.hid (stBO (lv:=lv) hf hw)
 obtain⟨D,hD⟩: ∃ D,D=dueOf s:=⟨_,rfl⟩
 have HDU:=Lib.hid (stDU (lv:=lv) hD hbp)
 have HH:=Lib.hid (stHH hr)
 have HSH:=Lib.hid (stSH s lv)
 obtain⟨nB,hnB⟩: ∃ x,x=noneB s.lines:=⟨_,rfl⟩
 obtain⟨wB,hwB⟩: ∃ x,x=wholeB s.lines:=⟨_,rfl⟩
 rw [←hnB,←hwB] at HSH
 rw [←hD] at hm g1
 have d1:decide (D<s.paid)=false:=decide_eq_false hm
 have hm2:s.paid≤D:=by omega
 have HS:=Lib.hid hs
 have HP:=Lib.hid hp
 obtain⟨oa,cap,hlv,_,_,_⟩:=hr.shape
 have HLV:=Lib.hid hlv
 clear hr hw hf hbp hD hm hs hp hnB hwB hlv
 go_enter Tryz.func160,Tryz.ntmps160
 go_wp2
 refine wp_region_held_drew (S:=fun w'=>StBlk w' w.heap.size s lv∧LnRow w' lv s.lines∧Below w.heap.size w w') (by kernel_rfl) HH.out (fun hHeld=> ?_)
 refine tst 0 (fun _ h=>h.1) ?_
 simp only [pA,pB,pC,pD]
 refine wpAnyH_ready (rs:=[1]) (by kernel_rfl) (by simp) ?_
 refine AllReadyH.cons rfl (fun K hK=> ?_) AllReadyH.nil
 go_simp
 go_at_call 194
 obtain⟨hSt,hLn,hBe⟩:=hHeld
 refine(HBO.out _ hLn).mono ?_
 rintro x w1 ⟨rfl,hb⟩
 go_wp2_with fail
 refine hK.out _ _ ⟨hSt.below hb,hLn.below hb,Below.next hBe hb⟩ (fun hHeld=> ?_)
 clear hK K hSt hLn hBe hb
 refine tf stF 2 rfl ?_
 refine tf stF 3 rfl ?_
 refine tf stF 4 rfl ?_
 refine tf stF 5 rfl ?_
 refine tst 6 (fun _ h=>h.1) ?_
 simp only [pA,pB,pC,pD]
 refine wpAnyH_ready (rs:=[7]) (by kernel_rfl) (by simp) ?_
 refine AllReadyH.cons rfl (fun K hK=> ?_) AllReadyH.nil
 go_simp
 go_at_call 195
 obtain⟨hSt,hLn,hBe⟩:=hHeld
 refine(HDU.out _ hLn).mono ?_
 rintro x w2 ⟨rfl,hb⟩
 go_wp2_with fail
 refine hK.out _ _ ⟨hSt.below hb,hLn.below hb,Below.next hBe hb⟩ (fun hHeld=> ?_)
 clear hK K hSt hLn hBe hb
 refine tf stF 8 rfl ?_
 refine tf stF 9 rfl ?_
 refine wpAnyH_done (by kernel_rfl) ?_ _
 have c1:w2.cell? ⟨w.heap.size,1,none⟩=some (.int .i64 0):=by rw [hHeld.1.cell 1,stCs,HS.out];rfl
 have c2:w2.cell? ⟨w.heap.size,2,none⟩=some (.int .i64 0):=by rw [hHeld.1.cell 2,stCs,HP.out];rfl
 have HE:=Lib.hid hHeld
 clear hHeld HBO HH
 go_wp2_with (first
  | (with_reducible refine wpList_load_st rfl (.tmp 1) rfl w.heap.size s lv rfl HE.out.1 ?_)
  | (go_at_call 196;refine(HSH.out _ HE.out.2.1).mono ?_;rintro x w3 ⟨rfl,hb⟩;have HE3:=Lib.hid (show StBlk w3 w.heap.size s lv∧LnRow w3 lv s.lines∧Below w.heap.size w w3 from⟨HE.out.1.below hb,HE.out.2.1.below hb,Below.next HE.out.2.2 hb⟩);clear hb))
 clear c1 c2 HE HSH
 refine wp_region_held_drew (S:=fun w'=>StBlk w' w.heap.size s lv∧LnRow w' lv s.lines∧Below w.heap.size w w') (by kernel_rfl) ⟨HE3.out.1,HE3.out.2.1,Below.next HE3.out.2.2 (below_drewN' _ 1)⟩ (fun hHeld=> ?_)
 refine tf stF 0 rfl ?_
 refine tf stF 1 rfl ?_
 refine tst 2 (fun _ h=>h.1) ?_
 simp only [pA,pB,pC,pD]
 refine wpAnyH_ready (rs:=[3]) (by kernel_rfl) (by simp) ?_
 refine AllReadyH.cons rfl (fun K hK=> ?_) AllReadyH.nil
 go_simp
 go_at_call 195
 obtain⟨hSt,hLn,hBe⟩:=hHeld
 refine(HDU.out _ hLn).mono ?_
 rintro x w4 ⟨rfl,hb⟩
 go_wp2_with fail
 refine hK.out _ _ ⟨hSt.below hb,hLn.below hb,Below.next hBe hb⟩ (fun hHeld=> ?_)
 clear hK K hSt hLn hBe hb
 refine tf stF 4 rfl ?_
 refine tf stF 5 rfl ?_
 refine tf stF 6 rfl ?_
 refine tf stF 7 rfl ?_
 refine tf stF 8 rfl ?_
 refine tf stF 9 rfl ?_
 refine tf stF 10 rfl ?_
 refine wpAnyH_done (by kernel_rfl) ?_ _
 have HB:=Lib.hid hHeld.2.2
 have d3:w4.cell? ⟨w.heap.size,3,none⟩=some (.int .i64 s.cur):=hHeld.1.cell 3
 have d4:w4.cell? ⟨w.heap.size,4,none⟩=some (.int .i64 s.tax):=hHeld.1.cell 4
 have d5:w4.cell? ⟨w.heap.size,5,none⟩=some (.slice oa s.lines.length cap):=by rw [hHeld.1.cell 5,stCs,HLV.out];rfl
 have d7:w4.cell? ⟨w.heap.size,7,none⟩=some (.int .i64 s.refunded):=hHeld.1.cell 7
 have d8:w4.cell? ⟨w.heap.size,8,none⟩=some (.int .i64 s.events):=hHeld.1.cell 8
 have d9:w4.cell? ⟨w.heap.size,9,none⟩=some (.int .i64 s.refused):=hHeld.1.cell 9
 have d10:w4.cell? ⟨w.heap.size,10,none⟩=some (.int .i64 s.stamp):=hHeld.1.cell 10
 have d11:w4.cell? ⟨w.heap.size,11,none⟩=some (.string ⟨s.who.toArray⟩):=hHeld.1.cell 11
 clear hHeld HE3 HDU
 have l1:((s.lines.length:Int)==0)=s.lines.isEmpty:=by cases s.lines<;>simp<;>omega
 rcases sixB s.lines.isEmpty (s.cur==0) (s.tax==0) (s.events==s.refused) (s.stamp==0) s.who.isEmpty with k1 | ⟨k1,k2⟩ | ⟨k1,k2,k3⟩ | ⟨k1,k2,k3,k4⟩ | ⟨k1,k2,k3,k4,k5⟩ | ⟨k1,k2,k3,k4,k5,k6⟩ | ⟨k1,k2,k3,k4,k5,k6⟩
 ·rw [k1] at l1
  go_wp2
  go_ret
  exact⟨by rw [HVb.out,k1];rfl,HB.out⟩
 ·rw [k1] at l1
  go_wp2
  go_ret
  exact⟨by rw [HVb.out,k1,k2];rfl,HB.out⟩
 ·rw [k1] at l1
  go_wp2
  go_ret
  exact⟨by rw [HVb.out,k1,k2,k3];rfl,HB.out⟩
 ·rw [k1] at l1
  go_wp2
  go_ret
  exact⟨by rw [HVb.out,k1,k2,k3,k4];rfl,HB.out⟩
 ·rw [k1] at l1
  go_wp2
  go_ret
  exact⟨by rw [HVb.out,k1,k2,k3,k4,k5];rfl,HB.out⟩
 ·rw [k1] at l1
  go_wp2
  go_ret
  exact⟨by rw [HVb.out,k1,k2,k3,k4,k5,k6];rfl,HB.out⟩
 ·rw [k1] at l1
  go_wp2
  go_ret
  exact⟨by rw [HVb.out,k1,k2,k3,k4,k5,k6];rfl,HB.out⟩
set_option maxRecDepth 100000 in
set_option maxHeartbeats 16000000 in
theorem oValid_2_3_0 (s:St) (lv:Value) (w:World) (hr:LnRow w lv s.lines) (hw:s.who.length≤281474976710656) (hf:boundedB s=true) (hm: ¬ dueOf s<s.paid) (hs:s.status=2) (hp:s.prior=3) (g1:(s.paid==dueOf s)=false):
  Calls Tryz.prog 160 #[stV s lv] w fun e w'=>e= .returned (.bool (validB s))∧Below w.heap.size w w':=by
 have HVb:=Lib.hid (show validB s=(false&& !wholeB s.lines) by
  have h1:validB s=standB s 3:=by unfold validB;rw [hf,decide_eq_true (by omega),hs,hp];rfl
  have h2:(s.paid==dueOf s&&decide (0<s.paid))=false:=by rw [g1];rfl
  rw [h1];unfold standB;rw [h2];rfl)
 have hbp:=bounded_p hf
 have HBO:=Lib.hid (stBO (lv:=lv) hf hw)
 obtain⟨D,hD⟩: ∃ D,D=dueOf s:=⟨_,rfl⟩
 have HDU:=Lib.hid (stDU (lv:=lv) hD hbp)
 have HH:=Lib.hid (stHH hr)
 have HSH:=Lib.hid (stSH s lv)
 obtain⟨nB,hnB⟩: ∃ x,x=noneB s.lines:=⟨_,rfl⟩
 obtain⟨wB,hwB⟩: ∃ x,x=wholeB s.lines:=⟨_,rfl⟩
 rw [←hnB,←hwB] at HSH
 rw [←hD] at hm g1
 rw [←hwB] at HVb
 have d1:decide (D<s.paid)=false:=decide_eq_false hm
 have hm2:s.paid≤D:=by omega
 have HS:=Lib.hid hs
 have HP:=Lib.hid hp
 obtain⟨oa,cap,hlv,_,_,_⟩:=hr.shape
 have HLV:=Lib.hid hlv
 clear hr hw hf hbp hD hm hs hp hnB hwB hlv
 go_enter Tryz.func160,Tryz.ntmps160
 go_wp2
 refine wp_region_held_drew (S:=fun w'=>StBlk w' w.heap.size s lv∧LnRow w' lv s.lines∧Below w.heap.size w w') (by kernel_rfl) HH.out (fun hHeld=> ?_)
 refine tst 0 (fun _ h=>h.1) ?_
 simp only [pA,pB,pC,pD]
 refine wpAnyH_ready (rs:=[1]) (by kernel_rfl) (by simp) ?_
 refine AllReadyH.cons rfl (fun K hK=> ?_) AllReadyH.nil
 go_simp
 go_at_call 194
 obtain⟨hSt,hLn,hBe⟩:=hHeld
 refine(HBO.out _ hLn).mono ?_
 rintro x w1 ⟨rfl,hb⟩
 go_wp2_with fail
 refine hK.out _ _ ⟨hSt.below hb,hLn.below hb,Below.next hBe hb⟩ (fun hHeld=> ?_)
 clear hK K hSt hLn hBe hb
 refine tf stF 2 rfl ?_
 refine tf stF 3 rfl ?_
 refine tf stF 4 rfl ?_
 refine tf stF 5 rfl ?_
 refine tst 6 (fun _ h=>h.1) ?_
 simp only [pA,pB,pC,pD]
 refine wpAnyH_ready (rs:=[7]) (by kernel_rfl) (by simp) ?_
 refine AllReadyH.cons rfl (fun K hK=> ?_) AllReadyH.nil
 go_simp
 go_at_call 195
 obtain⟨hSt,hLn,hBe⟩:=hHeld
 refine(HDU.out _ hLn).mono ?_
 rintro x w2 ⟨rfl,hb⟩
 go_wp2_with fail
 refine hK.out _ _ ⟨hSt.below hb,hLn.below hb,Below.next hBe hb⟩ (fun hHeld=> ?_)
 clear hK K hSt hLn hBe hb
 refine tf stF 8 rfl ?_
 refine tf stF 9 rfl ?_
 refine wpAnyH_done (by kernel_rfl) ?_ _
 have c1:w2.cell? ⟨w.heap.size,1,none⟩=some (.int .i64 2):=by rw [hHeld.1.cell 1,stCs,HS.out];rfl
 have c2:w2.cell? ⟨w.heap.size,2,none⟩=some (.int .i64 3):=by rw [hHeld.1.cell 2,stCs,HP.out];rfl
 have HE:=Lib.hid hHeld
 clear hHeld HBO HH
 go_wp2_with (first
  | (with_reducible refine wpList_load_st rfl (.tmp 1) rfl w.heap.size s lv rfl HE.out.1 ?_)
  | (go_at_call 196;refine(HSH.out _ HE.out.2.1).mono ?_;rintro x w3 ⟨rfl,hb⟩;have HE3:=Lib.hid (show StBlk w3 w.heap.size s lv∧LnRow w3 lv s.lines∧Below w.heap.size w w3 from⟨HE.out.1.below hb,HE.out.2.1.below hb,Below.next HE.out.2.2 hb⟩);clear hb))
 clear c1 c2 HE HSH
 refine wp_region_held_drew (S:=fun w'=>StBlk w' w.heap.size s lv∧LnRow w' lv s.lines∧Below w.heap.size w w') (by kernel_rfl) ⟨HE3.out.1,HE3.out.2.1,Below.next HE3.out.2.2 (below_drewN' _ 1)⟩ (fun hHeld=> ?_)
 refine tf stF 0 rfl ?_
 refine tf stF 1 rfl ?_
 refine tst 2 (fun _ h=>h.1) ?_
 simp only [pA,pB,pC,pD]
 refine wpAnyH_ready (rs:=[3]) (by kernel_rfl) (by simp) ?_
 refine AllReadyH.cons rfl (fun K hK=> ?_) AllReadyH.nil
 go_simp
 go_at_call 195
 obtain⟨hSt,hLn,hBe⟩:=hHeld
 refine(HDU.out _ hLn).mono ?_
 rintro x w4 ⟨rfl,hb⟩
 go_wp2_with fail
 refine hK.out _ _ ⟨hSt.below hb,hLn.below hb,Below.next hBe hb⟩ (fun hHeld=> ?_)
 clear hK K hSt hLn hBe hb
 refine tf stF 4 rfl ?_
 refine tf stF 5 rfl ?_
 refine tkn 6 rfl ?_
 simp only [pA,pB,pC,pD]
 refine tkn 7 rfl ?_
 simp only [pA,pB,pC,pD]
 refine tkn 8 rfl ?_
 simp only [pA,pB,pC,pD]
 refine tf stF 9 rfl ?_
 refine tf stF 10 rfl ?_
 refine wpAnyH_done (by kernel_rfl) ?_ _
 have HB:=Lib.hid hHeld.2.2
 have d3:w4.cell? ⟨w.heap.size,3,none⟩=some (.int .i64 s.cur):=hHeld.1.cell 3
 have d4:w4.cell? ⟨w.heap.size,4,none⟩=some (.int .i64 s.tax):=hHeld.1.cell 4
 have d5:w4.cell? ⟨w.heap.size,5,none⟩=some (.slice oa s.lines.length cap):=by rw [hHeld.1.cell 5,stCs,HLV.out];rfl
 have d7:w4.cell? ⟨w.heap.size,7,none⟩=some (.int .i64 s.refunded):=hHeld.1.cell 7
 have d8:w4.cell? ⟨w.heap.size,8,none⟩=some (.int .i64 s.events):=hHeld.1.cell 8
 have d9:w4.cell? ⟨w.heap.size,9,none⟩=some (.int .i64 s.refused):=hHeld.1.cell 9
 have d10:w4.cell? ⟨w.heap.size,10,none⟩=some (.int .i64 s.stamp):=hHeld.1.cell 10
 have d11:w4.cell? ⟨w.heap.size,11,none⟩=some (.string ⟨s.who.toArray⟩):=hHeld.1.cell 11
 clear hHeld HE3 HDU
 go_wp2
 go_ret
 exact⟨by rw [HVb.out];rfl,HB.out⟩
set_option maxRecDepth 100000 in
set_option maxHeartbeats 16000000 in
theorem oValid_2_3_1 (s:St) (lv:Value) (w:World) (hr:LnRow w lv s.lines) (hw:s.who.length≤281474976710656) (hf:boundedB s=true) (hm: ¬ dueOf s<s.paid) (hs:s.status=2) (hp:s.prior=3) (g1:(s.paid==dueOf s)=true) (g3:decide (0<s.paid)=false):
  Calls Tryz.prog 160 #[stV s lv] w fun e w'=>e= .returned (.bool (validB s))∧Below w.heap.size w w':=by
 have HVb:=Lib.hid (show validB s=(false&& !wholeB s.lines) by
  have h1:validB s=standB s 3:=by unfold validB;rw [hf,decide_eq_true (by omega),hs,hp];rfl
  have h2:(s.paid==dueOf s&&decide (0<s.paid))=false:=by rw [g1,g3];rfl
  rw [h1];unfold standB;rw [h2];rfl)
 have hbp:=bounded_p hf
 have HBO:=Lib.hid (stBO (lv:=lv) hf hw)
 obtain⟨D,hD⟩: ∃ D,D=dueOf s:=⟨_,rfl⟩
 have HDU:=Lib.hid (stDU (lv:=lv) hD hbp)
 have HH:=Lib.hid (stHH hr)
 have HSH:=Lib.hid (stSH s lv)
 obtain⟨nB,hnB⟩: ∃ x,x=noneB s.lines:=⟨_,rfl⟩
 obtain⟨wB,hwB⟩: ∃ x,x=wholeB s.lines:=⟨_,rfl⟩
 rw [←hnB,←hwB] at HSH
 rw [←hD] at hm g1
 rw [←hwB] at HVb
 have d1:decide (D<s.paid)=false:=decide_eq_false hm
 have hm2:s.paid≤D:=by omega
 have HS:=Lib.hid hs
 have HP:=Lib.hid hp
 obtain⟨oa,cap,hlv,_,_,_⟩:=hr.shape
 have HLV:=Lib.hid hlv
 clear hr hw hf hbp hD hm hs hp hnB hwB hlv
 go_enter Tryz.func160,Tryz.ntmps160
 go_wp2
 refine wp_region_held_drew (S:=fun w'=>StBlk w' w.heap.size s lv∧LnRow w' lv s.lines∧Below w.heap.size w w') (by kernel_rfl) HH.out (fun hHeld=> ?_)
 refine tst 0 (fun _ h=>h.1) ?_
 simp only [pA,pB,pC,pD]
 refine wpAnyH_ready (rs:=[1]) (by kernel_rfl) (by simp) ?_
 refine AllReadyH.cons rfl (fun K hK=> ?_) AllReadyH.nil
 go_simp
 go_at_call 194
 obtain⟨hSt,hLn,hBe⟩:=hHeld
 refine(HBO.out _ hLn).mono ?_
 rintro x w1 ⟨rfl,hb⟩
 go_wp2_with fail
 refine hK.out _ _ ⟨hSt.below hb,hLn.below hb,Below.next hBe hb⟩ (fun hHeld=> ?_)
 clear hK K hSt hLn hBe hb
 refine tf stF 2 rfl ?_
 refine tf stF 3 rfl ?_
 refine tf stF 4 rfl ?_
 refine tf stF 5 rfl ?_
 refine tst 6 (fun _ h=>h.1) ?_
 simp only [pA,pB,pC,pD]
 refine wpAnyH_ready (rs:=[7]) (by kernel_rfl) (by simp) ?_
 refine AllReadyH.cons rfl (fun K hK=> ?_) AllReadyH.nil
 go_simp
 go_at_call 195
 obtain⟨hSt,hLn,hBe⟩:=hHeld
 refine(HDU.out _ hLn).mono ?_
 rintro x w2 ⟨rfl,hb⟩
 go_wp2_with fail
 refine hK.out _ _ ⟨hSt.below hb,hLn.below hb,Below.next hBe hb⟩ (fun hHeld=> ?_)
 clear hK K hSt hLn hBe hb
 refine tf stF 8 rfl ?_
 refine tf stF 9 rfl ?_
 refine wpAnyH_done (by kernel_rfl) ?_ _
 have c1:w2.cell? ⟨w.heap.size,1,none⟩=some (.int .i64 2):=by rw [hHeld.1.cell 1,stCs,HS.out];rfl
 have c2:w2.cell? ⟨w.heap.size,2,none⟩=some (.int .i64 3):=by rw [hHeld.1.cell 2,stCs,HP.out];rfl
 have HE:=Lib.hid hHeld
 clear hHeld HBO HH
 go_wp2_with (first
  | (with_reducible refine wpList_load_st rfl (.tmp 1) rfl w.heap.size s lv rfl HE.out.1 ?_)
  | (go_at_call 196;refine(HSH.out _ HE.out.2.1).mono ?_;rintro x w3 ⟨rfl,hb⟩;have HE3:=Lib.hid (show StBlk w3 w.heap.size s lv∧LnRow w3 lv s.lines∧Below w.heap.size w w3 from⟨HE.out.1.below hb,HE.out.2.1.below hb,Below.next HE.out.2.2 hb⟩);clear hb))
 clear c1 c2 HE HSH
 refine wp_region_held_drew (S:=fun w'=>StBlk w' w.heap.size s lv∧LnRow w' lv s.lines∧Below w.heap.size w w') (by kernel_rfl) ⟨HE3.out.1,HE3.out.2.1,Below.next HE3.out.2.2 (below_drewN' _ 1)⟩ (fun hHeld=> ?_)
 refine tf stF 0 rfl ?_
 refine tf stF 1 rfl ?_
 refine tst 2 (fun _ h=>h.1) ?_
 simp only [pA,pB,pC,pD]
 refine wpAnyH_ready (rs:=[3]) (by kernel_rfl) (by simp) ?_
 refine AllReadyH.cons rfl (fun K hK=> ?_) AllReadyH.nil
 go_simp
 go_at_call 195
 obtain⟨hSt,hLn,hBe⟩:=hHeld
 refine(HDU.out _ hLn).mono ?_
 rintro x w4 ⟨rfl,hb⟩
 go_wp2_with fail
 refine hK.out _ _ ⟨hSt.below hb,hLn.below hb,Below.next hBe hb⟩ (fun hHeld=> ?_)
 clear hK K hSt hLn hBe hb
 refine tf stF 4 rfl ?_
 refine tf stF 5 rfl ?_
 refine tf stF 6 rfl ?_
 refine tf stF 7 rfl ?_
 refine tf stF 8 rfl ?_
 refine tf stF 9 rfl ?_
 refine tf stF 10 rfl ?_
 refine wpAnyH_done (by kernel_rfl) ?_ _
 have HB:=Lib.hid hHeld.2.2
 have d3:w4.cell? ⟨w.heap.size,3,none⟩=some (.int .i64 s.cur):=hHeld.1.cell 3
 have d4:w4.cell? ⟨w.heap.size,4,none⟩=some (.int .i64 s.tax):=hHeld.1.cell 4
 have d5:w4.cell? ⟨w.heap.size,5,none⟩=some (.slice oa s.lines.length cap):=by rw [hHeld.1.cell 5,stCs,HLV.out];rfl
 have d7:w4.cell? ⟨w.heap.size,7,none⟩=some (.int .i64 s.refunded):=hHeld.1.cell 7
 have d8:w4.cell? ⟨w.heap.size,8,none⟩=some (.int .i64 s.events):=hHeld.1.cell 8
 have d9:w4.cell? ⟨w.heap.size,9,none⟩=some (.int .i64 s.refused):=hHeld.1.cell 9
 have d10:w4.cell? ⟨w.heap.size,10,none⟩=some (.int .i64 s.stamp):=hHeld.1.cell 10
 have d11:w4.cell? ⟨w.heap.size,11,none⟩=some (.string ⟨s.who.toArray⟩):=hHeld.1.cell 11
 clear hHeld HE3 HDU
 go_wp2
 go_ret
 exact⟨by rw [HVb.out];rfl,HB.out⟩
set_option maxRecDepth 100000 in
set_option maxHeartbeats 16000000 in
theorem oValid_2_3_2 (s:St) (lv:Value) (w:World) (hr:LnRow w lv s.lines) (hw:s.who.length≤281474976710656) (hf:boundedB s=true) (hm: ¬ dueOf s<s.paid) (hs:s.status=2) (hp:s.prior=3) (g1:(s.paid==dueOf s)=true) (g3:decide (0<s.paid)=true):
  Calls Tryz.prog 160 #[stV s lv] w fun e w'=>e= .returned (.bool (validB s))∧Below w.heap.size w w':=by
 have HVb:=Lib.hid (show validB s=(true&& !wholeB s.lines) by
  have h1:validB s=standB s 3:=by unfold validB;rw [hf,decide_eq_true (by omega),hs,hp];rfl
  have h2:(s.paid==dueOf s&&decide (0<s.paid))=true:=by rw [g1,g3];rfl
  rw [h1];unfold standB;rw [h2];rfl)
 have hbp:=bounded_p hf
 have HBO:=Lib.hid (stBO (lv:=lv) hf hw)
 obtain⟨D,hD⟩: ∃ D,D=dueOf s:=⟨_,rfl⟩
 have HDU:=Lib.hid (stDU (lv:=lv) hD hbp)
 have HH:=Lib.hid (stHH hr)
 have HSH:=Lib.hid (stSH s lv)
 obtain⟨nB,hnB⟩: ∃ x,x=noneB s.lines:=⟨_,rfl⟩
 obtain⟨wB,hwB⟩: ∃ x,x=wholeB s.lines:=⟨_,rfl⟩
 rw [←hnB,←hwB] at HSH
 rw [←hD] at hm g1
 rw [←hwB] at HVb
 have d1:decide (D<s.paid)=false:=decide_eq_false hm
 have hm2:s.paid≤D:=by omega
 have HS:=Lib.hid hs
 have HP:=Lib.hid hp
 obtain⟨oa,cap,hlv,_,_,_⟩:=hr.shape
 have HLV:=Lib.hid hlv
 clear hr hw hf hbp hD hm hs hp hnB hwB hlv
 go_enter Tryz.func160,Tryz.ntmps160
 go_wp2
 refine wp_region_held_drew (S:=fun w'=>StBlk w' w.heap.size s lv∧LnRow w' lv s.lines∧Below w.heap.size w w') (by kernel_rfl) HH.out (fun hHeld=> ?_)
 refine tst 0 (fun _ h=>h.1) ?_
 simp only [pA,pB,pC,pD]
 refine wpAnyH_ready (rs:=[1]) (by kernel_rfl) (by simp) ?_
 refine AllReadyH.cons rfl (fun K hK=> ?_) AllReadyH.nil
 go_simp
 go_at_call 194
 obtain⟨hSt,hLn,hBe⟩:=hHeld
 refine(HBO.out _ hLn).mono ?_
 rintro x w1 ⟨rfl,hb⟩
 go_wp2_with fail
 refine hK.out _ _ ⟨hSt.below hb,hLn.below hb,Below.next hBe hb⟩ (fun hHeld=> ?_)
 clear hK K hSt hLn hBe hb
 refine tf stF 2 rfl ?_
 refine tf stF 3 rfl ?_
 refine tf stF 4 rfl ?_
 refine tf stF 5 rfl ?_
 refine tst 6 (fun _ h=>h.1) ?_
 simp only [pA,pB,pC,pD]
 refine wpAnyH_ready (rs:=[7]) (by kernel_rfl) (by simp) ?_
 refine AllReadyH.cons rfl (fun K hK=> ?_) AllReadyH.nil
 go_simp
 go_at_call 195
 obtain⟨hSt,hLn,hBe⟩:=hHeld
 refine(HDU.out _ hLn).mono ?_
 rintro x w2 ⟨rfl,hb⟩
 go_wp2_with fail
 refine hK.out _ _ ⟨hSt.below hb,hLn.below hb,Below.next hBe hb⟩ (fun hHeld=> ?_)
 clear hK K hSt hLn hBe hb
 refine tf stF 8 rfl ?_
 refine tf stF 9 rfl ?_
 refine wpAnyH_done (by kernel_rfl) ?_ _
 have c1:w2.cell? ⟨w.heap.size,1,none⟩=some (.int .i64 2):=by rw [hHeld.1.cell 1,stCs,HS.out];rfl
 have c2:w2.cell? ⟨w.heap.size,2,none⟩=some (.int .i64 3):=by rw [hHeld.1.cell 2,stCs,HP.out];rfl
 have HE:=Lib.hid hHeld
 clear hHeld HBO HH
 go_wp2_with (first
  | (with_reducible refine wpList_load_st rfl (.tmp 1) rfl w.heap.size s lv rfl HE.out.1 ?_)
  | (go_at_call 196;refine(HSH.out _ HE.out.2.1).mono ?_;rintro x w3 ⟨rfl,hb⟩;have HE3:=Lib.hid (show StBlk w3 w.heap.size s lv∧LnRow w3 lv s.lines∧Below w.heap.size w w3 from⟨HE.out.1.below hb,HE.out.2.1.below hb,Below.next HE.out.2.2 hb⟩);clear hb))
 clear c1 c2 HE HSH
 refine wp_region_held_drew (S:=fun w'=>StBlk w' w.heap.size s lv∧LnRow w' lv s.lines∧Below w.heap.size w w') (by kernel_rfl) ⟨HE3.out.1,HE3.out.2.1,Below.next HE3.out.2.2 (below_drewN' _ 1)⟩ (fun hHeld=> ?_)
 refine tf stF 0 rfl ?_
 refine tf stF 1 rfl ?_
 refine tst 2 (fun _ h=>h.1) ?_
 simp only [pA,pB,pC,pD]
 refine wpAnyH_ready (rs:=[3]) (by kernel_rfl) (by simp) ?_
 refine AllReadyH.cons rfl (fun K hK=> ?_) AllReadyH.nil
 go_simp
 go_at_call 195
 obtain⟨hSt,hLn,hBe⟩:=hHeld
 refine(HDU.out _ hLn).mono ?_
 rintro x w4 ⟨rfl,hb⟩
 go_wp2_with fail
 refine hK.out _ _ ⟨hSt.below hb,hLn.below hb,Below.next hBe hb⟩ (fun hHeld=> ?_)
 clear hK K hSt hLn hBe hb
 refine tf stF 4 rfl ?_
 refine tf stF 5 rfl ?_
 refine tf stF 6 rfl ?_
 refine tf stF 7 rfl ?_
 refine tf stF 8 rfl ?_
 refine tf stF 9 rfl ?_
 refine tf stF 10 rfl ?_
 refine wpAnyH_done (by kernel_rfl) ?_ _
 have HB:=Lib.hid hHeld.2.2
 have d3:w4.cell? ⟨w.heap.size,3,none⟩=some (.int .i64 s.cur):=hHeld.1.cell 3
 have d4:w4.cell? ⟨w.heap.size,4,none⟩=some (.int .i64 s.tax):=hHeld.1.cell 4
 have d5:w4.cell? ⟨w.heap.size,5,none⟩=some (.slice oa s.lines.length cap):=by rw [hHeld.1.cell 5,stCs,HLV.out];rfl
 have d7:w4.cell? ⟨w.heap.size,7,none⟩=some (.int .i64 s.refunded):=hHeld.1.cell 7
 have d8:w4.cell? ⟨w.heap.size,8,none⟩=some (.int .i64 s.events):=hHeld.1.cell 8
 have d9:w4.cell? ⟨w.heap.size,9,none⟩=some (.int .i64 s.refused):=hHeld.1.cell 9
 have d10:w4.cell? ⟨w.heap.size,10,none⟩=some (.int .i64 s.stamp):=hHeld.1.cell 10
 have d11:w4.cell? ⟨w.heap.size,11,none⟩=some (.string ⟨s.who.toArray⟩):=hHeld.1.cell 11
 clear hHeld HE3 HDU
 cases wB
 ·skip
  go_wp2
  go_ret
  exact⟨by rw [HVb.out];rfl,HB.out⟩
 ·skip
  go_wp2
  go_ret
  exact⟨by rw [HVb.out];rfl,HB.out⟩
end Go.Proofs.YtlobohpbgghleaaGreatDoor
namespace Go.Proofs.YtlobohpbgghleaaGreatDoor
open Go.RowKit
theorem oValid_any (s:St) (lv:Value) (w:World) (hr:LnRow w lv s.lines) (hw:s.who.length≤281474976710656):
  Calls Tryz.prog 160 #[stV s lv] w fun e w'=>e= .returned (.bool (validB s))∧Below w.heap.size w w':=by
 cases hf:boundedB s
 case false=>exact oValid_out s lv w hr hw hf
 case true=>
 by_cases hm:dueOf s<s.paid
 ·exact oValid_much s lv w hr hw hf hm
 have hst:=(bounded_p hf).status
 have h7:(s.status=2∧s.prior≠1∧s.prior≠3)∨(s.status≠2∧s.prior≠0)∨(s.status=2∧s.prior=1)∨(s.status=2∧s.prior=3)∨(s.status=0∧s.prior=0)∨(s.status=1∧s.prior=0)∨(s.status=3∧s.prior=0)∨(s.status=4∧s.prior=0)∨(s.status=5∧s.prior=0):=by omega
 rcases h7 with⟨hs,hp1,hp3⟩ | ⟨hs,hp⟩ | ⟨hs,hp⟩ | ⟨hs,hp⟩ | ⟨hs,hp⟩ | ⟨hs,hp⟩ | ⟨hs,hp⟩ | ⟨hs,hp⟩ | ⟨hs,hp⟩
 ·exact oValid_held s lv w hr hw hf hm hs hp1 hp3
 ·exact oValid_prior s lv w hr hw hf hm hs hp
 ·rcases fullWays s.paid (dueOf s) with⟨g1,_⟩ | ⟨g1,g3,_⟩ | ⟨g1,g3,_⟩
  ·exact oValid_2_1_0 s lv w hr hw hf hm hs hp g1
  ·exact oValid_2_1_1 s lv w hr hw hf hm hs hp g1 g3
  ·exact oValid_2_1_2 s lv w hr hw hf hm hs hp g1 g3
 ·rcases fullWays s.paid (dueOf s) with⟨g1,_⟩ | ⟨g1,g3,_⟩ | ⟨g1,g3,_⟩
  ·exact oValid_2_3_0 s lv w hr hw hf hm hs hp g1
  ·exact oValid_2_3_1 s lv w hr hw hf hm hs hp g1 g3
  ·exact oValid_2_3_2 s lv w hr hw hf hm hs hp g1 g3
 ·rcases fullWays s.paid (dueOf s) with⟨g1,_⟩ | ⟨g1,g3,_⟩ | ⟨g1,g3,_⟩
  ·exact oValid_0_0_0 s lv w hr hw hf hm hs hp g1
  ·exact oValid_0_0_1 s lv w hr hw hf hm hs hp g1 g3
  ·exact oValid_0_0_2 s lv w hr hw hf hm hs hp g1 g3
 ·rcases fullWays s.paid (dueOf s) with⟨g1,_⟩ | ⟨g1,g3,_⟩ | ⟨g1,g3,_⟩
  ·exact oValid_1_0_0 s lv w hr hw hf hm hs hp g1
  ·exact oValid_1_0_1 s lv w hr hw hf hm hs hp g1 g3
  ·exact oValid_1_0_2 s lv w hr hw hf hm hs hp g1 g3
 ·rcases fullWays s.paid (dueOf s) with⟨g1,_⟩ | ⟨g1,g3,_⟩ | ⟨g1,g3,_⟩
  ·exact oValid_3_0_0 s lv w hr hw hf hm hs hp g1
  ·exact oValid_3_0_1 s lv w hr hw hf hm hs hp g1 g3
  ·exact oValid_3_0_2 s lv w hr hw hf hm hs hp g1 g3
 ·rcases fullWays s.paid (dueOf s) with⟨g1,_⟩ | ⟨g1,g3,_⟩ | ⟨g1,g3,_⟩
  ·exact oValid_4_0_0 s lv w hr hw hf hm hs hp g1
  ·exact oValid_4_0_1 s lv w hr hw hf hm hs hp g1 g3
  ·exact oValid_4_0_2 s lv w hr hw hf hm hs hp g1 g3
 ·rcases fullWays s.paid (dueOf s) with⟨g1,_⟩ | ⟨g1,g3,_⟩ | ⟨g1,g3,_⟩
  ·exact oValid_5_0_0 s lv w hr hw hf hm hs hp g1
  ·exact oValid_5_0_1 s lv w hr hw hf hm hs hp g1 g3
  ·exact oValid_5_0_2 s lv w hr hw hf hm hs hp g1 g3
end Go.Proofs.YtlobohpbgghleaaGreatDoor

namespace Go.Proofs.YtlobohpbgghleaaGreatDoor
open Go.RowKit
def chL (c:Nat→Nat) (al:Nat) (l:Array Bool) (i:Nat) (b:Bool):Array Bool:=
 let x:=(List.range i).foldl (fun l k=>l.setIfInBounds (c k) true) l
 if b then x.setIfInBounds al true else x
def chT (d:Nat→Nat) (v:Nat→Value) (da:Nat) (t:Array Value) (i:Nat) (o:Option Nat):Array Value:=
 let x:=(List.range i).foldl (fun t k=>t.setIfInBounds (d k) (v k)) t
 match o with
 | none=>x
 | some g=>x.setIfInBounds da (.pointer (some ⟨g,0,none⟩))
def chA (d:Nat→Nat) (v:Nat→Value) (da:Nat) (a:Act) (i:Nat) (o:Option Nat):Act:={a with tmps:=chT d v da a.tmps i o}
theorem chL_call {c:Nat→Nat} {al:Nat} {l:Array Bool} {i:Nat} {b:Bool} (h:c i≠al):(chL c al l i b).setIfInBounds (c i) true=chL c al l (i+1) b:=by
 unfold chL
 rw [List.range_succ,List.foldl_append]
 cases b
 ·rfl
 ·simp only [if_true,List.foldl_cons,List.foldl_nil]
  rw [Array.setIfInBounds_comm _ _ (Ne.symm h)]
theorem chL_alloc {c:Nat→Nat} {al:Nat} {l:Array Bool} {i:Nat}:(chL c al l i false).setIfInBounds al true=chL c al l i true:=rfl
theorem chA_call {d:Nat→Nat} {v:Nat→Value} {da:Nat} {a:Act} {i:Nat} {o:Option Nat} (h:d i≠da):(chA d v da a i o).put (some (d i)) (v i)=chA d v da a (i+1) o:=by
 unfold chA chT
 rw [List.range_succ,List.foldl_append]
 cases o with
 | none=>rfl
 | some g=>
  show ({a with tmps:=_}:Act)=_
  simp only [List.foldl_cons,List.foldl_nil]
  rw [Array.setIfInBounds_comm _ _ (Ne.symm h)]
theorem chA_alloc {d:Nat→Nat} {v:Nat→Value} {da:Nat} {a:Act} {i g:Nat}:(chA d v da a i none).put (some da) (.pointer (some ⟨g,0,none⟩))=chA d v da a i (some g):=rfl
section
variable {P : Program} {ops : Array Oper} {Q : Exit → Act → World → Prop} {md : Region.Mode} {S : World → Prop}
theorem wp_chain (n al:Nat) (c d:Nat→Nat) (v:Nat→Value) (da:Nat) (Inv:Nat→Option Nat→World→Prop) {l:Array Bool} {a:Act} (fuel:Nat)
  (hF: ∀ i,i<n→Region.ready md ops (chL c al l i false)=[c i,al]) (hT: ∀ i,i<n→Region.ready md ops (chL c al l i true)=[c i])
  (hc: ∀ i,i<n→c i≠al∧d i≠da) (hS: ∀ i o w,Inv i o w→S w)
  (hcall: ∀ i,i<n→ ∀ o w,Inv i o w→ ∀ K:Act→World→Prop,(∀ w',Inv (i+1) o w'→K ((chA d v da a i o).put (some (d i)) (v i)) w')→wpOp P ops Q (c i) K (chA d v da a i o) w)
  (hal: ∀ i,i<n→ ∀ w,Inv i none w→ ∀ K:Act→World→Prop,(∀ g w',Inv i (some g) w'→K ((chA d v da a i none).put (some da) (.pointer (some ⟨g,0,none⟩))) w')→wpOp P ops Q al K (chA d v da a i none) w)
  (hend: ∀ g w,Inv n (some g) w→wpAnyH P md ops Q S fuel (chL c al l n true) (chA d v da a n (some g)) w)
  (hend0: ∀ w,Inv n none w→wpAnyH P md ops Q S (fuel+1) (chL c al l n false) (chA d v da a n none) w):
  ∀ (j i:Nat) (w:World),i+j=n→(∀ g,Inv i (some g) w→wpAnyH P md ops Q S (fuel+j) (chL c al l i true) (chA d v da a i (some g)) w)∧(Inv i none w→wpAnyH P md ops Q S (fuel+j+1) (chL c al l i false) (chA d v da a i none) w)
 | 0,i,w,h=>by
  obtain rfl:i=n:=h
  exact⟨fun g hg=>hend g w hg,fun hi=>hend0 w hi⟩
 | j+1,i,w,h=>by
  have hi:i<n:=by omega
  refine⟨fun g hg=> ?_,fun hg=> ?_⟩
  ·refine wpAnyH_ready (fuel:=fuel+j) (hT i hi) (by simp) fun k hk=> ?_
   simp only [List.mem_singleton] at hk
   subst hk
   refine hcall i hi _ w hg _ fun w' hg'=>⟨hS _ _ _ hg',?_⟩
   rw [chA_call (hc i hi).2,chL_call (hc i hi).1]
   exact(wp_chain n al c d v da Inv fuel hF hT hc hS hcall hal hend hend0 j (i+1) w' (by omega)).1 g hg'
  ·refine wpAnyH_ready (fuel:=fuel+(j+1)) (hF i hi) (by simp) fun k hk=> ?_
   simp only [List.mem_cons,List.not_mem_nil,or_false] at hk
   rcases hk with rfl | hk
   ·refine hcall i hi _ w hg _ fun w' hg'=>⟨hS _ _ _ hg',?_⟩
    rw [chA_call (hc i hi).2,chL_call (hc i hi).1]
    exact(wp_chain n al c d v da Inv fuel hF hT hc hS hcall hal hend hend0 j (i+1) w' (by omega)).2 hg'
   ·rw [hk]
    refine hal i hi w hg _ fun g w' hg'=>⟨hS _ _ _ hg',?_⟩
    rw [chA_alloc,chL_alloc]
    refine wpAnyH_ready (fuel:=fuel+j) (hT i hi) (by simp) fun k hk=> ?_
    simp only [List.mem_singleton] at hk
    subst hk
    refine hcall i hi _ w' hg' _ fun w'' hg''=>⟨hS _ _ _ hg'',?_⟩
    rw [chA_call (hc i hi).2,chL_call (hc i hi).1]
    exact(wp_chain n al c d v da Inv fuel hF hT hc hS hcall hal hend hend0 j (i+1) w'' (by omega)).1 g hg''
theorem wp_chain0 (n al:Nat) (c d:Nat→Nat) (v:Nat→Value) (da:Nat) (Inv:Nat→Option Nat→World→Prop) {l:Array Bool} {a:Act} {w:World} (fuel:Nat)
  (hF:(List.range n).all (fun i=>Region.ready md ops (chL c al l i false)== [c i,al])=true) (hT:(List.range n).all (fun i=>Region.ready md ops (chL c al l i true)== [c i])=true)
  (hc:(List.range n).all (fun i=>decide (c i≠al)&&decide (d i≠da))=true) (hS: ∀ i o w,Inv i o w→S w)
  (hcall: ∀ i,i<n→ ∀ o w,Inv i o w→ ∀ K:Act→World→Prop,(∀ w',Inv (i+1) o w'→K ((chA d v da a i o).put (some (d i)) (v i)) w')→wpOp P ops Q (c i) K (chA d v da a i o) w)
  (hal: ∀ i,i<n→ ∀ w,Inv i none w→ ∀ K:Act→World→Prop,(∀ g w',Inv i (some g) w'→K ((chA d v da a i none).put (some da) (.pointer (some ⟨g,0,none⟩))) w')→wpOp P ops Q al K (chA d v da a i none) w)
  (hend: ∀ g w,Inv n (some g) w→wpAnyH P md ops Q S fuel (chL c al l n true) (chA d v da a n (some g)) w)
  (hend0: ∀ w,Inv n none w→wpAnyH P md ops Q S (fuel+1) (chL c al l n false) (chA d v da a n none) w)
  (h0:Inv 0 none w):wpAnyH P md ops Q S (fuel+n+1) l a w:=by
 have g1: ∀ i,i<n→Region.ready md ops (chL c al l i false)=[c i,al]:=fun i hi=>by
  have:=List.all_eq_true.1 hF i (List.mem_range.2 hi)
  simpa using this
 have g2: ∀ i,i<n→Region.ready md ops (chL c al l i true)=[c i]:=fun i hi=>by
  have:=List.all_eq_true.1 hT i (List.mem_range.2 hi)
  simpa using this
 have g3: ∀ i,i<n→c i≠al∧d i≠da:=fun i hi=>by
  have:=List.all_eq_true.1 hc i (List.mem_range.2 hi)
  simpa using this
 exact(wp_chain n al c d v da Inv fuel g1 g2 g3 hS hcall hal hend hend0 n 0 w (by omega)).2 h0
end
end Go.Proofs.YtlobohpbgghleaaGreatDoor

namespace Go.Proofs.YtlobohpbgghleaaGreatDoor
open Go.RowKit Go.Maps
set_option maxRecDepth 100000 in
theorem numC_any (w:World) (c r m:Nat) (bad k:Int) (xs:List (Fld×Value)) (hc:w.heap[c]? =some (.cells #[.pointer (some ⟨r,0,none⟩)] 240 (0,0))) (h:RdAt w r m bad xs) (hk:0≤k∧k≤1000):
  Calls Tryz.prog 154 #[.int .i64 k,.pointer (some ⟨c,0,none⟩)] w fun e w'=>e= .returned (.int .i64 (smallV (takeP xs bad k false).1.1.num))∧RdAt w' r m (takeP xs bad k false).2.2 (takeP xs bad k false).2.1∧Turned (fun j=>j=r∨j=m) w w':=by
 have HN:=Lib.hid (rdNum_any w r m bad k xs h hk)
 have c0:w.cell? ⟨c,0,none⟩=some (.pointer (some ⟨r,0,none⟩)):=by simp [World.cell?,hc]
 generalize takeP xs bad k false=y at*
 clear h hk hc
 go_enter Tryz.func154,Tryz.ntmps154
 go_wp2_with fail
 refine HN.out.mono ?_
 rintro e w1 ⟨rfl,h1,h2⟩
 go_wp2_with fail
 refine(small_any _ _).mono ?_
 rintro e w2 ⟨rfl,rfl⟩
 go_wp2
 go_ret
 exact⟨rfl,h1,h2⟩
def rdS (xs:List (Fld×Value)):Nat→List (Fld×Value)×Int
 | 0=>(xs,0)
 | i+1=>(takeP (rdS xs i).1 (rdS xs i).2 ((i:Int)+1) (decide (i=10))).2
def rdF (xs:List (Fld×Value)) (i:Nat):Fld×Value:=(takeP (rdS xs i).1 (rdS xs i).2 ((i:Int)+1) (decide (i=10))).1
def rdV (xs:List (Fld×Value)) (i:Nat):Value:=if i=10 then (rdF xs i).2 else .int .i64 (smallV (rdF xs i).1.num)
theorem rdS_sub (xs:List (Fld×Value)): ∀ i,∀ x∈(rdS xs i).1,x∈xs
 | 0=>fun _ h=>h
 | i+1=>fun x hx=>by
  rw [rdS] at hx
  refine rdS_sub xs i x ?_
  unfold takeP at hx
  split at hx
  ·exact hx
  ·split at hx
   ·exact(List.mem_filter.1 hx).1
   ·exact(List.mem_filter.1 hx).1
def nmX (xs:List (Fld×Value)) (i:Nat):Int:=smallV (rdF xs i).1.num
def whoX (xs:List (Fld×Value)):List UInt8:=(rdF xs 10).1.data
@[reducible] def stX (f : Nat → Int) (ls : List Ln) (who : List UInt8) : St := ⟨f 0, f 1, f 2, f 3, f 4, ls, f 5, f 6, f 7, f 8, f 9, who⟩
theorem stCs_size (s:St) (lv:Value):(stCs s lv).size=12:=rfl
theorem stCs_X (f:Nat→Int) (who:List UInt8):stCs (stX f [] who) (.slice none 0 0)= #[.int .i64 (f 0),.int .i64 (f 1),.int .i64 (f 2),.int .i64 (f 3),.int .i64 (f 4),.slice none 0 0,.int .i64 (f 5),.int .i64 (f 6),.int .i64 (f 7),.int .i64 (f 8),.int .i64 (f 9),.string ⟨who.toArray⟩]:=rfl
theorem stOf_X (f:Nat→Int) (ls:List Ln) (who:List UInt8):stOf ((List.range 10).map f) ls who=stX f ls who:=rfl
def fstQ (s:List (Fld×Value)×Int):List Fld×Int:=(s.1.map (·.1),s.2)
theorem linesQ_start (s:List (Fld×Value)×Int):linesQ 16 12 (fstQ s) true []=linesQ (16 - 0) (12+((0:Nat):Int)) (fstQ (s.1,s.2)) true []:=rfl
theorem linesQ_out (k:Int) (q:List Fld×Int) (ok:Bool) (ls:List Ln):linesQ (16 - 16) k q ok ls=(ls,ok,q):=rfl
theorem takeQ_S (xs:List (Fld×Value)) (i:Nat) (k:Int) (hk:k=(i:Int)+1):takeQ (fstQ (rdS xs i)) k (decide (i=10))=((rdF xs i).1,fstQ (rdS xs (i+1))):=by
 subst hk
 exact takeP_Q _ _ _ _
theorem numsQ_S (xs:List (Fld×Value)): ∀ (n i:Nat) (k:Int) (vs:List Int),i+n=10→k=(i:Int)+1→
  numsQ n k (fstQ (rdS xs i)) vs=(vs++(List.range' i n).map (fun i=>smallV (rdF xs i).1.num),fstQ (rdS xs 10))
 | 0,i,k,vs,h,hk=>by obtain rfl:i=10:=h;simp [numsQ]
 | n+1,i,k,vs,h,hk=>by
  have ht:=takeQ_S xs i k hk
  rw [show decide (i=10)=false by simp;omega] at ht
  rw [numsQ]
  unfold numQ
  rw [ht]
  rw [numsQ_S xs n (i+1) (k+1) _ (by omega) (by omega)]
  rw [List.range'_succ]
  simp
theorem decSt_S {b:List UInt8} {xs:List (Fld×Value)} (h0:(tlvDec b).1=0) (hx:xs.map (·.1)=(tlvDec b).2) {ls:List Ln} {ok:Bool} {q:List Fld×Int} (hl:linesQ 16 12 (fstQ (rdS xs 11)) true []=(ls,ok,q)):
  decSt b=if errQ q≠0 then (stNone,errQ q)
   else if ok&&validB (stX (nmX xs) ls (whoX xs)) then (stX (nmX xs) ls (whoX xs),0) else (stNone,40):=by
 have h1:=numsQ_S xs 10 0 1 [] rfl rfl
 have e1:fstQ (rdS xs 0)=((tlvDec b).2,0):=by rw [←hx];rfl
 rw [e1,List.nil_append,←List.range_eq_range'] at h1
 have h2:=takeQ_S xs 10 11 rfl
 rw [show decide (10=10)=true from rfl] at h2
 rw [←stOf_X]
 unfold decSt
 rw [if_neg (fun h=>h h0)]
 simp only [h1,h2,hl]
 rfl
theorem fldV_data (b:List UInt8) (p last:Nat):(fldV b p last).2.1.data.length≤200:=by
 unfold fldV
 dsimp only
 repeat' split
 all_goals first
  | exact Nat.zero_le _
  | (simp only [List.length_take];omega)
theorem tlvGo_data (b:List UInt8): ∀ (n p last:Nat) (fs:List Fld),(∀ f∈fs,f.data.length≤200)→ ∀ f∈(tlvGo b n p last fs).2,f.data.length≤200
 | 0,_,_,_=>fun h=>h
 | n+1,p,last,fs=>fun h=>by
  rw [tlvGo]
  split
  ·split
   ·refine tlvGo_data b n _ _ _ fun f hf=> ?_
    rcases List.mem_append.1 hf with hf | hf
    ·exact h f hf
    ·simp at hf;subst hf;exact fldV_data b p last
   ·intro f hf;cases hf
  ·exact h
theorem tlvDec_data {b:List UInt8}: ∀ f∈(tlvDec b).2,f.data.length≤200:=by
 unfold tlvDec
 split
 ·intro f hf;cases hf
 ·exact tlvGo_data b _ _ _ _ fun f hf=>by cases hf
theorem takeP_mem (xs:List (Fld×Value)) (bad k:Int) (t:Bool):(takeP xs bad k t).1=(fld0,.slice none 0 0)∨(takeP xs bad k t).1∈xs:=by
 unfold takeP
 rcases h:xs.find? (tagIs k) with _ | x
 ·exact .inl rfl
 ·dsimp only
  split
  ·exact .inr (List.mem_of_find?_eq_some h)
  ·exact .inl rfl
theorem rdF_data {xs:List (Fld×Value)} (h: ∀ x∈xs,x.1.data.length≤200) (i:Nat):(rdF xs i).1.data.length≤200:=by
 unfold rdF
 rcases takeP_mem (rdS xs i).1 (rdS xs i).2 ((i:Int)+1) (decide (i=10)) with e | e
 ·rw [e];exact Nat.zero_le _
 ·exact h _ (rdS_sub xs i _ e)
theorem rdF_row {w:World} {rb mb:Nat} {xs:List (Fld×Value)} (h:RdAt w rb mb 0 xs) (i:Nat):BRowIn (fun j=>j≠rb∧j≠mb) w (rdF xs i).2 (rdF xs i).1.data:=by
 unfold rdF
 rcases takeP_mem (rdS xs i).1 (rdS xs i).2 ((i:Int)+1) (decide (i=10)) with e | e
 ·rw [e];exact browIn_nil _ _
 ·exact h.rows _ (rdS_sub xs i _ e)
theorem RdAt.turnedG {w w':World} {r m:Nat} {bad:Int} {xs:List (Fld×Value)} {A S:Nat→Prop} {w3:World} (h:RdAt w r m bad xs) (ht:Turned S w w') (hr:r<w3.heap.size) (hm:m<w3.heap.size) (hx: ∀ x∈xs,BRowIn (fun k=>A k∧k<w3.heap.size) w3 x.2 x.1.data) (hg: ∀ k,S k→w3.heap.size≤k):RdAt w' r m bad xs:=by
 obtain⟨D,⟨es,clock,hb,hf⟩,h2⟩:=h.map
 have hb':=(ht.block _ (Array.getElem?_eq_some_iff.1 hb).1 (fun e=>by have:=hg _ e;omega)).trans hb
 refine⟨(ht.block _ h.lt.1 (fun e=>by have:=hg _ e;omega)).trans h.blk,⟨D,⟨es,clock,hb',hf⟩,h2⟩,h.tags,fun x hxm=> ?_⟩
 obtain⟨oa,cap,e1,e2,e3⟩:=h.rows x hxm
 obtain⟨oa',cap',e1',_,e3'⟩:=hx x hxm
 rw [e1] at e1'
 simp only [Value.slice.injEq,true_and] at e1'
 obtain⟨rfl,rfl⟩:=e1'
 refine⟨oa,cap,e1,e2,fun hn=> ?_⟩
 obtain⟨b,off,rfl,ha,hc⟩:=e3 hn
 obtain⟨b',off',e,ha',_⟩:=e3' hn
 simp only [Option.some.injEq,Addr.mk.injEq,and_true] at e
 obtain⟨rfl,rfl⟩:=e
 exact⟨b,off,rfl,ha,fun i u hu=>ht.cell (hc i u hu) fun hs=>by have:=ha'.2;have:=hg _ hs;simp only at this;omega⟩
theorem takeP_sub {xs:List (Fld×Value)} {bad k:Int} {t:Bool}: ∀ x∈(takeP xs bad k t).2.1,x∈xs:=by
 intro x hx
 unfold takeP at hx
 split at hx
 ·exact hx
 ·split at hx
  ·exact(List.mem_filter.1 hx).1
  ·exact(List.mem_filter.1 hx).1
theorem rdV_num (xs:List (Fld×Value)) (i:Nat) (h:i≠10):rdV xs i= .int .i64 (nmX xs i):=by rw [rdV,if_neg h];rfl
theorem rdV_text (xs:List (Fld×Value)):rdV xs 10=(rdF xs 10).2:=by rw [rdV,if_pos rfl]
theorem conv_none {P:Program} (w:World) (src e dst:TypeId) (hs:P.underlying src=some (.slice e)) (he:P.underlying e=some (.int .u8)) (hd:P.underlying dst=some .string) (p:Option Addr) (c:Nat):(convert src dst (.slice p 0 c)).run P w= .ok (.string ByteArray.empty) w:=by
 rw [run_convert_bytes_string w src dst e _ 0 c hs he hd]
 cases p<;>simp [Conv.bytesToString,loadCells]
 all_goals rfl
theorem conv_brow {w:World} {v:Value} {l:List UInt8} (h:BRow w v l):(convert 47 9 v).run Tryz.prog w= .ok (.string ⟨l.toArray⟩) w:=by
 obtain⟨oa,cap,rfl,_,hc⟩:=h
 by_cases hl:l=[]
 ·subst hl
  exact conv_none w 47 5 9 Tryz.underlying47 Tryz.underlying5 Tryz.underlying9 oa cap
 ·obtain⟨b,off,rfl,hcell⟩:=hc hl
  have:=run_convert_bytes_arg (P:=Tryz.prog) w 47 5 Tryz.underlying47 Tryz.underlying5 b off l.length cap (l.map fun x=>(x.toNat:Int)) (by simp) (fun i hi=>by
   have h1:=hcell i l[i] (List.getElem?_eq_getElem hi)
   rw [h1]
   simp [hi]) 9 Tryz.underlying9
  have e:strOfNums (l.map fun x=>(x.toNat:Int))=⟨l.toArray⟩:=by
   unfold strOfNums
   rw [List.map_map]
   have:((fun n:Int=>UInt8.ofNat n.toNat)∘fun x:UInt8=>(x.toNat:Int))=id:=by funext x;simp
   rw [this,List.map_id]
  rw [this,e]
theorem results_st2 {fn:Func} {p q:Tmp} (h:fn.results= #[.cell p 164,.tmp q]) (tmps:Array Value) (w:World) (g:Nat) (s:St) (lv x:Value)
  (hp:tmps.getD p undef= .pointer (some ⟨g,0,none⟩)) (hq:tmps.getD q undef=x) (hE:StBlk w g s lv):(results fn tmps).run Tryz.prog w= .ok (.tuple #[stV s lv,x]) w:=by
 have hl:=run_loadVar_row (P:=Tryz.prog) w g 164 164 (stCs s lv) (0,0) _ hE Tryz.underlying164 rfl stInfo
 have hp':tmps[p]?.getD undef= .pointer (some ⟨g,0,none⟩):=by simpa using hp
 have hq':tmps[q]?.getD undef=x:=by simpa using hq
 simp [results,h,hp',hq',asAddr,hl]
 rfl
theorem wpList_load_stAt {ops:Array Oper} {rest:List Oper} {o:Oper} {a:Act} {w:World} {Q:Exit→Act→World→Prop} (hgd:o.guard=none) (x:Operand) (ho:o.op= .load 164 x)
  (b off:Nat) (s:St) (lv:Value) (hx:a.eval x= .pointer (some ⟨b,off,none⟩)) (hE:w.rangeAt b off (stCs s lv).toList)
  (h:wpList Tryz.prog ops Q rest (a.put o.dst (stV s lv)) w):wpList Tryz.prog ops Q (o::rest) a w:=
 wpList_load_mid hgd 164 x ho b off hx (stCs s lv).toList _ hE Tryz.underlying164 rfl stInfo h
theorem wpList_store_stW {ops:Array Oper} {rest:List Oper} {o:Oper} {a:Act} {w:World} {Q:Exit→Act→World→Prop} (hgd:o.guard=none) (x y:Operand) (ho:o.op= .store 164 x y)
  (g:Nat) (s s':St) (lv lv':Value) (hx:a.eval x= .pointer (some ⟨g,0,none⟩)) (hy:a.eval y=stV s' lv') (hE:StBlk w g s lv) (h1:lv'.oneCell'=true)
  (h: ∀ W,Hid (W=w.setRow g (stCs s' lv'))→wpList Tryz.prog ops Q rest (a.put o.dst undef) W):wpList Tryz.prog ops Q (o::rest) a w:=
 wpList_store_st hgd x y ho g s s' lv lv' hx hy hE h1 (h _ (Lib.hid rfl))
def StI (w3:World) (rb mb:Nat) (xs:List (Fld×Value)) (i:Nat) (o:Option Nat) (w':World):Prop:=
 RdAt w' rb mb (rdS xs i).2 (rdS xs i).1∧Turned (fun j=>j=rb∨j=mb) w3 w'∧(∀ g,o=some g→w3.heap.size≤g∧StBlk w' g stNone (.slice none 0 0))∧(i=11→BRowIn (fun j=>j≠rb∧j≠mb) w' (rdF xs 10).2 (whoX xs))
theorem StI.next {w3 w' w2:World} {rb mb i:Nat} {xs:List (Fld×Value)} {o:Option Nat} (h:StI w3 rb mb xs i o w') (hr:rb<w3.heap.size) (hm:mb<w3.heap.size) (h1:RdAt w2 rb mb (rdS xs (i+1)).2 (rdS xs (i+1)).1) (ht:Turned (fun j=>j=rb∨j=mb) w' w2)
  (hb:i+1=11→BRowIn (fun j=>j≠rb∧j≠mb) w2 (rdF xs 10).2 (whoX xs)):StI w3 rb mb xs (i+1) o w2:=
 ⟨h1,h.2.1.trans ht fun k hk=> .inl hk,fun g hg=>⟨(h.2.2.1 g hg).1,(ht.block g (h.2.2.1 g hg).2.lt (by have:=(h.2.2.1 g hg).1;omega)).trans (h.2.2.1 g hg).2⟩,hb⟩
theorem StI.alloc {w3 w':World} {rb mb i:Nat} {xs:List (Fld×Value)} (h:StI w3 rb mb xs i none w'):StI w3 rb mb xs i (some w'.heap.size) (w'.alloc (.cells (stCs stNone (.slice none 0 0)) 164)):=
 have hb:=below_alloc w' (.cells (stCs stNone (.slice none 0 0)) 164)
 ⟨h.1.below hb,h.2.1.trans (Turned.below hb) fun _ h=> .inl h,fun g hg=>by cases hg;exact⟨h.2.1.size,stBlk_alloc w' stNone (.slice none 0 0)⟩,fun e=>(h.2.2.2 e).below hb⟩
theorem rdS_text (xs:List (Fld×Value)):rdS xs 11=(takeP (rdS xs 10).1 (rdS xs 10).2 11 true).2:=by
 rw [show rdS xs 11=(takeP (rdS xs 10).1 (rdS xs 10).2 (((10:Nat):Int)+1) (decide (10=10))).2 by rw [rdS],show (((10:Nat):Int)+1)=11 from rfl,show decide (10=10)=true from rfl]
theorem rdF_text (xs:List (Fld×Value)):rdF xs 10=(takeP (rdS xs 10).1 (rdS xs 10).2 11 true).1:=by
 rw [show rdF xs 10=(takeP (rdS xs 10).1 (rdS xs 10).2 (((10:Nat):Int)+1) (decide (10=10))).1 by rw [rdF],show (((10:Nat):Int)+1)=11 from rfl,show decide (10=10)=true from rfl]
theorem numC_S {w3 w':World} {c rb mb i:Nat} {xs:List (Fld×Value)} {o:Option Nat} (hc:w3.heap[c]? =some (.cells #[.pointer (some ⟨rb,0,none⟩)] 240 (0,0))) (hcr:c≠rb∧c≠mb) (hr:rb<w3.heap.size) (hm:mb<w3.heap.size) (hi:i<10) (hI:StI w3 rb mb xs i o w') (k:Int) (hk:k=(i:Int)+1):
  Calls Tryz.prog 154 #[.int .i64 k,.pointer (some ⟨c,0,none⟩)] w' fun e w2=>e= .returned (rdV xs i)∧StI w3 rb mb xs (i+1) o w2:=by
 have hd:decide (i=10)=false:=by simp;omega
 have e1:rdS xs (i+1)=(takeP (rdS xs i).1 (rdS xs i).2 k false).2:=by rw [rdS,hd,hk]
 have e2:rdF xs i=(takeP (rdS xs i).1 (rdS xs i).2 k false).1:=by rw [rdF,hd,hk]
 have hT:=numC_any w' c rb mb (rdS xs i).2 k (rdS xs i).1 ((hI.2.1.block c (Array.getElem?_eq_some_iff.1 hc).1 (by rintro(h | h);exact hcr.1 h;exact hcr.2 h)).trans hc) hI.1 (by omega)
 rw [←e1,←e2] at hT
 refine hT.mono ?_
 rintro e w2 ⟨rfl,h1,h2⟩
 exact⟨by rw [rdV,if_neg (by omega)],hI.next hr hm h1 h2 (fun e=>by omega)⟩
theorem textC_S {w3 w':World} {rb mb:Nat} {xs:List (Fld×Value)} {o:Option Nat} (hr:rb<w3.heap.size) (hm:mb<w3.heap.size) (hI:StI w3 rb mb xs 10 o w'):
  Calls Tryz.prog 157 #[.pointer (some ⟨rb,0,none⟩),.int .i64 11] w' fun e w2=>e= .returned (rdV xs 10)∧StI w3 rb mb xs (10+1) o w2:=by
 have hT:=rdText_any w' rb mb (rdS xs 10).2 11 (rdS xs 10).1 hI.1 (by omega)
 rw [←rdS_text,←rdF_text] at hT
 refine hT.mono ?_
 rintro e w2 ⟨rfl,h0,h1,h2⟩
 exact⟨by rw [rdV,if_pos rfl],hI.next hr hm h1 h2 (fun _=>h0)⟩
theorem StI.start {w3 w':World} {rb mb:Nat} {xs:List (Fld×Value)} (h:RdAt w3 rb mb 0 xs) (hb:Below w3.heap.size w3 w'):StI w3 rb mb xs 0 none w':=
 ⟨h.below hb,Turned.below hb,(fun _ hg=>by cases hg),(fun e=>by cases e)⟩
def StDP (w:World) (r:St×Int) (e:Ending) (w':World):Prop:= ∃ lv,e= .returned (.tuple #[stV r.1 lv,.int .i64 r.2])∧OwnLn w' w.heap.size lv r.1.lines∧Below w.heap.size w w'
set_option maxRecDepth 100000 in
set_option maxHeartbeats 4000000 in
theorem canonDec_any (b:List UInt8) (v:Value) (w:World) (hv:BRow w v b) (hl:b.length≤1048576):
  Calls Tryz.prog 115 #[v] w (StDP w (decSt b)):=by
 have HB0:=Lib.hid (below_alloc w (.cells (stCs stNone (.slice none 0 0)) 164))
 have HS0:=Lib.hid (stBlk_alloc w stNone (.slice none 0 0))
 have HNR:=Lib.hid (newReader_any b v _ (hv.below HB0.out) hl)
 simp only [stCs,stNone] at HB0 HS0 HNR
 have HDS:=Lib.hid (fun(xs:List (Fld×Value)) (h0:(tlvDec b).1=0) (hx:xs.map (·.1)=(tlvDec b).2) (ls:List Ln) (ok:Bool) (q:List Fld×Int) (hl:linesQ 16 12 (fstQ (rdS xs 11)) true []=(ls,ok,q))=>decSt_S h0 hx hl)
 have HE:=Lib.hid (show ¬ (tlvDec b).1=0→decSt b=(stNone,(tlvDec b).1) from fun h=>by unfold decSt;rw [if_pos h])
 have HDAT:=Lib.hid (@tlvDec_data b)
 obtain⟨r,hr⟩: ∃ r,r=tlvDec b:=⟨_,rfl⟩
 rw [←hr] at HNR HDS HE HDAT
 clear hv hr
 obtain⟨e0,fs⟩:=r
 unfold NewRdPost at HNR
 dsimp only at HNR HDS HE HDAT
 go_enter Tryz.func115,Tryz.ntmps115
 go_wp2_with fail
 refine HNR.out.mono ?_
 rintro e w1 ⟨h1,h2,hb1⟩
 have HB1:=Lib.hid (Below.next HB0.out hb1)
 have HS1:=Lib.hid (HS0.out.below hb1)
 clear hb1 HNR HB0 HS0
 rcases he:(e0 != 0) with _ | _
 case true=>
  have he0: ¬ e0=0:=by simpa using he
  have HE2:=Lib.hid (HE.out he0)
  obtain rfl:=h1 he0
  clear h1 h2 he0 HDS HE
  have HB2:=Lib.hid (Below.next HB1.out (below_alloc w1 (.cells #[.pointer none] 240)))
  have HS2:=Lib.hid (HS1.out.below (below_alloc w1 (.cells #[.pointer none] 240)))
  go_wp2_with (with_reducible refine wpList_store_stW rfl (.tmp 2) (.tmp 21) rfl w.heap.size ⟨0,0,0,0,0,[],0,0,0,0,0,[]⟩ ⟨0,0,0,0,0,[],0,0,0,0,0,[]⟩ (.slice none 0 0) (.slice none 0 0) rfl rfl HS2.out rfl ?_)
  intro w3 hw3
  have HS3:=Lib.hid (show StBlk w3 w.heap.size stNone (.slice none 0 0) by rw [hw3.out];exact HS2.out.row)
  have HB3:=Lib.hid (show Below w.heap.size w w3 by rw [hw3.out];exact below_row HB2.out (Nat.le_refl _) _)
  clear hw3
  go_wp2
  refine bodyPost_ret (v:= .tuple #[stV stNone (.slice none 0 0),.int .i64 e0]) (results_st2 rfl _ _ w.heap.size stNone _ _ rfl rfl HS3.out) rfl ?_
  rw [HE2.out]
  exact⟨_,rfl,⟨rfl,.inl ⟨rfl,rfl⟩⟩,HB3.out⟩
 have he0:e0=0:=by simpa using he
 obtain⟨rb,mb,xs,rfl,hxs,hrd,hrb,hmb⟩:=h2 he0
 have HDS2:=Lib.hid (fun ls ok q h=>HDS.out xs he0 hxs ls ok q h)
 have HXD:=Lib.hid (fun x (hx:x∈xs)=>HDAT.out x.1 (by rw [←hxs];exact List.mem_map.2 ⟨x,hx,rfl⟩))
 have HRD:=Lib.hid hrd
 clear h1 h2 HDS HE HDAT he0 hxs hrd
 have hsz0:(w.alloc (.cells #[.int .i64 0,.int .i64 0,.int .i64 0,.int .i64 0,.int .i64 0,.slice none 0 0,.int .i64 0,.int .i64 0,.int .i64 0,.int .i64 0,.int .i64 0,.string ⟨#[]⟩] 164)).heap.size=w.heap.size+1:=World.size_alloc _ _
 rw [hsz0] at hrb hmb
 clear hsz0
 have HRL:=Lib.hid HRD.out.lt
 have hrl:=HRL.out.1
 have hml:=HRL.out.2
 have hba:=below_alloc w1 (.cells #[.pointer (some ⟨rb,0,none⟩)] 240)
 have HC2:=Lib.hid (heap_alloc_new w1 (.cells #[.pointer (some ⟨rb,0,none⟩)] 240))
 have HB2:=Lib.hid (Below.next HB1.out hba)
 have HS2:=Lib.hid (HS1.out.below hba)
 have HRD2:=Lib.hid (HRD.out.below hba)
 have hsz:(w1.alloc (.cells #[.pointer (some ⟨rb,0,none⟩)] 240)).heap.size=w1.heap.size+1:=World.size_alloc _ _
 have hw1:w.heap.size<w1.heap.size:=HS1.out.lt
 clear hba HB1 HS1 HRD HRL
 go_upto_region 5 with fail
 generalize w1.alloc (.cells #[.pointer (some ⟨rb,0,none⟩)] 240)=w3 at*
 obtain⟨c,hc⟩: ∃ c,c=w1.heap.size:=⟨_,rfl⟩
 rw [←hc] at hsz hw1 hrl hml HC2
 rw [←hc]
 clear hc
 go_cut [7] from 24 to 47 (fun p wx=> ∃ g,p= .pointer (some ⟨g,0,none⟩)∧Hid (StBlk wx g (stX (nmX xs) [] (whoX xs)) (.slice none 0 0))∧Hid (w3.heap.size≤g)∧Hid (RdAt wx rb mb (rdS xs 11).2 (rdS xs 11).1)∧Hid (Turned (fun j=>j=rb∨j=mb) w3 wx))
 case first=>
  refine wp_region_held_drew (S:=fun w'=>Turned (fun j=>j=rb∨j=mb) w3 w') (by kernel_rfl) (Turned.below (below_drewN' w3 1)) (fun hHeld=> ?_)
  refine tq 0 rfl ?_
  refine tq 2 rfl ?_
  refine tq 4 rfl ?_
  refine tq 6 rfl ?_
  refine tq 8 rfl ?_
  refine tq 10 rfl ?_
  refine tq 12 rfl ?_
  refine tq 14 rfl ?_
  refine tq 16 rfl ?_
  refine tq 18 rfl ?_
  have FX1:=Lib.hid (fun(wF:World) (hSw:(fun w'=>Turned (fun j=>j=rb∨j=mb) w3 w') wF)=>(hSw.cell (show w3.cell? ⟨c,0,none⟩=some (.pointer (some ⟨rb,0,none⟩)) by simp [World.cell?,HC2.out]) (by simp only;omega)))
  refine tf FX1 20 rfl ?_
  clear FX1
  have hbd:Below w3.heap.size w3 (World.drew w3):=below_drewN' w3 1
  have HI0:=Lib.hid (StI.start HRD2.out hbd)
  clear hbd hHeld
  generalize World.drew w3=Wd at*
  have hr3:rb<w3.heap.size:=by omega
  have HTX:=Lib.hid (rdV_text xs)
  have HBT:=Lib.hid (show BRowIn (fun j=>j≠rb∧j≠mb) w3 (rdF xs 10).2 (whoX xs) from rdF_row HRD2.out 10)
  have HRW:=Lib.hid (fun x (hx:x∈xs)=>(HRD2.out.rows x hx).low)
  have hm3:mb<w3.heap.size:=by omega
  have HCC:=Lib.hid (fun(i:Nat) (k:Int) (hi:i<10) (hk:k=(i:Int)+1) (o:Option Nat) (w':World) (hI:StI w3 rb mb xs i o w')=>numC_S HC2.out ⟨by omega,by omega⟩ hr3 hm3 hi hI k hk)
  have HCT:=Lib.hid (fun(o:Option Nat) (w':World) (hI:StI w3 rb mb xs 10 o w')=>textC_S hr3 hm3 hI)
  refine wp_chain0 11 24 (fun i=>2*i+1) (fun i=>2*i+25) (rdV xs) 7 (StI w3 rb mb xs) 3 (by kernel_rfl) (by kernel_rfl) (by decide) (fun i o w' h=>h.2.1) ?hcall ?hal ?hend ?hend0 HI0.out
  case hal=>
   intro i hi w' hI K hK
   refine wpOp_step rfl (fun K' hK'=> ?_)
   rw [if_pos (by kernel_rfl)]
   go_simp
   exact hK' _ _ (hK _ _ hI.alloc)
  case hcall=>
   intro i hi o w' hI K hK
   have HK:=Lib.hid hK
   clear hK
   by_cases h10:i<10
   ·have HC1:=Lib.hid (HCC.out i ((i:Int)+1) h10 rfl o w' hI)
    clear hI HCC HCT
    have h11:i=0∨i=1∨i=2∨i=3∨i=4∨i=5∨i=6∨i=7∨i=8∨i=9:=by omega
    rcases h11 with rfl | rfl | rfl | rfl | rfl | rfl | rfl | rfl | rfl | rfl
    all_goals
     refine wpOp_step rfl (fun K' hK'=> ?_)
     have HK':=Lib.hid hK'
     clear hK'
     rw [if_pos (by kernel_rfl)]
     cases o
     all_goals
      simp only [chA,chT,List.range_succ,List.range_zero,List.foldl_append,List.nil_append,List.foldl_cons,List.foldl_nil,pA,pB,pC,pD] at HK ⊢
      go_simp
      refine HC1.out.mono ?_
      rintro e w2 ⟨rfl,hI2⟩
      exact HK'.out _ _ (HK.out w2 hI2)
   ·obtain rfl:i=10:=by omega
    have HC1:=Lib.hid (HCT.out o w' hI)
    clear hI HCC HCT
    refine wpOp_step rfl (fun K' hK'=> ?_)
    have HK':=Lib.hid hK'
    clear hK'
    rw [if_pos (by kernel_rfl)]
    cases o
    all_goals
     simp only [chA,chT,List.range_succ,List.range_zero,List.foldl_append,List.nil_append,List.foldl_cons,List.foldl_nil,pB,pC,pD] at HK ⊢
     go_simp
     refine HC1.out.mono ?_
     rintro e w2 ⟨rfl,hI2⟩
     exact HK'.out _ _ (HK.out w2 hI2)
  case hend=>
   intro g w' hI
   have hSw0:Turned (fun j=>j=rb∨j=mb) w3 w':=hI.2.1
   have HGZ:=Lib.hid (hI.2.2.1 g rfl).2
   have hg:=(hI.2.2.1 g rfl).1
   have HRX:=Lib.hid hI.1
   clear hI
   simp only [chA,chT,List.range_succ,List.range_zero,List.foldl_append,List.nil_append,List.foldl_cons,List.foldl_nil,pB,pC,pD,HTX.out]
   have FX2:=Lib.hid (fun(wF:World) (hSw:(fun w'=>Turned (fun j=>j=rb∨j=mb) w3 w') wF)=>(conv_brow (HBT.out.turned hSw (fun k hk hs=>by rcases hs with h | h;exact hk.1 h;exact hk.2 h)).brow))
   refine tf FX2 22 rfl ?_
   clear FX2
   simp only [rdV_num xs 0 (by decide),rdV_num xs 1 (by decide),rdV_num xs 2 (by decide),rdV_num xs 3 (by decide),rdV_num xs 4 (by decide),rdV_num xs 5 (by decide),rdV_num xs 6 (by decide),rdV_num xs 7 (by decide),rdV_num xs 8 (by decide),rdV_num xs 9 (by decide)]
   refine tq 23 rfl ?_
   refine wpAnyH_ready (rs:=[25]) (by kernel_rfl) (by simp) ?_
   refine AllReadyH.cons rfl (fun K hK=> ?_) AllReadyH.nil
   rw [if_pos (by kernel_rfl)]
   refine wp_store_row 164 (.tmp 7) (.tmp 47) rfl g (stCs (stX (nmX xs) [] (whoX xs)) (.slice none 0 0)) rfl (by rw [stCs_X];rfl) 164 (stCs stNone (.slice none 0 0)) HGZ.out stInfo (by rw [stCs_size,stCs_size]) (stCs_one _ _ rfl) ?_
   have ht:Turned (fun k=>k=g) w' (w'.setRow g (stCs (stX (nmX xs) [] (whoX xs)) (.slice none 0 0))):=run_setRow_turned _ _ _
   have HG:=Lib.hid (show StBlk (w'.setRow g (stCs (stX (nmX xs) [] (whoX xs)) (.slice none 0 0))) g (stX (nmX xs) [] (whoX xs)) (.slice none 0 0) from HGZ.out.row)
   have HT:=Lib.hid (show Turned (fun j=>j=rb∨j=mb) w3 (w'.setRow g (stCs (stX (nmX xs) [] (whoX xs)) (.slice none 0 0))) from hSw0.trans ht fun i hi=> .inr (by omega))
   have HR:=Lib.hid (show RdAt (w'.setRow g (stCs (stX (nmX xs) [] (whoX xs)) (.slice none 0 0))) rb mb (rdS xs 11).2 (rdS xs 11).1 from HRX.out.turnedG ht hr3 hm3 (fun x hx=>HRW.out x (rdS_sub xs 11 x hx)) (fun k hk=>by omega))
   clear ht
   generalize w'.setRow g (stCs (stX (nmX xs) [] (whoX xs)) (.slice none 0 0))=w9 at*
   refine hK.out _ _ HT.out (fun hHeld=> ?_)
   clear hK K hHeld
   refine wpAnyH_done (by kernel_rfl) ?_ _
   go_wp2_with fail
   go_meet
   exact⟨g,rfl,HG,Lib.hid hg,HR,HT⟩
  case hend0=>
   intro w0 hI
   have hSw1:Turned (fun j=>j=rb∨j=mb) w3 w0:=hI.2.1
   have HI:=Lib.hid hI.alloc
   have hgs:w3.heap.size≤w0.heap.size:=hI.2.1.size
   clear hI
   simp only [chA,chT,List.range_succ,List.range_zero,List.foldl_append,List.nil_append,List.foldl_cons,List.foldl_nil,pB,pC,pD,HTX.out]
   have FX3:=Lib.hid (fun(wF:World) (hSw:(fun w'=>Turned (fun j=>j=rb∨j=mb) w3 w') wF)=>(conv_brow (HBT.out.turned hSw (fun k hk hs=>by rcases hs with h | h;exact hk.1 h;exact hk.2 h)).brow))
   refine tf FX3 22 rfl ?_
   clear FX3
   simp only [rdV_num xs 0 (by decide),rdV_num xs 1 (by decide),rdV_num xs 2 (by decide),rdV_num xs 3 (by decide),rdV_num xs 4 (by decide),rdV_num xs 5 (by decide),rdV_num xs 6 (by decide),rdV_num xs 7 (by decide),rdV_num xs 8 (by decide),rdV_num xs 9 (by decide)]
   refine tq 23 rfl ?_
   refine wpAnyH_ready (rs:=[24]) (by kernel_rfl) (by simp) ?_
   refine AllReadyH.cons rfl (fun K hK=> ?_) AllReadyH.nil
   go_simp
   refine hK.out _ _ HI.out.2.1 (fun hHeld=> ?_)
   clear hK K hSw1
   have HJ:=Lib.hid (show StI w3 rb mb xs 11 (some w0.heap.size) (w0.alloc (.cells #[.int .i64 0,.int .i64 0,.int .i64 0,.int .i64 0,.int .i64 0,.slice none 0 0,.int .i64 0,.int .i64 0,.int .i64 0,.int .i64 0,.int .i64 0,.string ⟨#[]⟩] 164)) from HI.out)
   clear HI
   generalize w0.alloc (.cells #[.int .i64 0,.int .i64 0,.int .i64 0,.int .i64 0,.int .i64 0,.slice none 0 0,.int .i64 0,.int .i64 0,.int .i64 0,.int .i64 0,.int .i64 0,.string ⟨#[]⟩] 164)=w' at*
   generalize w0.heap.size=g at*
   have hSw0:Turned (fun j=>j=rb∨j=mb) w3 w':=HJ.out.2.1
   have HGZ:=Lib.hid (HJ.out.2.2.1 g rfl).2
   have hg:=(HJ.out.2.2.1 g rfl).1
   have HRX:=Lib.hid HJ.out.1
   clear HJ hgs hHeld
   refine wpAnyH_ready (rs:=[25]) (by kernel_rfl) (by simp) ?_
   refine AllReadyH.cons rfl (fun K hK=> ?_) AllReadyH.nil
   rw [if_pos (by kernel_rfl)]
   refine wp_store_row 164 (.tmp 7) (.tmp 47) rfl g (stCs (stX (nmX xs) [] (whoX xs)) (.slice none 0 0)) rfl (by rw [stCs_X];rfl) 164 (stCs stNone (.slice none 0 0)) HGZ.out stInfo (by rw [stCs_size,stCs_size]) (stCs_one _ _ rfl) ?_
   have ht:Turned (fun k=>k=g) w' (w'.setRow g (stCs (stX (nmX xs) [] (whoX xs)) (.slice none 0 0))):=run_setRow_turned _ _ _
   have HG:=Lib.hid (show StBlk (w'.setRow g (stCs (stX (nmX xs) [] (whoX xs)) (.slice none 0 0))) g (stX (nmX xs) [] (whoX xs)) (.slice none 0 0) from HGZ.out.row)
   have HT:=Lib.hid (show Turned (fun j=>j=rb∨j=mb) w3 (w'.setRow g (stCs (stX (nmX xs) [] (whoX xs)) (.slice none 0 0))) from hSw0.trans ht fun i hi=> .inr (by omega))
   have HR:=Lib.hid (show RdAt (w'.setRow g (stCs (stX (nmX xs) [] (whoX xs)) (.slice none 0 0))) rb mb (rdS xs 11).2 (rdS xs 11).1 from HRX.out.turnedG ht hr3 hm3 (fun x hx=>HRW.out x (rdS_sub xs 11 x hx)) (fun k hk=>by omega))
   clear ht
   generalize w'.setRow g (stCs (stX (nmX xs) [] (whoX xs)) (.slice none 0 0))=w9 at*
   refine hK.out _ _ HT.out (fun hHeld=> ?_)
   clear hK K hHeld
   refine wpAnyH_done (by kernel_rfl) ?_ _
   go_wp2_with fail
   go_meet
   exact⟨g,rfl,HG,Lib.hid hg,HR,HT⟩
 case rest=>
  obtain⟨g,rfl,HG,hg,HR,HT⟩:=hcut
  have hgl:=hg.out
  have hgw:=HG.out.lt
  have HWH:=Lib.hid (show (whoX xs).length≤200 from rdF_data (fun x hx=>HXD.out x hx) 10)
  generalize nmX xs=nf at*
  generalize whoX xs=wh at*
  have HSW:=Lib.hid (show StBlk wc w.heap.size ⟨0,0,0,0,0,[],0,0,0,0,0,[]⟩ (.slice none 0 0) from(HT.out.block w.heap.size (by omega) (by omega)).trans HS2.out)
  have HRW:=Lib.hid (fun x (hx:x∈xs)=>(HRD2.out.rows x hx).low)
  have HCW:=Lib.hid ((HT.out.block c (by omega) (by omega)).trans HC2.out)
  have HBW:=Lib.hid (show Below w.heap.size w wc from turned_below HB2.out HT.out (fun k hk=>by omega) HB2.out.size)
  have hwc:w3.heap.size≤wc.heap.size:=HT.out.size
  have HW2:=Lib.hid (show w.heap.size<wc.heap.size by omega)
  clear hg HS2 HC2 HB2 HT
  go_wp2_with fail
  go_loopw [8,48] (fun ov iv wr=> ∃ (k:Nat) (ok:Bool) (ls:List Ln) (ys:List (Fld×Value)) (bd:Int) (lv:Value),k≤16∧iv= .int .i64 (k:Int)∧ov= .bool ok∧ls.length=k∧Hid (RdAt wr rb mb bd ys)∧Hid (∀ y∈ys,y∈xs)∧Hid (StBlk wr g (stX nf ls wh) lv)∧Hid (OwnLn wr wc.heap.size lv ls)∧Hid (linesQ 16 12 (fstQ (rdS xs 11)) true []=linesQ (16 - k) (12+(k:Int)) (fstQ (ys,bd)) ok ls)∧Hid (Turned (fun j=>j=rb∨j=mb∨j=g) wc wr)) (fun _ iv _=>16 - (intOf iv).toNat)
  case atStart=>exact⟨0,true,[],(rdS xs 11).1,(rdS xs 11).2,.slice none 0 0,by decide,rfl,rfl,rfl,HR,Lib.hid (rdS_sub xs 11),HG,Lib.hid ⟨rfl,.inl ⟨rfl,rfl⟩⟩,Lib.hid (linesQ_start _),Lib.hid (Turned.below (Below.refl _ _))⟩
  case round=>
   obtain⟨k,ok,ls,ys,bd,lv,hk,rfl,rfl,hlk,HRk,HYS,HGk,HOk,HLK,HTk⟩:=hrel
   have HSk:=Lib.hid (show StBlk wr w.heap.size ⟨0,0,0,0,0,[],0,0,0,0,0,[]⟩ (.slice none 0 0) from(HTk.out.block w.heap.size (by omega) (by omega)).trans HSW.out)
   have HCk:=Lib.hid (show wr.cell? ⟨c,0,none⟩=some (.pointer (some ⟨rb,0,none⟩)) by simp [World.cell?,(HTk.out.block c (by omega) (by omega)).trans HCW.out])
   have HBk:=Lib.hid (show Below w.heap.size w wr from turned_below HBW.out HTk.out (fun k hk=>by omega) HBW.out.size)
   by_cases hlt:k<16
   ·have q1:(k:Int)<16:=by omega
    have hk12:IntKind.i64.wrap (12+(k:Int))=12+(k:Int):=by rw [IntKind.wrap_i64];omega
    have HTX:=Lib.hid (rdText_any wr rb mb bd (12+(k:Int)) ys HRk.out (by omega))
    have HNK:=Lib.hid (show 16 - k=(16 - (k+1))+1 by omega)
    rw [HNK.out] at HLK
    have HQ:=Lib.hid (show takeQ (fstQ (ys,bd)) (12+(k:Int)) true=((takeP ys bd (12+(k:Int)) true).1.1,fstQ (takeP ys bd (12+(k:Int)) true).2) from takeP_Q ys bd _ true)
    have HEND:=Lib.hid (@linesQ_end (16 - (k+1)) (12+(k:Int)) (fstQ (ys,bd)) ok ls)
    have HGO:=Lib.hid (@linesQ_go (16 - (k+1)) (12+(k:Int)) (fstQ (ys,bd)) ok ls)
    rw [HQ.out] at HEND HGO
    have HFM:=Lib.hid (takeP_mem ys bd (12+(k:Int)) true)
    have HFS:=Lib.hid (@takeP_sub ys bd (12+(k:Int)) true)
    obtain⟨y,hy⟩: ∃ y,y=takeP ys bd (12+(k:Int)) true:=⟨_,rfl⟩
    rw [←hy] at HTX HEND HGO HFM HFS
    obtain⟨⟨f,tv⟩,zs,bd2⟩:=y
    dsimp only at HTX HEND HGO HFM HFS
    have HZS:=Lib.hid (fun z (hz:z∈zs)=>HYS.out z (HFS.out z hz))
    have hfl:f.data.length≤200:=by
     rcases HFM.out with e | e
     ·injection e with e _;rw [e];exact Nat.zero_le _
     ·exact HXD.out _ (HYS.out _ e)
    have c4:=HCk.out
    have hrw:wc.heap.size≤wr.heap.size:=HTk.out.size
    clear HQ HNK HFM HFS hy HYS
    go_wp2_with fail
    refine HTX.out.mono ?_
    rintro e w2 ⟨rfl,hbr,hrd2,ht2⟩
    have HT2:=Lib.hid (show Turned (fun j=>j=rb∨j=mb∨j=g) wc w2 from HTk.out.trans ht2 fun i hi=> .inl (by rcases hi with h | h;exact .inl h;exact .inr (.inl h)))
    have HG2:=Lib.hid (show StBlk w2 g (stX nf ls wh) lv from(ht2.block g (by omega) (by omega)).trans HGk.out)
    have HO2:=Lib.hid (show OwnLn w2 wc.heap.size lv ls from own_turned HOk.out ht2 (fun j hj=>by rcases hj with h | h<;>omega))
    have HR2:=Lib.hid hrd2
    have HBR2:=Lib.hid hbr.brow
    have h2s:=ht2.size
    obtain⟨oa,cap,hsh,_⟩:=hbr
    subst hsh
    clear ht2 hrd2 HTX HTk HGk HOk HRk HSk HCk HBk c4
    have HSk:=Lib.hid (show StBlk w2 w.heap.size ⟨0,0,0,0,0,[],0,0,0,0,0,[]⟩ (.slice none 0 0) from(HT2.out.block w.heap.size (by omega) (by omega)).trans HSW.out)
    have HCk:=Lib.hid (show w2.cell? ⟨c,0,none⟩=some (.pointer (some ⟨rb,0,none⟩)) by simp [World.cell?,(HT2.out.block c (by omega) (by omega)).trans HCW.out])
    have HBk:=Lib.hid (show Below w.heap.size w w2 from turned_below HBW.out HT2.out (fun k hk=>by omega) HBW.out.size)
    rcases hd:((f.data.length:Int)==0) with _ | _
    case true=>
     have hfe:f.data=[]:=List.eq_nil_of_length_eq_zero (by have:(f.data.length:Int)=0:=by simpa using hd
                                                           omega)
     have HLk:=Lib.hid (show linesQ 16 12 (fstQ (rdS xs 11)) true []=(ls,ok,fstQ (zs,bd2)) by rw [HLK.out];exact HEND.out hfe)
     have HGk:=HG2
     have HOk:=HO2
     have HRk:=HR2
     clear HLK HEND HGO hfe HG2 HO2 HR2
     have HDE:=Lib.hid (HDS2.out ls ok (fstQ (zs,bd2)) HLk.out)
     have HER:=Lib.hid (rdErr_any w2 rb mb bd2 zs HRk.out)
     rw [errR_Q] at HER
     rw [show errQ (zs.map (·.1),bd2)=errQ (fstQ (zs,bd2)) from rfl] at HER
     have c4:=HCk.out
     generalize errQ (fstQ (zs,bd2))=er at*
     have HWL:=Lib.hid HW2.out
     go_wp2_with fail
     refine HER.out.mono ?_
     rintro e w9 ⟨rfl,rfl⟩
     clear HER HRk HLk
     rcases her:(er != 0) with _ | _
     case true=>
      have HD:=Lib.hid (show decSt b=(stNone,er) by rw [HDE.out,if_pos (by simpa using her)])
      go_wp2_with (with_reducible refine wpList_store_stW rfl (.tmp 2) (.tmp 78) rfl w.heap.size ⟨0,0,0,0,0,[],0,0,0,0,0,[]⟩ ⟨0,0,0,0,0,[],0,0,0,0,0,[]⟩ (.slice none 0 0) (.slice none 0 0) rfl rfl HSk.out rfl ?_)
      intro w8 hw8
      have HS8:=Lib.hid (show StBlk w8 w.heap.size stNone (.slice none 0 0) by rw [hw8.out];exact HSk.out.row)
      have HB8:=Lib.hid (show Below w.heap.size w w8 by rw [hw8.out];exact below_row HBk.out (Nat.le_refl _) _)
      clear hw8
      go_wp2
      refine bodyPost_ret (v:= .tuple #[stV stNone (.slice none 0 0),.int .i64 er]) (results_st2 rfl _ _ w.heap.size stNone _ _ rfl rfl HS8.out) rfl ?_
      rw [HD.out]
      exact⟨_,rfl,⟨rfl,.inl ⟨rfl,rfl⟩⟩,HB8.out⟩
     case false=>
      have HDF:=Lib.hid (show decSt b=if ok&&validB (stX nf ls wh) then ((stX nf ls wh),0) else (stNone,40) by rw [HDE.out,if_neg (by simpa using her)])
      clear HDE
      cases ok
      case false=>
       have HD:=Lib.hid (show decSt b=(stNone,40) by rw [HDF.out];rfl)
       go_wp2_with (with_reducible refine wpList_store_stW rfl (.tmp 2) (.tmp 87) rfl w.heap.size ⟨0,0,0,0,0,[],0,0,0,0,0,[]⟩ ⟨0,0,0,0,0,[],0,0,0,0,0,[]⟩ (.slice none 0 0) (.slice none 0 0) rfl rfl HSk.out rfl ?_)
       intro w8 hw8
       have HS8:=Lib.hid (show StBlk w8 w.heap.size stNone (.slice none 0 0) by rw [hw8.out];exact HSk.out.row)
       have HB8:=Lib.hid (show Below w.heap.size w w8 by rw [hw8.out];exact below_row HBk.out (Nat.le_refl _) _)
       clear hw8
       go_wp2
       refine bodyPost_ret (v:= .tuple #[stV stNone (.slice none 0 0),.int .i64 40]) (results_st2 rfl _ _ w.heap.size stNone _ _ rfl rfl HS8.out) rfl ?_
       rw [HD.out]
       exact⟨_,rfl,⟨rfl,.inl ⟨rfl,rfl⟩⟩,HB8.out⟩
      case true=>
       have hwl:wh.length≤281474976710656:=Nat.le_trans HWH.out (by decide)
       have hrl:LnRow w2 lv ls:=lnRow_own HOk.out
       have HVA:=Lib.hid (oValid_any (stX nf ls wh) lv w2 hrl hwl)
       clear hwl hrl
       rw [Bool.true_and] at HDF
       obtain⟨s,hs⟩: ∃ s,s=(stX nf ls wh):=⟨_,rfl⟩
       have HLS:=Lib.hid (show s.lines=ls by rw [hs])
       rw [←hs] at HVA HDF HGk
       clear hs
       generalize validB s=vb at*
       have d0:=HGk.out.c0
       have d1:=HGk.out.c1
       have d2:=HGk.out.c2
       have d3:=HGk.out.c3
       have d4:=HGk.out.c4
       have d5:=HGk.out.c5
       have d6:=HGk.out.c6
       have d7:=HGk.out.c7
       have d8:=HGk.out.c8
       have d9:=HGk.out.c9
       have d10:=HGk.out.c10
       have d11:=HGk.out.c11
       go_wp2_with fail
       refine HVA.out.mono ?_
       rintro e w7 ⟨rfl,hb7⟩
       have HB7:=Lib.hid hb7
       clear hb7 d0 d1 d2 d3 d4 d5 d6 d7 d8 d9 d10 d11
       cases vb
       ·have HD:=Lib.hid (show decSt b=(stNone,40) by rw [HDF.out];rfl)
        have HS7:=Lib.hid (HSk.out.below HB7.out)
        go_wp2_with (with_reducible refine wpList_store_stW rfl (.tmp 2) (.tmp 87) rfl w.heap.size ⟨0,0,0,0,0,[],0,0,0,0,0,[]⟩ ⟨0,0,0,0,0,[],0,0,0,0,0,[]⟩ (.slice none 0 0) (.slice none 0 0) rfl rfl HS7.out rfl ?_)
        intro w8 hw8
        have HS8:=Lib.hid (show StBlk w8 w.heap.size stNone (.slice none 0 0) by rw [hw8.out];exact HS7.out.row)
        have HB8:=Lib.hid (show Below w.heap.size w w8 by rw [hw8.out];exact below_row (Below.next HBk.out HB7.out) (Nat.le_refl _) _)
        clear hw8
        go_wp2
        refine bodyPost_ret (v:= .tuple #[stV stNone (.slice none 0 0),.int .i64 40]) (results_st2 rfl _ _ w.heap.size stNone _ _ rfl rfl HS8.out) rfl ?_
        rw [HD.out]
        exact⟨_,rfl,⟨rfl,.inl ⟨rfl,rfl⟩⟩,HB8.out⟩
       ·have HD:=Lib.hid (show decSt b=(s,0) by rw [HDF.out,if_pos rfl])
        have HS7:=Lib.hid (HSk.out.below HB7.out)
        have HG7:=Lib.hid (HGk.out.below HB7.out)
        have HO7:=Lib.hid (own_later HOk.out HB7.out)
        have h1v:lv.oneCell'=true:=by obtain⟨_,_,e,_⟩:=own_shape HOk.out;rw [e];rfl
        go_wp2_with (first | (with_reducible refine wpList_load_st rfl (.tmp 7) rfl g s lv rfl HG7.out ?_) | (with_reducible refine wpList_store_stW rfl (.tmp 2) (.tmp 88) rfl w.heap.size ⟨0,0,0,0,0,[],0,0,0,0,0,[]⟩ s (.slice none 0 0) lv rfl rfl HS7.out h1v ?_))
        intro w8 hw8
        have HS8:=Lib.hid (show StBlk w8 w.heap.size s lv by rw [hw8.out];exact HS7.out.row)
        have HB8:=Lib.hid (show Below w.heap.size w w8 by rw [hw8.out];exact below_row (Below.next HBk.out HB7.out) (Nat.le_refl _) _)
        have HO8:=Lib.hid (show OwnLn w8 w.heap.size lv ls by rw [hw8.out];exact own_mono (own_setRow HO7.out HWL.out _) (Nat.le_of_lt HWL.out))
        clear hw8
        go_wp2
        refine bodyPost_ret (v:= .tuple #[stV s lv,.int .i64 0]) (results_st2 rfl _ _ w.heap.size s _ _ rfl rfl HS8.out) rfl ?_
        rw [HD.out]
        exact⟨_,rfl,by rw [HLS.out];exact HO8.out,HB8.out⟩
    case false=>
     have hfe: ¬ f.data=[]:=fun e=>by rw [e] at hd;cases hd
     have HLN:=Lib.hid (HGO.out hfe)
     have HUN:=Lib.hid (unline_any f.data _ w2 HBR2.out (by omega))
     obtain⟨ul,hul⟩: ∃ ul,ul=unlineV f.data:=⟨_,rfl⟩
     rw [←hul] at HUN HLN
     obtain⟨l,fine⟩:=ul
     dsimp only at HUN HLN
     clear hul hfe HEND HGO HSk HCk HBk
     go_wp2_with fail
     refine HUN.out.mono ?_
     rintro e w5 ⟨rfl,hb5⟩
     have hba:=below_alloc w5 (.cells (lnCs l) 223)
     have HB5:=Lib.hid (Below.next hb5 hba)
     have HLB:=Lib.hid (show LnBlk (w5.alloc (.cells (lnCs l) 223)) w5.heap.size l from heap_alloc_new w5 _)
     simp only [lnCs] at HB5 HLB
     have HT5:=Lib.hid (show Turned (fun j=>j=rb∨j=mb∨j=g) wc (w5.alloc (.cells #[.int .i64 l.item,.int .i64 l.price,.int .i64 l.qty,.int .i64 l.shipped] 223)) from HT2.out.trans (Turned.below HB5.out) fun i hi=> .inl hi)
     have HG5:=Lib.hid (HG2.out.below HB5.out)
     have HO5:=Lib.hid (own_later HO2.out HB5.out)
     have HR5:=Lib.hid (HR2.out.below HB5.out)
     have h5s:=HB5.out.size
     have HOB:=Lib.hid (fun k (hk:lv.ownBlock=some k)=>own_blk HO2.out hk)
     have hk1:IntKind.i64.wrap ((k:Int)+1)=(k:Int)+1:=by rw [IntKind.wrap_i64];omega
     have HLK2:=Lib.hid (show linesQ 16 12 (fstQ (rdS xs 11)) true []=linesQ (16 - (k+1)) (12+((k+1:Nat):Int)) (fstQ (zs,bd2)) (ok&&fine) (ls++[l]) by
      rw [HLK.out,HLN.out,show (12+((k+1:Nat):Int))=12+(k:Int)+1 by omega])
     have hrg:(w5.alloc (.cells #[.int .i64 l.item,.int .i64 l.price,.int .i64 l.qty,.int .i64 l.shipped] 223)).rangeAt w5.heap.size 0 (lnCs l).toList:=fun j u hj=>by
      rw [Nat.zero_add,World.cell?_alloc_new]
      simpa [lnCs] using hj
     have HRG:=Lib.hid hrg
     have hcl:wc.heap.size≤(w5.alloc (.cells #[.int .i64 l.item,.int .i64 l.price,.int .i64 l.qty,.int .i64 l.shipped] 223)).heap.size:=by omega
     have hll:ls.length+1≤1000000000:=by omega
     have g5:=HG5.out.c5
     clear hba hb5 hrg HUN HLN HLK HT2 HG2 HO2 HR2 HBR2
     cases ok
     ·go_upto_region 14 with fail
      generalize w5.alloc (.cells #[.int .i64 l.item,.int .i64 l.price,.int .i64 l.qty,.int .i64 l.shipped] 223)=W5 at*
      generalize w5.heap.size=bl at*
      go_wp2_with (first
       | (with_reducible refine wpList_load_ln rfl (.tmp 11) rfl bl 0 l rfl HRG.out ?_)
       | (refine wpList_appLn (l:=l) rfl (.tmp 68) (.tmp 70) rfl rfl rfl HO5.out hcl hll ?_))
      intro v6 w6 ho6 hb6 ht6
      have HT6:=Lib.hid (show Turned (fun j=>j=rb∨j=mb∨j=g) wc w6 from HT5.out.trans ht6 fun i hi=> .inr (HOB.out i hi))
      have HG6:=Lib.hid (show StBlk w6 g (stX nf ls wh) lv from(ht6.block g (by omega) (fun e=>by have:=HOB.out g e;omega)).trans HG5.out)
      have HR6:=Lib.hid (HR5.out.turnedG ht6 (by omega) (by omega) (fun x hx=>HRW.out x (HZS.out x hx)) (fun k hk=>by have:=HOB.out k hk;omega))
      have HO6:=Lib.hid ho6
      clear ho6 hb6 ht6 HT5 HG5 HR5 HO5
      obtain⟨o6,c6,e6,_,_⟩:=own_shape HO6.out
      generalize (ls++[l]).length=n6 at e6
      subst e6
      have g6:=HG6.out.c5
      have fr:=HG6.out.free 5
      have hts:=Turned.setCell (S:=fun j=>j=g) w6 ⟨g,5,none⟩ (.slice o6 n6 c6) rfl
      have HT7:=Lib.hid (show Turned (fun j=>j=rb∨j=mb∨j=g) wc (w6.setCell ⟨g,5,none⟩ (.slice o6 n6 c6)) from HT6.out.trans hts fun i hi=> .inl (.inr (.inr hi)))
      have HG7:=Lib.hid (show StBlk (w6.setCell ⟨g,5,none⟩ (.slice o6 n6 c6)) g (stX nf (ls++[l]) wh) (.slice o6 n6 c6) from HG6.out.putLines (.slice o6 n6 c6))
      have HR7:=Lib.hid (HR6.out.turnedG hts (by omega) (by omega) (fun x hx=>HRW.out x (HZS.out x hx)) (fun k hk=>by omega))
      have HO7:=Lib.hid (show OwnLn (w6.setCell ⟨g,5,none⟩ (.slice o6 n6 c6)) wc.heap.size (.slice o6 n6 c6) (ls++[l]) from own_set HO6.out hgw)
      clear hts HT6 HG6 HR6 HO6
      go_wp2
      go_roundw
      case rel=>exact⟨k+1,_,ls++[l],zs,bd2,.slice o6 n6 c6,by omega,by go_num,rfl,by simp [hlk],HR7,HZS,HG7,HO7,HLK2,HT7⟩
      case measure=>simp [intOf];omega
     ·go_upto_region 14 with fail
      generalize w5.alloc (.cells #[.int .i64 l.item,.int .i64 l.price,.int .i64 l.qty,.int .i64 l.shipped] 223)=W5 at*
      generalize w5.heap.size=bl at*
      go_wp2_with (first
       | (with_reducible refine wpList_load_ln rfl (.tmp 11) rfl bl 0 l rfl HRG.out ?_)
       | (refine wpList_appLn (l:=l) rfl (.tmp 68) (.tmp 70) rfl rfl rfl HO5.out hcl hll ?_))
      intro v6 w6 ho6 hb6 ht6
      have HT6:=Lib.hid (show Turned (fun j=>j=rb∨j=mb∨j=g) wc w6 from HT5.out.trans ht6 fun i hi=> .inr (HOB.out i hi))
      have HG6:=Lib.hid (show StBlk w6 g (stX nf ls wh) lv from(ht6.block g (by omega) (fun e=>by have:=HOB.out g e;omega)).trans HG5.out)
      have HR6:=Lib.hid (HR5.out.turnedG ht6 (by omega) (by omega) (fun x hx=>HRW.out x (HZS.out x hx)) (fun k hk=>by have:=HOB.out k hk;omega))
      have HO6:=Lib.hid ho6
      clear ho6 hb6 ht6 HT5 HG5 HR5 HO5
      obtain⟨o6,c6,e6,_,_⟩:=own_shape HO6.out
      generalize (ls++[l]).length=n6 at e6
      subst e6
      have g6:=HG6.out.c5
      have fr:=HG6.out.free 5
      have hts:=Turned.setCell (S:=fun j=>j=g) w6 ⟨g,5,none⟩ (.slice o6 n6 c6) rfl
      have HT7:=Lib.hid (show Turned (fun j=>j=rb∨j=mb∨j=g) wc (w6.setCell ⟨g,5,none⟩ (.slice o6 n6 c6)) from HT6.out.trans hts fun i hi=> .inl (.inr (.inr hi)))
      have HG7:=Lib.hid (show StBlk (w6.setCell ⟨g,5,none⟩ (.slice o6 n6 c6)) g (stX nf (ls++[l]) wh) (.slice o6 n6 c6) from HG6.out.putLines (.slice o6 n6 c6))
      have HR7:=Lib.hid (HR6.out.turnedG hts (by omega) (by omega) (fun x hx=>HRW.out x (HZS.out x hx)) (fun k hk=>by omega))
      have HO7:=Lib.hid (show OwnLn (w6.setCell ⟨g,5,none⟩ (.slice o6 n6 c6)) wc.heap.size (.slice o6 n6 c6) (ls++[l]) from own_set HO6.out hgw)
      clear hts HT6 HG6 HR6 HO6
      go_wp2
      go_roundw
      case rel=>exact⟨k+1,_,ls++[l],zs,bd2,.slice o6 n6 c6,by omega,by go_num,rfl,by simp [hlk],HR7,HZS,HG7,HO7,HLK2,HT7⟩
      case measure=>simp [intOf];omega
   ·obtain rfl:k=16:=by omega
    have HLk:=Lib.hid (show linesQ 16 12 (fstQ (rdS xs 11)) true []=(ls,ok,fstQ (ys,bd)) by rw [HLK.out,linesQ_out])
    clear HLK
    have HDE:=Lib.hid (HDS2.out ls ok (fstQ (ys,bd)) HLk.out)
    have HER:=Lib.hid (rdErr_any wr rb mb bd ys HRk.out)
    rw [errR_Q] at HER
    rw [show errQ (ys.map (·.1),bd)=errQ (fstQ (ys,bd)) from rfl] at HER
    have c4:=HCk.out
    generalize errQ (fstQ (ys,bd))=er at*
    have HWL:=Lib.hid HW2.out
    go_wp2_with fail
    refine HER.out.mono ?_
    rintro e w9 ⟨rfl,rfl⟩
    clear HER HRk HLk
    rcases her:(er != 0) with _ | _
    case true=>
     have HD:=Lib.hid (show decSt b=(stNone,er) by rw [HDE.out,if_pos (by simpa using her)])
     go_wp2_with (with_reducible refine wpList_store_stW rfl (.tmp 2) (.tmp 78) rfl w.heap.size ⟨0,0,0,0,0,[],0,0,0,0,0,[]⟩ ⟨0,0,0,0,0,[],0,0,0,0,0,[]⟩ (.slice none 0 0) (.slice none 0 0) rfl rfl HSk.out rfl ?_)
     intro w8 hw8
     have HS8:=Lib.hid (show StBlk w8 w.heap.size stNone (.slice none 0 0) by rw [hw8.out];exact HSk.out.row)
     have HB8:=Lib.hid (show Below w.heap.size w w8 by rw [hw8.out];exact below_row HBk.out (Nat.le_refl _) _)
     clear hw8
     go_wp2
     refine bodyPost_ret (v:= .tuple #[stV stNone (.slice none 0 0),.int .i64 er]) (results_st2 rfl _ _ w.heap.size stNone _ _ rfl rfl HS8.out) rfl ?_
     rw [HD.out]
     exact⟨_,rfl,⟨rfl,.inl ⟨rfl,rfl⟩⟩,HB8.out⟩
    case false=>
     have HDF:=Lib.hid (show decSt b=if ok&&validB (stX nf ls wh) then ((stX nf ls wh),0) else (stNone,40) by rw [HDE.out,if_neg (by simpa using her)])
     clear HDE
     cases ok
     case false=>
      have HD:=Lib.hid (show decSt b=(stNone,40) by rw [HDF.out];rfl)
      go_wp2_with (with_reducible refine wpList_store_stW rfl (.tmp 2) (.tmp 87) rfl w.heap.size ⟨0,0,0,0,0,[],0,0,0,0,0,[]⟩ ⟨0,0,0,0,0,[],0,0,0,0,0,[]⟩ (.slice none 0 0) (.slice none 0 0) rfl rfl HSk.out rfl ?_)
      intro w8 hw8
      have HS8:=Lib.hid (show StBlk w8 w.heap.size stNone (.slice none 0 0) by rw [hw8.out];exact HSk.out.row)
      have HB8:=Lib.hid (show Below w.heap.size w w8 by rw [hw8.out];exact below_row HBk.out (Nat.le_refl _) _)
      clear hw8
      go_wp2
      refine bodyPost_ret (v:= .tuple #[stV stNone (.slice none 0 0),.int .i64 40]) (results_st2 rfl _ _ w.heap.size stNone _ _ rfl rfl HS8.out) rfl ?_
      rw [HD.out]
      exact⟨_,rfl,⟨rfl,.inl ⟨rfl,rfl⟩⟩,HB8.out⟩
     case true=>
      have hwl:wh.length≤281474976710656:=Nat.le_trans HWH.out (by decide)
      have hrl:LnRow wr lv ls:=lnRow_own HOk.out
      have HVA:=Lib.hid (oValid_any (stX nf ls wh) lv wr hrl hwl)
      clear hwl hrl
      rw [Bool.true_and] at HDF
      obtain⟨s,hs⟩: ∃ s,s=(stX nf ls wh):=⟨_,rfl⟩
      have HLS:=Lib.hid (show s.lines=ls by rw [hs])
      rw [←hs] at HVA HDF HGk
      clear hs
      generalize validB s=vb at*
      have d0:=HGk.out.c0
      have d1:=HGk.out.c1
      have d2:=HGk.out.c2
      have d3:=HGk.out.c3
      have d4:=HGk.out.c4
      have d5:=HGk.out.c5
      have d6:=HGk.out.c6
      have d7:=HGk.out.c7
      have d8:=HGk.out.c8
      have d9:=HGk.out.c9
      have d10:=HGk.out.c10
      have d11:=HGk.out.c11
      go_wp2_with fail
      refine HVA.out.mono ?_
      rintro e w7 ⟨rfl,hb7⟩
      have HB7:=Lib.hid hb7
      clear hb7 d0 d1 d2 d3 d4 d5 d6 d7 d8 d9 d10 d11
      cases vb
      ·have HD:=Lib.hid (show decSt b=(stNone,40) by rw [HDF.out];rfl)
       have HS7:=Lib.hid (HSk.out.below HB7.out)
       go_wp2_with (with_reducible refine wpList_store_stW rfl (.tmp 2) (.tmp 87) rfl w.heap.size ⟨0,0,0,0,0,[],0,0,0,0,0,[]⟩ ⟨0,0,0,0,0,[],0,0,0,0,0,[]⟩ (.slice none 0 0) (.slice none 0 0) rfl rfl HS7.out rfl ?_)
       intro w8 hw8
       have HS8:=Lib.hid (show StBlk w8 w.heap.size stNone (.slice none 0 0) by rw [hw8.out];exact HS7.out.row)
       have HB8:=Lib.hid (show Below w.heap.size w w8 by rw [hw8.out];exact below_row (Below.next HBk.out HB7.out) (Nat.le_refl _) _)
       clear hw8
       go_wp2
       refine bodyPost_ret (v:= .tuple #[stV stNone (.slice none 0 0),.int .i64 40]) (results_st2 rfl _ _ w.heap.size stNone _ _ rfl rfl HS8.out) rfl ?_
       rw [HD.out]
       exact⟨_,rfl,⟨rfl,.inl ⟨rfl,rfl⟩⟩,HB8.out⟩
      ·have HD:=Lib.hid (show decSt b=(s,0) by rw [HDF.out,if_pos rfl])
       have HS7:=Lib.hid (HSk.out.below HB7.out)
       have HG7:=Lib.hid (HGk.out.below HB7.out)
       have HO7:=Lib.hid (own_later HOk.out HB7.out)
       have h1v:lv.oneCell'=true:=by obtain⟨_,_,e,_⟩:=own_shape HOk.out;rw [e];rfl
       go_wp2_with (first | (with_reducible refine wpList_load_st rfl (.tmp 7) rfl g s lv rfl HG7.out ?_) | (with_reducible refine wpList_store_stW rfl (.tmp 2) (.tmp 88) rfl w.heap.size ⟨0,0,0,0,0,[],0,0,0,0,0,[]⟩ s (.slice none 0 0) lv rfl rfl HS7.out h1v ?_))
       intro w8 hw8
       have HS8:=Lib.hid (show StBlk w8 w.heap.size s lv by rw [hw8.out];exact HS7.out.row)
       have HB8:=Lib.hid (show Below w.heap.size w w8 by rw [hw8.out];exact below_row (Below.next HBk.out HB7.out) (Nat.le_refl _) _)
       have HO8:=Lib.hid (show OwnLn w8 w.heap.size lv ls by rw [hw8.out];exact own_mono (own_setRow HO7.out HWL.out _) (Nat.le_of_lt HWL.out))
       clear hw8
       go_wp2
       refine bodyPost_ret (v:= .tuple #[stV s lv,.int .i64 0]) (results_st2 rfl _ _ w.heap.size s _ _ rfl rfl HS8.out) rfl ?_
       rw [HD.out]
       exact⟨_,rfl,by rw [HLS.out];exact HO8.out,HB8.out⟩
end Go.Proofs.YtlobohpbgghleaaGreatDoor

namespace Go.Proofs.YtlobohpbgghleaaGreatDoor
open Go.RowKit
set_option maxRecDepth 100000 in
set_option maxHeartbeats 4000000 in
theorem bookNum_any (f:Frm) (bv:Value) (w:World) (hv:BRow w bv f.body) (hl:f.body.length≤1048576):
  Calls Tryz.prog 114 #[frV (f.k:Int) (f.s:Int) bv] w fun e w'=>e= .returned (.tuple #[.int .u64 ((numF f).1:Int),.bool (numF f).2])∧Below w.heap.size w w':=by
 obtain⟨k,s,body⟩:=f
 dsimp only at hv hl ⊢
 have HB0:=Lib.hid (below_alloc w (.cells (frCs (k:Int) (s:Int) bv) 148))
 have HF0:=Lib.hid (show FrBlk (w.alloc (.cells (frCs (k:Int) (s:Int) bv) 148)) w.heap.size (k:Int) (s:Int) bv from heap_alloc_new w _)
 have HD:=Lib.hid (varDecode_any body bv _ (hv.below HB0.out) (by omega))
 have HN:=Lib.hid (show numF ⟨k,s,body⟩=((decV body).1,decide ((decV body).2.2=0)&&decide ((decV body).2.1=body.length)) from rfl)
 obtain⟨oa,cap,rfl,_,_⟩:=hv
 simp only [frCs] at HB0 HF0 HD
 obtain⟨r,hr⟩: ∃ r,r=decV body:=⟨_,rfl⟩
 rw [←hr] at HD HN
 clear hr
 obtain⟨u,n,e0⟩:=r
 unfold VarPost at HD
 dsimp only at HD HN
 have c2:=HF0.out.c2
 go_enter Tryz.func114,Tryz.ntmps114
 go_wp2_with fail
 refine HD.out.mono ?_
 rintro e w1 ⟨rfl,hb1⟩
 have HB1:=Lib.hid (Below.next HB0.out hb1)
 have HF1:=Lib.hid (HF0.out.below hb1)
 clear hb1 HD HF0 c2 HB0
 rcases he:(e0==0) with _ | _
 ·have hd:decide (e0=0)=false:=by simpa using he
  go_wp2_with fail
  refine wp_region_held_drew (S:=fun w'=>Below w1.heap.size w1 w') (by kernel_rfl) (below_drewN' w1 1) (fun hHeld=> ?_)
  generalize World.drew _=W at*
  refine tq 0 rfl ?_
  refine tq 1 rfl ?_
  refine tq 2 rfl ?_
  refine tq 3 rfl ?_
  refine tkn 4 rfl ?_
  simp only [pA,pB,pC,pD]
  refine tkn 5 rfl ?_
  simp only [pA,pB,pC,pD]
  refine tkn 6 rfl ?_
  simp only [pA,pB,pC,pD]
  refine tkn 7 rfl ?_
  simp only [pA,pB,pC,pD]
  refine tkn 8 rfl ?_
  simp only [pA,pB,pC,pD]
  refine tq 9 rfl ?_
  refine tq 10 rfl ?_
  refine tq 11 rfl ?_
  refine wpAnyH_done (by kernel_rfl) ?_ _
  go_wp2
  go_ret2
  exact⟨by rw [HN.out,hd];rfl,Below.next HB1.out hHeld⟩
 ·have hd:decide (e0=0)=true:=by simpa using he
  have hn:((n:Int)==(body.length:Int))=decide (n=body.length):=by rw [Bool.eq_iff_iff];simp;omega
  go_wp2_with fail
  refine wp_region_held_drew (S:=fun w'=>Below w1.heap.size w1 w') (by kernel_rfl) (below_drewN' w1 1) (fun hHeld=> ?_)
  generalize World.drew _=W at*
  have FX1:=Lib.hid (fun(wF:World) (hSw:(fun w'=>Below w1.heap.size w1 w') wF)=>((HF1.out.below hSw).c2))
  refine tf FX1 0 rfl ?_
  refine tf FX1 1 rfl ?_
  refine tf FX1 2 rfl ?_
  refine tf FX1 3 rfl ?_
  refine tf FX1 4 rfl ?_
  refine tf FX1 5 rfl ?_
  refine tf FX1 6 rfl ?_
  refine tf FX1 7 rfl ?_
  refine tf FX1 8 rfl ?_
  refine tf FX1 9 rfl ?_
  refine tf FX1 10 rfl ?_
  refine tf FX1 11 rfl ?_
  clear FX1
  refine wpAnyH_done (by kernel_rfl) ?_ _
  go_wp2
  go_ret2
  exact⟨by rw [HN.out,hd,Bool.true_and,←hn];rfl,Below.next HB1.out hHeld⟩
theorem bookOk_out {last:Int} {s:St} {r:List St} (h: ¬ (last<s.order∧1≤s.events)):bookOk last (s::r)=false:=by
 rw [bookOk]
 by_cases h1:last<s.order
 ·have: ¬ 1≤s.events:=fun h2=>h ⟨h1,h2⟩
  simp [this]
 ·simp [h1]
theorem bookOk_in {last:Int} {s:St} {r:List St} (h1:last<s.order) (h2:1≤s.events):bookOk last (s::r)=(validB s&&bookOk s.order r):=by
 rw [bookOk,decide_eq_true h1,decide_eq_true h2,Bool.true_and,Bool.true_and]
set_option maxRecDepth 100000 in
set_option maxHeartbeats 4000000 in
theorem bookValid_any {A:Nat→Prop} (ss:List St) (v:Value) (w:World) (hr:StsIn A w v ss) (hw: ∀ s∈ss,s.who.length≤281474976710656):
  Calls Tryz.prog 116 #[v] w fun e w'=>e= .returned (.bool (bookOk 0 ss))∧Below w.heap.size w w':=by
 have HSH:=Lib.hid hr.shape
 have HW:=Lib.hid hw
 obtain⟨oa,cap,rfl,h1,h2,_⟩:=hr.shape
 clear hr hw
 go_enter Tryz.func116,Tryz.ntmps116
 go_wp2
 go_loopw [3,8] (fun lv iv wr=> ∃ (k:Nat) (last:Int),k≤ss.length∧iv= .int .i64 (k:Int)∧lv= .int .i64 last∧Hid (bookOk 0 ss=bookOk last (ss.drop k))∧Hid (Below w.heap.size w wr)) (fun _ iv _=>ss.length - (intOf iv).toNat)
 case atStart=>exact⟨0,0,Nat.zero_le _,rfl,rfl,Lib.hid rfl,Lib.hid (Below.refl _ _)⟩
 case round=>
  obtain⟨k,last,hk,rfl,rfl,HO,HB⟩:=hrel
  by_cases hlt:k<ss.length
  ·obtain⟨s,hs,_,hm⟩:=nth ss k hlt
   have hdr:ss.drop k=s::ss.drop (k+1):=by rw [List.drop_eq_getElem_cons hlt];rw [List.getElem?_eq_getElem hlt] at hs;rw [Option.some.inj hs]
   rw [hdr] at HO
   obtain⟨oa',cap',e',_,_,hat⟩:=HSH.out
   simp only [Value.slice.injEq,true_and] at e'
   obtain⟨rfl,rfl⟩:=e'
   obtain⟨b,off,rfl,_,lv,hce,hln⟩:=hat k s hs
   have q1:(k:Int)<(ss.length:Int):=by omega
   have HCE:=Lib.hid (range_later hce HB.out)
   have HLN:=Lib.hid (hln.below HB.out)
   have HWS:=Lib.hid (HW.out s hm)
   have h1v:=hln.one
   have HBZ:=Lib.hid (below_alloc wr (.cells (stCs stNone (.slice none 0 0)) 164))
   have HSZ:=Lib.hid (stBlk_alloc wr stNone (.slice none 0 0))
   have hk1:IntKind.i64.wrap ((k:Int)+1)=(k:Int)+1:=by rw [IntKind.wrap_i64];omega
   clear hs hm hdr hat hce hln
   simp only [stCs,stNone] at HBZ HSZ
   go_wp2_with (first | (with_reducible refine wpList_load_stAt rfl (.tmp 10) rfl b (off+k*12) s lv rfl HCE.out ?_) | (with_reducible refine wpList_store_stW rfl (.tmp 5) (.tmp 11) rfl wr.heap.size ⟨0,0,0,0,0,[],0,0,0,0,0,[]⟩ s (.slice none 0 0) lv rfl rfl HSZ.out h1v ?_))
   intro w2 hw2
   have HS2:=Lib.hid (show StBlk w2 wr.heap.size s lv by rw [hw2.out];exact HSZ.out.row)
   have HB2:=Lib.hid (show Below wr.heap.size wr w2 by rw [hw2.out];exact below_row HBZ.out (Nat.le_refl _) _)
   have HBW:=Lib.hid (Below.next HB.out HB2.out)
   have HL2:=Lib.hid (HLN.out.below HB2.out)
   clear hw2 HBZ HSZ HCE HLN HB HB2
   have c0:=HS2.out.c0
   have c8:=HS2.out.c8
   rcases hd:decide (s.order≤last) with _ | _
   ·rcases he:decide (s.events<1) with _ | _
    ·have e1:last<s.order:=by simpa using hd
     have e2:1≤s.events:=by simpa using he
     have HO2:=Lib.hid (show bookOk 0 ss=(validB s&&bookOk s.order (ss.drop (k+1))) by rw [HO.out,bookOk_in e1 e2])
     have HV:=Lib.hid (oValid_any s lv w2 HL2.out.row HWS.out)
     obtain⟨vb,hvb⟩: ∃ vb,vb=validB s:=⟨_,rfl⟩
     rw [←hvb] at HO2 HV
     have c1:=HS2.out.c1
     have c2:=HS2.out.c2
     have c3:=HS2.out.c3
     have c4:=HS2.out.c4
     have c5:=HS2.out.c5
     have c6:=HS2.out.c6
     have c7:=HS2.out.c7
     have c9:=HS2.out.c9
     have c10:=HS2.out.c10
     have c11:=HS2.out.c11
     clear e1 e2 hvb HO
     go_wp2_with fail
     refine HV.out.mono ?_
     rintro e w3 ⟨rfl,hb3⟩
     have HB3:=Lib.hid (Below.next HBW.out hb3)
     have HS3:=Lib.hid (HS2.out.below hb3)
     clear hb3 c0 c8 c1 c2 c3 c4 c5 c6 c7 c9 c10 c11
     have d0:=HS3.out.c0
     cases vb
     ·go_wp2
      go_ret
      exact⟨by rw [HO2.out];rfl,HB3.out⟩
     ·go_wp2
      go_roundw
      case rel=>exact⟨k+1,s.order,by omega,by go_num,rfl,Lib.hid (by rw [HO2.out,Bool.true_and]),HB3⟩
      case measure=>simp [intOf];omega
    ·have HE:=Lib.hid (show bookOk 0 ss=false by rw [HO.out,bookOk_out];rintro⟨_,h⟩;have:=of_decide_eq_true he;omega)
     go_wp2
     go_ret
     exact⟨by rw [HE.out];rfl,HBW.out⟩
   ·have HE:=Lib.hid (show bookOk 0 ss=false by rw [HO.out,bookOk_out];rintro⟨h,_⟩;have:=of_decide_eq_true hd;omega)
    go_wp2
    go_ret
    exact⟨by rw [HE.out];rfl,HBW.out⟩
  ·obtain rfl:k=ss.length:=by omega
   have HE:=Lib.hid (show bookOk 0 ss=true by rw [HO.out,List.drop_length];rfl)
   go_wp2
   go_ret
   exact⟨by rw [HE.out];rfl,HB.out⟩
end Go.Proofs.YtlobohpbgghleaaGreatDoor

namespace Go.Proofs.YtlobohpbgghleaaGreatDoor
open Go.RowKit
def BookP (w:World) (r:Option (Nat×Nat×List St)) (e:Ending) (w':World):Prop:=Below w.heap.size w w'∧
 match r with
 | none=>e= .returned (.tuple #[.int .i64 0,.int .i64 0,.slice none 0 0,.int .i64 81])
 | some r=> ∃ v,e= .returned (.tuple #[.int .i64 (r.1:Int),.int .i64 (r.2.1:Int),v,.int .i64 0])∧StsIn (fun k=>w.heap.size≤k) w' v r.2.2
theorem run_cut_pc (oa:Option Addr) (len cap lo hi:Nat) (h1:lo≤hi) (h2:hi≤cap) (w:World):(Instr.slice 118 (.slice oa len cap) (some (.int .i64 lo)) (some (.int .i64 hi)) none).run Tryz.prog w= .ok (sliced oa lo hi cap 5) w:=by
 rw [run_slice_lh (P:=Tryz.prog) w 118 oa len cap (by kernel_rfl) .i64 .i64 lo hi (by omega) (by omega) (by omega)]
 have:(sizeOf (Tryz.prog.elem 118)).run Tryz.prog w= .ok 5 w:=by kernel_rfl
 rw [this];rfl
theorem frm_range {w:World} {b o:Nat} {p:Plc} {dv:Value} (h:w.rangeAt b o (pcCs p dv).toList):w.rangeAt b (o+2) (frCs (p.f.k:Int) (p.f.s:Int) dv).toList:=fun j u hj=>by
 have:=h (j+2) u (by
  have hl:j<3:=by have:=getElem?_lt hj;simpa [frCs] using this
  obtain rfl | rfl | rfl:j=0∨j=1∨j=2:=by omega
  all_goals simpa [frCs,pcCs] using hj)
 rw [←this]
 congr 2
 omega
theorem wpList_load_pc {ops:Array Oper} {rest:List Oper} {o:Oper} {a:Act} {w:World} {Q:Exit→Act→World→Prop} (hgd:o.guard=none) (x:Operand) (ho:o.op= .load 160 x)
  (b off:Nat) (p:Plc) (dv:Value) (hx:a.eval x= .pointer (some ⟨b,off,none⟩)) (hE:w.rangeAt b off (pcCs p dv).toList)
  (h:wpList Tryz.prog ops Q rest (a.put o.dst (pcV p dv)) w):wpList Tryz.prog ops Q (o::rest) a w:=
 wpList_load_mid hgd 160 x ho b off hx (pcCs p dv).toList _ hE Tryz.underlying160 rfl pcInfo h
theorem cut_pc (b off n cap:Nat) (h2:2≤n) (hc:n≤cap) (w:World):(Instr.sliceAt 118 (.slice (some ⟨b,off,none⟩) n cap) (some (.int .i64 1)) (some (.int .i64 ((n - 1:Nat):Int))) none).run Tryz.prog w= .ok (.slice (some ⟨b,off+5,none⟩) (n - 2) (cap - 1)) w:=by
 rw [run_sliceAt_slice _ _ _ _ _ _ (by kernel_rfl)]
 have h:=run_cut_pc (some ⟨b,off,none⟩) n cap 1 (n - 1) (by omega) (by omega) w
 refine h.trans ?_
 unfold sliced
 rw [if_neg (by omega),show n - 1 - 1=n - 2 by omega]
 simp [Addr.add]
theorem takeQ_sub {q:List Fld×Int} {k:Int} {t:Bool}: ∀ f∈(takeQ q k t).2.1,f∈q.1:=by
 intro f hf
 unfold takeQ at hf
 split at hf
 ·exact hf
 ·split at hf
  ·exact(List.mem_filter.1 hf).1
  ·exact(List.mem_filter.1 hf).1
theorem takeQ_mem (q:List Fld×Int) (k:Int) (t:Bool):(takeQ q k t).1=fld0∨(takeQ q k t).1∈q.1:=by
 unfold takeQ
 rcases h:q.1.find? (tagQ k) with _ | f
 ·exact .inl rfl
 ·dsimp only
  split
  ·exact .inr (List.mem_of_find?_eq_some h)
  ·exact .inl rfl
theorem numsQ_sub: ∀ (n:Nat) (k:Int) (q:List Fld×Int) (vs:List Int),∀ f∈(numsQ n k q vs).2.1,f∈q.1
 | 0,_,_,_=>fun _ h=>h
 | n+1,k,q,vs=>fun f hf=>by
  rw [numsQ] at hf
  exact takeQ_sub f (numsQ_sub n _ _ _ f hf)
theorem decSt_who (b:List UInt8):(decSt b).1.who.length≤200:=by
 have hd:= @tlvDec_data b
 have hs:=numsQ_sub 10 1 ((tlvDec b).2,0) []
 unfold decSt
 generalize tlvDec b=td at*
 dsimp only
 generalize numsQ 10 1 (td.2,0) []=ns at*
 have hm:=takeQ_mem ns.2 11 true
 generalize takeQ ns.2 11 true=tx at*
 generalize linesQ 16 12 tx.2 true []=ls at*
 have hw:tx.1.data.length≤200:=by
  rcases hm with e | e
  ·rw [e];exact Nat.zero_le _
  ·exact hd _ (hs _ e)
 split
 ·exact Nat.zero_le _
 ·split
  ·exact Nat.zero_le _
  ·split
   ·exact hw
   ·exact Nat.zero_le _
theorem own_lt {w:World} {B size n k:Nat} {e:TypeId} {v:Value} {xs:List Value} (h:w.ownsRow B e size v n xs) (hk:v.ownBlock=some k):k<w.heap.size:=by
 rcases h.2 with⟨rfl,_⟩ | ⟨g,cap,cur,rfl,_,hg,_⟩
 ·cases hk
 ·cases hk;exact(Array.getElem?_eq_some_iff.1 hg).1
set_option maxRecDepth 100000 in
set_option maxHeartbeats 8000000 in
theorem bookDec_any (b:List UInt8) (v:Value) (w:World) (hv:BRow w v b) (hl:b.length≤67108864) (hn:NibTab w):
  Calls Tryz.prog 80 #[v] w (BookP w (decBook b)):=by
 have HA:=Lib.hid (scanAll_any b v w hv hl hn)
 have HLE:=Lib.hid (show (scanAll b).1.length≤67108864 from by
  have:=frs_len b
  simp only [scanAll,plcs,List.length_map]
  omega)
 have HBL:=Lib.hid (show ∀ p∈(scanAll b).1,p.f.body.length≤16384 from fun p hp=>by
  simp only [scanAll,plcs] at hp
  obtain⟨x,hx,rfl⟩:=List.mem_map.1 hp
  exact(frs_mem hx).2)
 have HE:=Lib.hid (show decBook b=if (scanAll b).2.2≠0∨(scanAll b).1.length<2 then none
  else if bookBad ((scanAll b).1.getD 0 zPlc).f ((scanAll b).1.getD ((scanAll b).1.length - 1) zPlc).f ((scanAll b).1.length - 2) then none
  else match stsP (((scanAll b).1.take ((scanAll b).1.length - 1)).drop 1) [] with
   | none=>none
   | some ss=>if bookOk 0 ss then some (((scanAll b).1.getD 0 zPlc).f.s,(numF ((scanAll b).1.getD 0 zPlc).f).1,ss) else none from rfl)
 obtain⟨oa0,cap0,rfl,_,_⟩:=hv
 obtain⟨r,hr⟩: ∃ r,r=scanAll b:=⟨_,rfl⟩
 rw [←hr] at HA HE HLE HBL
 clear hr hn hl
 obtain⟨ps,en,e0⟩:=r
 unfold AllP at HA
 dsimp only at HA HE HLE HBL
 go_enter Tryz.func80,Tryz.ntmps80
 go_wp2_with fail
 refine HA.out.mono ?_
 rintro e w1 ⟨v1,rfl,hpc,hb1⟩
 have HSH:=Lib.hid hpc.shape
 obtain⟨oa,cap,hsh,hpl,hpc3,_⟩:=hpc.shape
 subst hsh
 have HB1:=Lib.hid hb1
 have hple:=HLE.out
 clear hb1 HA hpc
 rcases he:(e0 != 0) with _ | _
 case true=>
  have HD:=Lib.hid (show decBook b=none by rw [HE.out,if_pos (.inl (by simpa using he))])
  go_wp2
  refine bodyPost_ret (v:= .tuple #[.int .i64 0,.int .i64 0,.slice none 0 0,.int .i64 81]) (by simp [results,Tryz.results80,go_sem]) rfl ⟨HB1.out,by rw [HD.out]⟩
 rcases hl2:decide ((ps.length:Int)<2) with _ | _
 case true=>
  have HD:=Lib.hid (show decBook b=none by rw [HE.out,if_pos (.inr (by have:=of_decide_eq_true hl2;omega))])
  go_wp2
  refine bodyPost_ret (v:= .tuple #[.int .i64 0,.int .i64 0,.slice none 0 0,.int .i64 81]) (by simp [results,Tryz.results80,go_sem]) rfl ⟨HB1.out,by rw [HD.out]⟩
 have hn2:2≤ps.length:=by have:=of_decide_eq_false hl2;omega
 have HE2:=Lib.hid (show decBook b=if bookBad (ps.getD 0 zPlc).f (ps.getD (ps.length - 1) zPlc).f (ps.length - 2) then none
  else match stsP ((ps.take (ps.length - 1)).drop 1) [] with
   | none=>none
   | some ss=>if bookOk 0 ss then some ((ps.getD 0 zPlc).f.s,(numF (ps.getD 0 zPlc).f).1,ss) else none by rw [HE.out,if_neg (by rintro(h | h);exact h (by simpa using he);omega)])
 have hp0:ps[0]? =some (ps.getD 0 zPlc):=by rw [List.getElem?_eq_getElem (by omega)];simp [show 0<ps.length by omega]
 have hpn:ps[ps.length - 1]? =some (ps.getD (ps.length - 1) zPlc):=by rw [List.getElem?_eq_getElem (by omega)];simp [show ps.length - 1<ps.length by omega]
 obtain⟨p,hp⟩: ∃ p,p=ps.getD 0 zPlc:=⟨_,rfl⟩
 obtain⟨q,hq⟩: ∃ q,q=ps.getD (ps.length - 1) zPlc:=⟨_,rfl⟩
 rw [←hp] at hp0 HE2
 rw [←hq] at hpn HE2
 have HPL:=Lib.hid (HBL.out p (List.mem_of_getElem? hp0))
 have HQL:=Lib.hid (HBL.out q (List.mem_of_getElem? hpn))
 have HHT:=Lib.hid (show ∀ (i:Nat) x,ps[i]? =some x→ ∃ b off,oa=some ⟨b,off,none⟩∧ ∃ dv,w1.rangeAt b (off+i*5) (pcCs x dv).toList∧BRow w1 dv x.f.body from fun i x hx=>by
  obtain⟨o1,c1,e1,_,_,h1⟩:=HSH.out
  simp only [Value.slice.injEq,true_and] at e1
  obtain⟨rfl,rfl⟩:=e1
  obtain⟨b,off,e2,_,dv,h2,h3⟩:=h1 i x hx
  exact⟨b,off,e2,dv,h2,h3.brow⟩)
 obtain⟨bb,off,rfl,pv,hpr,hpb⟩:=HHT.out 0 p hp0
 obtain⟨b2,off2,e2,qv,hqr,hqb⟩:=HHT.out (ps.length - 1) q hpn
 simp only [Option.some.injEq,Addr.mk.injEq,and_true] at e2
 obtain⟨rfl,rfl⟩:=e2
 have hpv:pv.oneCell'=true:=by obtain⟨_,_,e,_⟩:=hpb;rw [e];rfl
 have hqv:qv.oneCell'=true:=by obtain⟨_,_,e,_⟩:=hqb;rw [e];rfl
 have HPB:=Lib.hid hpb
 have HQB:=Lib.hid hqb
 have HPR:=Lib.hid (show w1.rangeAt bb (off+2) (frCs (p.f.k:Int) (p.f.s:Int) pv).toList by have:=frm_range hpr;rwa [show off+0*5+2=off+2 by omega] at this)
 have HQR:=Lib.hid (frm_range hqr)
 have q0:0<ps.length:=by omega
 have qm:ps.length - 1<ps.length:=by omega
 have qn:((ps.length - 1:Nat):Int)<(ps.length:Int):=by omega
 have hwn:IntKind.i64.wrap ((ps.length:Int) - 1)=((ps.length - 1:Nat):Int):=by rw [IntKind.wrap_i64];omega
 clear hp hq hp0 hpn hpr hqr hpb hqb HE HSH
 go_upto_region 4 with fail
 go_cut [9,10] from 34 to 44 (fun x y wx=> ∃ g1 g2,x= .pointer (some ⟨g1,0,none⟩)∧y= .pointer (some ⟨g2,0,none⟩)∧Hid (FrBlk wx g1 (p.f.k:Int) (p.f.s:Int) pv)∧Hid (FrBlk wx g2 (q.f.k:Int) (q.f.s:Int) qv)∧Hid (Below w1.heap.size w1 wx))
 case first=>
  refine wp_region_held_drew (S:=fun w'=>Below w1.heap.size w1 w') (by kernel_rfl) (below_drewN' w1 1) (fun hHeld=> ?_)
  refine tq 0 rfl ?_
  refine tq 1 rfl ?_
  refine tq 2 rfl ?_
  refine tkl 3 bb (off+2) [.int .i64 (p.f.k:Int),.int .i64 (p.f.s:Int),pv] rfl rfl (fun w' h=>range_later HPR.out h) Tryz.underlying148 rfl (by rw [frInfo];rfl) ?_
  simp only [pA,pB,pC,pD]
  refine tq 4 rfl ?_
  refine tq 5 rfl ?_
  refine tq 6 rfl ?_
  refine tq 7 rfl ?_
  refine tq 8 rfl ?_
  refine tq 9 rfl ?_
  refine tkl 10 bb (off+(ps.length - 1)*5+2) [.int .i64 (q.f.k:Int),.int .i64 (q.f.s:Int),qv] rfl rfl (fun w' h=>range_later HQR.out h) Tryz.underlying148 rfl (by rw [frInfo];rfl) ?_
  simp only [pA,pB,pC,pD]
  generalize World.drew _=Wd at*
  refine wpAnyH_ready (rs:=[11,12]) (by kernel_rfl) (by simp) ?_
  refine AllReadyH.cons rfl (fun K hK=> ?_) (AllReadyH.cons rfl (fun K hK=> ?_) AllReadyH.nil)
  ·have hba:=below_alloc Wd (.cells #[.int .i64 0,.int .i64 0,.slice none 0 0] 148)
   have HFa:=Lib.hid (show FrBlk (Wd.alloc (.cells #[.int .i64 0,.int .i64 0,.slice none 0 0] 148)) Wd.heap.size 0 0 (.slice none 0 0) from heap_alloc_new Wd _)
   have hg0:=hHeld.size
   have hga:=HFa.out.lt
   go_simp
   refine hK.out _ _ (Below.next hHeld hba) (fun hHeld=> ?_)
   clear hK K hba
   generalize Wd.heap.size=ga at*
   generalize Wd.alloc (.cells #[.int .i64 0,.int .i64 0,.slice none 0 0] 148)=Wa at*
   have hbb:=below_alloc Wa (.cells #[.int .i64 0,.int .i64 0,.slice none 0 0] 148)
   have HFb:=Lib.hid (show FrBlk (Wa.alloc (.cells #[.int .i64 0,.int .i64 0,.slice none 0 0] 148)) Wa.heap.size 0 0 (.slice none 0 0) from heap_alloc_new Wa _)
   have HFa:=Lib.hid (HFa.out.below hbb)
   refine wpAnyH_ready (rs:=[12]) (by kernel_rfl) (by simp) ?_
   refine AllReadyH.cons rfl (fun K hK=> ?_) AllReadyH.nil
   go_simp
   refine hK.out _ _ (Below.next hHeld hbb) (fun hHeld=> ?_)
   clear hK K hbb
   generalize Wa.heap.size=gb at*
   generalize Wa.alloc (.cells #[.int .i64 0,.int .i64 0,.slice none 0 0] 148)=Wb at*
   refine wpAnyH_ready (rs:=[13]) (by kernel_rfl) (by simp) ?_
   refine AllReadyH.cons rfl (fun K hK=> ?_) AllReadyH.nil
   rw [if_pos (by kernel_rfl)]
   refine wp_store_row 148 (.tmp 9) (.tmp 37) rfl ga (frCs (p.f.k:Int) (p.f.s:Int) pv) rfl rfl 148 (frCs 0 0 (.slice none 0 0)) HFa.out frInfo rfl (frCs_all _ _ _ hpv) ?_
   have HS1:=Lib.hid (show FrBlk (Wb.setRow ga (frCs (p.f.k:Int) (p.f.s:Int) pv)) ga (p.f.k:Int) (p.f.s:Int) pv from HFa.out.row)
   have HS2:=Lib.hid (show FrBlk (Wb.setRow ga (frCs (p.f.k:Int) (p.f.s:Int) pv)) gb 0 0 (.slice none 0 0) from(setRow_other _ _ _ _ (by omega)).trans HFb.out)
   have hbr:Below w1.heap.size w1 (Wb.setRow ga (frCs (p.f.k:Int) (p.f.s:Int) pv)):=below_row hHeld (by omega) _
   generalize Wb.setRow ga (frCs (p.f.k:Int) (p.f.s:Int) pv)=Wc at*
   refine hK.out _ _ hbr (fun hHeld=> ?_)
   clear hK K HFa HFb hbr
   refine wpAnyH_ready (rs:=[14]) (by kernel_rfl) (by simp) ?_
   refine AllReadyH.cons rfl (fun K hK=> ?_) AllReadyH.nil
   rw [if_pos (by kernel_rfl)]
   refine wp_store_row 148 (.tmp 10) (.tmp 44) rfl gb (frCs (q.f.k:Int) (q.f.s:Int) qv) rfl rfl 148 (frCs 0 0 (.slice none 0 0)) HS2.out frInfo rfl (frCs_all _ _ _ hqv) ?_
   have HT2:=Lib.hid (show FrBlk (Wc.setRow gb (frCs (q.f.k:Int) (q.f.s:Int) qv)) gb (q.f.k:Int) (q.f.s:Int) qv from HS2.out.row)
   have HT1:=Lib.hid (show FrBlk (Wc.setRow gb (frCs (q.f.k:Int) (q.f.s:Int) qv)) ga (p.f.k:Int) (p.f.s:Int) pv from(setRow_other _ _ _ _ (by omega)).trans HS1.out)
   have HBR:=Lib.hid (show Below w1.heap.size w1 (Wc.setRow gb (frCs (q.f.k:Int) (q.f.s:Int) qv)) from below_row hHeld (by omega) _)
   generalize Wc.setRow gb (frCs (q.f.k:Int) (q.f.s:Int) qv)=We at*
   refine hK.out _ _ HBR.out (fun hHeld=> ?_)
   clear hK K hHeld
   refine wpAnyH_done (by kernel_rfl) ?_ _
   go_wp2_with fail
   go_meet
   exact⟨ga,gb,rfl,rfl,HT1,HT2,HBR⟩
  ·have hba:=below_alloc Wd (.cells #[.int .i64 0,.int .i64 0,.slice none 0 0] 148)
   have HFa:=Lib.hid (show FrBlk (Wd.alloc (.cells #[.int .i64 0,.int .i64 0,.slice none 0 0] 148)) Wd.heap.size 0 0 (.slice none 0 0) from heap_alloc_new Wd _)
   have hg0:=hHeld.size
   have hga:=HFa.out.lt
   go_simp
   refine hK.out _ _ (Below.next hHeld hba) (fun hHeld=> ?_)
   clear hK K hba
   generalize Wd.heap.size=ga at*
   generalize Wd.alloc (.cells #[.int .i64 0,.int .i64 0,.slice none 0 0] 148)=Wa at*
   have hbb:=below_alloc Wa (.cells #[.int .i64 0,.int .i64 0,.slice none 0 0] 148)
   have HFb:=Lib.hid (show FrBlk (Wa.alloc (.cells #[.int .i64 0,.int .i64 0,.slice none 0 0] 148)) Wa.heap.size 0 0 (.slice none 0 0) from heap_alloc_new Wa _)
   have HFa:=Lib.hid (HFa.out.below hbb)
   refine wpAnyH_ready (rs:=[11]) (by kernel_rfl) (by simp) ?_
   refine AllReadyH.cons rfl (fun K hK=> ?_) AllReadyH.nil
   go_simp
   refine hK.out _ _ (Below.next hHeld hbb) (fun hHeld=> ?_)
   clear hK K hbb
   generalize Wa.heap.size=gb at*
   generalize Wa.alloc (.cells #[.int .i64 0,.int .i64 0,.slice none 0 0] 148)=Wb at*
   refine wpAnyH_ready (rs:=[13]) (by kernel_rfl) (by simp) ?_
   refine AllReadyH.cons rfl (fun K hK=> ?_) AllReadyH.nil
   rw [if_pos (by kernel_rfl)]
   refine wp_store_row 148 (.tmp 9) (.tmp 37) rfl gb (frCs (p.f.k:Int) (p.f.s:Int) pv) rfl rfl 148 (frCs 0 0 (.slice none 0 0)) HFb.out frInfo rfl (frCs_all _ _ _ hpv) ?_
   have HS1:=Lib.hid (show FrBlk (Wb.setRow gb (frCs (p.f.k:Int) (p.f.s:Int) pv)) gb (p.f.k:Int) (p.f.s:Int) pv from HFb.out.row)
   have HS2:=Lib.hid (show FrBlk (Wb.setRow gb (frCs (p.f.k:Int) (p.f.s:Int) pv)) ga 0 0 (.slice none 0 0) from(setRow_other _ _ _ _ (by omega)).trans HFa.out)
   have hbr:Below w1.heap.size w1 (Wb.setRow gb (frCs (p.f.k:Int) (p.f.s:Int) pv)):=below_row hHeld (by omega) _
   generalize Wb.setRow gb (frCs (p.f.k:Int) (p.f.s:Int) pv)=Wc at*
   refine hK.out _ _ hbr (fun hHeld=> ?_)
   clear hK K HFa HFb hbr
   refine wpAnyH_ready (rs:=[14]) (by kernel_rfl) (by simp) ?_
   refine AllReadyH.cons rfl (fun K hK=> ?_) AllReadyH.nil
   rw [if_pos (by kernel_rfl)]
   refine wp_store_row 148 (.tmp 10) (.tmp 44) rfl ga (frCs (q.f.k:Int) (q.f.s:Int) qv) rfl rfl 148 (frCs 0 0 (.slice none 0 0)) HS2.out frInfo rfl (frCs_all _ _ _ hqv) ?_
   have HT2:=Lib.hid (show FrBlk (Wc.setRow ga (frCs (q.f.k:Int) (q.f.s:Int) qv)) ga (q.f.k:Int) (q.f.s:Int) qv from HS2.out.row)
   have HT1:=Lib.hid (show FrBlk (Wc.setRow ga (frCs (q.f.k:Int) (q.f.s:Int) qv)) gb (p.f.k:Int) (p.f.s:Int) pv from(setRow_other _ _ _ _ (by omega)).trans HS1.out)
   have HBR:=Lib.hid (show Below w1.heap.size w1 (Wc.setRow ga (frCs (q.f.k:Int) (q.f.s:Int) qv)) from below_row hHeld (by omega) _)
   generalize Wc.setRow ga (frCs (q.f.k:Int) (q.f.s:Int) qv)=We at*
   refine hK.out _ _ HBR.out (fun hHeld=> ?_)
   clear hK K hHeld
   refine wpAnyH_done (by kernel_rfl) ?_ _
   go_wp2_with fail
   go_meet
   exact⟨gb,ga,rfl,rfl,HT1,HT2,HBR⟩
 case rest=>
  obtain⟨g1,g2,rfl,rfl,HF1,HF2,HB2⟩:=hcut
  have HN1:=Lib.hid (bookNum_any p.f pv wc (HPB.out.below HB2.out) (Nat.le_trans HPL.out (by decide)))
  obtain⟨n1,hn1⟩: ∃ n1,n1=numF p.f:=⟨_,rfl⟩
  have HQN:=Lib.hid (fun W (hW:Below w1.heap.size w1 W)=>bookNum_any q.f qv W (HQB.out.below hW) (Nat.le_trans HQL.out (by decide)))
  obtain⟨n2,hn2'⟩: ∃ n2,n2=numF q.f:=⟨_,rfl⟩
  rw [←hn1] at HN1
  rw [←hn2'] at HQN
  have HBD:=Lib.hid (show bookBad p.f q.f (ps.length - 2)↔(n1.2=false∨n2.2=false∨p.f.k≠6∨q.f.k≠7∨q.f.s≠p.f.s∨p.f.s<1∨999999<p.f.s∨n1.1<1∨1099511627776<n1.1∨n2.1≠ps.length - 2) by unfold bookBad;rw [hn1,hn2'])
  have HE3:=Lib.hid (show ¬ bookBad p.f q.f (ps.length - 2)→decBook b=match stsP ((ps.take (ps.length - 1)).drop 1) [] with
   | none=>none
   | some ss=>if bookOk 0 ss then some (p.f.s,n1.1,ss) else none from fun h=>by rw [HE2.out,if_neg h,hn1])
  clear hn1 hn2'
  obtain⟨u1,o1⟩:=n1
  obtain⟨u2,o2⟩:=n2
  dsimp only at HN1 HQN HBD HE3
  go_wp2_with (with_reducible refine wpList_load_fr rfl (.tmp 9) rfl g1 (p.f.k:Int) (p.f.s:Int) pv rfl HF1.out ?_)
  refine HN1.out.mono ?_
  rintro e w3 ⟨rfl,hb3⟩
  have HB3:=Lib.hid (Below.next HB2.out hb3)
  have HF13:=Lib.hid (HF1.out.below hb3)
  have HF23:=Lib.hid (HF2.out.below hb3)
  clear hb3 HN1 HB2 HF1 HF2
  go_wp2_with (with_reducible refine wpList_load_fr rfl (.tmp 10) rfl g2 (q.f.k:Int) (q.f.s:Int) qv rfl HF23.out ?_)
  refine(HQN.out w3 HB3.out).mono ?_
  rintro e w4 ⟨rfl,hb4⟩
  have HB4:=Lib.hid (Below.next HB3.out hb4)
  have HF1:=Lib.hid (HF13.out.below hb4)
  have HF2:=Lib.hid (HF23.out.below hb4)
  have HBW:=Lib.hid (Below.next HB1.out HB4.out)
  clear hb4 HQN HB3 HF13 HF23
  have a0:=HF1.out.c0
  have a1:=HF1.out.c1
  have b0:=HF2.out.c0
  have b1:=HF2.out.c1
  cases o1
  case false=>
   have HD:=Lib.hid (show decBook b=none by rw [HE2.out,if_pos (HBD.out.2 (.inl rfl))])
   go_wp2
   refine bodyPost_ret (v:= .tuple #[.int .i64 0,.int .i64 0,.slice none 0 0,.int .i64 81]) (by simp [results,Tryz.results80,go_sem]) rfl ⟨HBW.out,by rw [HD.out]⟩
  cases o2
  case false=>
   have HD:=Lib.hid (show decBook b=none by rw [HE2.out,if_pos (HBD.out.2 (.inr (.inl rfl)))])
   go_wp2
   refine bodyPost_ret (v:= .tuple #[.int .i64 0,.int .i64 0,.slice none 0 0,.int .i64 81]) (by simp [results,Tryz.results80,go_sem]) rfl ⟨HBW.out,by rw [HD.out]⟩
  have hwm:IntKind.i64.wrap ((ps.length:Int) - 2)=((ps.length - 2:Nat):Int):=by rw [IntKind.wrap_i64];omega
  have hwu:IntKind.u64.wrap ((ps.length - 2:Nat):Int)=((ps.length - 2:Nat):Int):=by rw [IntKind.wrap_u64];omega
  rcases t1:((p.f.k:Int) != 6) with _ | _
  case true=>
   have HD:=Lib.hid (show decBook b=none by rw [HE2.out,if_pos (HBD.out.2 (.inr (.inr (.inl (by simp at t1;omega)))))])
   go_wp2
   refine bodyPost_ret (v:= .tuple #[.int .i64 0,.int .i64 0,.slice none 0 0,.int .i64 81]) (by simp [results,Tryz.results80,go_sem]) rfl ⟨HBW.out,by rw [HD.out]⟩
  rcases t2:((q.f.k:Int) != 7) with _ | _
  case true=>
   have HD:=Lib.hid (show decBook b=none by rw [HE2.out,if_pos (HBD.out.2 (.inr (.inr (.inr (.inl (by simp at t2;omega))))))])
   go_wp2
   refine bodyPost_ret (v:= .tuple #[.int .i64 0,.int .i64 0,.slice none 0 0,.int .i64 81]) (by simp [results,Tryz.results80,go_sem]) rfl ⟨HBW.out,by rw [HD.out]⟩
  rcases t3:((q.f.s:Int) != (p.f.s:Int)) with _ | _
  case true=>
   have HD:=Lib.hid (show decBook b=none by rw [HE2.out,if_pos (HBD.out.2 (.inr (.inr (.inr (.inr (.inl (by simp at t3;omega)))))))])
   go_wp2
   refine bodyPost_ret (v:= .tuple #[.int .i64 0,.int .i64 0,.slice none 0 0,.int .i64 81]) (by simp [results,Tryz.results80,go_sem]) rfl ⟨HBW.out,by rw [HD.out]⟩
  rcases t4:decide ((p.f.s:Int)<1) with _ | _
  case true=>
   have HD:=Lib.hid (show decBook b=none by rw [HE2.out,if_pos (HBD.out.2 (.inr (.inr (.inr (.inr (.inr (.inl (by simp at t4;omega))))))))])
   go_wp2
   refine bodyPost_ret (v:= .tuple #[.int .i64 0,.int .i64 0,.slice none 0 0,.int .i64 81]) (by simp [results,Tryz.results80,go_sem]) rfl ⟨HBW.out,by rw [HD.out]⟩
  rcases t5:decide (999999<(p.f.s:Int)) with _ | _
  case true=>
   have HD:=Lib.hid (show decBook b=none by rw [HE2.out,if_pos (HBD.out.2 (.inr (.inr (.inr (.inr (.inr (.inr (.inl (by simp at t5;omega)))))))))])
   go_wp2
   refine bodyPost_ret (v:= .tuple #[.int .i64 0,.int .i64 0,.slice none 0 0,.int .i64 81]) (by simp [results,Tryz.results80,go_sem]) rfl ⟨HBW.out,by rw [HD.out]⟩
  rcases t6:decide ((u1:Int)<1) with _ | _
  case true=>
   have HD:=Lib.hid (show decBook b=none by rw [HE2.out,if_pos (HBD.out.2 (.inr (.inr (.inr (.inr (.inr (.inr (.inr (.inl (by simp at t6;omega))))))))))])
   go_wp2
   refine bodyPost_ret (v:= .tuple #[.int .i64 0,.int .i64 0,.slice none 0 0,.int .i64 81]) (by simp [results,Tryz.results80,go_sem]) rfl ⟨HBW.out,by rw [HD.out]⟩
  rcases t7:decide (1099511627776<(u1:Int)) with _ | _
  case true=>
   have HD:=Lib.hid (show decBook b=none by rw [HE2.out,if_pos (HBD.out.2 (.inr (.inr (.inr (.inr (.inr (.inr (.inr (.inr (.inl (by simp at t7;omega)))))))))))])
   go_wp2
   refine bodyPost_ret (v:= .tuple #[.int .i64 0,.int .i64 0,.slice none 0 0,.int .i64 81]) (by simp [results,Tryz.results80,go_sem]) rfl ⟨HBW.out,by rw [HD.out]⟩
  rcases t8:((u2:Int) != ((ps.length - 2:Nat):Int)) with _ | _
  case true=>
   have HD:=Lib.hid (show decBook b=none by rw [HE2.out,if_pos (HBD.out.2 (.inr (.inr (.inr (.inr (.inr (.inr (.inr (.inr (.inr (by simp at t8;omega)))))))))))])
   go_wp2
   refine bodyPost_ret (v:= .tuple #[.int .i64 0,.int .i64 0,.slice none 0 0,.int .i64 81]) (by simp [results,Tryz.results80,go_sem]) rfl ⟨HBW.out,by rw [HD.out]⟩
  have HEF:=Lib.hid (show decBook b=match stsP ((ps.take (ps.length - 1)).drop 1) [] with
   | none=>none
   | some ss=>if bookOk 0 ss then some (p.f.s,u1,ss) else none from HE3.out (fun h=>by
    rcases HBD.out.1 h with h | h | h | h | h | h | h | h | h | h
    ·cases h
    ·cases h
    ·simp at t1;omega
    ·simp at t2;omega
    ·simp at t3;omega
    ·simp at t4;omega
    ·simp at t5;omega
    ·simp at t6;omega
    ·simp at t7;omega
    ·simp at t8;omega))
  have hu1:IntKind.i64.wrap (u1:Int)=(u1:Int):=by simp at t7;rw [IntKind.wrap_i64];omega
  have hcut:=cut_pc bb off ps.length cap hn2 hpl
  have hmi: ∀ k,k<ps.length - 2→((ps.take (ps.length - 1)).drop 1)[k]? =ps[k+1]? :=fun k hk=>by
   rw [List.getElem?_drop,List.getElem?_take,if_pos (by omega),Nat.add_comm 1 k]
  have hml:((ps.take (ps.length - 1)).drop 1).length=ps.length - 2:=by rw [List.length_drop,List.length_take];omega
  obtain⟨mid,hmid⟩: ∃ mid,mid=(ps.take (ps.length - 1)).drop 1:=⟨_,rfl⟩
  rw [←hmid] at HEF hmi hml
  have HMI:=Lib.hid (fun(k:Nat) (hk:k<ps.length - 2)=>(show ∃ x,mid[k]? =some x∧ps[k+1]? =some x from⟨ps[k+1],(hmi k hk).trans (List.getElem?_eq_getElem (by omega)),List.getElem?_eq_getElem (by omega)⟩))
  have HML:=Lib.hid hml
  clear hmid hml hmi HE2 HE3 HBD
  go_wp2
  go_loopw [16,109] (fun sv iv wr=> ∃ (k:Nat) (xs:List (St×Value)),k≤ps.length - 2∧iv= .int .i64 (k:Int)∧xs.length=k∧Hid (StsOwn wr w4.heap.size sv xs)∧Hid (∀ x∈xs,x.1.who.length≤200)∧Hid (stsP mid []=stsP (mid.drop k) (xs.map (·.1)))∧Hid (Below w4.heap.size w4 wr)) (fun _ iv _=>ps.length - 2 - (intOf iv).toNat)
  case atStart=>exact⟨0,[],Nat.zero_le _,rfl,rfl,Lib.hid (stsOwn_nil _ _),Lib.hid (fun x hx=>by cases hx),Lib.hid rfl,Lib.hid (Below.refl _ _)⟩
  case round=>
   obtain⟨k,xs,hk,rfl,hxl,HO,HWX,HST,HB⟩:=hrel
   have HOW:=Lib.hid (fun j hj=>own_lt HO.out.1 (k:=j) hj)
   by_cases hlt:k<ps.length - 2
   ·obtain⟨x,hmk,hpk⟩:=HMI.out k hlt
    have q1:(k:Int)<((ps.length - 2:Nat):Int):=by omega
    have hdr:mid.drop k=x::mid.drop (k+1):=by
     have hkl:=getElem?_lt hmk
     rw [List.drop_eq_getElem_cons hkl]
     rw [List.getElem?_eq_getElem hkl] at hmk
     rw [Option.some.inj hmk]
    rw [hdr] at HST
    obtain⟨b2,off2,e2,dv,hxr,hxb⟩:=HHT.out (k+1) x hpk
    simp only [Option.some.injEq,Addr.mk.injEq,and_true] at e2
    obtain⟨rfl,rfl⟩:=e2
    have HXR:=Lib.hid (show wr.rangeAt bb (off+5+k*5) (pcCs x dv).toList by
     have:=range_later (range_later hxr HB4.out) HB.out
     rwa [show off+(k+1)*5=off+5+k*5 by omega] at this)
    have HXL:=Lib.hid (HBL.out x (List.mem_of_getElem? hpk))
    have HXB:=Lib.hid ((hxb.below HB4.out).below HB.out)
    obtain⟨odv,cdv,hsh,_,_⟩:=hxb
    subst hsh
    clear hmk hpk hdr hxr
    have hba:=below_alloc wr (.cells (pcCs x (.slice odv x.f.body.length cdv)) 160)
    have HBX:=Lib.hid (show (wr.alloc (.cells (pcCs x (.slice odv x.f.body.length cdv)) 160)).heap[wr.heap.size]? =some (.cells (pcCs x (.slice odv x.f.body.length cdv)) 160 (0,0)) from heap_alloc_new wr _)
    have HCD:=Lib.hid (canonDec_any x.f.body _ _ (HXB.out.below hba) (Nat.le_trans HXL.out (by decide)))
    have HB5:=Lib.hid (Below.next HB.out hba)
    have HO5:=Lib.hid (HO.out.below hba)
    have HSN:=Lib.hid (@stsP_stop x (mid.drop (k+1)) (xs.map (·.1)))
    have HSG:=Lib.hid (@stsP_go x (mid.drop (k+1)) (xs.map (·.1)))
    have HWD:=Lib.hid (decSt_who x.f.body)
    obtain⟨ds,hds⟩: ∃ ds,ds=decSt x.f.body:=⟨_,rfl⟩
    rw [←hds] at HCD HSN HSG HWD
    have HWR:=Lib.hid HB.out.size
    clear hds hba HB HO
    simp only [pcCs] at HBX HCD HB5 HO5
    obtain⟨s,e1⟩:=ds
    unfold StDP at HCD
    dsimp only at HCD HSN HSG HWD
    go_wp2_with (with_reducible refine wpList_load_pc rfl (.tmp 111) rfl bb (off+5+k*5) x (.slice odv x.f.body.length cdv) rfl HXR.out ?_)
    refine HCD.out.mono ?_
    rintro e w5 ⟨lv,rfl,hol,hb5⟩
    have hbz:=below_alloc w5 (.cells (stCs stNone (.slice none 0 0)) 164)
    have HSZ:=Lib.hid (stBlk_alloc w5 stNone (.slice none 0 0))
    have h1v:lv.oneCell'=true:=by obtain⟨_,_,e,_⟩:=own_shape hol;rw [e];rfl
    have HOL:=Lib.hid hol
    have HB5b:=Lib.hid (Below.next HB5.out hb5)
    have HOS:=Lib.hid (HO5.out.below hb5)
    have HBX5:=Lib.hid ((hb5.block _ (Array.getElem?_eq_some_iff.1 HBX.out).1).trans HBX.out)
    have hzz:=HBX.out
    have hg8:wr.heap.size<w5.heap.size:=by have:=(Array.getElem?_eq_some_iff.1 HBX5.out).1;exact this
    have hsa:(wr.alloc (.cells #[.int .i64 (x.pos:Int),.int .i64 (x.sz:Int),.int .i64 (x.f.k:Int),.int .i64 (x.f.s:Int),.slice odv x.f.body.length cdv] 160)).heap.size=wr.heap.size+1:=World.size_alloc _ _
    rw [hsa] at HOL
    clear hzz hsa hol hb5 HCD HB5 HO5 HBX HXR HXB
    simp only [stCs,stNone] at hbz HSZ
    go_wp2_with (with_reducible refine wpList_store_stW rfl (.tmp 19) (.tmp 118) rfl w5.heap.size ⟨0,0,0,0,0,[],0,0,0,0,0,[]⟩ s (.slice none 0 0) lv rfl rfl HSZ.out h1v ?_)
    intro w6 hw6
    have HS6:=Lib.hid (show StBlk w6 w5.heap.size s lv by rw [hw6.out];exact HSZ.out.row)
    have hb6:Below w5.heap.size w5 w6:=by rw [hw6.out];exact below_row hbz (Nat.le_refl _) _
    have HB6:=Lib.hid (Below.next HB5b.out hb6)
    have HO6:=Lib.hid (HOS.out.below hb6)
    have HL6:=Lib.hid (lnIn_own (A:=fun j=>wr.heap.size≤j∧j<w5.heap.size) HOL.out (fun j h1 h2=>⟨by omega,h2⟩))
    have HL6:=Lib.hid (HL6.out.below hb6)
    have HBX6:=Lib.hid ((hb6.block _ hg8).trans HBX5.out)
    have x2:w6.cell? ⟨wr.heap.size,2,none⟩=some (.int .i64 (x.f.k:Int)):=by simp [World.cell?,HBX6.out]
    have x3:w6.cell? ⟨wr.heap.size,3,none⟩=some (.int .i64 (x.f.s:Int)):=by simp [World.cell?,HBX6.out]
    have s0:=HS6.out.c0
    have hwr:w4.heap.size≤wr.heap.size:=by have:=HWR.out;omega
    have hs6:w5.heap.size<w6.heap.size:=HS6.out.lt
    clear hw6 hb6 hbz HSZ HOL HOS HBX5 HBX6 HB5b
    rcases z1:(e1 != 0) with _ | _
    case true=>
     have HD:=Lib.hid (show decBook b=none by rw [HEF.out,HST.out,HSN.out (.inl (by simpa using z1))])
     go_wp2
     refine bodyPost_ret (v:= .tuple #[.int .i64 0,.int .i64 0,.slice none 0 0,.int .i64 81]) (by simp [results,Tryz.results80,go_sem]) rfl ⟨Below.next HBW.out HB6.out,by rw [HD.out]⟩
    rcases z2:((x.f.k:Int) != 5) with _ | _
    case true=>
     have HD:=Lib.hid (show decBook b=none by rw [HEF.out,HST.out,HSN.out (.inr (.inl (by simp at z2;omega)))])
     go_wp2
     refine bodyPost_ret (v:= .tuple #[.int .i64 0,.int .i64 0,.slice none 0 0,.int .i64 81]) (by simp [results,Tryz.results80,go_sem]) rfl ⟨Below.next HBW.out HB6.out,by rw [HD.out]⟩
    rcases z3:((x.f.s:Int) != s.order) with _ | _
    case true=>
     have HD:=Lib.hid (show decBook b=none by rw [HEF.out,HST.out,HSN.out (.inr (.inr (by simpa using z3)))])
     go_wp2
     refine bodyPost_ret (v:= .tuple #[.int .i64 0,.int .i64 0,.slice none 0 0,.int .i64 81]) (by simp [results,Tryz.results80,go_sem]) rfl ⟨Below.next HBW.out HB6.out,by rw [HD.out]⟩
    have HST2:=Lib.hid (show stsP mid []=stsP (mid.drop (k+1)) ((xs++[(s,lv)]).map (·.1)) by
     rw [HST.out,HSG.out (by
      rintro(h | h | h)
      ·exact h (by simpa using z1)
      ·simp at z2;omega
      ·simp at z3;omega)]
     simp)
    have hk1:IntKind.i64.wrap ((k:Int)+1)=(k:Int)+1:=by rw [IntKind.wrap_i64];omega
    have hll:xs.length+1≤1000000000:=by omega
    have h46:w4.heap.size≤w6.heap.size:=by omega
    clear HSN HSG HST
    go_upto_region 17 with fail
    generalize w5.heap.size=gs at*
    go_wp2_with (first | (with_reducible refine wpList_load_st rfl (.tmp 19) rfl gs s lv rfl HS6.out ?_) | (refine wpList_appSt (p:=s) (dv:=lv) rfl (.tmp 136) (.tmp 138) rfl rfl rfl HO6.out h46 (HL6.out.mono fun j hj=>⟨by omega,by omega,fun e=>by have:=HOW.out j e;omega⟩) hll ?_))
    intro v7 w7 ho7 hb7 _ _
    have HO7:=Lib.hid ho7
    have HB7:=Lib.hid ((HB6.out.mono (Nat.le_refl _)).trans hb7)
    clear ho7 hb7 HO6 HB6 HS6 HL6
    go_wp2
    go_roundw
    case rel=>exact⟨k+1,xs++[(s,lv)],by omega,by go_num,by simp [hxl],HO7,Lib.hid (fun y hy=>by
     rcases List.mem_append.1 hy with hy | hy
     ·exact HWX.out y hy
     ·simp at hy;subst hy;exact HWD.out),HST2,HB7⟩
    case measure=>simp [intOf];omega
   ·obtain rfl:k=ps.length - 2:=by omega
    have HSF:=Lib.hid (show stsP mid []=some (xs.map (·.1)) by rw [HST.out,List.drop_eq_nil_of_le (by rw [HML.out];exact Nat.le_refl _)];rfl)
    have HEG:=Lib.hid (show decBook b=if bookOk 0 (xs.map (·.1)) then some (p.f.s,u1,xs.map (·.1)) else none by rw [HEF.out,HSF.out])
    have HSI:=Lib.hid (HO.out.stsIn (A:=fun j=>w.heap.size≤j) (fun j hj=>Nat.le_trans HBW.out.size hj))
    have HVL:=Lib.hid (bookValid_any (xs.map (·.1)) _ wr HSI.out (fun s hs=>by
     obtain⟨y,hy,rfl⟩:=List.mem_map.1 hs
     exact Nat.le_trans (HWX.out y hy) (by decide)))
    obtain⟨vb,hvb⟩: ∃ vb,vb=bookOk 0 (xs.map (·.1)):=⟨_,rfl⟩
    rw [←hvb] at HEG HVL
    clear hvb HSF HST
    go_wp2_with fail
    refine HVL.out.mono ?_
    rintro e w9 ⟨rfl,hb9⟩
    have HB9:=Lib.hid (Below.next HB.out hb9)
    have HS9:=Lib.hid (HSI.out.below hb9)
    clear hb9
    cases vb
    ·have HD:=Lib.hid (show decBook b=none by rw [HEG.out];rfl)
     go_wp2
     refine bodyPost_ret (v:= .tuple #[.int .i64 0,.int .i64 0,.slice none 0 0,.int .i64 81]) (by simp [results,Tryz.results80,go_sem]) rfl ⟨Below.next HBW.out HB9.out,by rw [HD.out]⟩
    ·have HD:=Lib.hid (show decBook b=some (p.f.s,u1,xs.map (·.1)) by rw [HEG.out,if_pos rfl])
     go_wp2
     refine bodyPost_ret (v:= .tuple #[.int .i64 (p.f.s:Int),.int .i64 (u1:Int),_,.int .i64 0]) (by simp [results,Tryz.results80,go_sem];first | rfl | skip) rfl ⟨Below.next HBW.out HB9.out,by rw [HD.out];exact⟨_,rfl,HS9.out⟩⟩
end Go.Proofs.YtlobohpbgghleaaGreatDoor
