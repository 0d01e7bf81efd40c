import Derived.Deep.CutRange
import Derived.Test.YtcglcphhfmkccaaGreatDoorPb5
namespace Go.Proofs.YtcglcphhfmkccaaGreatDoor
open Go.RowKit
theorem sixB (b1 b2 b3 b4 b5 b6:Bool):b1=false∨(b1=true∧b2=false)∨(b1=true∧b2=true∧b3=false)∨(b1=true∧b2=true∧b3=true∧b4=false)∨(b1=true∧b2=true∧b3=true∧b4=true∧b5=false)∨(b1=true∧b2=true∧b3=true∧b4=true∧b5=true∧b6=false)∨(b1=true∧b2=true∧b3=true∧b4=true∧b5=true∧b6=true):=by
 cases b1<;>cases b2<;>cases b3<;>cases b4<;>cases b5<;>cases b6<;>decide
set_option maxRecDepth 100000 in
set_option maxHeartbeats 16000000 in
theorem oValid_0_0_0 (s:St) (lv:Value) (w:World) (hr:LnRow w lv s.lines) (hw:s.who.length≤281474976710656) (hf:boundedB s=true) (hm: ¬ dueOf s<s.paid) (hs:s.status=0) (hp:s.prior=0) (g1:(s.paid==dueOf s)=false):
  Calls Tryz.prog 99 #[stV s lv] w fun e w'=>e= .returned (.bool (validB s))∧Below w.heap.size w w':=by
 have HVb:=Lib.hid (show validB s=(s.lines.isEmpty&&s.cur==0&&s.tax==0&&s.events==s.refused&&s.stamp==0&&s.who.isEmpty) by
  have h1:validB s=standB s 0:=by unfold validB;rw [hf,decide_eq_true (by omega),hs,hp];rfl
  have h2:(s.paid==dueOf s&&decide (0<s.paid))=false:=by rw [g1];rfl
  rw [h1];unfold standB;rw [h2];rfl)
 have hbp:=bounded_p hf
 have HBO:=Lib.hid (stBO (lv:=lv) hf hw)
 obtain⟨D,hD⟩: ∃ D,D=dueOf s:=⟨_,rfl⟩
 have HDU:=Lib.hid (stDU (lv:=lv) hD hbp)
 have HH:=Lib.hid (stHH hr)
 have HSH:=Lib.hid (stSH s lv)
 obtain⟨nB,hnB⟩: ∃ x,x=noneB s.lines:=⟨_,rfl⟩
 obtain⟨wB,hwB⟩: ∃ x,x=wholeB s.lines:=⟨_,rfl⟩
 rw [←hnB,←hwB] at HSH
 rw [←hD] at hm g1
 have d1:decide (D<s.paid)=false:=decide_eq_false hm
 have hm2:s.paid≤D:=by omega
 have HS:=Lib.hid hs
 have HP:=Lib.hid hp
 obtain⟨oa,cap,hlv,_,_,_⟩:=hr.shape
 have HLV:=Lib.hid hlv
 clear hr hw hf hbp hD hm hs hp hnB hwB hlv
 go_enter Tryz.func99,Tryz.ntmps99
 go_wp2
 refine wp_region_held_drew (S:=fun w'=>StBlk w' w.heap.size s lv∧LnRow w' lv s.lines∧Below w.heap.size w w') (by kernel_rfl) HH.out (fun hHeld=> ?_)
 refine tst 0 (fun _ h=>h.1) ?_
 simp only [pA,pB,pC,pD]
 refine wpAnyH_ready (rs:=[1]) (by kernel_rfl) (by simp) ?_
 refine AllReadyH.cons rfl (fun K hK=> ?_) AllReadyH.nil
 go_simp
 go_at_call 121
 obtain⟨hSt,hLn,hBe⟩:=hHeld
 refine(HBO.out _ hLn).mono ?_
 rintro x w1 ⟨rfl,hb⟩
 go_wp2_with fail
 refine hK.out _ _ ⟨hSt.below hb,hLn.below hb,Below.next hBe hb⟩ (fun hHeld=> ?_)
 clear hK K hSt hLn hBe hb
 refine tf stF 2 rfl ?_
 refine tf stF 3 rfl ?_
 refine tf stF 4 rfl ?_
 refine tf stF 5 rfl ?_
 refine tst 6 (fun _ h=>h.1) ?_
 simp only [pA,pB,pC,pD]
 refine wpAnyH_ready (rs:=[7]) (by kernel_rfl) (by simp) ?_
 refine AllReadyH.cons rfl (fun K hK=> ?_) AllReadyH.nil
 go_simp
 go_at_call 122
 obtain⟨hSt,hLn,hBe⟩:=hHeld
 refine(HDU.out _ hLn).mono ?_
 rintro x w2 ⟨rfl,hb⟩
 go_wp2_with fail
 refine hK.out _ _ ⟨hSt.below hb,hLn.below hb,Below.next hBe hb⟩ (fun hHeld=> ?_)
 clear hK K hSt hLn hBe hb
 refine tf stF 8 rfl ?_
 refine tf stF 9 rfl ?_
 refine wpAnyH_done (by kernel_rfl) ?_ _
 have c1:w2.cell? ⟨w.heap.size,1,none⟩=some (.int .i64 0):=by rw [hHeld.1.cell 1,stCs,HS.out];rfl
 have c2:w2.cell? ⟨w.heap.size,2,none⟩=some (.int .i64 0):=by rw [hHeld.1.cell 2,stCs,HP.out];rfl
 have HE:=Lib.hid hHeld
 clear hHeld HBO HH
 go_wp2_with (first
  | (with_reducible refine wpList_load_st rfl (.tmp 1) rfl w.heap.size s lv rfl HE.out.1 ?_)
  | (go_at_call 123;refine(HSH.out _ HE.out.2.1).mono ?_;rintro x w3 ⟨rfl,hb⟩;have HE3:=Lib.hid (show StBlk w3 w.heap.size s lv∧LnRow w3 lv s.lines∧Below w.heap.size w w3 from⟨HE.out.1.below hb,HE.out.2.1.below hb,Below.next HE.out.2.2 hb⟩);clear hb))
 clear c1 c2 HE HSH
 refine wp_region_held_drew (S:=fun w'=>StBlk w' w.heap.size s lv∧LnRow w' lv s.lines∧Below w.heap.size w w') (by kernel_rfl) ⟨HE3.out.1,HE3.out.2.1,Below.next HE3.out.2.2 (below_drewN' _ 1)⟩ (fun hHeld=> ?_)
 refine tf stF 0 rfl ?_
 refine tf stF 1 rfl ?_
 refine tst 2 (fun _ h=>h.1) ?_
 simp only [pA,pB,pC,pD]
 refine wpAnyH_ready (rs:=[3]) (by kernel_rfl) (by simp) ?_
 refine AllReadyH.cons rfl (fun K hK=> ?_) AllReadyH.nil
 go_simp
 go_at_call 122
 obtain⟨hSt,hLn,hBe⟩:=hHeld
 refine(HDU.out _ hLn).mono ?_
 rintro x w4 ⟨rfl,hb⟩
 go_wp2_with fail
 refine hK.out _ _ ⟨hSt.below hb,hLn.below hb,Below.next hBe hb⟩ (fun hHeld=> ?_)
 clear hK K hSt hLn hBe hb
 refine tf stF 4 rfl ?_
 refine tf stF 5 rfl ?_
 refine tkn 6 rfl ?_
 simp only [pA,pB,pC,pD]
 refine tkn 7 rfl ?_
 simp only [pA,pB,pC,pD]
 refine tkn 8 rfl ?_
 simp only [pA,pB,pC,pD]
 refine tf stF 9 rfl ?_
 refine tf stF 10 rfl ?_
 refine wpAnyH_done (by kernel_rfl) ?_ _
 have HB:=Lib.hid hHeld.2.2
 have d3:w4.cell? ⟨w.heap.size,3,none⟩=some (.int .i64 s.cur):=hHeld.1.cell 3
 have d4:w4.cell? ⟨w.heap.size,4,none⟩=some (.int .i64 s.tax):=hHeld.1.cell 4
 have d5:w4.cell? ⟨w.heap.size,5,none⟩=some (.slice oa s.lines.length cap):=by rw [hHeld.1.cell 5,stCs,HLV.out];rfl
 have d7:w4.cell? ⟨w.heap.size,7,none⟩=some (.int .i64 s.refunded):=hHeld.1.cell 7
 have d8:w4.cell? ⟨w.heap.size,8,none⟩=some (.int .i64 s.events):=hHeld.1.cell 8
 have d9:w4.cell? ⟨w.heap.size,9,none⟩=some (.int .i64 s.refused):=hHeld.1.cell 9
 have d10:w4.cell? ⟨w.heap.size,10,none⟩=some (.int .i64 s.stamp):=hHeld.1.cell 10
 have d11:w4.cell? ⟨w.heap.size,11,none⟩=some (.string ⟨s.who.toArray⟩):=hHeld.1.cell 11
 clear hHeld HE3 HDU
 have l1:((s.lines.length:Int)==0)=s.lines.isEmpty:=by cases s.lines<;>simp<;>omega
 rcases sixB s.lines.isEmpty (s.cur==0) (s.tax==0) (s.events==s.refused) (s.stamp==0) s.who.isEmpty with k1 | ⟨k1,k2⟩ | ⟨k1,k2,k3⟩ | ⟨k1,k2,k3,k4⟩ | ⟨k1,k2,k3,k4,k5⟩ | ⟨k1,k2,k3,k4,k5,k6⟩ | ⟨k1,k2,k3,k4,k5,k6⟩
 ·rw [k1] at l1
  go_wp2
  go_ret
  exact⟨by rw [HVb.out,k1];rfl,HB.out⟩
 ·rw [k1] at l1
  go_wp2
  go_ret
  exact⟨by rw [HVb.out,k1,k2];rfl,HB.out⟩
 ·rw [k1] at l1
  go_wp2
  go_ret
  exact⟨by rw [HVb.out,k1,k2,k3];rfl,HB.out⟩
 ·rw [k1] at l1
  go_wp2
  go_ret
  exact⟨by rw [HVb.out,k1,k2,k3,k4];rfl,HB.out⟩
 ·rw [k1] at l1
  go_wp2
  go_ret
  exact⟨by rw [HVb.out,k1,k2,k3,k4,k5];rfl,HB.out⟩
 ·rw [k1] at l1
  go_wp2
  go_ret
  exact⟨by rw [HVb.out,k1,k2,k3,k4,k5,k6];rfl,HB.out⟩
 ·rw [k1] at l1
  go_wp2
  go_ret
  exact⟨by rw [HVb.out,k1,k2,k3,k4,k5,k6];rfl,HB.out⟩
set_option maxRecDepth 100000 in
set_option maxHeartbeats 16000000 in
theorem oValid_0_0_1 (s:St) (lv:Value) (w:World) (hr:LnRow w lv s.lines) (hw:s.who.length≤281474976710656) (hf:boundedB s=true) (hm: ¬ dueOf s<s.paid) (hs:s.status=0) (hp:s.prior=0) (g1:(s.paid==dueOf s)=true) (g3:decide (0<s.paid)=false):
  Calls Tryz.prog 99 #[stV s lv] w fun e w'=>e= .returned (.bool (validB s))∧Below w.heap.size w w':=by
 have HVb:=Lib.hid (show validB s=(s.lines.isEmpty&&s.cur==0&&s.tax==0&&s.events==s.refused&&s.stamp==0&&s.who.isEmpty) by
  have h1:validB s=standB s 0:=by unfold validB;rw [hf,decide_eq_true (by omega),hs,hp];rfl
  have h2:(s.paid==dueOf s&&decide (0<s.paid))=false:=by rw [g1,g3];rfl
  rw [h1];unfold standB;rw [h2];rfl)
 have hbp:=bounded_p hf
 have HBO:=Lib.hid (stBO (lv:=lv) hf hw)
 obtain⟨D,hD⟩: ∃ D,D=dueOf s:=⟨_,rfl⟩
 have HDU:=Lib.hid (stDU (lv:=lv) hD hbp)
 have HH:=Lib.hid (stHH hr)
 have HSH:=Lib.hid (stSH s lv)
 obtain⟨nB,hnB⟩: ∃ x,x=noneB s.lines:=⟨_,rfl⟩
 obtain⟨wB,hwB⟩: ∃ x,x=wholeB s.lines:=⟨_,rfl⟩
 rw [←hnB,←hwB] at HSH
 rw [←hD] at hm g1
 have d1:decide (D<s.paid)=false:=decide_eq_false hm
 have hm2:s.paid≤D:=by omega
 have HS:=Lib.hid hs
 have HP:=Lib.hid hp
 obtain⟨oa,cap,hlv,_,_,_⟩:=hr.shape
 have HLV:=Lib.hid hlv
 clear hr hw hf hbp hD hm hs hp hnB hwB hlv
 go_enter Tryz.func99,Tryz.ntmps99
 go_wp2
 refine wp_region_held_drew (S:=fun w'=>StBlk w' w.heap.size s lv∧LnRow w' lv s.lines∧Below w.heap.size w w') (by kernel_rfl) HH.out (fun hHeld=> ?_)
 refine tst 0 (fun _ h=>h.1) ?_
 simp only [pA,pB,pC,pD]
 refine wpAnyH_ready (rs:=[1]) (by kernel_rfl) (by simp) ?_
 refine AllReadyH.cons rfl (fun K hK=> ?_) AllReadyH.nil
 go_simp
 go_at_call 121
 obtain⟨hSt,hLn,hBe⟩:=hHeld
 refine(HBO.out _ hLn).mono ?_
 rintro x w1 ⟨rfl,hb⟩
 go_wp2_with fail
 refine hK.out _ _ ⟨hSt.below hb,hLn.below hb,Below.next hBe hb⟩ (fun hHeld=> ?_)
 clear hK K hSt hLn hBe hb
 refine tf stF 2 rfl ?_
 refine tf stF 3 rfl ?_
 refine tf stF 4 rfl ?_
 refine tf stF 5 rfl ?_
 refine tst 6 (fun _ h=>h.1) ?_
 simp only [pA,pB,pC,pD]
 refine wpAnyH_ready (rs:=[7]) (by kernel_rfl) (by simp) ?_
 refine AllReadyH.cons rfl (fun K hK=> ?_) AllReadyH.nil
 go_simp
 go_at_call 122
 obtain⟨hSt,hLn,hBe⟩:=hHeld
 refine(HDU.out _ hLn).mono ?_
 rintro x w2 ⟨rfl,hb⟩
 go_wp2_with fail
 refine hK.out _ _ ⟨hSt.below hb,hLn.below hb,Below.next hBe hb⟩ (fun hHeld=> ?_)
 clear hK K hSt hLn hBe hb
 refine tf stF 8 rfl ?_
 refine tf stF 9 rfl ?_
 refine wpAnyH_done (by kernel_rfl) ?_ _
 have c1:w2.cell? ⟨w.heap.size,1,none⟩=some (.int .i64 0):=by rw [hHeld.1.cell 1,stCs,HS.out];rfl
 have c2:w2.cell? ⟨w.heap.size,2,none⟩=some (.int .i64 0):=by rw [hHeld.1.cell 2,stCs,HP.out];rfl
 have HE:=Lib.hid hHeld
 clear hHeld HBO HH
 go_wp2_with (first
  | (with_reducible refine wpList_load_st rfl (.tmp 1) rfl w.heap.size s lv rfl HE.out.1 ?_)
  | (go_at_call 123;refine(HSH.out _ HE.out.2.1).mono ?_;rintro x w3 ⟨rfl,hb⟩;have HE3:=Lib.hid (show StBlk w3 w.heap.size s lv∧LnRow w3 lv s.lines∧Below w.heap.size w w3 from⟨HE.out.1.below hb,HE.out.2.1.below hb,Below.next HE.out.2.2 hb⟩);clear hb))
 clear c1 c2 HE HSH
 refine wp_region_held_drew (S:=fun w'=>StBlk w' w.heap.size s lv∧LnRow w' lv s.lines∧Below w.heap.size w w') (by kernel_rfl) ⟨HE3.out.1,HE3.out.2.1,Below.next HE3.out.2.2 (below_drewN' _ 1)⟩ (fun hHeld=> ?_)
 refine tf stF 0 rfl ?_
 refine tf stF 1 rfl ?_
 refine tst 2 (fun _ h=>h.1) ?_
 simp only [pA,pB,pC,pD]
 refine wpAnyH_ready (rs:=[3]) (by kernel_rfl) (by simp) ?_
 refine AllReadyH.cons rfl (fun K hK=> ?_) AllReadyH.nil
 go_simp
 go_at_call 122
 obtain⟨hSt,hLn,hBe⟩:=hHeld
 refine(HDU.out _ hLn).mono ?_
 rintro x w4 ⟨rfl,hb⟩
 go_wp2_with fail
 refine hK.out _ _ ⟨hSt.below hb,hLn.below hb,Below.next hBe hb⟩ (fun hHeld=> ?_)
 clear hK K hSt hLn hBe hb
 refine tf stF 4 rfl ?_
 refine tf stF 5 rfl ?_
 refine tf stF 6 rfl ?_
 refine tf stF 7 rfl ?_
 refine tf stF 8 rfl ?_
 refine tf stF 9 rfl ?_
 refine tf stF 10 rfl ?_
 refine wpAnyH_done (by kernel_rfl) ?_ _
 have HB:=Lib.hid hHeld.2.2
 have d3:w4.cell? ⟨w.heap.size,3,none⟩=some (.int .i64 s.cur):=hHeld.1.cell 3
 have d4:w4.cell? ⟨w.heap.size,4,none⟩=some (.int .i64 s.tax):=hHeld.1.cell 4
 have d5:w4.cell? ⟨w.heap.size,5,none⟩=some (.slice oa s.lines.length cap):=by rw [hHeld.1.cell 5,stCs,HLV.out];rfl
 have d7:w4.cell? ⟨w.heap.size,7,none⟩=some (.int .i64 s.refunded):=hHeld.1.cell 7
 have d8:w4.cell? ⟨w.heap.size,8,none⟩=some (.int .i64 s.events):=hHeld.1.cell 8
 have d9:w4.cell? ⟨w.heap.size,9,none⟩=some (.int .i64 s.refused):=hHeld.1.cell 9
 have d10:w4.cell? ⟨w.heap.size,10,none⟩=some (.int .i64 s.stamp):=hHeld.1.cell 10
 have d11:w4.cell? ⟨w.heap.size,11,none⟩=some (.string ⟨s.who.toArray⟩):=hHeld.1.cell 11
 clear hHeld HE3 HDU
 have l1:((s.lines.length:Int)==0)=s.lines.isEmpty:=by cases s.lines<;>simp<;>omega
 rcases sixB s.lines.isEmpty (s.cur==0) (s.tax==0) (s.events==s.refused) (s.stamp==0) s.who.isEmpty with k1 | ⟨k1,k2⟩ | ⟨k1,k2,k3⟩ | ⟨k1,k2,k3,k4⟩ | ⟨k1,k2,k3,k4,k5⟩ | ⟨k1,k2,k3,k4,k5,k6⟩ | ⟨k1,k2,k3,k4,k5,k6⟩
 ·rw [k1] at l1
  go_wp2
  go_ret
  exact⟨by rw [HVb.out,k1];rfl,HB.out⟩
 ·rw [k1] at l1
  go_wp2
  go_ret
  exact⟨by rw [HVb.out,k1,k2];rfl,HB.out⟩
 ·rw [k1] at l1
  go_wp2
  go_ret
  exact⟨by rw [HVb.out,k1,k2,k3];rfl,HB.out⟩
 ·rw [k1] at l1
  go_wp2
  go_ret
  exact⟨by rw [HVb.out,k1,k2,k3,k4];rfl,HB.out⟩
 ·rw [k1] at l1
  go_wp2
  go_ret
  exact⟨by rw [HVb.out,k1,k2,k3,k4,k5];rfl,HB.out⟩
 ·rw [k1] at l1
  go_wp2
  go_ret
  exact⟨by rw [HVb.out,k1,k2,k3,k4,k5,k6];rfl,HB.out⟩
 ·rw [k1] at l1
  go_wp2
  go_ret
  exact⟨by rw [HVb.out,k1,k2,k3,k4,k5,k6];rfl,HB.out⟩
set_option maxRecDepth 100000 in
set_option maxHeartbeats 16000000 in
theorem oValid_0_0_2 (s:St) (lv:Value) (w:World) (hr:LnRow w lv s.lines) (hw:s.who.length≤281474976710656) (hf:boundedB s=true) (hm: ¬ dueOf s<s.paid) (hs:s.status=0) (hp:s.prior=0) (g1:(s.paid==dueOf s)=true) (g3:decide (0<s.paid)=true):
  Calls Tryz.prog 99 #[stV s lv] w fun e w'=>e= .returned (.bool (validB s))∧Below w.heap.size w w':=by
 have HVb:=Lib.hid (show validB s=(s.lines.isEmpty&&s.cur==0&&s.tax==0&&s.events==s.refused&&s.stamp==0&&s.who.isEmpty) by
  have h1:validB s=standB s 0:=by unfold validB;rw [hf,decide_eq_true (by omega),hs,hp];rfl
  have h2:(s.paid==dueOf s&&decide (0<s.paid))=true:=by rw [g1,g3];rfl
  rw [h1];unfold standB;rw [h2];rfl)
 have hbp:=bounded_p hf
 have HBO:=Lib.hid (stBO (lv:=lv) hf hw)
 obtain⟨D,hD⟩: ∃ D,D=dueOf s:=⟨_,rfl⟩
 have HDU:=Lib.hid (stDU (lv:=lv) hD hbp)
 have HH:=Lib.hid (stHH hr)
 have HSH:=Lib.hid (stSH s lv)
 obtain⟨nB,hnB⟩: ∃ x,x=noneB s.lines:=⟨_,rfl⟩
 obtain⟨wB,hwB⟩: ∃ x,x=wholeB s.lines:=⟨_,rfl⟩
 rw [←hnB,←hwB] at HSH
 rw [←hD] at hm g1
 have d1:decide (D<s.paid)=false:=decide_eq_false hm
 have hm2:s.paid≤D:=by omega
 have HS:=Lib.hid hs
 have HP:=Lib.hid hp
 obtain⟨oa,cap,hlv,_,_,_⟩:=hr.shape
 have HLV:=Lib.hid hlv
 clear hr hw hf hbp hD hm hs hp hnB hwB hlv
 go_enter Tryz.func99,Tryz.ntmps99
 go_wp2
 refine wp_region_held_drew (S:=fun w'=>StBlk w' w.heap.size s lv∧LnRow w' lv s.lines∧Below w.heap.size w w') (by kernel_rfl) HH.out (fun hHeld=> ?_)
 refine tst 0 (fun _ h=>h.1) ?_
 simp only [pA,pB,pC,pD]
 refine wpAnyH_ready (rs:=[1]) (by kernel_rfl) (by simp) ?_
 refine AllReadyH.cons rfl (fun K hK=> ?_) AllReadyH.nil
 go_simp
 go_at_call 121
 obtain⟨hSt,hLn,hBe⟩:=hHeld
 refine(HBO.out _ hLn).mono ?_
 rintro x w1 ⟨rfl,hb⟩
 go_wp2_with fail
 refine hK.out _ _ ⟨hSt.below hb,hLn.below hb,Below.next hBe hb⟩ (fun hHeld=> ?_)
 clear hK K hSt hLn hBe hb
 refine tf stF 2 rfl ?_
 refine tf stF 3 rfl ?_
 refine tf stF 4 rfl ?_
 refine tf stF 5 rfl ?_
 refine tst 6 (fun _ h=>h.1) ?_
 simp only [pA,pB,pC,pD]
 refine wpAnyH_ready (rs:=[7]) (by kernel_rfl) (by simp) ?_
 refine AllReadyH.cons rfl (fun K hK=> ?_) AllReadyH.nil
 go_simp
 go_at_call 122
 obtain⟨hSt,hLn,hBe⟩:=hHeld
 refine(HDU.out _ hLn).mono ?_
 rintro x w2 ⟨rfl,hb⟩
 go_wp2_with fail
 refine hK.out _ _ ⟨hSt.below hb,hLn.below hb,Below.next hBe hb⟩ (fun hHeld=> ?_)
 clear hK K hSt hLn hBe hb
 refine tf stF 8 rfl ?_
 refine tf stF 9 rfl ?_
 refine wpAnyH_done (by kernel_rfl) ?_ _
 have c1:w2.cell? ⟨w.heap.size,1,none⟩=some (.int .i64 0):=by rw [hHeld.1.cell 1,stCs,HS.out];rfl
 have c2:w2.cell? ⟨w.heap.size,2,none⟩=some (.int .i64 0):=by rw [hHeld.1.cell 2,stCs,HP.out];rfl
 have HE:=Lib.hid hHeld
 clear hHeld HBO HH
 go_wp2_with (first
  | (with_reducible refine wpList_load_st rfl (.tmp 1) rfl w.heap.size s lv rfl HE.out.1 ?_)
  | (go_at_call 123;refine(HSH.out _ HE.out.2.1).mono ?_;rintro x w3 ⟨rfl,hb⟩;have HE3:=Lib.hid (show StBlk w3 w.heap.size s lv∧LnRow w3 lv s.lines∧Below w.heap.size w w3 from⟨HE.out.1.below hb,HE.out.2.1.below hb,Below.next HE.out.2.2 hb⟩);clear hb))
 clear c1 c2 HE HSH
 refine wp_region_held_drew (S:=fun w'=>StBlk w' w.heap.size s lv∧LnRow w' lv s.lines∧Below w.heap.size w w') (by kernel_rfl) ⟨HE3.out.1,HE3.out.2.1,Below.next HE3.out.2.2 (below_drewN' _ 1)⟩ (fun hHeld=> ?_)
 refine tf stF 0 rfl ?_
 refine tf stF 1 rfl ?_
 refine tst 2 (fun _ h=>h.1) ?_
 simp only [pA,pB,pC,pD]
 refine wpAnyH_ready (rs:=[3]) (by kernel_rfl) (by simp) ?_
 refine AllReadyH.cons rfl (fun K hK=> ?_) AllReadyH.nil
 go_simp
 go_at_call 122
 obtain⟨hSt,hLn,hBe⟩:=hHeld
 refine(HDU.out _ hLn).mono ?_
 rintro x w4 ⟨rfl,hb⟩
 go_wp2_with fail
 refine hK.out _ _ ⟨hSt.below hb,hLn.below hb,Below.next hBe hb⟩ (fun hHeld=> ?_)
 clear hK K hSt hLn hBe hb
 refine tf stF 4 rfl ?_
 refine tf stF 5 rfl ?_
 refine tf stF 6 rfl ?_
 refine tf stF 7 rfl ?_
 refine tf stF 8 rfl ?_
 refine tf stF 9 rfl ?_
 refine tf stF 10 rfl ?_
 refine wpAnyH_done (by kernel_rfl) ?_ _
 have HB:=Lib.hid hHeld.2.2
 have d3:w4.cell? ⟨w.heap.size,3,none⟩=some (.int .i64 s.cur):=hHeld.1.cell 3
 have d4:w4.cell? ⟨w.heap.size,4,none⟩=some (.int .i64 s.tax):=hHeld.1.cell 4
 have d5:w4.cell? ⟨w.heap.size,5,none⟩=some (.slice oa s.lines.length cap):=by rw [hHeld.1.cell 5,stCs,HLV.out];rfl
 have d7:w4.cell? ⟨w.heap.size,7,none⟩=some (.int .i64 s.refunded):=hHeld.1.cell 7
 have d8:w4.cell? ⟨w.heap.size,8,none⟩=some (.int .i64 s.events):=hHeld.1.cell 8
 have d9:w4.cell? ⟨w.heap.size,9,none⟩=some (.int .i64 s.refused):=hHeld.1.cell 9
 have d10:w4.cell? ⟨w.heap.size,10,none⟩=some (.int .i64 s.stamp):=hHeld.1.cell 10
 have d11:w4.cell? ⟨w.heap.size,11,none⟩=some (.string ⟨s.who.toArray⟩):=hHeld.1.cell 11
 clear hHeld HE3 HDU
 have l1:((s.lines.length:Int)==0)=s.lines.isEmpty:=by cases s.lines<;>simp<;>omega
 rcases sixB s.lines.isEmpty (s.cur==0) (s.tax==0) (s.events==s.refused) (s.stamp==0) s.who.isEmpty with k1 | ⟨k1,k2⟩ | ⟨k1,k2,k3⟩ | ⟨k1,k2,k3,k4⟩ | ⟨k1,k2,k3,k4,k5⟩ | ⟨k1,k2,k3,k4,k5,k6⟩ | ⟨k1,k2,k3,k4,k5,k6⟩
 ·rw [k1] at l1
  go_wp2
  go_ret
  exact⟨by rw [HVb.out,k1];rfl,HB.out⟩
 ·rw [k1] at l1
  go_wp2
  go_ret
  exact⟨by rw [HVb.out,k1,k2];rfl,HB.out⟩
 ·rw [k1] at l1
  go_wp2
  go_ret
  exact⟨by rw [HVb.out,k1,k2,k3];rfl,HB.out⟩
 ·rw [k1] at l1
  go_wp2
  go_ret
  exact⟨by rw [HVb.out,k1,k2,k3,k4];rfl,HB.out⟩
 ·rw [k1] at l1
  go_wp2
  go_ret
  exact⟨by rw [HVb.out,k1,k2,k3,k4,k5];rfl,HB.out⟩
 ·rw [k1] at l1
  go_wp2
  go_ret
  exact⟨by rw [HVb.out,k1,k2,k3,k4,k5,k6];rfl,HB.out⟩
 ·rw [k1] at l1
  go_wp2
  go_ret
  exact⟨by rw [HVb.out,k1,k2,k3,k4,k5,k6];rfl,HB.out⟩
set_option maxRecDepth 100000 in
set_option maxHeartbeats 16000000 in
theorem oValid_2_3_0 (s:St) (lv:Value) (w:World) (hr:LnRow w lv s.lines) (hw:s.who.length≤281474976710656) (hf:boundedB s=true) (hm: ¬ dueOf s<s.paid) (hs:s.status=2) (hp:s.prior=3) (g1:(s.paid==dueOf s)=false):
  Calls Tryz.prog 99 #[stV s lv] w fun e w'=>e= .returned (.bool (validB s))∧Below w.heap.size w w':=by
 have HVb:=Lib.hid (show validB s=(false&& !wholeB s.lines) by
  have h1:validB s=standB s 3:=by unfold validB;rw [hf,decide_eq_true (by omega),hs,hp];rfl
  have h2:(s.paid==dueOf s&&decide (0<s.paid))=false:=by rw [g1];rfl
  rw [h1];unfold standB;rw [h2];rfl)
 have hbp:=bounded_p hf
 have HBO:=Lib.hid (stBO (lv:=lv) hf hw)
 obtain⟨D,hD⟩: ∃ D,D=dueOf s:=⟨_,rfl⟩
 have HDU:=Lib.hid (stDU (lv:=lv) hD hbp)
 have HH:=Lib.hid (stHH hr)
 have HSH:=Lib.hid (stSH s lv)
 obtain⟨nB,hnB⟩: ∃ x,x=noneB s.lines:=⟨_,rfl⟩
 obtain⟨wB,hwB⟩: ∃ x,x=wholeB s.lines:=⟨_,rfl⟩
 rw [←hnB,←hwB] at HSH
 rw [←hD] at hm g1
 rw [←hwB] at HVb
 have d1:decide (D<s.paid)=false:=decide_eq_false hm
 have hm2:s.paid≤D:=by omega
 have HS:=Lib.hid hs
 have HP:=Lib.hid hp
 obtain⟨oa,cap,hlv,_,_,_⟩:=hr.shape
 have HLV:=Lib.hid hlv
 clear hr hw hf hbp hD hm hs hp hnB hwB hlv
 go_enter Tryz.func99,Tryz.ntmps99
 go_wp2
 refine wp_region_held_drew (S:=fun w'=>StBlk w' w.heap.size s lv∧LnRow w' lv s.lines∧Below w.heap.size w w') (by kernel_rfl) HH.out (fun hHeld=> ?_)
 refine tst 0 (fun _ h=>h.1) ?_
 simp only [pA,pB,pC,pD]
 refine wpAnyH_ready (rs:=[1]) (by kernel_rfl) (by simp) ?_
 refine AllReadyH.cons rfl (fun K hK=> ?_) AllReadyH.nil
 go_simp
 go_at_call 121
 obtain⟨hSt,hLn,hBe⟩:=hHeld
 refine(HBO.out _ hLn).mono ?_
 rintro x w1 ⟨rfl,hb⟩
 go_wp2_with fail
 refine hK.out _ _ ⟨hSt.below hb,hLn.below hb,Below.next hBe hb⟩ (fun hHeld=> ?_)
 clear hK K hSt hLn hBe hb
 refine tf stF 2 rfl ?_
 refine tf stF 3 rfl ?_
 refine tf stF 4 rfl ?_
 refine tf stF 5 rfl ?_
 refine tst 6 (fun _ h=>h.1) ?_
 simp only [pA,pB,pC,pD]
 refine wpAnyH_ready (rs:=[7]) (by kernel_rfl) (by simp) ?_
 refine AllReadyH.cons rfl (fun K hK=> ?_) AllReadyH.nil
 go_simp
 go_at_call 122
 obtain⟨hSt,hLn,hBe⟩:=hHeld
 refine(HDU.out _ hLn).mono ?_
 rintro x w2 ⟨rfl,hb⟩
 go_wp2_with fail
 refine hK.out _ _ ⟨hSt.below hb,hLn.below hb,Below.next hBe hb⟩ (fun hHeld=> ?_)
 clear hK K hSt hLn hBe hb
 refine tf stF 8 rfl ?_
 refine tf stF 9 rfl ?_
 refine wpAnyH_done (by kernel_rfl) ?_ _
 have c1:w2.cell? ⟨w.heap.size,1,none⟩=some (.int .i64 2):=by rw [hHeld.1.cell 1,stCs,HS.out];rfl
 have c2:w2.cell? ⟨w.heap.size,2,none⟩=some (.int .i64 3):=by rw [hHeld.1.cell 2,stCs,HP.out];rfl
 have HE:=Lib.hid hHeld
 clear hHeld HBO HH
 go_wp2_with (first
  | (with_reducible refine wpList_load_st rfl (.tmp 1) rfl w.heap.size s lv rfl HE.out.1 ?_)
  | (go_at_call 123;refine(HSH.out _ HE.out.2.1).mono ?_;rintro x w3 ⟨rfl,hb⟩;have HE3:=Lib.hid (show StBlk w3 w.heap.size s lv∧LnRow w3 lv s.lines∧Below w.heap.size w w3 from⟨HE.out.1.below hb,HE.out.2.1.below hb,Below.next HE.out.2.2 hb⟩);clear hb))
 clear c1 c2 HE HSH
 refine wp_region_held_drew (S:=fun w'=>StBlk w' w.heap.size s lv∧LnRow w' lv s.lines∧Below w.heap.size w w') (by kernel_rfl) ⟨HE3.out.1,HE3.out.2.1,Below.next HE3.out.2.2 (below_drewN' _ 1)⟩ (fun hHeld=> ?_)
 refine tf stF 0 rfl ?_
 refine tf stF 1 rfl ?_
 refine tst 2 (fun _ h=>h.1) ?_
 simp only [pA,pB,pC,pD]
 refine wpAnyH_ready (rs:=[3]) (by kernel_rfl) (by simp) ?_
 refine AllReadyH.cons rfl (fun K hK=> ?_) AllReadyH.nil
 go_simp
 go_at_call 122
 obtain⟨hSt,hLn,hBe⟩:=hHeld
 refine(HDU.out _ hLn).mono ?_
 rintro x w4 ⟨rfl,hb⟩
 go_wp2_with fail
 refine hK.out _ _ ⟨hSt.below hb,hLn.below hb,Below.next hBe hb⟩ (fun hHeld=> ?_)
 clear hK K hSt hLn hBe hb
 refine tf stF 4 rfl ?_
 refine tf stF 5 rfl ?_
 refine tkn 6 rfl ?_
 simp only [pA,pB,pC,pD]
 refine tkn 7 rfl ?_
 simp only [pA,pB,pC,pD]
 refine tkn 8 rfl ?_
 simp only [pA,pB,pC,pD]
 refine tf stF 9 rfl ?_
 refine tf stF 10 rfl ?_
 refine wpAnyH_done (by kernel_rfl) ?_ _
 have HB:=Lib.hid hHeld.2.2
 have d3:w4.cell? ⟨w.heap.size,3,none⟩=some (.int .i64 s.cur):=hHeld.1.cell 3
 have d4:w4.cell? ⟨w.heap.size,4,none⟩=some (.int .i64 s.tax):=hHeld.1.cell 4
 have d5:w4.cell? ⟨w.heap.size,5,none⟩=some (.slice oa s.lines.length cap):=by rw [hHeld.1.cell 5,stCs,HLV.out];rfl
 have d7:w4.cell? ⟨w.heap.size,7,none⟩=some (.int .i64 s.refunded):=hHeld.1.cell 7
 have d8:w4.cell? ⟨w.heap.size,8,none⟩=some (.int .i64 s.events):=hHeld.1.cell 8
 have d9:w4.cell? ⟨w.heap.size,9,none⟩=some (.int .i64 s.refused):=hHeld.1.cell 9
 have d10:w4.cell? ⟨w.heap.size,10,none⟩=some (.int .i64 s.stamp):=hHeld.1.cell 10
 have d11:w4.cell? ⟨w.heap.size,11,none⟩=some (.string ⟨s.who.toArray⟩):=hHeld.1.cell 11
 clear hHeld HE3 HDU
 go_wp2
 go_ret
 exact⟨by rw [HVb.out];rfl,HB.out⟩
set_option maxRecDepth 100000 in
set_option maxHeartbeats 16000000 in
theorem oValid_2_3_1 (s:St) (lv:Value) (w:World) (hr:LnRow w lv s.lines) (hw:s.who.length≤281474976710656) (hf:boundedB s=true) (hm: ¬ dueOf s<s.paid) (hs:s.status=2) (hp:s.prior=3) (g1:(s.paid==dueOf s)=true) (g3:decide (0<s.paid)=false):
  Calls Tryz.prog 99 #[stV s lv] w fun e w'=>e= .returned (.bool (validB s))∧Below w.heap.size w w':=by
 have HVb:=Lib.hid (show validB s=(false&& !wholeB s.lines) by
  have h1:validB s=standB s 3:=by unfold validB;rw [hf,decide_eq_true (by omega),hs,hp];rfl
  have h2:(s.paid==dueOf s&&decide (0<s.paid))=false:=by rw [g1,g3];rfl
  rw [h1];unfold standB;rw [h2];rfl)
 have hbp:=bounded_p hf
 have HBO:=Lib.hid (stBO (lv:=lv) hf hw)
 obtain⟨D,hD⟩: ∃ D,D=dueOf s:=⟨_,rfl⟩
 have HDU:=Lib.hid (stDU (lv:=lv) hD hbp)
 have HH:=Lib.hid (stHH hr)
 have HSH:=Lib.hid (stSH s lv)
 obtain⟨nB,hnB⟩: ∃ x,x=noneB s.lines:=⟨_,rfl⟩
 obtain⟨wB,hwB⟩: ∃ x,x=wholeB s.lines:=⟨_,rfl⟩
 rw [←hnB,←hwB] at HSH
 rw [←hD] at hm g1
 rw [←hwB] at HVb
 have d1:decide (D<s.paid)=false:=decide_eq_false hm
 have hm2:s.paid≤D:=by omega
 have HS:=Lib.hid hs
 have HP:=Lib.hid hp
 obtain⟨oa,cap,hlv,_,_,_⟩:=hr.shape
 have HLV:=Lib.hid hlv
 clear hr hw hf hbp hD hm hs hp hnB hwB hlv
 go_enter Tryz.func99,Tryz.ntmps99
 go_wp2
 refine wp_region_held_drew (S:=fun w'=>StBlk w' w.heap.size s lv∧LnRow w' lv s.lines∧Below w.heap.size w w') (by kernel_rfl) HH.out (fun hHeld=> ?_)
 refine tst 0 (fun _ h=>h.1) ?_
 simp only [pA,pB,pC,pD]
 refine wpAnyH_ready (rs:=[1]) (by kernel_rfl) (by simp) ?_
 refine AllReadyH.cons rfl (fun K hK=> ?_) AllReadyH.nil
 go_simp
 go_at_call 121
 obtain⟨hSt,hLn,hBe⟩:=hHeld
 refine(HBO.out _ hLn).mono ?_
 rintro x w1 ⟨rfl,hb⟩
 go_wp2_with fail
 refine hK.out _ _ ⟨hSt.below hb,hLn.below hb,Below.next hBe hb⟩ (fun hHeld=> ?_)
 clear hK K hSt hLn hBe hb
 refine tf stF 2 rfl ?_
 refine tf stF 3 rfl ?_
 refine tf stF 4 rfl ?_
 refine tf stF 5 rfl ?_
 refine tst 6 (fun _ h=>h.1) ?_
 simp only [pA,pB,pC,pD]
 refine wpAnyH_ready (rs:=[7]) (by kernel_rfl) (by simp) ?_
 refine AllReadyH.cons rfl (fun K hK=> ?_) AllReadyH.nil
 go_simp
 go_at_call 122
 obtain⟨hSt,hLn,hBe⟩:=hHeld
 refine(HDU.out _ hLn).mono ?_
 rintro x w2 ⟨rfl,hb⟩
 go_wp2_with fail
 refine hK.out _ _ ⟨hSt.below hb,hLn.below hb,Below.next hBe hb⟩ (fun hHeld=> ?_)
 clear hK K hSt hLn hBe hb
 refine tf stF 8 rfl ?_
 refine tf stF 9 rfl ?_
 refine wpAnyH_done (by kernel_rfl) ?_ _
 have c1:w2.cell? ⟨w.heap.size,1,none⟩=some (.int .i64 2):=by rw [hHeld.1.cell 1,stCs,HS.out];rfl
 have c2:w2.cell? ⟨w.heap.size,2,none⟩=some (.int .i64 3):=by rw [hHeld.1.cell 2,stCs,HP.out];rfl
 have HE:=Lib.hid hHeld
 clear hHeld HBO HH
 go_wp2_with (first
  | (with_reducible refine wpList_load_st rfl (.tmp 1) rfl w.heap.size s lv rfl HE.out.1 ?_)
  | (go_at_call 123;refine(HSH.out _ HE.out.2.1).mono ?_;rintro x w3 ⟨rfl,hb⟩;have HE3:=Lib.hid (show StBlk w3 w.heap.size s lv∧LnRow w3 lv s.lines∧Below w.heap.size w w3 from⟨HE.out.1.below hb,HE.out.2.1.below hb,Below.next HE.out.2.2 hb⟩);clear hb))
 clear c1 c2 HE HSH
 refine wp_region_held_drew (S:=fun w'=>StBlk w' w.heap.size s lv∧LnRow w' lv s.lines∧Below w.heap.size w w') (by kernel_rfl) ⟨HE3.out.1,HE3.out.2.1,Below.next HE3.out.2.2 (below_drewN' _ 1)⟩ (fun hHeld=> ?_)
 refine tf stF 0 rfl ?_
 refine tf stF 1 rfl ?_
 refine tst 2 (fun _ h=>h.1) ?_
 simp only [pA,pB,pC,pD]
 refine wpAnyH_ready (rs:=[3]) (by kernel_rfl) (by simp) ?_
 refine AllReadyH.cons rfl (fun K hK=> ?_) AllReadyH.nil
 go_simp
 go_at_call 122
 obtain⟨hSt,hLn,hBe⟩:=hHeld
 refine(HDU.out _ hLn).mono ?_
 rintro x w4 ⟨rfl,hb⟩
 go_wp2_with fail
 refine hK.out _ _ ⟨hSt.below hb,hLn.below hb,Below.next hBe hb⟩ (fun hHeld=> ?_)
 clear hK K hSt hLn hBe hb
 refine tf stF 4 rfl ?_
 refine tf stF 5 rfl ?_
 refine tf stF 6 rfl ?_
 refine tf stF 7 rfl ?_
 refine tf stF 8 rfl ?_
 refine tf stF 9 rfl ?_
 refine tf stF 10 rfl ?_
 refine wpAnyH_done (by kernel_rfl) ?_ _
 have HB:=Lib.hid hHeld.2.2
 have d3:w4.cell? ⟨w.heap.size,3,none⟩=some (.int .i64 s.cur):=hHeld.1.cell 3
 have d4:w4.cell? ⟨w.heap.size,4,none⟩=some (.int .i64 s.tax):=hHeld.1.cell 4
 have d5:w4.cell? ⟨w.heap.size,5,none⟩=some (.slice oa s.lines.length cap):=by rw [hHeld.1.cell 5,stCs,HLV.out];rfl
 have d7:w4.cell? ⟨w.heap.size,7,none⟩=some (.int .i64 s.refunded):=hHeld.1.cell 7
 have d8:w4.cell? ⟨w.heap.size,8,none⟩=some (.int .i64 s.events):=hHeld.1.cell 8
 have d9:w4.cell? ⟨w.heap.size,9,none⟩=some (.int .i64 s.refused):=hHeld.1.cell 9
 have d10:w4.cell? ⟨w.heap.size,10,none⟩=some (.int .i64 s.stamp):=hHeld.1.cell 10
 have d11:w4.cell? ⟨w.heap.size,11,none⟩=some (.string ⟨s.who.toArray⟩):=hHeld.1.cell 11
 clear hHeld HE3 HDU
 go_wp2
 go_ret
 exact⟨by rw [HVb.out];rfl,HB.out⟩
set_option maxRecDepth 100000 in
set_option maxHeartbeats 16000000 in
theorem oValid_2_3_2 (s:St) (lv:Value) (w:World) (hr:LnRow w lv s.lines) (hw:s.who.length≤281474976710656) (hf:boundedB s=true) (hm: ¬ dueOf s<s.paid) (hs:s.status=2) (hp:s.prior=3) (g1:(s.paid==dueOf s)=true) (g3:decide (0<s.paid)=true):
  Calls Tryz.prog 99 #[stV s lv] w fun e w'=>e= .returned (.bool (validB s))∧Below w.heap.size w w':=by
 have HVb:=Lib.hid (show validB s=(true&& !wholeB s.lines) by
  have h1:validB s=standB s 3:=by unfold validB;rw [hf,decide_eq_true (by omega),hs,hp];rfl
  have h2:(s.paid==dueOf s&&decide (0<s.paid))=true:=by rw [g1,g3];rfl
  rw [h1];unfold standB;rw [h2];rfl)
 have hbp:=bounded_p hf
 have HBO:=Lib.hid (stBO (lv:=lv) hf hw)
 obtain⟨D,hD⟩: ∃ D,D=dueOf s:=⟨_,rfl⟩
 have HDU:=Lib.hid (stDU (lv:=lv) hD hbp)
 have HH:=Lib.hid (stHH hr)
 have HSH:=Lib.hid (stSH s lv)
 obtain⟨nB,hnB⟩: ∃ x,x=noneB s.lines:=⟨_,rfl⟩
 obtain⟨wB,hwB⟩: ∃ x,x=wholeB s.lines:=⟨_,rfl⟩
 rw [←hnB,←hwB] at HSH
 rw [←hD] at hm g1
 rw [←hwB] at HVb
 have d1:decide (D<s.paid)=false:=decide_eq_false hm
 have hm2:s.paid≤D:=by omega
 have HS:=Lib.hid hs
 have HP:=Lib.hid hp
 obtain⟨oa,cap,hlv,_,_,_⟩:=hr.shape
 have HLV:=Lib.hid hlv
 clear hr hw hf hbp hD hm hs hp hnB hwB hlv
 go_enter Tryz.func99,Tryz.ntmps99
 go_wp2
 refine wp_region_held_drew (S:=fun w'=>StBlk w' w.heap.size s lv∧LnRow w' lv s.lines∧Below w.heap.size w w') (by kernel_rfl) HH.out (fun hHeld=> ?_)
 refine tst 0 (fun _ h=>h.1) ?_
 simp only [pA,pB,pC,pD]
 refine wpAnyH_ready (rs:=[1]) (by kernel_rfl) (by simp) ?_
 refine AllReadyH.cons rfl (fun K hK=> ?_) AllReadyH.nil
 go_simp
 go_at_call 121
 obtain⟨hSt,hLn,hBe⟩:=hHeld
 refine(HBO.out _ hLn).mono ?_
 rintro x w1 ⟨rfl,hb⟩
 go_wp2_with fail
 refine hK.out _ _ ⟨hSt.below hb,hLn.below hb,Below.next hBe hb⟩ (fun hHeld=> ?_)
 clear hK K hSt hLn hBe hb
 refine tf stF 2 rfl ?_
 refine tf stF 3 rfl ?_
 refine tf stF 4 rfl ?_
 refine tf stF 5 rfl ?_
 refine tst 6 (fun _ h=>h.1) ?_
 simp only [pA,pB,pC,pD]
 refine wpAnyH_ready (rs:=[7]) (by kernel_rfl) (by simp) ?_
 refine AllReadyH.cons rfl (fun K hK=> ?_) AllReadyH.nil
 go_simp
 go_at_call 122
 obtain⟨hSt,hLn,hBe⟩:=hHeld
 refine(HDU.out _ hLn).mono ?_
 rintro x w2 ⟨rfl,hb⟩
 go_wp2_with fail
 refine hK.out _ _ ⟨hSt.below hb,hLn.below hb,Below.next hBe hb⟩ (fun hHeld=> ?_)
 clear hK K hSt hLn hBe hb
 refine tf stF 8 rfl ?_
 refine tf stF 9 rfl ?_
 refine wpAnyH_done (by kernel_rfl) ?_ _
 have c1:w2.cell? ⟨w.heap.size,1,none⟩=some (.int .i64 2):=by rw [hHeld.1.cell 1,stCs,HS.out];rfl
 have c2:w2.cell? ⟨w.heap.size,2,none⟩=some (.int .i64 3):=by rw [hHeld.1.cell 2,stCs,HP.out];rfl
 have HE:=Lib.hid hHeld
 clear hHeld HBO HH
 go_wp2_with (first
  | (with_reducible refine wpList_load_st rfl (.tmp 1) rfl w.heap.size s lv rfl HE.out.1 ?_)
  | (go_at_call 123;refine(HSH.out _ HE.out.2.1).mono ?_;rintro x w3 ⟨rfl,hb⟩;have HE3:=Lib.hid (show StBlk w3 w.heap.size s lv∧LnRow w3 lv s.lines∧Below w.heap.size w w3 from⟨HE.out.1.below hb,HE.out.2.1.below hb,Below.next HE.out.2.2 hb⟩);clear hb))
 clear c1 c2 HE HSH
 refine wp_region_held_drew (S:=fun w'=>StBlk w' w.heap.size s lv∧LnRow w' lv s.lines∧Below w.heap.size w w') (by kernel_rfl) ⟨HE3.out.1,HE3.out.2.1,Below.next HE3.out.2.2 (below_drewN' _ 1)⟩ (fun hHeld=> ?_)
 refine tf stF 0 rfl ?_
 refine tf stF 1 rfl ?_
 refine tst 2 (fun _ h=>h.1) ?_
 simp only [pA,pB,pC,pD]
 refine wpAnyH_ready (rs:=[3]) (by kernel_rfl) (by simp) ?_
 refine AllReadyH.cons rfl (fun K hK=> ?_) AllReadyH.nil
 go_simp
 go_at_call 122
 obtain⟨hSt,hLn,hBe⟩:=hHeld
 refine(HDU.out _ hLn).mono ?_
 rintro x w4 ⟨rfl,hb⟩
 go_wp2_with fail
 refine hK.out _ _ ⟨hSt.below hb,hLn.below hb,Below.next hBe hb⟩ (fun hHeld=> ?_)
 clear hK K hSt hLn hBe hb
 refine tf stF 4 rfl ?_
 refine tf stF 5 rfl ?_
 refine tf stF 6 rfl ?_
 refine tf stF 7 rfl ?_
 refine tf stF 8 rfl ?_
 refine tf stF 9 rfl ?_
 refine tf stF 10 rfl ?_
 refine wpAnyH_done (by kernel_rfl) ?_ _
 have HB:=Lib.hid hHeld.2.2
 have d3:w4.cell? ⟨w.heap.size,3,none⟩=some (.int .i64 s.cur):=hHeld.1.cell 3
 have d4:w4.cell? ⟨w.heap.size,4,none⟩=some (.int .i64 s.tax):=hHeld.1.cell 4
 have d5:w4.cell? ⟨w.heap.size,5,none⟩=some (.slice oa s.lines.length cap):=by rw [hHeld.1.cell 5,stCs,HLV.out];rfl
 have d7:w4.cell? ⟨w.heap.size,7,none⟩=some (.int .i64 s.refunded):=hHeld.1.cell 7
 have d8:w4.cell? ⟨w.heap.size,8,none⟩=some (.int .i64 s.events):=hHeld.1.cell 8
 have d9:w4.cell? ⟨w.heap.size,9,none⟩=some (.int .i64 s.refused):=hHeld.1.cell 9
 have d10:w4.cell? ⟨w.heap.size,10,none⟩=some (.int .i64 s.stamp):=hHeld.1.cell 10
 have d11:w4.cell? ⟨w.heap.size,11,none⟩=some (.string ⟨s.who.toArray⟩):=hHeld.1.cell 11
 clear hHeld HE3 HDU
 cases wB
 ·skip
  go_wp2
  go_ret
  exact⟨by rw [HVb.out];rfl,HB.out⟩
 ·skip
  go_wp2
  go_ret
  exact⟨by rw [HVb.out];rfl,HB.out⟩
end Go.Proofs.YtcglcphhfmkccaaGreatDoor
namespace Go.Proofs.YtcglcphhfmkccaaGreatDoor
open Go.RowKit
theorem oValid_any (s:St) (lv:Value) (w:World) (hr:LnRow w lv s.lines) (hw:s.who.length≤281474976710656):
  Calls Tryz.prog 99 #[stV s lv] w fun e w'=>e= .returned (.bool (validB s))∧Below w.heap.size w w':=by
 cases hf:boundedB s
 case false=>exact oValid_out s lv w hr hw hf
 case true=>
 by_cases hm:dueOf s<s.paid
 ·exact oValid_much s lv w hr hw hf hm
 have hst:=(bounded_p hf).status
 have h7:(s.status=2∧s.prior≠1∧s.prior≠3)∨(s.status≠2∧s.prior≠0)∨(s.status=2∧s.prior=1)∨(s.status=2∧s.prior=3)∨(s.status=0∧s.prior=0)∨(s.status=1∧s.prior=0)∨(s.status=3∧s.prior=0)∨(s.status=4∧s.prior=0)∨(s.status=5∧s.prior=0):=by omega
 rcases h7 with⟨hs,hp1,hp3⟩ | ⟨hs,hp⟩ | ⟨hs,hp⟩ | ⟨hs,hp⟩ | ⟨hs,hp⟩ | ⟨hs,hp⟩ | ⟨hs,hp⟩ | ⟨hs,hp⟩ | ⟨hs,hp⟩
 ·exact oValid_held s lv w hr hw hf hm hs hp1 hp3
 ·exact oValid_prior s lv w hr hw hf hm hs hp
 ·rcases fullWays s.paid (dueOf s) with⟨g1,_⟩ | ⟨g1,g3,_⟩ | ⟨g1,g3,_⟩
  ·exact oValid_2_1_0 s lv w hr hw hf hm hs hp g1
  ·exact oValid_2_1_1 s lv w hr hw hf hm hs hp g1 g3
  ·exact oValid_2_1_2 s lv w hr hw hf hm hs hp g1 g3
 ·rcases fullWays s.paid (dueOf s) with⟨g1,_⟩ | ⟨g1,g3,_⟩ | ⟨g1,g3,_⟩
  ·exact oValid_2_3_0 s lv w hr hw hf hm hs hp g1
  ·exact oValid_2_3_1 s lv w hr hw hf hm hs hp g1 g3
  ·exact oValid_2_3_2 s lv w hr hw hf hm hs hp g1 g3
 ·rcases fullWays s.paid (dueOf s) with⟨g1,_⟩ | ⟨g1,g3,_⟩ | ⟨g1,g3,_⟩
  ·exact oValid_0_0_0 s lv w hr hw hf hm hs hp g1
  ·exact oValid_0_0_1 s lv w hr hw hf hm hs hp g1 g3
  ·exact oValid_0_0_2 s lv w hr hw hf hm hs hp g1 g3
 ·rcases fullWays s.paid (dueOf s) with⟨g1,_⟩ | ⟨g1,g3,_⟩ | ⟨g1,g3,_⟩
  ·exact oValid_1_0_0 s lv w hr hw hf hm hs hp g1
  ·exact oValid_1_0_1 s lv w hr hw hf hm hs hp g1 g3
  ·exact oValid_1_0_2 s lv w hr hw hf hm hs hp g1 g3
 ·rcases fullWays s.paid (dueOf s) with⟨g1,_⟩ | ⟨g1,g3,_⟩ | ⟨g1,g3,_⟩
  ·exact oValid_3_0_0 s lv w hr hw hf hm hs hp g1
  ·exact oValid_3_0_1 s lv w hr hw hf hm hs hp g1 g3
  ·exact oValid_3_0_2 s lv w hr hw hf hm hs hp g1 g3
 ·rcases fullWays s.paid (dueOf s) with⟨g1,_⟩ | ⟨g1,g3,_⟩ | ⟨g1,g3,_⟩
  ·exact oValid_4_0_0 s lv w hr hw hf hm hs hp g1
  ·exact oValid_4_0_1 s lv w hr hw hf hm hs hp g1 g3
  ·exact oValid_4_0_2 s lv w hr hw hf hm hs hp g1 g3
 ·rcases fullWays s.paid (dueOf s) with⟨g1,_⟩ | ⟨g1,g3,_⟩ | ⟨g1,g3,_⟩
  ·exact oValid_5_0_0 s lv w hr hw hf hm hs hp g1
  ·exact oValid_5_0_1 s lv w hr hw hf hm hs hp g1 g3
  ·exact oValid_5_0_2 s lv w hr hw hf hm hs hp g1 g3
end Go.Proofs.YtcglcphhfmkccaaGreatDoor

namespace Go.Proofs.YtcglcphhfmkccaaGreatDoor
open Go.RowKit
def chL (c:Nat→Nat) (al:Nat) (l:Array Bool) (i:Nat) (b:Bool):Array Bool:=
 let x:=(List.range i).foldl (fun l k=>l.setIfInBounds (c k) true) l
 if b then x.setIfInBounds al true else x
def chT (d:Nat→Nat) (v:Nat→Value) (da:Nat) (t:Array Value) (i:Nat) (o:Option Nat):Array Value:=
 let x:=(List.range i).foldl (fun t k=>t.setIfInBounds (d k) (v k)) t
 match o with
 | none=>x
 | some g=>x.setIfInBounds da (.pointer (some ⟨g,0,none⟩))
def chA (d:Nat→Nat) (v:Nat→Value) (da:Nat) (a:Act) (i:Nat) (o:Option Nat):Act:={a with tmps:=chT d v da a.tmps i o}
theorem chL_call {c:Nat→Nat} {al:Nat} {l:Array Bool} {i:Nat} {b:Bool} (h:c i≠al):(chL c al l i b).setIfInBounds (c i) true=chL c al l (i+1) b:=by
 unfold chL
 rw [List.range_succ,List.foldl_append]
 cases b
 ·rfl
 ·simp only [if_true,List.foldl_cons,List.foldl_nil]
  rw [Array.setIfInBounds_comm _ _ (Ne.symm h)]
theorem chL_alloc {c:Nat→Nat} {al:Nat} {l:Array Bool} {i:Nat}:(chL c al l i false).setIfInBounds al true=chL c al l i true:=rfl
theorem chA_call {d:Nat→Nat} {v:Nat→Value} {da:Nat} {a:Act} {i:Nat} {o:Option Nat} (h:d i≠da):(chA d v da a i o).put (some (d i)) (v i)=chA d v da a (i+1) o:=by
 unfold chA chT
 rw [List.range_succ,List.foldl_append]
 cases o with
 | none=>rfl
 | some g=>
  show ({a with tmps:=_}:Act)=_
  simp only [List.foldl_cons,List.foldl_nil]
  rw [Array.setIfInBounds_comm _ _ (Ne.symm h)]
theorem chA_alloc {d:Nat→Nat} {v:Nat→Value} {da:Nat} {a:Act} {i g:Nat}:(chA d v da a i none).put (some da) (.pointer (some ⟨g,0,none⟩))=chA d v da a i (some g):=rfl
section
variable {P : Program} {ops : Array Oper} {Q : Exit → Act → World → Prop} {md : Region.Mode} {S : World → Prop}
theorem wp_chain (n al:Nat) (c d:Nat→Nat) (v:Nat→Value) (da:Nat) (Inv:Nat→Option Nat→World→Prop) {l:Array Bool} {a:Act} (fuel:Nat)
  (hF: ∀ i,i<n→Region.ready md ops (chL c al l i false)=[c i,al]) (hT: ∀ i,i<n→Region.ready md ops (chL c al l i true)=[c i])
  (hc: ∀ i,i<n→c i≠al∧d i≠da) (hS: ∀ i o w,Inv i o w→S w)
  (hcall: ∀ i,i<n→ ∀ o w,Inv i o w→ ∀ K:Act→World→Prop,(∀ w',Inv (i+1) o w'→K ((chA d v da a i o).put (some (d i)) (v i)) w')→wpOp P ops Q (c i) K (chA d v da a i o) w)
  (hal: ∀ i,i<n→ ∀ w,Inv i none w→ ∀ K:Act→World→Prop,(∀ g w',Inv i (some g) w'→K ((chA d v da a i none).put (some da) (.pointer (some ⟨g,0,none⟩))) w')→wpOp P ops Q al K (chA d v da a i none) w)
  (hend: ∀ g w,Inv n (some g) w→wpAnyH P md ops Q S fuel (chL c al l n true) (chA d v da a n (some g)) w)
  (hend0: ∀ w,Inv n none w→wpAnyH P md ops Q S (fuel+1) (chL c al l n false) (chA d v da a n none) w):
  ∀ (j i:Nat) (w:World),i+j=n→(∀ g,Inv i (some g) w→wpAnyH P md ops Q S (fuel+j) (chL c al l i true) (chA d v da a i (some g)) w)∧(Inv i none w→wpAnyH P md ops Q S (fuel+j+1) (chL c al l i false) (chA d v da a i none) w)
 | 0,i,w,h=>by
  obtain rfl:i=n:=h
  exact⟨fun g hg=>hend g w hg,fun hi=>hend0 w hi⟩
 | j+1,i,w,h=>by
  have hi:i<n:=by omega
  refine⟨fun g hg=> ?_,fun hg=> ?_⟩
  ·refine wpAnyH_ready (fuel:=fuel+j) (hT i hi) (by simp) fun k hk=> ?_
   simp only [List.mem_singleton] at hk
   subst hk
   refine hcall i hi _ w hg _ fun w' hg'=>⟨hS _ _ _ hg',?_⟩
   rw [chA_call (hc i hi).2,chL_call (hc i hi).1]
   exact(wp_chain n al c d v da Inv fuel hF hT hc hS hcall hal hend hend0 j (i+1) w' (by omega)).1 g hg'
  ·refine wpAnyH_ready (fuel:=fuel+(j+1)) (hF i hi) (by simp) fun k hk=> ?_
   simp only [List.mem_cons,List.not_mem_nil,or_false] at hk
   rcases hk with rfl | hk
   ·refine hcall i hi _ w hg _ fun w' hg'=>⟨hS _ _ _ hg',?_⟩
    rw [chA_call (hc i hi).2,chL_call (hc i hi).1]
    exact(wp_chain n al c d v da Inv fuel hF hT hc hS hcall hal hend hend0 j (i+1) w' (by omega)).2 hg'
   ·rw [hk]
    refine hal i hi w hg _ fun g w' hg'=>⟨hS _ _ _ hg',?_⟩
    rw [chA_alloc,chL_alloc]
    refine wpAnyH_ready (fuel:=fuel+j) (hT i hi) (by simp) fun k hk=> ?_
    simp only [List.mem_singleton] at hk
    subst hk
    refine hcall i hi _ w' hg' _ fun w'' hg''=>⟨hS _ _ _ hg'',?_⟩
    rw [chA_call (hc i hi).2,chL_call (hc i hi).1]
    exact(wp_chain n al c d v da Inv fuel hF hT hc hS hcall hal hend hend0 j (i+1) w'' (by omega)).1 g hg''
theorem wp_chain0 (n al:Nat) (c d:Nat→Nat) (v:Nat→Value) (da:Nat) (Inv:Nat→Option Nat→World→Prop) {l:Array Bool} {a:Act} {w:World} (fuel:Nat)
  (hF:(List.range n).all (fun i=>Region.ready md ops (chL c al l i false)== [c i,al])=true) (hT:(List.range n).all (fun i=>Region.ready md ops (chL c al l i true)== [c i])=true)
  (hc:(List.range n).all (fun i=>decide (c i≠al)&&decide (d i≠da))=true) (hS: ∀ i o w,Inv i o w→S w)
  (hcall: ∀ i,i<n→ ∀ o w,Inv i o w→ ∀ K:Act→World→Prop,(∀ w',Inv (i+1) o w'→K ((chA d v da a i o).put (some (d i)) (v i)) w')→wpOp P ops Q (c i) K (chA d v da a i o) w)
  (hal: ∀ i,i<n→ ∀ w,Inv i none w→ ∀ K:Act→World→Prop,(∀ g w',Inv i (some g) w'→K ((chA d v da a i none).put (some da) (.pointer (some ⟨g,0,none⟩))) w')→wpOp P ops Q al K (chA d v da a i none) w)
  (hend: ∀ g w,Inv n (some g) w→wpAnyH P md ops Q S fuel (chL c al l n true) (chA d v da a n (some g)) w)
  (hend0: ∀ w,Inv n none w→wpAnyH P md ops Q S (fuel+1) (chL c al l n false) (chA d v da a n none) w)
  (h0:Inv 0 none w):wpAnyH P md ops Q S (fuel+n+1) l a w:=by
 have g1: ∀ i,i<n→Region.ready md ops (chL c al l i false)=[c i,al]:=fun i hi=>by
  have:=List.all_eq_true.1 hF i (List.mem_range.2 hi)
  simpa using this
 have g2: ∀ i,i<n→Region.ready md ops (chL c al l i true)=[c i]:=fun i hi=>by
  have:=List.all_eq_true.1 hT i (List.mem_range.2 hi)
  simpa using this
 have g3: ∀ i,i<n→c i≠al∧d i≠da:=fun i hi=>by
  have:=List.all_eq_true.1 hc i (List.mem_range.2 hi)
  simpa using this
 exact(wp_chain n al c d v da Inv fuel g1 g2 g3 hS hcall hal hend hend0 n 0 w (by omega)).2 h0
end
end Go.Proofs.YtcglcphhfmkccaaGreatDoor

namespace Go.Proofs.YtcglcphhfmkccaaGreatDoor
open Go.RowKit Go.Maps
set_option maxRecDepth 100000 in
theorem numC_any (w:World) (c r m:Nat) (bad k:Int) (xs:List (Fld×Value)) (hc:w.heap[c]? =some (.cells #[.pointer (some ⟨r,0,none⟩)] 170 (0,0))) (h:RdAt w r m bad xs) (hk:0≤k∧k≤1000):
  Calls Tryz.prog 93 #[.int .i64 k,.pointer (some ⟨c,0,none⟩)] w fun e w'=>e= .returned (.int .i64 (smallV (takeP xs bad k false).1.1.num))∧RdAt w' r m (takeP xs bad k false).2.2 (takeP xs bad k false).2.1∧Turned (fun j=>j=r∨j=m) w w':=by
 have HN:=Lib.hid (rdNum_any w r m bad k xs h hk)
 have c0:w.cell? ⟨c,0,none⟩=some (.pointer (some ⟨r,0,none⟩)):=by simp [World.cell?,hc]
 generalize takeP xs bad k false=y at*
 clear h hk hc
 go_enter Tryz.func93,Tryz.ntmps93
 go_wp2_with fail
 refine HN.out.mono ?_
 rintro e w1 ⟨rfl,h1,h2⟩
 go_wp2_with fail
 refine(small_any _ _).mono ?_
 rintro e w2 ⟨rfl,rfl⟩
 go_wp2
 go_ret
 exact⟨rfl,h1,h2⟩
def rdS (xs:List (Fld×Value)):Nat→List (Fld×Value)×Int
 | 0=>(xs,0)
 | i+1=>(takeP (rdS xs i).1 (rdS xs i).2 ((i:Int)+1) (decide (i=10))).2
def rdF (xs:List (Fld×Value)) (i:Nat):Fld×Value:=(takeP (rdS xs i).1 (rdS xs i).2 ((i:Int)+1) (decide (i=10))).1
def rdV (xs:List (Fld×Value)) (i:Nat):Value:=if i=10 then (rdF xs i).2 else .int .i64 (smallV (rdF xs i).1.num)
theorem rdS_sub (xs:List (Fld×Value)): ∀ i,∀ x∈(rdS xs i).1,x∈xs
 | 0=>fun _ h=>h
 | i+1=>fun x hx=>by
  rw [rdS] at hx
  refine rdS_sub xs i x ?_
  unfold takeP at hx
  split at hx
  ·exact hx
  ·split at hx
   ·exact(List.mem_filter.1 hx).1
   ·exact(List.mem_filter.1 hx).1
def nmX (xs:List (Fld×Value)) (i:Nat):Int:=smallV (rdF xs i).1.num
def whoX (xs:List (Fld×Value)):List UInt8:=(rdF xs 10).1.data
@[reducible] def stX (f : Nat → Int) (ls : List Ln) (who : List UInt8) : St := ⟨f 0, f 1, f 2, f 3, f 4, ls, f 5, f 6, f 7, f 8, f 9, who⟩
theorem stCs_size (s:St) (lv:Value):(stCs s lv).size=12:=rfl
theorem stCs_X (f:Nat→Int) (who:List UInt8):stCs (stX f [] who) (.slice none 0 0)= #[.int .i64 (f 0),.int .i64 (f 1),.int .i64 (f 2),.int .i64 (f 3),.int .i64 (f 4),.slice none 0 0,.int .i64 (f 5),.int .i64 (f 6),.int .i64 (f 7),.int .i64 (f 8),.int .i64 (f 9),.string ⟨who.toArray⟩]:=rfl
theorem stOf_X (f:Nat→Int) (ls:List Ln) (who:List UInt8):stOf ((List.range 10).map f) ls who=stX f ls who:=rfl
def fstQ (s:List (Fld×Value)×Int):List Fld×Int:=(s.1.map (·.1),s.2)
theorem linesQ_start (s:List (Fld×Value)×Int):linesQ 16 12 (fstQ s) true []=linesQ (16 - 0) (12+((0:Nat):Int)) (fstQ (s.1,s.2)) true []:=rfl
theorem linesQ_out (k:Int) (q:List Fld×Int) (ok:Bool) (ls:List Ln):linesQ (16 - 16) k q ok ls=(ls,ok,q):=rfl
theorem takeQ_S (xs:List (Fld×Value)) (i:Nat) (k:Int) (hk:k=(i:Int)+1):takeQ (fstQ (rdS xs i)) k (decide (i=10))=((rdF xs i).1,fstQ (rdS xs (i+1))):=by
 subst hk
 exact takeP_Q _ _ _ _
theorem numsQ_S (xs:List (Fld×Value)): ∀ (n i:Nat) (k:Int) (vs:List Int),i+n=10→k=(i:Int)+1→
  numsQ n k (fstQ (rdS xs i)) vs=(vs++(List.range' i n).map (fun i=>smallV (rdF xs i).1.num),fstQ (rdS xs 10))
 | 0,i,k,vs,h,hk=>by obtain rfl:i=10:=h;simp [numsQ]
 | n+1,i,k,vs,h,hk=>by
  have ht:=takeQ_S xs i k hk
  rw [show decide (i=10)=false by simp;omega] at ht
  rw [numsQ]
  unfold numQ
  rw [ht]
  rw [numsQ_S xs n (i+1) (k+1) _ (by omega) (by omega)]
  rw [List.range'_succ]
  simp
theorem decSt_S {b:List UInt8} {xs:List (Fld×Value)} (h0:(tlvDec b).1=0) (hx:xs.map (·.1)=(tlvDec b).2) {ls:List Ln} {ok:Bool} {q:List Fld×Int} (hl:linesQ 16 12 (fstQ (rdS xs 11)) true []=(ls,ok,q)):
  decSt b=if errQ q≠0 then (stNone,errQ q)
   else if ok&&validB (stX (nmX xs) ls (whoX xs)) then (stX (nmX xs) ls (whoX xs),0) else (stNone,40):=by
 have h1:=numsQ_S xs 10 0 1 [] rfl rfl
 have e1:fstQ (rdS xs 0)=((tlvDec b).2,0):=by rw [←hx];rfl
 rw [e1,List.nil_append,←List.range_eq_range'] at h1
 have h2:=takeQ_S xs 10 11 rfl
 rw [show decide (10=10)=true from rfl] at h2
 rw [←stOf_X]
 unfold decSt
 rw [if_neg (fun h=>h h0)]
 simp only [h1,h2,hl]
 rfl
theorem fldV_data (b:List UInt8) (p last:Nat):(fldV b p last).2.1.data.length≤200:=by
 unfold fldV
 dsimp only
 repeat' split
 all_goals first
  | exact Nat.zero_le _
  | (simp only [List.length_take];omega)
theorem tlvGo_data (b:List UInt8): ∀ (n p last:Nat) (fs:List Fld),(∀ f∈fs,f.data.length≤200)→ ∀ f∈(tlvGo b n p last fs).2,f.data.length≤200
 | 0,_,_,_=>fun h=>h
 | n+1,p,last,fs=>fun h=>by
  rw [tlvGo]
  split
  ·split
   ·refine tlvGo_data b n _ _ _ fun f hf=> ?_
    rcases List.mem_append.1 hf with hf | hf
    ·exact h f hf
    ·simp at hf;subst hf;exact fldV_data b p last
   ·intro f hf;cases hf
  ·exact h
theorem tlvDec_data {b:List UInt8}: ∀ f∈(tlvDec b).2,f.data.length≤200:=by
 unfold tlvDec
 split
 ·intro f hf;cases hf
 ·exact tlvGo_data b _ _ _ _ fun f hf=>by cases hf
theorem takeP_mem (xs:List (Fld×Value)) (bad k:Int) (t:Bool):(takeP xs bad k t).1=(fld0,.slice none 0 0)∨(takeP xs bad k t).1∈xs:=by
 unfold takeP
 rcases h:xs.find? (tagIs k) with _ | x
 ·exact .inl rfl
 ·dsimp only
  split
  ·exact .inr (List.mem_of_find?_eq_some h)
  ·exact .inl rfl
theorem rdF_data {xs:List (Fld×Value)} (h: ∀ x∈xs,x.1.data.length≤200) (i:Nat):(rdF xs i).1.data.length≤200:=by
 unfold rdF
 rcases takeP_mem (rdS xs i).1 (rdS xs i).2 ((i:Int)+1) (decide (i=10)) with e | e
 ·rw [e];exact Nat.zero_le _
 ·exact h _ (rdS_sub xs i _ e)
theorem rdF_row {w:World} {rb mb:Nat} {xs:List (Fld×Value)} (h:RdAt w rb mb 0 xs) (i:Nat):BRowIn (fun j=>j≠rb∧j≠mb) w (rdF xs i).2 (rdF xs i).1.data:=by
 unfold rdF
 rcases takeP_mem (rdS xs i).1 (rdS xs i).2 ((i:Int)+1) (decide (i=10)) with e | e
 ·rw [e];exact browIn_nil _ _
 ·exact h.rows _ (rdS_sub xs i _ e)
theorem RdAt.turnedG {w w':World} {r m:Nat} {bad:Int} {xs:List (Fld×Value)} {A S:Nat→Prop} {w3:World} (h:RdAt w r m bad xs) (ht:Turned S w w') (hr:r<w3.heap.size) (hm:m<w3.heap.size) (hx: ∀ x∈xs,BRowIn (fun k=>A k∧k<w3.heap.size) w3 x.2 x.1.data) (hg: ∀ k,S k→w3.heap.size≤k):RdAt w' r m bad xs:=by
 obtain⟨D,⟨es,clock,hb,hf⟩,h2⟩:=h.map
 have hb':=(ht.block _ (Array.getElem?_eq_some_iff.1 hb).1 (fun e=>by have:=hg _ e;omega)).trans hb
 refine⟨(ht.block _ h.lt.1 (fun e=>by have:=hg _ e;omega)).trans h.blk,⟨D,⟨es,clock,hb',hf⟩,h2⟩,h.tags,fun x hxm=> ?_⟩
 obtain⟨oa,cap,e1,e2,e3⟩:=h.rows x hxm
 obtain⟨oa',cap',e1',_,e3'⟩:=hx x hxm
 rw [e1] at e1'
 simp only [Value.slice.injEq,true_and] at e1'
 obtain⟨rfl,rfl⟩:=e1'
 refine⟨oa,cap,e1,e2,fun hn=> ?_⟩
 obtain⟨b,off,rfl,ha,hc⟩:=e3 hn
 obtain⟨b',off',e,ha',_⟩:=e3' hn
 simp only [Option.some.injEq,Addr.mk.injEq,and_true] at e
 obtain⟨rfl,rfl⟩:=e
 exact⟨b,off,rfl,ha,fun i u hu=>ht.cell (hc i u hu) fun hs=>by have:=ha'.2;have:=hg _ hs;simp only at this;omega⟩
theorem takeP_sub {xs:List (Fld×Value)} {bad k:Int} {t:Bool}: ∀ x∈(takeP xs bad k t).2.1,x∈xs:=by
 intro x hx
 unfold takeP at hx
 split at hx
 ·exact hx
 ·split at hx
  ·exact(List.mem_filter.1 hx).1
  ·exact(List.mem_filter.1 hx).1
theorem rdV_num (xs:List (Fld×Value)) (i:Nat) (h:i≠10):rdV xs i= .int .i64 (nmX xs i):=by rw [rdV,if_neg h];rfl
theorem rdV_text (xs:List (Fld×Value)):rdV xs 10=(rdF xs 10).2:=by rw [rdV,if_pos rfl]
theorem conv_none {P:Program} (w:World) (src e dst:TypeId) (hs:P.underlying src=some (.slice e)) (he:P.underlying e=some (.int .u8)) (hd:P.underlying dst=some .string) (p:Option Addr) (c:Nat):(convert src dst (.slice p 0 c)).run P w= .ok (.string ByteArray.empty) w:=by
 rw [run_convert_bytes_string w src dst e _ 0 c hs he hd]
 cases p<;>simp [Conv.bytesToString,loadCells]
 all_goals rfl
theorem conv_brow {w:World} {v:Value} {l:List UInt8} (h:BRow w v l):(convert 45 9 v).run Tryz.prog w= .ok (.string ⟨l.toArray⟩) w:=by
 obtain⟨oa,cap,rfl,_,hc⟩:=h
 by_cases hl:l=[]
 ·subst hl
  exact conv_none w 45 5 9 Tryz.underlying45 Tryz.underlying5 Tryz.underlying9 oa cap
 ·obtain⟨b,off,rfl,hcell⟩:=hc hl
  have:=run_convert_bytes_arg (P:=Tryz.prog) w 45 5 Tryz.underlying45 Tryz.underlying5 b off l.length cap (l.map fun x=>(x.toNat:Int)) (by simp) (fun i hi=>by
   have h1:=hcell i l[i] (List.getElem?_eq_getElem hi)
   rw [h1]
   simp [hi]) 9 Tryz.underlying9
  have e:strOfNums (l.map fun x=>(x.toNat:Int))=⟨l.toArray⟩:=by
   unfold strOfNums
   rw [List.map_map]
   have:((fun n:Int=>UInt8.ofNat n.toNat)∘fun x:UInt8=>(x.toNat:Int))=id:=by funext x;simp
   rw [this,List.map_id]
  rw [this,e]
theorem results_st2 {fn:Func} {p q:Tmp} (h:fn.results= #[.cell p 130,.tmp q]) (tmps:Array Value) (w:World) (g:Nat) (s:St) (lv x:Value)
  (hp:tmps.getD p undef= .pointer (some ⟨g,0,none⟩)) (hq:tmps.getD q undef=x) (hE:StBlk w g s lv):(results fn tmps).run Tryz.prog w= .ok (.tuple #[stV s lv,x]) w:=by
 have hl:=run_loadVar_row (P:=Tryz.prog) w g 130 130 (stCs s lv) (0,0) _ hE Tryz.underlying130 rfl stInfo
 have hp':tmps[p]?.getD undef= .pointer (some ⟨g,0,none⟩):=by simpa using hp
 have hq':tmps[q]?.getD undef=x:=by simpa using hq
 simp [results,h,hp',hq',asAddr,hl]
 rfl
theorem wpList_load_stAt {ops:Array Oper} {rest:List Oper} {o:Oper} {a:Act} {w:World} {Q:Exit→Act→World→Prop} (hgd:o.guard=none) (x:Operand) (ho:o.op= .load 130 x)
  (b off:Nat) (s:St) (lv:Value) (hx:a.eval x= .pointer (some ⟨b,off,none⟩)) (hE:w.rangeAt b off (stCs s lv).toList)
  (h:wpList Tryz.prog ops Q rest (a.put o.dst (stV s lv)) w):wpList Tryz.prog ops Q (o::rest) a w:=
 wpList_load_mid hgd 130 x ho b off hx (stCs s lv).toList _ hE Tryz.underlying130 rfl stInfo h
theorem wpList_store_stW {ops:Array Oper} {rest:List Oper} {o:Oper} {a:Act} {w:World} {Q:Exit→Act→World→Prop} (hgd:o.guard=none) (x y:Operand) (ho:o.op= .store 130 x y)
  (g:Nat) (s s':St) (lv lv':Value) (hx:a.eval x= .pointer (some ⟨g,0,none⟩)) (hy:a.eval y=stV s' lv') (hE:StBlk w g s lv) (h1:lv'.oneCell'=true)
  (h: ∀ W,Hid (W=w.setRow g (stCs s' lv'))→wpList Tryz.prog ops Q rest (a.put o.dst undef) W):wpList Tryz.prog ops Q (o::rest) a w:=
 wpList_store_st hgd x y ho g s s' lv lv' hx hy hE h1 (h _ (Lib.hid rfl))
def StI (w3:World) (rb mb:Nat) (xs:List (Fld×Value)) (i:Nat) (o:Option Nat) (w':World):Prop:=
 RdAt w' rb mb (rdS xs i).2 (rdS xs i).1∧Turned (fun j=>j=rb∨j=mb) w3 w'∧(∀ g,o=some g→w3.heap.size≤g∧StBlk w' g stNone (.slice none 0 0))∧(i=11→BRowIn (fun j=>j≠rb∧j≠mb) w' (rdF xs 10).2 (whoX xs))
theorem StI.next {w3 w' w2:World} {rb mb i:Nat} {xs:List (Fld×Value)} {o:Option Nat} (h:StI w3 rb mb xs i o w') (hr:rb<w3.heap.size) (hm:mb<w3.heap.size) (h1:RdAt w2 rb mb (rdS xs (i+1)).2 (rdS xs (i+1)).1) (ht:Turned (fun j=>j=rb∨j=mb) w' w2)
  (hb:i+1=11→BRowIn (fun j=>j≠rb∧j≠mb) w2 (rdF xs 10).2 (whoX xs)):StI w3 rb mb xs (i+1) o w2:=
 ⟨h1,h.2.1.trans ht fun k hk=> .inl hk,fun g hg=>⟨(h.2.2.1 g hg).1,(ht.block g (h.2.2.1 g hg).2.lt (by have:=(h.2.2.1 g hg).1;omega)).trans (h.2.2.1 g hg).2⟩,hb⟩
theorem StI.alloc {w3 w':World} {rb mb i:Nat} {xs:List (Fld×Value)} (h:StI w3 rb mb xs i none w'):StI w3 rb mb xs i (some w'.heap.size) (w'.alloc (.cells (stCs stNone (.slice none 0 0)) 130)):=
 have hb:=below_alloc w' (.cells (stCs stNone (.slice none 0 0)) 130)
 ⟨h.1.below hb,h.2.1.trans (Turned.below hb) fun _ h=> .inl h,fun g hg=>by cases hg;exact⟨h.2.1.size,stBlk_alloc w' stNone (.slice none 0 0)⟩,fun e=>(h.2.2.2 e).below hb⟩
theorem rdS_text (xs:List (Fld×Value)):rdS xs 11=(takeP (rdS xs 10).1 (rdS xs 10).2 11 true).2:=by
 rw [show rdS xs 11=(takeP (rdS xs 10).1 (rdS xs 10).2 (((10:Nat):Int)+1) (decide (10=10))).2 by rw [rdS],show (((10:Nat):Int)+1)=11 from rfl,show decide (10=10)=true from rfl]
theorem rdF_text (xs:List (Fld×Value)):rdF xs 10=(takeP (rdS xs 10).1 (rdS xs 10).2 11 true).1:=by
 rw [show rdF xs 10=(takeP (rdS xs 10).1 (rdS xs 10).2 (((10:Nat):Int)+1) (decide (10=10))).1 by rw [rdF],show (((10:Nat):Int)+1)=11 from rfl,show decide (10=10)=true from rfl]
theorem numC_S {w3 w':World} {c rb mb i:Nat} {xs:List (Fld×Value)} {o:Option Nat} (hc:w3.heap[c]? =some (.cells #[.pointer (some ⟨rb,0,none⟩)] 170 (0,0))) (hcr:c≠rb∧c≠mb) (hr:rb<w3.heap.size) (hm:mb<w3.heap.size) (hi:i<10) (hI:StI w3 rb mb xs i o w') (k:Int) (hk:k=(i:Int)+1):
  Calls Tryz.prog 93 #[.int .i64 k,.pointer (some ⟨c,0,none⟩)] w' fun e w2=>e= .returned (rdV xs i)∧StI w3 rb mb xs (i+1) o w2:=by
 have hd:decide (i=10)=false:=by simp;omega
 have e1:rdS xs (i+1)=(takeP (rdS xs i).1 (rdS xs i).2 k false).2:=by rw [rdS,hd,hk]
 have e2:rdF xs i=(takeP (rdS xs i).1 (rdS xs i).2 k false).1:=by rw [rdF,hd,hk]
 have hT:=numC_any w' c rb mb (rdS xs i).2 k (rdS xs i).1 ((hI.2.1.block c (Array.getElem?_eq_some_iff.1 hc).1 (by rintro(h | h);exact hcr.1 h;exact hcr.2 h)).trans hc) hI.1 (by omega)
 rw [←e1,←e2] at hT
 refine hT.mono ?_
 rintro e w2 ⟨rfl,h1,h2⟩
 exact⟨by rw [rdV,if_neg (by omega)],hI.next hr hm h1 h2 (fun e=>by omega)⟩
theorem textC_S {w3 w':World} {rb mb:Nat} {xs:List (Fld×Value)} {o:Option Nat} (hr:rb<w3.heap.size) (hm:mb<w3.heap.size) (hI:StI w3 rb mb xs 10 o w'):
  Calls Tryz.prog 96 #[.pointer (some ⟨rb,0,none⟩),.int .i64 11] w' fun e w2=>e= .returned (rdV xs 10)∧StI w3 rb mb xs (10+1) o w2:=by
 have hT:=rdText_any w' rb mb (rdS xs 10).2 11 (rdS xs 10).1 hI.1 (by omega)
 rw [←rdS_text,←rdF_text] at hT
 refine hT.mono ?_
 rintro e w2 ⟨rfl,h0,h1,h2⟩
 exact⟨by rw [rdV,if_pos rfl],hI.next hr hm h1 h2 (fun _=>h0)⟩
theorem StI.start {w3 w':World} {rb mb:Nat} {xs:List (Fld×Value)} (h:RdAt w3 rb mb 0 xs) (hb:Below w3.heap.size w3 w'):StI w3 rb mb xs 0 none w':=
 ⟨h.below hb,Turned.below hb,(fun _ hg=>by cases hg),(fun e=>by cases e)⟩
def StDP (w:World) (r:St×Int) (e:Ending) (w':World):Prop:= ∃ lv,e= .returned (.tuple #[stV r.1 lv,.int .i64 r.2])∧OwnLn w' w.heap.size lv r.1.lines∧Below w.heap.size w w'
set_option maxRecDepth 100000 in
set_option maxHeartbeats 4000000 in
theorem canonDec_any (b:List UInt8) (v:Value) (w:World) (hv:BRow w v b) (hl:b.length≤1048576):
  Calls Tryz.prog 60 #[v] w (StDP w (decSt b)):=by
 have HB0:=Lib.hid (below_alloc w (.cells (stCs stNone (.slice none 0 0)) 130))
 have HS0:=Lib.hid (stBlk_alloc w stNone (.slice none 0 0))
 have HNR:=Lib.hid (newReader_any b v _ (hv.below HB0.out) hl)
 simp only [stCs,stNone] at HB0 HS0 HNR
 have HDS:=Lib.hid (fun(xs:List (Fld×Value)) (h0:(tlvDec b).1=0) (hx:xs.map (·.1)=(tlvDec b).2) (ls:List Ln) (ok:Bool) (q:List Fld×Int) (hl:linesQ 16 12 (fstQ (rdS xs 11)) true []=(ls,ok,q))=>decSt_S h0 hx hl)
 have HE:=Lib.hid (show ¬ (tlvDec b).1=0→decSt b=(stNone,(tlvDec b).1) from fun h=>by unfold decSt;rw [if_pos h])
 have HDAT:=Lib.hid (@tlvDec_data b)
 obtain⟨r,hr⟩: ∃ r,r=tlvDec b:=⟨_,rfl⟩
 rw [←hr] at HNR HDS HE HDAT
 clear hv hr
 obtain⟨e0,fs⟩:=r
 unfold NewRdPost at HNR
 dsimp only at HNR HDS HE HDAT
 go_enter Tryz.func60,Tryz.ntmps60
 go_wp2_with fail
 refine HNR.out.mono ?_
 rintro e w1 ⟨h1,h2,hb1⟩
 have HB1:=Lib.hid (Below.next HB0.out hb1)
 have HS1:=Lib.hid (HS0.out.below hb1)
 clear hb1 HNR HB0 HS0
 rcases he:(e0 != 0) with _ | _
 case true=>
  have he0: ¬ e0=0:=by simpa using he
  have HE2:=Lib.hid (HE.out he0)
  obtain rfl:=h1 he0
  clear h1 h2 he0 HDS HE
  have HB2:=Lib.hid (Below.next HB1.out (below_alloc w1 (.cells #[.pointer none] 170)))
  have HS2:=Lib.hid (HS1.out.below (below_alloc w1 (.cells #[.pointer none] 170)))
  go_wp2_with (with_reducible refine wpList_store_stW rfl (.tmp 2) (.tmp 21) rfl w.heap.size ⟨0,0,0,0,0,[],0,0,0,0,0,[]⟩ ⟨0,0,0,0,0,[],0,0,0,0,0,[]⟩ (.slice none 0 0) (.slice none 0 0) rfl rfl HS2.out rfl ?_)
  intro w3 hw3
  have HS3:=Lib.hid (show StBlk w3 w.heap.size stNone (.slice none 0 0) by rw [hw3.out];exact HS2.out.row)
  have HB3:=Lib.hid (show Below w.heap.size w w3 by rw [hw3.out];exact below_row HB2.out (Nat.le_refl _) _)
  clear hw3
  go_wp2
  refine bodyPost_ret (v:= .tuple #[stV stNone (.slice none 0 0),.int .i64 e0]) (results_st2 rfl _ _ w.heap.size stNone _ _ rfl rfl HS3.out) rfl ?_
  rw [HE2.out]
  exact⟨_,rfl,⟨rfl,.inl ⟨rfl,rfl⟩⟩,HB3.out⟩
 have he0:e0=0:=by simpa using he
 obtain⟨rb,mb,xs,rfl,hxs,hrd,hrb,hmb⟩:=h2 he0
 have HDS2:=Lib.hid (fun ls ok q h=>HDS.out xs he0 hxs ls ok q h)
 have HXD:=Lib.hid (fun x (hx:x∈xs)=>HDAT.out x.1 (by rw [←hxs];exact List.mem_map.2 ⟨x,hx,rfl⟩))
 have HRD:=Lib.hid hrd
 clear h1 h2 HDS HE HDAT he0 hxs hrd
 have hsz0:(w.alloc (.cells #[.int .i64 0,.int .i64 0,.int .i64 0,.int .i64 0,.int .i64 0,.slice none 0 0,.int .i64 0,.int .i64 0,.int .i64 0,.int .i64 0,.int .i64 0,.string ⟨#[]⟩] 130)).heap.size=w.heap.size+1:=World.size_alloc _ _
 rw [hsz0] at hrb hmb
 clear hsz0
 have HRL:=Lib.hid HRD.out.lt
 have hrl:=HRL.out.1
 have hml:=HRL.out.2
 have hba:=below_alloc w1 (.cells #[.pointer (some ⟨rb,0,none⟩)] 170)
 have HC2:=Lib.hid (heap_alloc_new w1 (.cells #[.pointer (some ⟨rb,0,none⟩)] 170))
 have HB2:=Lib.hid (Below.next HB1.out hba)
 have HS2:=Lib.hid (HS1.out.below hba)
 have HRD2:=Lib.hid (HRD.out.below hba)
 have hsz:(w1.alloc (.cells #[.pointer (some ⟨rb,0,none⟩)] 170)).heap.size=w1.heap.size+1:=World.size_alloc _ _
 have hw1:w.heap.size<w1.heap.size:=HS1.out.lt
 clear hba HB1 HS1 HRD HRL
 go_upto_region 5 with fail
 generalize w1.alloc (.cells #[.pointer (some ⟨rb,0,none⟩)] 170)=w3 at*
 obtain⟨c,hc⟩: ∃ c,c=w1.heap.size:=⟨_,rfl⟩
 rw [←hc] at hsz hw1 hrl hml HC2
 rw [←hc]
 clear hc
 go_cut [7] from 24 to 47 (fun p wx=> ∃ g,p= .pointer (some ⟨g,0,none⟩)∧Hid (StBlk wx g (stX (nmX xs) [] (whoX xs)) (.slice none 0 0))∧Hid (w3.heap.size≤g)∧Hid (RdAt wx rb mb (rdS xs 11).2 (rdS xs 11).1)∧Hid (Turned (fun j=>j=rb∨j=mb) w3 wx))
 case first=>
  refine wp_region_held_drew (S:=fun w'=>Turned (fun j=>j=rb∨j=mb) w3 w') (by kernel_rfl) (Turned.below (below_drewN' w3 1)) (fun hHeld=> ?_)
  refine tq 0 rfl ?_
  refine tq 2 rfl ?_
  refine tq 4 rfl ?_
  refine tq 6 rfl ?_
  refine tq 8 rfl ?_
  refine tq 10 rfl ?_
  refine tq 12 rfl ?_
  refine tq 14 rfl ?_
  refine tq 16 rfl ?_
  refine tq 18 rfl ?_
  have FX1:=Lib.hid (fun(wF:World) (hSw:(fun w'=>Turned (fun j=>j=rb∨j=mb) w3 w') wF)=>(hSw.cell (show w3.cell? ⟨c,0,none⟩=some (.pointer (some ⟨rb,0,none⟩)) by simp [World.cell?,HC2.out]) (by simp only;omega)))
  refine tf FX1 20 rfl ?_
  clear FX1
  have hbd:Below w3.heap.size w3 (World.drew w3):=below_drewN' w3 1
  have HI0:=Lib.hid (StI.start HRD2.out hbd)
  clear hbd hHeld
  generalize World.drew w3=Wd at*
  have hr3:rb<w3.heap.size:=by omega
  have HTX:=Lib.hid (rdV_text xs)
  have HBT:=Lib.hid (show BRowIn (fun j=>j≠rb∧j≠mb) w3 (rdF xs 10).2 (whoX xs) from rdF_row HRD2.out 10)
  have HRW:=Lib.hid (fun x (hx:x∈xs)=>(HRD2.out.rows x hx).low)
  have hm3:mb<w3.heap.size:=by omega
  have HCC:=Lib.hid (fun(i:Nat) (k:Int) (hi:i<10) (hk:k=(i:Int)+1) (o:Option Nat) (w':World) (hI:StI w3 rb mb xs i o w')=>numC_S HC2.out ⟨by omega,by omega⟩ hr3 hm3 hi hI k hk)
  have HCT:=Lib.hid (fun(o:Option Nat) (w':World) (hI:StI w3 rb mb xs 10 o w')=>textC_S hr3 hm3 hI)
  refine wp_chain0 11 24 (fun i=>2*i+1) (fun i=>2*i+25) (rdV xs) 7 (StI w3 rb mb xs) 3 (by kernel_rfl) (by kernel_rfl) (by decide) (fun i o w' h=>h.2.1) ?hcall ?hal ?hend ?hend0 HI0.out
  case hal=>
   intro i hi w' hI K hK
   refine wpOp_step rfl (fun K' hK'=> ?_)
   rw [if_pos (by kernel_rfl)]
   go_simp
   exact hK' _ _ (hK _ _ hI.alloc)
  case hcall=>
   intro i hi o w' hI K hK
   have HK:=Lib.hid hK
   clear hK
   by_cases h10:i<10
   ·have HC1:=Lib.hid (HCC.out i ((i:Int)+1) h10 rfl o w' hI)
    clear hI HCC HCT
    have h11:i=0∨i=1∨i=2∨i=3∨i=4∨i=5∨i=6∨i=7∨i=8∨i=9:=by omega
    rcases h11 with rfl | rfl | rfl | rfl | rfl | rfl | rfl | rfl | rfl | rfl
    all_goals
     refine wpOp_step rfl (fun K' hK'=> ?_)
     have HK':=Lib.hid hK'
     clear hK'
     rw [if_pos (by kernel_rfl)]
     cases o
     all_goals
      simp only [chA,chT,List.range_succ,List.range_zero,List.foldl_append,List.nil_append,List.foldl_cons,List.foldl_nil,pA,pB,pC,pD] at HK ⊢
      go_simp
      refine HC1.out.mono ?_
      rintro e w2 ⟨rfl,hI2⟩
      exact HK'.out _ _ (HK.out w2 hI2)
   ·obtain rfl:i=10:=by omega
    have HC1:=Lib.hid (HCT.out o w' hI)
    clear hI HCC HCT
    refine wpOp_step rfl (fun K' hK'=> ?_)
    have HK':=Lib.hid hK'
    clear hK'
    rw [if_pos (by kernel_rfl)]
    cases o
    all_goals
     simp only [chA,chT,List.range_succ,List.range_zero,List.foldl_append,List.nil_append,List.foldl_cons,List.foldl_nil,pB,pC,pD] at HK ⊢
     go_simp
     refine HC1.out.mono ?_
     rintro e w2 ⟨rfl,hI2⟩
     exact HK'.out _ _ (HK.out w2 hI2)
  case hend=>
   intro g w' hI
   have hSw0:Turned (fun j=>j=rb∨j=mb) w3 w':=hI.2.1
   have HGZ:=Lib.hid (hI.2.2.1 g rfl).2
   have hg:=(hI.2.2.1 g rfl).1
   have HRX:=Lib.hid hI.1
   clear hI
   simp only [chA,chT,List.range_succ,List.range_zero,List.foldl_append,List.nil_append,List.foldl_cons,List.foldl_nil,pB,pC,pD,HTX.out]
   have FX2:=Lib.hid (fun(wF:World) (hSw:(fun w'=>Turned (fun j=>j=rb∨j=mb) w3 w') wF)=>(conv_brow (HBT.out.turned hSw (fun k hk hs=>by rcases hs with h | h;exact hk.1 h;exact hk.2 h)).brow))
   refine tf FX2 22 rfl ?_
   clear FX2
   simp only [rdV_num xs 0 (by decide),rdV_num xs 1 (by decide),rdV_num xs 2 (by decide),rdV_num xs 3 (by decide),rdV_num xs 4 (by decide),rdV_num xs 5 (by decide),rdV_num xs 6 (by decide),rdV_num xs 7 (by decide),rdV_num xs 8 (by decide),rdV_num xs 9 (by decide)]
   refine tq 23 rfl ?_
   refine wpAnyH_ready (rs:=[25]) (by kernel_rfl) (by simp) ?_
   refine AllReadyH.cons rfl (fun K hK=> ?_) AllReadyH.nil
   rw [if_pos (by kernel_rfl)]
   refine wp_store_row 130 (.tmp 7) (.tmp 47) rfl g (stCs (stX (nmX xs) [] (whoX xs)) (.slice none 0 0)) rfl (by rw [stCs_X];rfl) 130 (stCs stNone (.slice none 0 0)) HGZ.out stInfo (by rw [stCs_size,stCs_size]) (stCs_one _ _ rfl) ?_
   have ht:Turned (fun k=>k=g) w' (w'.setRow g (stCs (stX (nmX xs) [] (whoX xs)) (.slice none 0 0))):=run_setRow_turned _ _ _
   have HG:=Lib.hid (show StBlk (w'.setRow g (stCs (stX (nmX xs) [] (whoX xs)) (.slice none 0 0))) g (stX (nmX xs) [] (whoX xs)) (.slice none 0 0) from HGZ.out.row)
   have HT:=Lib.hid (show Turned (fun j=>j=rb∨j=mb) w3 (w'.setRow g (stCs (stX (nmX xs) [] (whoX xs)) (.slice none 0 0))) from hSw0.trans ht fun i hi=> .inr (by omega))
   have HR:=Lib.hid (show RdAt (w'.setRow g (stCs (stX (nmX xs) [] (whoX xs)) (.slice none 0 0))) rb mb (rdS xs 11).2 (rdS xs 11).1 from HRX.out.turnedG ht hr3 hm3 (fun x hx=>HRW.out x (rdS_sub xs 11 x hx)) (fun k hk=>by omega))
   clear ht
   generalize w'.setRow g (stCs (stX (nmX xs) [] (whoX xs)) (.slice none 0 0))=w9 at*
   refine hK.out _ _ HT.out (fun hHeld=> ?_)
   clear hK K hHeld
   refine wpAnyH_done (by kernel_rfl) ?_ _
   go_wp2_with fail
   go_meet
   exact⟨g,rfl,HG,Lib.hid hg,HR,HT⟩
  case hend0=>
   intro w0 hI
   have hSw1:Turned (fun j=>j=rb∨j=mb) w3 w0:=hI.2.1
   have HI:=Lib.hid hI.alloc
   have hgs:w3.heap.size≤w0.heap.size:=hI.2.1.size
   clear hI
   simp only [chA,chT,List.range_succ,List.range_zero,List.foldl_append,List.nil_append,List.foldl_cons,List.foldl_nil,pB,pC,pD,HTX.out]
   have FX3:=Lib.hid (fun(wF:World) (hSw:(fun w'=>Turned (fun j=>j=rb∨j=mb) w3 w') wF)=>(conv_brow (HBT.out.turned hSw (fun k hk hs=>by rcases hs with h | h;exact hk.1 h;exact hk.2 h)).brow))
   refine tf FX3 22 rfl ?_
   clear FX3
   simp only [rdV_num xs 0 (by decide),rdV_num xs 1 (by decide),rdV_num xs 2 (by decide),rdV_num xs 3 (by decide),rdV_num xs 4 (by decide),rdV_num xs 5 (by decide),rdV_num xs 6 (by decide),rdV_num xs 7 (by decide),rdV_num xs 8 (by decide),rdV_num xs 9 (by decide)]
   refine tq 23 rfl ?_
   refine wpAnyH_ready (rs:=[24]) (by kernel_rfl) (by simp) ?_
   refine AllReadyH.cons rfl (fun K hK=> ?_) AllReadyH.nil
   go_simp
   refine hK.out _ _ HI.out.2.1 (fun hHeld=> ?_)
   clear hK K hSw1
   have HJ:=Lib.hid (show StI w3 rb mb xs 11 (some w0.heap.size) (w0.alloc (.cells #[.int .i64 0,.int .i64 0,.int .i64 0,.int .i64 0,.int .i64 0,.slice none 0 0,.int .i64 0,.int .i64 0,.int .i64 0,.int .i64 0,.int .i64 0,.string ⟨#[]⟩] 130)) from HI.out)
   clear HI
   generalize w0.alloc (.cells #[.int .i64 0,.int .i64 0,.int .i64 0,.int .i64 0,.int .i64 0,.slice none 0 0,.int .i64 0,.int .i64 0,.int .i64 0,.int .i64 0,.int .i64 0,.string ⟨#[]⟩] 130)=w' at*
   generalize w0.heap.size=g at*
   have hSw0:Turned (fun j=>j=rb∨j=mb) w3 w':=HJ.out.2.1
   have HGZ:=Lib.hid (HJ.out.2.2.1 g rfl).2
   have hg:=(HJ.out.2.2.1 g rfl).1
   have HRX:=Lib.hid HJ.out.1
   clear HJ hgs hHeld
   refine wpAnyH_ready (rs:=[25]) (by kernel_rfl) (by simp) ?_
   refine AllReadyH.cons rfl (fun K hK=> ?_) AllReadyH.nil
   rw [if_pos (by kernel_rfl)]
   refine wp_store_row 130 (.tmp 7) (.tmp 47) rfl g (stCs (stX (nmX xs) [] (whoX xs)) (.slice none 0 0)) rfl (by rw [stCs_X];rfl) 130 (stCs stNone (.slice none 0 0)) HGZ.out stInfo (by rw [stCs_size,stCs_size]) (stCs_one _ _ rfl) ?_
   have ht:Turned (fun k=>k=g) w' (w'.setRow g (stCs (stX (nmX xs) [] (whoX xs)) (.slice none 0 0))):=run_setRow_turned _ _ _
   have HG:=Lib.hid (show StBlk (w'.setRow g (stCs (stX (nmX xs) [] (whoX xs)) (.slice none 0 0))) g (stX (nmX xs) [] (whoX xs)) (.slice none 0 0) from HGZ.out.row)
   have HT:=Lib.hid (show Turned (fun j=>j=rb∨j=mb) w3 (w'.setRow g (stCs (stX (nmX xs) [] (whoX xs)) (.slice none 0 0))) from hSw0.trans ht fun i hi=> .inr (by omega))
   have HR:=Lib.hid (show RdAt (w'.setRow g (stCs (stX (nmX xs) [] (whoX xs)) (.slice none 0 0))) rb mb (rdS xs 11).2 (rdS xs 11).1 from HRX.out.turnedG ht hr3 hm3 (fun x hx=>HRW.out x (rdS_sub xs 11 x hx)) (fun k hk=>by omega))
   clear ht
   generalize w'.setRow g (stCs (stX (nmX xs) [] (whoX xs)) (.slice none 0 0))=w9 at*
   refine hK.out _ _ HT.out (fun hHeld=> ?_)
   clear hK K hHeld
   refine wpAnyH_done (by kernel_rfl) ?_ _
   go_wp2_with fail
   go_meet
   exact⟨g,rfl,HG,Lib.hid hg,HR,HT⟩
 case rest=>
  obtain⟨g,rfl,HG,hg,HR,HT⟩:=hcut
  have hgl:=hg.out
  have hgw:=HG.out.lt
  have HWH:=Lib.hid (show (whoX xs).length≤200 from rdF_data (fun x hx=>HXD.out x hx) 10)
  generalize nmX xs=nf at*
  generalize whoX xs=wh at*
  have HSW:=Lib.hid (show StBlk wc w.heap.size ⟨0,0,0,0,0,[],0,0,0,0,0,[]⟩ (.slice none 0 0) from(HT.out.block w.heap.size (by omega) (by omega)).trans HS2.out)
  have HRW:=Lib.hid (fun x (hx:x∈xs)=>(HRD2.out.rows x hx).low)
  have HCW:=Lib.hid ((HT.out.block c (by omega) (by omega)).trans HC2.out)
  have HBW:=Lib.hid (show Below w.heap.size w wc from turned_below HB2.out HT.out (fun k hk=>by omega) HB2.out.size)
  have hwc:w3.heap.size≤wc.heap.size:=HT.out.size
  have HW2:=Lib.hid (show w.heap.size<wc.heap.size by omega)
  clear hg HS2 HC2 HB2 HT
  go_wp2_with fail
  go_loopw [8,48] (fun ov iv wr=> ∃ (k:Nat) (ok:Bool) (ls:List Ln) (ys:List (Fld×Value)) (bd:Int) (lv:Value),k≤16∧iv= .int .i64 (k:Int)∧ov= .bool ok∧ls.length=k∧Hid (RdAt wr rb mb bd ys)∧Hid (∀ y∈ys,y∈xs)∧Hid (StBlk wr g (stX nf ls wh) lv)∧Hid (OwnLn wr wc.heap.size lv ls)∧Hid (linesQ 16 12 (fstQ (rdS xs 11)) true []=linesQ (16 - k) (12+(k:Int)) (fstQ (ys,bd)) ok ls)∧Hid (Turned (fun j=>j=rb∨j=mb∨j=g) wc wr)) (fun _ iv _=>16 - (intOf iv).toNat)
  case atStart=>exact⟨0,true,[],(rdS xs 11).1,(rdS xs 11).2,.slice none 0 0,by decide,rfl,rfl,rfl,HR,Lib.hid (rdS_sub xs 11),HG,Lib.hid ⟨rfl,.inl ⟨rfl,rfl⟩⟩,Lib.hid (linesQ_start _),Lib.hid (Turned.below (Below.refl _ _))⟩
  case round=>
   obtain⟨k,ok,ls,ys,bd,lv,hk,rfl,rfl,hlk,HRk,HYS,HGk,HOk,HLK,HTk⟩:=hrel
   have HSk:=Lib.hid (show StBlk wr w.heap.size ⟨0,0,0,0,0,[],0,0,0,0,0,[]⟩ (.slice none 0 0) from(HTk.out.block w.heap.size (by omega) (by omega)).trans HSW.out)
   have HCk:=Lib.hid (show wr.cell? ⟨c,0,none⟩=some (.pointer (some ⟨rb,0,none⟩)) by simp [World.cell?,(HTk.out.block c (by omega) (by omega)).trans HCW.out])
   have HBk:=Lib.hid (show Below w.heap.size w wr from turned_below HBW.out HTk.out (fun k hk=>by omega) HBW.out.size)
   by_cases hlt:k<16
   ·have q1:(k:Int)<16:=by omega
    have hk12:IntKind.i64.wrap (12+(k:Int))=12+(k:Int):=by rw [IntKind.wrap_i64];omega
    have HTX:=Lib.hid (rdText_any wr rb mb bd (12+(k:Int)) ys HRk.out (by omega))
    have HNK:=Lib.hid (show 16 - k=(16 - (k+1))+1 by omega)
    rw [HNK.out] at HLK
    have HQ:=Lib.hid (show takeQ (fstQ (ys,bd)) (12+(k:Int)) true=((takeP ys bd (12+(k:Int)) true).1.1,fstQ (takeP ys bd (12+(k:Int)) true).2) from takeP_Q ys bd _ true)
    have HEND:=Lib.hid (@linesQ_end (16 - (k+1)) (12+(k:Int)) (fstQ (ys,bd)) ok ls)
    have HGO:=Lib.hid (@linesQ_go (16 - (k+1)) (12+(k:Int)) (fstQ (ys,bd)) ok ls)
    rw [HQ.out] at HEND HGO
    have HFM:=Lib.hid (takeP_mem ys bd (12+(k:Int)) true)
    have HFS:=Lib.hid (@takeP_sub ys bd (12+(k:Int)) true)
    obtain⟨y,hy⟩: ∃ y,y=takeP ys bd (12+(k:Int)) true:=⟨_,rfl⟩
    rw [←hy] at HTX HEND HGO HFM HFS
    obtain⟨⟨f,tv⟩,zs,bd2⟩:=y
    dsimp only at HTX HEND HGO HFM HFS
    have HZS:=Lib.hid (fun z (hz:z∈zs)=>HYS.out z (HFS.out z hz))
    have hfl:f.data.length≤200:=by
     rcases HFM.out with e | e
     ·injection e with e _;rw [e];exact Nat.zero_le _
     ·exact HXD.out _ (HYS.out _ e)
    have c4:=HCk.out
    have hrw:wc.heap.size≤wr.heap.size:=HTk.out.size
    clear HQ HNK HFM HFS hy HYS
    go_wp2_with fail
    refine HTX.out.mono ?_
    rintro e w2 ⟨rfl,hbr,hrd2,ht2⟩
    have HT2:=Lib.hid (show Turned (fun j=>j=rb∨j=mb∨j=g) wc w2 from HTk.out.trans ht2 fun i hi=> .inl (by rcases hi with h | h;exact .inl h;exact .inr (.inl h)))
    have HG2:=Lib.hid (show StBlk w2 g (stX nf ls wh) lv from(ht2.block g (by omega) (by omega)).trans HGk.out)
    have HO2:=Lib.hid (show OwnLn w2 wc.heap.size lv ls from own_turned HOk.out ht2 (fun j hj=>by rcases hj with h | h<;>omega))
    have HR2:=Lib.hid hrd2
    have HBR2:=Lib.hid hbr.brow
    have h2s:=ht2.size
    obtain⟨oa,cap,hsh,_⟩:=hbr
    subst hsh
    clear ht2 hrd2 HTX HTk HGk HOk HRk HSk HCk HBk c4
    have HSk:=Lib.hid (show StBlk w2 w.heap.size ⟨0,0,0,0,0,[],0,0,0,0,0,[]⟩ (.slice none 0 0) from(HT2.out.block w.heap.size (by omega) (by omega)).trans HSW.out)
    have HCk:=Lib.hid (show w2.cell? ⟨c,0,none⟩=some (.pointer (some ⟨rb,0,none⟩)) by simp [World.cell?,(HT2.out.block c (by omega) (by omega)).trans HCW.out])
    have HBk:=Lib.hid (show Below w.heap.size w w2 from turned_below HBW.out HT2.out (fun k hk=>by omega) HBW.out.size)
    rcases hd:((f.data.length:Int)==0) with _ | _
    case true=>
     have hfe:f.data=[]:=List.eq_nil_of_length_eq_zero (by have:(f.data.length:Int)=0:=by simpa using hd
                                                           omega)
     have HLk:=Lib.hid (show linesQ 16 12 (fstQ (rdS xs 11)) true []=(ls,ok,fstQ (zs,bd2)) by rw [HLK.out];exact HEND.out hfe)
     have HGk:=HG2
     have HOk:=HO2
     have HRk:=HR2
     clear HLK HEND HGO hfe HG2 HO2 HR2
     have HDE:=Lib.hid (HDS2.out ls ok (fstQ (zs,bd2)) HLk.out)
     have HER:=Lib.hid (rdErr_any w2 rb mb bd2 zs HRk.out)
     rw [errR_Q] at HER
     rw [show errQ (zs.map (·.1),bd2)=errQ (fstQ (zs,bd2)) from rfl] at HER
     have c4:=HCk.out
     generalize errQ (fstQ (zs,bd2))=er at*
     have HWL:=Lib.hid HW2.out
     go_wp2_with fail
     refine HER.out.mono ?_
     rintro e w9 ⟨rfl,rfl⟩
     clear HER HRk HLk
     rcases her:(er != 0) with _ | _
     case true=>
      have HD:=Lib.hid (show decSt b=(stNone,er) by rw [HDE.out,if_pos (by simpa using her)])
      go_wp2_with (with_reducible refine wpList_store_stW rfl (.tmp 2) (.tmp 78) rfl w.heap.size ⟨0,0,0,0,0,[],0,0,0,0,0,[]⟩ ⟨0,0,0,0,0,[],0,0,0,0,0,[]⟩ (.slice none 0 0) (.slice none 0 0) rfl rfl HSk.out rfl ?_)
      intro w8 hw8
      have HS8:=Lib.hid (show StBlk w8 w.heap.size stNone (.slice none 0 0) by rw [hw8.out];exact HSk.out.row)
      have HB8:=Lib.hid (show Below w.heap.size w w8 by rw [hw8.out];exact below_row HBk.out (Nat.le_refl _) _)
      clear hw8
      go_wp2
      refine bodyPost_ret (v:= .tuple #[stV stNone (.slice none 0 0),.int .i64 er]) (results_st2 rfl _ _ w.heap.size stNone _ _ rfl rfl HS8.out) rfl ?_
      rw [HD.out]
      exact⟨_,rfl,⟨rfl,.inl ⟨rfl,rfl⟩⟩,HB8.out⟩
     case false=>
      have HDF:=Lib.hid (show decSt b=if ok&&validB (stX nf ls wh) then ((stX nf ls wh),0) else (stNone,40) by rw [HDE.out,if_neg (by simpa using her)])
      clear HDE
      cases ok
      case false=>
       have HD:=Lib.hid (show decSt b=(stNone,40) by rw [HDF.out];rfl)
       go_wp2_with (with_reducible refine wpList_store_stW rfl (.tmp 2) (.tmp 87) rfl w.heap.size ⟨0,0,0,0,0,[],0,0,0,0,0,[]⟩ ⟨0,0,0,0,0,[],0,0,0,0,0,[]⟩ (.slice none 0 0) (.slice none 0 0) rfl rfl HSk.out rfl ?_)
       intro w8 hw8
       have HS8:=Lib.hid (show StBlk w8 w.heap.size stNone (.slice none 0 0) by rw [hw8.out];exact HSk.out.row)
       have HB8:=Lib.hid (show Below w.heap.size w w8 by rw [hw8.out];exact below_row HBk.out (Nat.le_refl _) _)
       clear hw8
       go_wp2
       refine bodyPost_ret (v:= .tuple #[stV stNone (.slice none 0 0),.int .i64 40]) (results_st2 rfl _ _ w.heap.size stNone _ _ rfl rfl HS8.out) rfl ?_
       rw [HD.out]
       exact⟨_,rfl,⟨rfl,.inl ⟨rfl,rfl⟩⟩,HB8.out⟩
      case true=>
       have hwl:wh.length≤281474976710656:=Nat.le_trans HWH.out (by decide)
       have hrl:LnRow w2 lv ls:=lnRow_own HOk.out
       have HVA:=Lib.hid (oValid_any (stX nf ls wh) lv w2 hrl hwl)
       clear hwl hrl
       rw [Bool.true_and] at HDF
       obtain⟨s,hs⟩: ∃ s,s=(stX nf ls wh):=⟨_,rfl⟩
       have HLS:=Lib.hid (show s.lines=ls by rw [hs])
       rw [←hs] at HVA HDF HGk
       clear hs
       generalize validB s=vb at*
       have d0:=HGk.out.c0
       have d1:=HGk.out.c1
       have d2:=HGk.out.c2
       have d3:=HGk.out.c3
       have d4:=HGk.out.c4
       have d5:=HGk.out.c5
       have d6:=HGk.out.c6
       have d7:=HGk.out.c7
       have d8:=HGk.out.c8
       have d9:=HGk.out.c9
       have d10:=HGk.out.c10
       have d11:=HGk.out.c11
       go_wp2_with fail
       refine HVA.out.mono ?_
       rintro e w7 ⟨rfl,hb7⟩
       have HB7:=Lib.hid hb7
       clear hb7 d0 d1 d2 d3 d4 d5 d6 d7 d8 d9 d10 d11
       cases vb
       ·have HD:=Lib.hid (show decSt b=(stNone,40) by rw [HDF.out];rfl)
        have HS7:=Lib.hid (HSk.out.below HB7.out)
        go_wp2_with (with_reducible refine wpList_store_stW rfl (.tmp 2) (.tmp 87) rfl w.heap.size ⟨0,0,0,0,0,[],0,0,0,0,0,[]⟩ ⟨0,0,0,0,0,[],0,0,0,0,0,[]⟩ (.slice none 0 0) (.slice none 0 0) rfl rfl HS7.out rfl ?_)
        intro w8 hw8
        have HS8:=Lib.hid (show StBlk w8 w.heap.size stNone (.slice none 0 0) by rw [hw8.out];exact HS7.out.row)
        have HB8:=Lib.hid (show Below w.heap.size w w8 by rw [hw8.out];exact below_row (Below.next HBk.out HB7.out) (Nat.le_refl _) _)
        clear hw8
        go_wp2
        refine bodyPost_ret (v:= .tuple #[stV stNone (.slice none 0 0),.int .i64 40]) (results_st2 rfl _ _ w.heap.size stNone _ _ rfl rfl HS8.out) rfl ?_
        rw [HD.out]
        exact⟨_,rfl,⟨rfl,.inl ⟨rfl,rfl⟩⟩,HB8.out⟩
       ·have HD:=Lib.hid (show decSt b=(s,0) by rw [HDF.out,if_pos rfl])
        have HS7:=Lib.hid (HSk.out.below HB7.out)
        have HG7:=Lib.hid (HGk.out.below HB7.out)
        have HO7:=Lib.hid (own_later HOk.out HB7.out)
        have h1v:lv.oneCell'=true:=by obtain⟨_,_,e,_⟩:=own_shape HOk.out;rw [e];rfl
        go_wp2_with (first | (with_reducible refine wpList_load_st rfl (.tmp 7) rfl g s lv rfl HG7.out ?_) | (with_reducible refine wpList_store_stW rfl (.tmp 2) (.tmp 88) rfl w.heap.size ⟨0,0,0,0,0,[],0,0,0,0,0,[]⟩ s (.slice none 0 0) lv rfl rfl HS7.out h1v ?_))
        intro w8 hw8
        have HS8:=Lib.hid (show StBlk w8 w.heap.size s lv by rw [hw8.out];exact HS7.out.row)
        have HB8:=Lib.hid (show Below w.heap.size w w8 by rw [hw8.out];exact below_row (Below.next HBk.out HB7.out) (Nat.le_refl _) _)
        have HO8:=Lib.hid (show OwnLn w8 w.heap.size lv ls by rw [hw8.out];exact own_mono (own_setRow HO7.out HWL.out _) (Nat.le_of_lt HWL.out))
        clear hw8
        go_wp2
        refine bodyPost_ret (v:= .tuple #[stV s lv,.int .i64 0]) (results_st2 rfl _ _ w.heap.size s _ _ rfl rfl HS8.out) rfl ?_
        rw [HD.out]
        exact⟨_,rfl,by rw [HLS.out];exact HO8.out,HB8.out⟩
    case false=>
     have hfe: ¬ f.data=[]:=fun e=>by rw [e] at hd;cases hd
     have HLN:=Lib.hid (HGO.out hfe)
     have HUN:=Lib.hid (unline_any f.data _ w2 HBR2.out (by omega))
     obtain⟨ul,hul⟩: ∃ ul,ul=unlineV f.data:=⟨_,rfl⟩
     rw [←hul] at HUN HLN
     obtain⟨l,fine⟩:=ul
     dsimp only at HUN HLN
     clear hul hfe HEND HGO HSk HCk HBk
     go_wp2_with fail
     refine HUN.out.mono ?_
     rintro e w5 ⟨rfl,hb5⟩
     have hba:=below_alloc w5 (.cells (lnCs l) 177)
     have HB5:=Lib.hid (Below.next hb5 hba)
     have HLB:=Lib.hid (show LnBlk (w5.alloc (.cells (lnCs l) 177)) w5.heap.size l from heap_alloc_new w5 _)
     simp only [lnCs] at HB5 HLB
     have HT5:=Lib.hid (show Turned (fun j=>j=rb∨j=mb∨j=g) wc (w5.alloc (.cells #[.int .i64 l.item,.int .i64 l.price,.int .i64 l.qty,.int .i64 l.shipped] 177)) from HT2.out.trans (Turned.below HB5.out) fun i hi=> .inl hi)
     have HG5:=Lib.hid (HG2.out.below HB5.out)
     have HO5:=Lib.hid (own_later HO2.out HB5.out)
     have HR5:=Lib.hid (HR2.out.below HB5.out)
     have h5s:=HB5.out.size
     have HOB:=Lib.hid (fun k (hk:lv.ownBlock=some k)=>own_blk HO2.out hk)
     have hk1:IntKind.i64.wrap ((k:Int)+1)=(k:Int)+1:=by rw [IntKind.wrap_i64];omega
     have HLK2:=Lib.hid (show linesQ 16 12 (fstQ (rdS xs 11)) true []=linesQ (16 - (k+1)) (12+((k+1:Nat):Int)) (fstQ (zs,bd2)) (ok&&fine) (ls++[l]) by
      rw [HLK.out,HLN.out,show (12+((k+1:Nat):Int))=12+(k:Int)+1 by omega])
     have hrg:(w5.alloc (.cells #[.int .i64 l.item,.int .i64 l.price,.int .i64 l.qty,.int .i64 l.shipped] 177)).rangeAt w5.heap.size 0 (lnCs l).toList:=fun j u hj=>by
      rw [Nat.zero_add,World.cell?_alloc_new]
      simpa [lnCs] using hj
     have HRG:=Lib.hid hrg
     have hcl:wc.heap.size≤(w5.alloc (.cells #[.int .i64 l.item,.int .i64 l.price,.int .i64 l.qty,.int .i64 l.shipped] 177)).heap.size:=by omega
     have hll:ls.length+1≤1000000000:=by omega
     have g5:=HG5.out.c5
     clear hba hb5 hrg HUN HLN HLK HT2 HG2 HO2 HR2 HBR2
     cases ok
     ·go_upto_region 14 with fail
      generalize w5.alloc (.cells #[.int .i64 l.item,.int .i64 l.price,.int .i64 l.qty,.int .i64 l.shipped] 177)=W5 at*
      generalize w5.heap.size=bl at*
      go_wp2_with (first
       | (with_reducible refine wpList_load_ln rfl (.tmp 11) rfl bl 0 l rfl HRG.out ?_)
       | (refine wpList_appLn (l:=l) rfl (.tmp 68) (.tmp 70) rfl rfl rfl HO5.out hcl hll ?_))
      intro v6 w6 ho6 hb6 ht6
      have HT6:=Lib.hid (show Turned (fun j=>j=rb∨j=mb∨j=g) wc w6 from HT5.out.trans ht6 fun i hi=> .inr (HOB.out i hi))
      have HG6:=Lib.hid (show StBlk w6 g (stX nf ls wh) lv from(ht6.block g (by omega) (fun e=>by have:=HOB.out g e;omega)).trans HG5.out)
      have HR6:=Lib.hid (HR5.out.turnedG ht6 (by omega) (by omega) (fun x hx=>HRW.out x (HZS.out x hx)) (fun k hk=>by have:=HOB.out k hk;omega))
      have HO6:=Lib.hid ho6
      clear ho6 hb6 ht6 HT5 HG5 HR5 HO5
      obtain⟨o6,c6,e6,_,_⟩:=own_shape HO6.out
      generalize (ls++[l]).length=n6 at e6
      subst e6
      have g6:=HG6.out.c5
      have fr:=HG6.out.free 5
      have hts:=Turned.setCell (S:=fun j=>j=g) w6 ⟨g,5,none⟩ (.slice o6 n6 c6) rfl
      have HT7:=Lib.hid (show Turned (fun j=>j=rb∨j=mb∨j=g) wc (w6.setCell ⟨g,5,none⟩ (.slice o6 n6 c6)) from HT6.out.trans hts fun i hi=> .inl (.inr (.inr hi)))
      have HG7:=Lib.hid (show StBlk (w6.setCell ⟨g,5,none⟩ (.slice o6 n6 c6)) g (stX nf (ls++[l]) wh) (.slice o6 n6 c6) from HG6.out.putLines (.slice o6 n6 c6))
      have HR7:=Lib.hid (HR6.out.turnedG hts (by omega) (by omega) (fun x hx=>HRW.out x (HZS.out x hx)) (fun k hk=>by omega))
      have HO7:=Lib.hid (show OwnLn (w6.setCell ⟨g,5,none⟩ (.slice o6 n6 c6)) wc.heap.size (.slice o6 n6 c6) (ls++[l]) from own_set HO6.out hgw)
      clear hts HT6 HG6 HR6 HO6
      go_wp2
      go_roundw
      case rel=>exact⟨k+1,_,ls++[l],zs,bd2,.slice o6 n6 c6,by omega,by go_num,rfl,by simp [hlk],HR7,HZS,HG7,HO7,HLK2,HT7⟩
      case measure=>simp [intOf];omega
     ·go_upto_region 14 with fail
      generalize w5.alloc (.cells #[.int .i64 l.item,.int .i64 l.price,.int .i64 l.qty,.int .i64 l.shipped] 177)=W5 at*
      generalize w5.heap.size=bl at*
      go_wp2_with (first
       | (with_reducible refine wpList_load_ln rfl (.tmp 11) rfl bl 0 l rfl HRG.out ?_)
       | (refine wpList_appLn (l:=l) rfl (.tmp 68) (.tmp 70) rfl rfl rfl HO5.out hcl hll ?_))
      intro v6 w6 ho6 hb6 ht6
      have HT6:=Lib.hid (show Turned (fun j=>j=rb∨j=mb∨j=g) wc w6 from HT5.out.trans ht6 fun i hi=> .inr (HOB.out i hi))
      have HG6:=Lib.hid (show StBlk w6 g (stX nf ls wh) lv from(ht6.block g (by omega) (fun e=>by have:=HOB.out g e;omega)).trans HG5.out)
      have HR6:=Lib.hid (HR5.out.turnedG ht6 (by omega) (by omega) (fun x hx=>HRW.out x (HZS.out x hx)) (fun k hk=>by have:=HOB.out k hk;omega))
      have HO6:=Lib.hid ho6
      clear ho6 hb6 ht6 HT5 HG5 HR5 HO5
      obtain⟨o6,c6,e6,_,_⟩:=own_shape HO6.out
      generalize (ls++[l]).length=n6 at e6
      subst e6
      have g6:=HG6.out.c5
      have fr:=HG6.out.free 5
      have hts:=Turned.setCell (S:=fun j=>j=g) w6 ⟨g,5,none⟩ (.slice o6 n6 c6) rfl
      have HT7:=Lib.hid (show Turned (fun j=>j=rb∨j=mb∨j=g) wc (w6.setCell ⟨g,5,none⟩ (.slice o6 n6 c6)) from HT6.out.trans hts fun i hi=> .inl (.inr (.inr hi)))
      have HG7:=Lib.hid (show StBlk (w6.setCell ⟨g,5,none⟩ (.slice o6 n6 c6)) g (stX nf (ls++[l]) wh) (.slice o6 n6 c6) from HG6.out.putLines (.slice o6 n6 c6))
      have HR7:=Lib.hid (HR6.out.turnedG hts (by omega) (by omega) (fun x hx=>HRW.out x (HZS.out x hx)) (fun k hk=>by omega))
      have HO7:=Lib.hid (show OwnLn (w6.setCell ⟨g,5,none⟩ (.slice o6 n6 c6)) wc.heap.size (.slice o6 n6 c6) (ls++[l]) from own_set HO6.out hgw)
      clear hts HT6 HG6 HR6 HO6
      go_wp2
      go_roundw
      case rel=>exact⟨k+1,_,ls++[l],zs,bd2,.slice o6 n6 c6,by omega,by go_num,rfl,by simp [hlk],HR7,HZS,HG7,HO7,HLK2,HT7⟩
      case measure=>simp [intOf];omega
   ·obtain rfl:k=16:=by omega
    have HLk:=Lib.hid (show linesQ 16 12 (fstQ (rdS xs 11)) true []=(ls,ok,fstQ (ys,bd)) by rw [HLK.out,linesQ_out])
    clear HLK
    have HDE:=Lib.hid (HDS2.out ls ok (fstQ (ys,bd)) HLk.out)
    have HER:=Lib.hid (rdErr_any wr rb mb bd ys HRk.out)
    rw [errR_Q] at HER
    rw [show errQ (ys.map (·.1),bd)=errQ (fstQ (ys,bd)) from rfl] at HER
    have c4:=HCk.out
    generalize errQ (fstQ (ys,bd))=er at*
    have HWL:=Lib.hid HW2.out
    go_wp2_with fail
    refine HER.out.mono ?_
    rintro e w9 ⟨rfl,rfl⟩
    clear HER HRk HLk
    rcases her:(er != 0) with _ | _
    case true=>
     have HD:=Lib.hid (show decSt b=(stNone,er) by rw [HDE.out,if_pos (by simpa using her)])
     go_wp2_with (with_reducible refine wpList_store_stW rfl (.tmp 2) (.tmp 78) rfl w.heap.size ⟨0,0,0,0,0,[],0,0,0,0,0,[]⟩ ⟨0,0,0,0,0,[],0,0,0,0,0,[]⟩ (.slice none 0 0) (.slice none 0 0) rfl rfl HSk.out rfl ?_)
     intro w8 hw8
     have HS8:=Lib.hid (show StBlk w8 w.heap.size stNone (.slice none 0 0) by rw [hw8.out];exact HSk.out.row)
     have HB8:=Lib.hid (show Below w.heap.size w w8 by rw [hw8.out];exact below_row HBk.out (Nat.le_refl _) _)
     clear hw8
     go_wp2
     refine bodyPost_ret (v:= .tuple #[stV stNone (.slice none 0 0),.int .i64 er]) (results_st2 rfl _ _ w.heap.size stNone _ _ rfl rfl HS8.out) rfl ?_
     rw [HD.out]
     exact⟨_,rfl,⟨rfl,.inl ⟨rfl,rfl⟩⟩,HB8.out⟩
    case false=>
     have HDF:=Lib.hid (show decSt b=if ok&&validB (stX nf ls wh) then ((stX nf ls wh),0) else (stNone,40) by rw [HDE.out,if_neg (by simpa using her)])
     clear HDE
     cases ok
     case false=>
      have HD:=Lib.hid (show decSt b=(stNone,40) by rw [HDF.out];rfl)
      go_wp2_with (with_reducible refine wpList_store_stW rfl (.tmp 2) (.tmp 87) rfl w.heap.size ⟨0,0,0,0,0,[],0,0,0,0,0,[]⟩ ⟨0,0,0,0,0,[],0,0,0,0,0,[]⟩ (.slice none 0 0) (.slice none 0 0) rfl rfl HSk.out rfl ?_)
      intro w8 hw8
      have HS8:=Lib.hid (show StBlk w8 w.heap.size stNone (.slice none 0 0) by rw [hw8.out];exact HSk.out.row)
      have HB8:=Lib.hid (show Below w.heap.size w w8 by rw [hw8.out];exact below_row HBk.out (Nat.le_refl _) _)
      clear hw8
      go_wp2
      refine bodyPost_ret (v:= .tuple #[stV stNone (.slice none 0 0),.int .i64 40]) (results_st2 rfl _ _ w.heap.size stNone _ _ rfl rfl HS8.out) rfl ?_
      rw [HD.out]
      exact⟨_,rfl,⟨rfl,.inl ⟨rfl,rfl⟩⟩,HB8.out⟩
     case true=>
      have hwl:wh.length≤281474976710656:=Nat.le_trans HWH.out (by decide)
      have hrl:LnRow wr lv ls:=lnRow_own HOk.out
      have HVA:=Lib.hid (oValid_any (stX nf ls wh) lv wr hrl hwl)
      clear hwl hrl
      rw [Bool.true_and] at HDF
      obtain⟨s,hs⟩: ∃ s,s=(stX nf ls wh):=⟨_,rfl⟩
      have HLS:=Lib.hid (show s.lines=ls by rw [hs])
      rw [←hs] at HVA HDF HGk
      clear hs
      generalize validB s=vb at*
      have d0:=HGk.out.c0
      have d1:=HGk.out.c1
      have d2:=HGk.out.c2
      have d3:=HGk.out.c3
      have d4:=HGk.out.c4
      have d5:=HGk.out.c5
      have d6:=HGk.out.c6
      have d7:=HGk.out.c7
      have d8:=HGk.out.c8
      have d9:=HGk.out.c9
      have d10:=HGk.out.c10
      have d11:=HGk.out.c11
      go_wp2_with fail
      refine HVA.out.mono ?_
      rintro e w7 ⟨rfl,hb7⟩
      have HB7:=Lib.hid hb7
      clear hb7 d0 d1 d2 d3 d4 d5 d6 d7 d8 d9 d10 d11
      cases vb
      ·have HD:=Lib.hid (show decSt b=(stNone,40) by rw [HDF.out];rfl)
       have HS7:=Lib.hid (HSk.out.below HB7.out)
       go_wp2_with (with_reducible refine wpList_store_stW rfl (.tmp 2) (.tmp 87) rfl w.heap.size ⟨0,0,0,0,0,[],0,0,0,0,0,[]⟩ ⟨0,0,0,0,0,[],0,0,0,0,0,[]⟩ (.slice none 0 0) (.slice none 0 0) rfl rfl HS7.out rfl ?_)
       intro w8 hw8
       have HS8:=Lib.hid (show StBlk w8 w.heap.size stNone (.slice none 0 0) by rw [hw8.out];exact HS7.out.row)
       have HB8:=Lib.hid (show Below w.heap.size w w8 by rw [hw8.out];exact below_row (Below.next HBk.out HB7.out) (Nat.le_refl _) _)
       clear hw8
       go_wp2
       refine bodyPost_ret (v:= .tuple #[stV stNone (.slice none 0 0),.int .i64 40]) (results_st2 rfl _ _ w.heap.size stNone _ _ rfl rfl HS8.out) rfl ?_
       rw [HD.out]
       exact⟨_,rfl,⟨rfl,.inl ⟨rfl,rfl⟩⟩,HB8.out⟩
      ·have HD:=Lib.hid (show decSt b=(s,0) by rw [HDF.out,if_pos rfl])
       have HS7:=Lib.hid (HSk.out.below HB7.out)
       have HG7:=Lib.hid (HGk.out.below HB7.out)
       have HO7:=Lib.hid (own_later HOk.out HB7.out)
       have h1v:lv.oneCell'=true:=by obtain⟨_,_,e,_⟩:=own_shape HOk.out;rw [e];rfl
       go_wp2_with (first | (with_reducible refine wpList_load_st rfl (.tmp 7) rfl g s lv rfl HG7.out ?_) | (with_reducible refine wpList_store_stW rfl (.tmp 2) (.tmp 88) rfl w.heap.size ⟨0,0,0,0,0,[],0,0,0,0,0,[]⟩ s (.slice none 0 0) lv rfl rfl HS7.out h1v ?_))
       intro w8 hw8
       have HS8:=Lib.hid (show StBlk w8 w.heap.size s lv by rw [hw8.out];exact HS7.out.row)
       have HB8:=Lib.hid (show Below w.heap.size w w8 by rw [hw8.out];exact below_row (Below.next HBk.out HB7.out) (Nat.le_refl _) _)
       have HO8:=Lib.hid (show OwnLn w8 w.heap.size lv ls by rw [hw8.out];exact own_mono (own_setRow HO7.out HWL.out _) (Nat.le_of_lt HWL.out))
       clear hw8
       go_wp2
       refine bodyPost_ret (v:= .tuple #[stV s lv,.int .i64 0]) (results_st2 rfl _ _ w.heap.size s _ _ rfl rfl HS8.out) rfl ?_
       rw [HD.out]
       exact⟨_,rfl,by rw [HLS.out];exact HO8.out,HB8.out⟩
end Go.Proofs.YtcglcphhfmkccaaGreatDoor

namespace Go.Proofs.YtcglcphhfmkccaaGreatDoor
open Go.RowKit
set_option maxRecDepth 100000 in
set_option maxHeartbeats 4000000 in
theorem bookNum_any (f:Frm) (bv:Value) (w:World) (hv:BRow w bv f.body) (hl:f.body.length≤1048576):
  Calls Tryz.prog 59 #[frV (f.k:Int) (f.s:Int) bv] w fun e w'=>e= .returned (.tuple #[.int .u64 ((numF f).1:Int),.bool (numF f).2])∧Below w.heap.size w w':=by
 obtain⟨k,s,body⟩:=f
 dsimp only at hv hl ⊢
 have HB0:=Lib.hid (below_alloc w (.cells (frCs (k:Int) (s:Int) bv) 105))
 have HF0:=Lib.hid (show FrBlk (w.alloc (.cells (frCs (k:Int) (s:Int) bv) 105)) w.heap.size (k:Int) (s:Int) bv from heap_alloc_new w _)
 have HD:=Lib.hid (varDecode_any body bv _ (hv.below HB0.out) (by omega))
 have HN:=Lib.hid (show numF ⟨k,s,body⟩=((decV body).1,decide ((decV body).2.2=0)&&decide ((decV body).2.1=body.length)) from rfl)
 obtain⟨oa,cap,rfl,_,_⟩:=hv
 simp only [frCs] at HB0 HF0 HD
 obtain⟨r,hr⟩: ∃ r,r=decV body:=⟨_,rfl⟩
 rw [←hr] at HD HN
 clear hr
 obtain⟨u,n,e0⟩:=r
 unfold VarPost at HD
 dsimp only at HD HN
 have c2:=HF0.out.c2
 go_enter Tryz.func59,Tryz.ntmps59
 go_wp2_with fail
 refine HD.out.mono ?_
 rintro e w1 ⟨rfl,hb1⟩
 have HB1:=Lib.hid (Below.next HB0.out hb1)
 have HF1:=Lib.hid (HF0.out.below hb1)
 clear hb1 HD HF0 c2 HB0
 rcases he:(e0==0) with _ | _
 ·have hd:decide (e0=0)=false:=by simpa using he
  go_wp2_with fail
  refine wp_region_held_drew (S:=fun w'=>Below w1.heap.size w1 w') (by kernel_rfl) (below_drewN' w1 1) (fun hHeld=> ?_)
  generalize World.drew _=W at*
  refine tq 0 rfl ?_
  refine tq 1 rfl ?_
  refine tq 2 rfl ?_
  refine tq 3 rfl ?_
  refine tkn 4 rfl ?_
  simp only [pA,pB,pC,pD]
  refine tkn 5 rfl ?_
  simp only [pA,pB,pC,pD]
  refine tkn 6 rfl ?_
  simp only [pA,pB,pC,pD]
  refine tkn 7 rfl ?_
  simp only [pA,pB,pC,pD]
  refine tkn 8 rfl ?_
  simp only [pA,pB,pC,pD]
  refine tq 9 rfl ?_
  refine tq 10 rfl ?_
  refine tq 11 rfl ?_
  refine wpAnyH_done (by kernel_rfl) ?_ _
  go_wp2
  go_ret2
  exact⟨by rw [HN.out,hd];rfl,Below.next HB1.out hHeld⟩
 ·have hd:decide (e0=0)=true:=by simpa using he
  have hn:((n:Int)==(body.length:Int))=decide (n=body.length):=by rw [Bool.eq_iff_iff];simp;omega
  go_wp2_with fail
  refine wp_region_held_drew (S:=fun w'=>Below w1.heap.size w1 w') (by kernel_rfl) (below_drewN' w1 1) (fun hHeld=> ?_)
  generalize World.drew _=W at*
  have FX1:=Lib.hid (fun(wF:World) (hSw:(fun w'=>Below w1.heap.size w1 w') wF)=>((HF1.out.below hSw).c2))
  refine tf FX1 0 rfl ?_
  refine tf FX1 1 rfl ?_
  refine tf FX1 2 rfl ?_
  refine tf FX1 3 rfl ?_
  refine tf FX1 4 rfl ?_
  refine tf FX1 5 rfl ?_
  refine tf FX1 6 rfl ?_
  refine tf FX1 7 rfl ?_
  refine tf FX1 8 rfl ?_
  refine tf FX1 9 rfl ?_
  refine tf FX1 10 rfl ?_
  refine tf FX1 11 rfl ?_
  clear FX1
  refine wpAnyH_done (by kernel_rfl) ?_ _
  go_wp2
  go_ret2
  exact⟨by rw [HN.out,hd,Bool.true_and,←hn];rfl,Below.next HB1.out hHeld⟩
theorem bookOk_out {last:Int} {s:St} {r:List St} (h: ¬ (last<s.order∧1≤s.events)):bookOk last (s::r)=false:=by
 rw [bookOk]
 by_cases h1:last<s.order
 ·have: ¬ 1≤s.events:=fun h2=>h ⟨h1,h2⟩
  simp [this]
 ·simp [h1]
theorem bookOk_in {last:Int} {s:St} {r:List St} (h1:last<s.order) (h2:1≤s.events):bookOk last (s::r)=(validB s&&bookOk s.order r):=by
 rw [bookOk,decide_eq_true h1,decide_eq_true h2,Bool.true_and,Bool.true_and]
set_option maxRecDepth 100000 in
set_option maxHeartbeats 4000000 in
theorem bookValid_any {A:Nat→Prop} (ss:List St) (v:Value) (w:World) (hr:StsIn A w v ss) (hw: ∀ s∈ss,s.who.length≤281474976710656):
  Calls Tryz.prog 61 #[v] w fun e w'=>e= .returned (.bool (bookOk 0 ss))∧Below w.heap.size w w':=by
 have HSH:=Lib.hid hr.shape
 have HW:=Lib.hid hw
 obtain⟨oa,cap,rfl,h1,h2,_⟩:=hr.shape
 clear hr hw
 go_enter Tryz.func61,Tryz.ntmps61
 go_wp2
 go_loopw [3,8] (fun lv iv wr=> ∃ (k:Nat) (last:Int),k≤ss.length∧iv= .int .i64 (k:Int)∧lv= .int .i64 last∧Hid (bookOk 0 ss=bookOk last (ss.drop k))∧Hid (Below w.heap.size w wr)) (fun _ iv _=>ss.length - (intOf iv).toNat)
 case atStart=>exact⟨0,0,Nat.zero_le _,rfl,rfl,Lib.hid rfl,Lib.hid (Below.refl _ _)⟩
 case round=>
  obtain⟨k,last,hk,rfl,rfl,HO,HB⟩:=hrel
  by_cases hlt:k<ss.length
  ·obtain⟨s,hs,_,hm⟩:=nth ss k hlt
   have hdr:ss.drop k=s::ss.drop (k+1):=by rw [List.drop_eq_getElem_cons hlt];rw [List.getElem?_eq_getElem hlt] at hs;rw [Option.some.inj hs]
   rw [hdr] at HO
   obtain⟨oa',cap',e',_,_,hat⟩:=HSH.out
   simp only [Value.slice.injEq,true_and] at e'
   obtain⟨rfl,rfl⟩:=e'
   obtain⟨b,off,rfl,_,lv,hce,hln⟩:=hat k s hs
   have q1:(k:Int)<(ss.length:Int):=by omega
   have HCE:=Lib.hid (range_later hce HB.out)
   have HLN:=Lib.hid (hln.below HB.out)
   have HWS:=Lib.hid (HW.out s hm)
   have h1v:=hln.one
   have HBZ:=Lib.hid (below_alloc wr (.cells (stCs stNone (.slice none 0 0)) 130))
   have HSZ:=Lib.hid (stBlk_alloc wr stNone (.slice none 0 0))
   have hk1:IntKind.i64.wrap ((k:Int)+1)=(k:Int)+1:=by rw [IntKind.wrap_i64];omega
   clear hs hm hdr hat hce hln
   simp only [stCs,stNone] at HBZ HSZ
   go_wp2_with (first | (with_reducible refine wpList_load_stAt rfl (.tmp 10) rfl b (off+k*12) s lv rfl HCE.out ?_) | (with_reducible refine wpList_store_stW rfl (.tmp 5) (.tmp 11) rfl wr.heap.size ⟨0,0,0,0,0,[],0,0,0,0,0,[]⟩ s (.slice none 0 0) lv rfl rfl HSZ.out h1v ?_))
   intro w2 hw2
   have HS2:=Lib.hid (show StBlk w2 wr.heap.size s lv by rw [hw2.out];exact HSZ.out.row)
   have HB2:=Lib.hid (show Below wr.heap.size wr w2 by rw [hw2.out];exact below_row HBZ.out (Nat.le_refl _) _)
   have HBW:=Lib.hid (Below.next HB.out HB2.out)
   have HL2:=Lib.hid (HLN.out.below HB2.out)
   clear hw2 HBZ HSZ HCE HLN HB HB2
   have c0:=HS2.out.c0
   have c8:=HS2.out.c8
   rcases hd:decide (s.order≤last) with _ | _
   ·rcases he:decide (s.events<1) with _ | _
    ·have e1:last<s.order:=by simpa using hd
     have e2:1≤s.events:=by simpa using he
     have HO2:=Lib.hid (show bookOk 0 ss=(validB s&&bookOk s.order (ss.drop (k+1))) by rw [HO.out,bookOk_in e1 e2])
     have HV:=Lib.hid (oValid_any s lv w2 HL2.out.row HWS.out)
     obtain⟨vb,hvb⟩: ∃ vb,vb=validB s:=⟨_,rfl⟩
     rw [←hvb] at HO2 HV
     have c1:=HS2.out.c1
     have c2:=HS2.out.c2
     have c3:=HS2.out.c3
     have c4:=HS2.out.c4
     have c5:=HS2.out.c5
     have c6:=HS2.out.c6
     have c7:=HS2.out.c7
     have c9:=HS2.out.c9
     have c10:=HS2.out.c10
     have c11:=HS2.out.c11
     clear e1 e2 hvb HO
     go_wp2_with fail
     refine HV.out.mono ?_
     rintro e w3 ⟨rfl,hb3⟩
     have HB3:=Lib.hid (Below.next HBW.out hb3)
     have HS3:=Lib.hid (HS2.out.below hb3)
     clear hb3 c0 c8 c1 c2 c3 c4 c5 c6 c7 c9 c10 c11
     have d0:=HS3.out.c0
     cases vb
     ·go_wp2
      go_ret
      exact⟨by rw [HO2.out];rfl,HB3.out⟩
     ·go_wp2
      go_roundw
      case rel=>exact⟨k+1,s.order,by omega,by go_num,rfl,Lib.hid (by rw [HO2.out,Bool.true_and]),HB3⟩
      case measure=>simp [intOf];omega
    ·have HE:=Lib.hid (show bookOk 0 ss=false by rw [HO.out,bookOk_out];rintro⟨_,h⟩;have:=of_decide_eq_true he;omega)
     go_wp2
     go_ret
     exact⟨by rw [HE.out];rfl,HBW.out⟩
   ·have HE:=Lib.hid (show bookOk 0 ss=false by rw [HO.out,bookOk_out];rintro⟨h,_⟩;have:=of_decide_eq_true hd;omega)
    go_wp2
    go_ret
    exact⟨by rw [HE.out];rfl,HBW.out⟩
  ·obtain rfl:k=ss.length:=by omega
   have HE:=Lib.hid (show bookOk 0 ss=true by rw [HO.out,List.drop_length];rfl)
   go_wp2
   go_ret
   exact⟨by rw [HE.out];rfl,HB.out⟩
end Go.Proofs.YtcglcphhfmkccaaGreatDoor

namespace Go.Proofs.YtcglcphhfmkccaaGreatDoor
open Go.RowKit
def BookP (w:World) (r:Option (Nat×Nat×List St)) (e:Ending) (w':World):Prop:=Below w.heap.size w w'∧
 match r with
 | none=>e= .returned (.tuple #[.int .i64 0,.int .i64 0,.slice none 0 0,.int .i64 81])
 | some r=> ∃ v,e= .returned (.tuple #[.int .i64 (r.1:Int),.int .i64 (r.2.1:Int),v,.int .i64 0])∧StsIn (fun k=>w.heap.size≤k) w' v r.2.2
theorem run_cut_pc (oa:Option Addr) (len cap lo hi:Nat) (h1:lo≤hi) (h2:hi≤cap) (w:World):(Instr.slice 89 (.slice oa len cap) (some (.int .i64 lo)) (some (.int .i64 hi)) none).run Tryz.prog w= .ok (sliced oa lo hi cap 5) w:=by
 rw [run_slice_lh (P:=Tryz.prog) w 89 oa len cap (by kernel_rfl) .i64 .i64 lo hi (by omega) (by omega) (by omega)]
 have:(sizeOf (Tryz.prog.elem 89)).run Tryz.prog w= .ok 5 w:=by kernel_rfl
 rw [this];rfl
theorem frm_range {w:World} {b o:Nat} {p:Plc} {dv:Value} (h:w.rangeAt b o (pcCs p dv).toList):w.rangeAt b (o+2) (frCs (p.f.k:Int) (p.f.s:Int) dv).toList:=fun j u hj=>by
 have:=h (j+2) u (by
  have hl:j<3:=by have:=getElem?_lt hj;simpa [frCs] using this
  obtain rfl | rfl | rfl:j=0∨j=1∨j=2:=by omega
  all_goals simpa [frCs,pcCs] using hj)
 rw [←this]
 congr 2
 omega
theorem wpList_load_pc {ops:Array Oper} {rest:List Oper} {o:Oper} {a:Act} {w:World} {Q:Exit→Act→World→Prop} (hgd:o.guard=none) (x:Operand) (ho:o.op= .load 124 x)
  (b off:Nat) (p:Plc) (dv:Value) (hx:a.eval x= .pointer (some ⟨b,off,none⟩)) (hE:w.rangeAt b off (pcCs p dv).toList)
  (h:wpList Tryz.prog ops Q rest (a.put o.dst (pcV p dv)) w):wpList Tryz.prog ops Q (o::rest) a w:=
 wpList_load_mid hgd 124 x ho b off hx (pcCs p dv).toList _ hE Tryz.underlying124 rfl pcInfo h
theorem cut_pc (b off n cap:Nat) (h2:2≤n) (hc:n≤cap) (w:World):(Instr.sliceAt 89 (.slice (some ⟨b,off,none⟩) n cap) (some (.int .i64 1)) (some (.int .i64 ((n - 1:Nat):Int))) none).run Tryz.prog w= .ok (.slice (some ⟨b,off+5,none⟩) (n - 2) (cap - 1)) w:=by
 rw [run_sliceAt_slice _ _ _ _ _ _ (by kernel_rfl)]
 have h:=run_cut_pc (some ⟨b,off,none⟩) n cap 1 (n - 1) (by omega) (by omega) w
 refine h.trans ?_
 unfold sliced
 rw [if_neg (by omega),show n - 1 - 1=n - 2 by omega]
 simp [Addr.add]
theorem takeQ_sub {q:List Fld×Int} {k:Int} {t:Bool}: ∀ f∈(takeQ q k t).2.1,f∈q.1:=by
 intro f hf
 unfold takeQ at hf
 split at hf
 ·exact hf
 ·split at hf
  ·exact(List.mem_filter.1 hf).1
  ·exact(List.mem_filter.1 hf).1
theorem takeQ_mem (q:List Fld×Int) (k:Int) (t:Bool):(takeQ q k t).1=fld0∨(takeQ q k t).1∈q.1:=by
 unfold takeQ
 rcases h:q.1.find? (tagQ k) with _ | f
 ·exact .inl rfl
 ·dsimp only
  split
  ·exact .inr (List.mem_of_find?_eq_some h)
  ·exact .inl rfl
theorem numsQ_sub: ∀ (n:Nat) (k:Int) (q:List Fld×Int) (vs:List Int),∀ f∈(numsQ n k q vs).2.1,f∈q.1
 | 0,_,_,_=>fun _ h=>h
 | n+1,k,q,vs=>fun f hf=>by
  rw [numsQ] at hf
  exact takeQ_sub f (numsQ_sub n _ _ _ f hf)
theorem decSt_who (b:List UInt8):(decSt b).1.who.length≤200:=by
 have hd:= @tlvDec_data b
 have hs:=numsQ_sub 10 1 ((tlvDec b).2,0) []
 unfold decSt
 generalize tlvDec b=td at*
 dsimp only
 generalize numsQ 10 1 (td.2,0) []=ns at*
 have hm:=takeQ_mem ns.2 11 true
 generalize takeQ ns.2 11 true=tx at*
 generalize linesQ 16 12 tx.2 true []=ls at*
 have hw:tx.1.data.length≤200:=by
  rcases hm with e | e
  ·rw [e];exact Nat.zero_le _
  ·exact hd _ (hs _ e)
 split
 ·exact Nat.zero_le _
 ·split
  ·exact Nat.zero_le _
  ·split
   ·exact hw
   ·exact Nat.zero_le _
theorem own_lt {w:World} {B size n k:Nat} {e:TypeId} {v:Value} {xs:List Value} (h:w.ownsRow B e size v n xs) (hk:v.ownBlock=some k):k<w.heap.size:=by
 rcases h.2 with⟨rfl,_⟩ | ⟨g,cap,cur,rfl,_,hg,_⟩
 ·cases hk
 ·cases hk;exact(Array.getElem?_eq_some_iff.1 hg).1
set_option maxRecDepth 100000 in
set_option maxHeartbeats 8000000 in
theorem bookDec_any (b:List UInt8) (v:Value) (w:World) (hv:BRow w v b) (hl:b.length≤67108864) (hn:NibTab w):
  Calls Tryz.prog 35 #[v] w (BookP w (decBook b)):=by
 have HA:=Lib.hid (scanAll_any b v w hv hl hn)
 have HLE:=Lib.hid (show (scanAll b).1.length≤67108864 from by
  have:=frs_len b
  simp only [scanAll,plcs,List.length_map]
  omega)
 have HBL:=Lib.hid (show ∀ p∈(scanAll b).1,p.f.body.length≤16384 from fun p hp=>by
  simp only [scanAll,plcs] at hp
  obtain⟨x,hx,rfl⟩:=List.mem_map.1 hp
  exact(frs_mem hx).2)
 have HE:=Lib.hid (show decBook b=if (scanAll b).2.2≠0∨(scanAll b).1.length<2 then none
  else if bookBad ((scanAll b).1.getD 0 zPlc).f ((scanAll b).1.getD ((scanAll b).1.length - 1) zPlc).f ((scanAll b).1.length - 2) then none
  else match stsP (((scanAll b).1.take ((scanAll b).1.length - 1)).drop 1) [] with
   | none=>none
   | some ss=>if bookOk 0 ss then some (((scanAll b).1.getD 0 zPlc).f.s,(numF ((scanAll b).1.getD 0 zPlc).f).1,ss) else none from rfl)
 obtain⟨oa0,cap0,rfl,_,_⟩:=hv
 obtain⟨r,hr⟩: ∃ r,r=scanAll b:=⟨_,rfl⟩
 rw [←hr] at HA HE HLE HBL
 clear hr hn hl
 obtain⟨ps,en,e0⟩:=r
 unfold AllP at HA
 dsimp only at HA HE HLE HBL
 go_enter Tryz.func35,Tryz.ntmps35
 go_wp2_with fail
 refine HA.out.mono ?_
 rintro e w1 ⟨v1,rfl,hpc,hb1⟩
 have HSH:=Lib.hid hpc.shape
 obtain⟨oa,cap,hsh,hpl,hpc3,_⟩:=hpc.shape
 subst hsh
 have HB1:=Lib.hid hb1
 have hple:=HLE.out
 clear hb1 HA hpc
 rcases he:(e0 != 0) with _ | _
 case true=>
  have HD:=Lib.hid (show decBook b=none by rw [HE.out,if_pos (.inl (by simpa using he))])
  go_wp2
  refine bodyPost_ret (v:= .tuple #[.int .i64 0,.int .i64 0,.slice none 0 0,.int .i64 81]) (by simp [results,Tryz.results35,go_sem]) rfl ⟨HB1.out,by rw [HD.out]⟩
 rcases hl2:decide ((ps.length:Int)<2) with _ | _
 case true=>
  have HD:=Lib.hid (show decBook b=none by rw [HE.out,if_pos (.inr (by have:=of_decide_eq_true hl2;omega))])
  go_wp2
  refine bodyPost_ret (v:= .tuple #[.int .i64 0,.int .i64 0,.slice none 0 0,.int .i64 81]) (by simp [results,Tryz.results35,go_sem]) rfl ⟨HB1.out,by rw [HD.out]⟩
 have hn2:2≤ps.length:=by have:=of_decide_eq_false hl2;omega
 have HE2:=Lib.hid (show decBook b=if bookBad (ps.getD 0 zPlc).f (ps.getD (ps.length - 1) zPlc).f (ps.length - 2) then none
  else match stsP ((ps.take (ps.length - 1)).drop 1) [] with
   | none=>none
   | some ss=>if bookOk 0 ss then some ((ps.getD 0 zPlc).f.s,(numF (ps.getD 0 zPlc).f).1,ss) else none by rw [HE.out,if_neg (by rintro(h | h);exact h (by simpa using he);omega)])
 have hp0:ps[0]? =some (ps.getD 0 zPlc):=by rw [List.getElem?_eq_getElem (by omega)];simp [show 0<ps.length by omega]
 have hpn:ps[ps.length - 1]? =some (ps.getD (ps.length - 1) zPlc):=by rw [List.getElem?_eq_getElem (by omega)];simp [show ps.length - 1<ps.length by omega]
 obtain⟨p,hp⟩: ∃ p,p=ps.getD 0 zPlc:=⟨_,rfl⟩
 obtain⟨q,hq⟩: ∃ q,q=ps.getD (ps.length - 1) zPlc:=⟨_,rfl⟩
 rw [←hp] at hp0 HE2
 rw [←hq] at hpn HE2
 have HPL:=Lib.hid (HBL.out p (List.mem_of_getElem? hp0))
 have HQL:=Lib.hid (HBL.out q (List.mem_of_getElem? hpn))
 have HHT:=Lib.hid (show ∀ (i:Nat) x,ps[i]? =some x→ ∃ b off,oa=some ⟨b,off,none⟩∧ ∃ dv,w1.rangeAt b (off+i*5) (pcCs x dv).toList∧BRow w1 dv x.f.body from fun i x hx=>by
  obtain⟨o1,c1,e1,_,_,h1⟩:=HSH.out
  simp only [Value.slice.injEq,true_and] at e1
  obtain⟨rfl,rfl⟩:=e1
  obtain⟨b,off,e2,_,dv,h2,h3⟩:=h1 i x hx
  exact⟨b,off,e2,dv,h2,h3.brow⟩)
 obtain⟨bb,off,rfl,pv,hpr,hpb⟩:=HHT.out 0 p hp0
 obtain⟨b2,off2,e2,qv,hqr,hqb⟩:=HHT.out (ps.length - 1) q hpn
 simp only [Option.some.injEq,Addr.mk.injEq,and_true] at e2
 obtain⟨rfl,rfl⟩:=e2
 have hpv:pv.oneCell'=true:=by obtain⟨_,_,e,_⟩:=hpb;rw [e];rfl
 have hqv:qv.oneCell'=true:=by obtain⟨_,_,e,_⟩:=hqb;rw [e];rfl
 have HPB:=Lib.hid hpb
 have HQB:=Lib.hid hqb
 have HPR:=Lib.hid (show w1.rangeAt bb (off+2) (frCs (p.f.k:Int) (p.f.s:Int) pv).toList by have:=frm_range hpr;rwa [show off+0*5+2=off+2 by omega] at this)
 have HQR:=Lib.hid (frm_range hqr)
 have q0:0<ps.length:=by omega
 have qm:ps.length - 1<ps.length:=by omega
 have qn:((ps.length - 1:Nat):Int)<(ps.length:Int):=by omega
 have hwn:IntKind.i64.wrap ((ps.length:Int) - 1)=((ps.length - 1:Nat):Int):=by rw [IntKind.wrap_i64];omega
 clear hp hq hp0 hpn hpr hqr hpb hqb HE HSH
 go_upto_region 4 with fail
 go_cut [9,10] from 34 to 44 (fun x y wx=> ∃ g1 g2,x= .pointer (some ⟨g1,0,none⟩)∧y= .pointer (some ⟨g2,0,none⟩)∧Hid (FrBlk wx g1 (p.f.k:Int) (p.f.s:Int) pv)∧Hid (FrBlk wx g2 (q.f.k:Int) (q.f.s:Int) qv)∧Hid (Below w1.heap.size w1 wx))
 case first=>
  refine wp_region_held_drew (S:=fun w'=>Below w1.heap.size w1 w') (by kernel_rfl) (below_drewN' w1 1) (fun hHeld=> ?_)
  refine tq 0 rfl ?_
  refine tq 1 rfl ?_
  refine tq 2 rfl ?_
  refine tkl 3 bb (off+2) [.int .i64 (p.f.k:Int),.int .i64 (p.f.s:Int),pv] rfl rfl (fun w' h=>range_later HPR.out h) Tryz.underlying105 rfl (by rw [frInfo];rfl) ?_
  simp only [pA,pB,pC,pD]
  refine tq 4 rfl ?_
  refine tq 5 rfl ?_
  refine tq 6 rfl ?_
  refine tq 7 rfl ?_
  refine tq 8 rfl ?_
  refine tq 9 rfl ?_
  refine tkl 10 bb (off+(ps.length - 1)*5+2) [.int .i64 (q.f.k:Int),.int .i64 (q.f.s:Int),qv] rfl rfl (fun w' h=>range_later HQR.out h) Tryz.underlying105 rfl (by rw [frInfo];rfl) ?_
  simp only [pA,pB,pC,pD]
  generalize World.drew _=Wd at*
  refine wpAnyH_ready (rs:=[11,12]) (by kernel_rfl) (by simp) ?_
  refine AllReadyH.cons rfl (fun K hK=> ?_) (AllReadyH.cons rfl (fun K hK=> ?_) AllReadyH.nil)
  ·have hba:=below_alloc Wd (.cells #[.int .i64 0,.int .i64 0,.slice none 0 0] 105)
   have HFa:=Lib.hid (show FrBlk (Wd.alloc (.cells #[.int .i64 0,.int .i64 0,.slice none 0 0] 105)) Wd.heap.size 0 0 (.slice none 0 0) from heap_alloc_new Wd _)
   have hg0:=hHeld.size
   have hga:=HFa.out.lt
   go_simp
   refine hK.out _ _ (Below.next hHeld hba) (fun hHeld=> ?_)
   clear hK K hba
   generalize Wd.heap.size=ga at*
   generalize Wd.alloc (.cells #[.int .i64 0,.int .i64 0,.slice none 0 0] 105)=Wa at*
   have hbb:=below_alloc Wa (.cells #[.int .i64 0,.int .i64 0,.slice none 0 0] 105)
   have HFb:=Lib.hid (show FrBlk (Wa.alloc (.cells #[.int .i64 0,.int .i64 0,.slice none 0 0] 105)) Wa.heap.size 0 0 (.slice none 0 0) from heap_alloc_new Wa _)
   have HFa:=Lib.hid (HFa.out.below hbb)
   refine wpAnyH_ready (rs:=[12]) (by kernel_rfl) (by simp) ?_
   refine AllReadyH.cons rfl (fun K hK=> ?_) AllReadyH.nil
   go_simp
   refine hK.out _ _ (Below.next hHeld hbb) (fun hHeld=> ?_)
   clear hK K hbb
   generalize Wa.heap.size=gb at*
   generalize Wa.alloc (.cells #[.int .i64 0,.int .i64 0,.slice none 0 0] 105)=Wb at*
   refine wpAnyH_ready (rs:=[13]) (by kernel_rfl) (by simp) ?_
   refine AllReadyH.cons rfl (fun K hK=> ?_) AllReadyH.nil
   rw [if_pos (by kernel_rfl)]
   refine wp_store_row 105 (.tmp 9) (.tmp 37) rfl ga (frCs (p.f.k:Int) (p.f.s:Int) pv) rfl rfl 105 (frCs 0 0 (.slice none 0 0)) HFa.out frInfo rfl (frCs_all _ _ _ hpv) ?_
   have HS1:=Lib.hid (show FrBlk (Wb.setRow ga (frCs (p.f.k:Int) (p.f.s:Int) pv)) ga (p.f.k:Int) (p.f.s:Int) pv from HFa.out.row)
   have HS2:=Lib.hid (show FrBlk (Wb.setRow ga (frCs (p.f.k:Int) (p.f.s:Int) pv)) gb 0 0 (.slice none 0 0) from(setRow_other _ _ _ _ (by omega)).trans HFb.out)
   have hbr:Below w1.heap.size w1 (Wb.setRow ga (frCs (p.f.k:Int) (p.f.s:Int) pv)):=below_row hHeld (by omega) _
   generalize Wb.setRow ga (frCs (p.f.k:Int) (p.f.s:Int) pv)=Wc at*
   refine hK.out _ _ hbr (fun hHeld=> ?_)
   clear hK K HFa HFb hbr
   refine wpAnyH_ready (rs:=[14]) (by kernel_rfl) (by simp) ?_
   refine AllReadyH.cons rfl (fun K hK=> ?_) AllReadyH.nil
   rw [if_pos (by kernel_rfl)]
   refine wp_store_row 105 (.tmp 10) (.tmp 44) rfl gb (frCs (q.f.k:Int) (q.f.s:Int) qv) rfl rfl 105 (frCs 0 0 (.slice none 0 0)) HS2.out frInfo rfl (frCs_all _ _ _ hqv) ?_
   have HT2:=Lib.hid (show FrBlk (Wc.setRow gb (frCs (q.f.k:Int) (q.f.s:Int) qv)) gb (q.f.k:Int) (q.f.s:Int) qv from HS2.out.row)
   have HT1:=Lib.hid (show FrBlk (Wc.setRow gb (frCs (q.f.k:Int) (q.f.s:Int) qv)) ga (p.f.k:Int) (p.f.s:Int) pv from(setRow_other _ _ _ _ (by omega)).trans HS1.out)
   have HBR:=Lib.hid (show Below w1.heap.size w1 (Wc.setRow gb (frCs (q.f.k:Int) (q.f.s:Int) qv)) from below_row hHeld (by omega) _)
   generalize Wc.setRow gb (frCs (q.f.k:Int) (q.f.s:Int) qv)=We at*
   refine hK.out _ _ HBR.out (fun hHeld=> ?_)
   clear hK K hHeld
   refine wpAnyH_done (by kernel_rfl) ?_ _
   go_wp2_with fail
   go_meet
   exact⟨ga,gb,rfl,rfl,HT1,HT2,HBR⟩
  ·have hba:=below_alloc Wd (.cells #[.int .i64 0,.int .i64 0,.slice none 0 0] 105)
   have HFa:=Lib.hid (show FrBlk (Wd.alloc (.cells #[.int .i64 0,.int .i64 0,.slice none 0 0] 105)) Wd.heap.size 0 0 (.slice none 0 0) from heap_alloc_new Wd _)
   have hg0:=hHeld.size
   have hga:=HFa.out.lt
   go_simp
   refine hK.out _ _ (Below.next hHeld hba) (fun hHeld=> ?_)
   clear hK K hba
   generalize Wd.heap.size=ga at*
   generalize Wd.alloc (.cells #[.int .i64 0,.int .i64 0,.slice none 0 0] 105)=Wa at*
   have hbb:=below_alloc Wa (.cells #[.int .i64 0,.int .i64 0,.slice none 0 0] 105)
   have HFb:=Lib.hid (show FrBlk (Wa.alloc (.cells #[.int .i64 0,.int .i64 0,.slice none 0 0] 105)) Wa.heap.size 0 0 (.slice none 0 0) from heap_alloc_new Wa _)
   have HFa:=Lib.hid (HFa.out.below hbb)
   refine wpAnyH_ready (rs:=[11]) (by kernel_rfl) (by simp) ?_
   refine AllReadyH.cons rfl (fun K hK=> ?_) AllReadyH.nil
   go_simp
   refine hK.out _ _ (Below.next hHeld hbb) (fun hHeld=> ?_)
   clear hK K hbb
   generalize Wa.heap.size=gb at*
   generalize Wa.alloc (.cells #[.int .i64 0,.int .i64 0,.slice none 0 0] 105)=Wb at*
   refine wpAnyH_ready (rs:=[13]) (by kernel_rfl) (by simp) ?_
   refine AllReadyH.cons rfl (fun K hK=> ?_) AllReadyH.nil
   rw [if_pos (by kernel_rfl)]
   refine wp_store_row 105 (.tmp 9) (.tmp 37) rfl gb (frCs (p.f.k:Int) (p.f.s:Int) pv) rfl rfl 105 (frCs 0 0 (.slice none 0 0)) HFb.out frInfo rfl (frCs_all _ _ _ hpv) ?_
   have HS1:=Lib.hid (show FrBlk (Wb.setRow gb (frCs (p.f.k:Int) (p.f.s:Int) pv)) gb (p.f.k:Int) (p.f.s:Int) pv from HFb.out.row)
   have HS2:=Lib.hid (show FrBlk (Wb.setRow gb (frCs (p.f.k:Int) (p.f.s:Int) pv)) ga 0 0 (.slice none 0 0) from(setRow_other _ _ _ _ (by omega)).trans HFa.out)
   have hbr:Below w1.heap.size w1 (Wb.setRow gb (frCs (p.f.k:Int) (p.f.s:Int) pv)):=below_row hHeld (by omega) _
   generalize Wb.setRow gb (frCs (p.f.k:Int) (p.f.s:Int) pv)=Wc at*
   refine hK.out _ _ hbr (fun hHeld=> ?_)
   clear hK K HFa HFb hbr
   refine wpAnyH_ready (rs:=[14]) (by kernel_rfl) (by simp) ?_
   refine AllReadyH.cons rfl (fun K hK=> ?_) AllReadyH.nil
   rw [if_pos (by kernel_rfl)]
   refine wp_store_row 105 (.tmp 10) (.tmp 44) rfl ga (frCs (q.f.k:Int) (q.f.s:Int) qv) rfl rfl 105 (frCs 0 0 (.slice none 0 0)) HS2.out frInfo rfl (frCs_all _ _ _ hqv) ?_
   have HT2:=Lib.hid (show FrBlk (Wc.setRow ga (frCs (q.f.k:Int) (q.f.s:Int) qv)) ga (q.f.k:Int) (q.f.s:Int) qv from HS2.out.row)
   have HT1:=Lib.hid (show FrBlk (Wc.setRow ga (frCs (q.f.k:Int) (q.f.s:Int) qv)) gb (p.f.k:Int) (p.f.s:Int) pv from(setRow_other _ _ _ _ (by omega)).trans HS1.out)
   have HBR:=Lib.hid (show Below w1.heap.size w1 (Wc.setRow ga (frCs (q.f.k:Int) (q.f.s:Int) qv)) from below_row hHeld (by omega) _)
   generalize Wc.setRow ga (frCs (q.f.k:Int) (q.f.s:Int) qv)=We at*
   refine hK.out _ _ HBR.out (fun hHeld=> ?_)
   clear hK K hHeld
   refine wpAnyH_done (by kernel_rfl) ?_ _
   go_wp2_with fail
   go_meet
   exact⟨gb,ga,rfl,rfl,HT1,HT2,HBR⟩
 case rest=>
  obtain⟨g1,g2,rfl,rfl,HF1,HF2,HB2⟩:=hcut
  have HN1:=Lib.hid (bookNum_any p.f pv wc (HPB.out.below HB2.out) (Nat.le_trans HPL.out (by decide)))
  obtain⟨n1,hn1⟩: ∃ n1,n1=numF p.f:=⟨_,rfl⟩
  have HQN:=Lib.hid (fun W (hW:Below w1.heap.size w1 W)=>bookNum_any q.f qv W (HQB.out.below hW) (Nat.le_trans HQL.out (by decide)))
  obtain⟨n2,hn2'⟩: ∃ n2,n2=numF q.f:=⟨_,rfl⟩
  rw [←hn1] at HN1
  rw [←hn2'] at HQN
  have HBD:=Lib.hid (show bookBad p.f q.f (ps.length - 2)↔(n1.2=false∨n2.2=false∨p.f.k≠6∨q.f.k≠7∨q.f.s≠p.f.s∨p.f.s<1∨999999<p.f.s∨n1.1<1∨1099511627776<n1.1∨n2.1≠ps.length - 2) by unfold bookBad;rw [hn1,hn2'])
  have HE3:=Lib.hid (show ¬ bookBad p.f q.f (ps.length - 2)→decBook b=match stsP ((ps.take (ps.length - 1)).drop 1) [] with
   | none=>none
   | some ss=>if bookOk 0 ss then some (p.f.s,n1.1,ss) else none from fun h=>by rw [HE2.out,if_neg h,hn1])
  clear hn1 hn2'
  obtain⟨u1,o1⟩:=n1
  obtain⟨u2,o2⟩:=n2
  dsimp only at HN1 HQN HBD HE3
  go_wp2_with (with_reducible refine wpList_load_fr rfl (.tmp 9) rfl g1 (p.f.k:Int) (p.f.s:Int) pv rfl HF1.out ?_)
  refine HN1.out.mono ?_
  rintro e w3 ⟨rfl,hb3⟩
  have HB3:=Lib.hid (Below.next HB2.out hb3)
  have HF13:=Lib.hid (HF1.out.below hb3)
  have HF23:=Lib.hid (HF2.out.below hb3)
  clear hb3 HN1 HB2 HF1 HF2
  go_wp2_with (with_reducible refine wpList_load_fr rfl (.tmp 10) rfl g2 (q.f.k:Int) (q.f.s:Int) qv rfl HF23.out ?_)
  refine(HQN.out w3 HB3.out).mono ?_
  rintro e w4 ⟨rfl,hb4⟩
  have HB4:=Lib.hid (Below.next HB3.out hb4)
  have HF1:=Lib.hid (HF13.out.below hb4)
  have HF2:=Lib.hid (HF23.out.below hb4)
  have HBW:=Lib.hid (Below.next HB1.out HB4.out)
  clear hb4 HQN HB3 HF13 HF23
  have a0:=HF1.out.c0
  have a1:=HF1.out.c1
  have b0:=HF2.out.c0
  have b1:=HF2.out.c1
  cases o1
  case false=>
   have HD:=Lib.hid (show decBook b=none by rw [HE2.out,if_pos (HBD.out.2 (.inl rfl))])
   go_wp2
   refine bodyPost_ret (v:= .tuple #[.int .i64 0,.int .i64 0,.slice none 0 0,.int .i64 81]) (by simp [results,Tryz.results35,go_sem]) rfl ⟨HBW.out,by rw [HD.out]⟩
  cases o2
  case false=>
   have HD:=Lib.hid (show decBook b=none by rw [HE2.out,if_pos (HBD.out.2 (.inr (.inl rfl)))])
   go_wp2
   refine bodyPost_ret (v:= .tuple #[.int .i64 0,.int .i64 0,.slice none 0 0,.int .i64 81]) (by simp [results,Tryz.results35,go_sem]) rfl ⟨HBW.out,by rw [HD.out]⟩
  have hwm:IntKind.i64.wrap ((ps.length:Int) - 2)=((ps.length - 2:Nat):Int):=by rw [IntKind.wrap_i64];omega
  have hwu:IntKind.u64.wrap ((ps.length - 2:Nat):Int)=((ps.length - 2:Nat):Int):=by rw [IntKind.wrap_u64];omega
  rcases t1:((p.f.k:Int) != 6) with _ | _
  case true=>
   have HD:=Lib.hid (show decBook b=none by rw [HE2.out,if_pos (HBD.out.2 (.inr (.inr (.inl (by simp at t1;omega)))))])
   go_wp2
   refine bodyPost_ret (v:= .tuple #[.int .i64 0,.int .i64 0,.slice none 0 0,.int .i64 81]) (by simp [results,Tryz.results35,go_sem]) rfl ⟨HBW.out,by rw [HD.out]⟩
  rcases t2:((q.f.k:Int) != 7) with _ | _
  case true=>
   have HD:=Lib.hid (show decBook b=none by rw [HE2.out,if_pos (HBD.out.2 (.inr (.inr (.inr (.inl (by simp at t2;omega))))))])
   go_wp2
   refine bodyPost_ret (v:= .tuple #[.int .i64 0,.int .i64 0,.slice none 0 0,.int .i64 81]) (by simp [results,Tryz.results35,go_sem]) rfl ⟨HBW.out,by rw [HD.out]⟩
  rcases t3:((q.f.s:Int) != (p.f.s:Int)) with _ | _
  case true=>
   have HD:=Lib.hid (show decBook b=none by rw [HE2.out,if_pos (HBD.out.2 (.inr (.inr (.inr (.inr (.inl (by simp at t3;omega)))))))])
   go_wp2
   refine bodyPost_ret (v:= .tuple #[.int .i64 0,.int .i64 0,.slice none 0 0,.int .i64 81]) (by simp [results,Tryz.results35,go_sem]) rfl ⟨HBW.out,by rw [HD.out]⟩
  rcases t4:decide ((p.f.s:Int)<1) with _ | _
  case true=>
   have HD:=Lib.hid (show decBook b=none by rw [HE2.out,if_pos (HBD.out.2 (.inr (.inr (.inr (.inr (.inr (.inl (by simp at t4;omega))))))))])
   go_wp2
   refine bodyPost_ret (v:= .tuple #[.int .i64 0,.int .i64 0,.slice none 0 0,.int .i64 81]) (by simp [results,Tryz.results35,go_sem]) rfl ⟨HBW.out,by rw [HD.out]⟩
  rcases t5:decide (999999<(p.f.s:Int)) with _ | _
  case true=>
   have HD:=Lib.hid (show decBook b=none by rw [HE2.out,if_pos (HBD.out.2 (.inr (.inr (.inr (.inr (.inr (.inr (.inl (by simp at t5;omega)))))))))])
   go_wp2
   refine bodyPost_ret (v:= .tuple #[.int .i64 0,.int .i64 0,.slice none 0 0,.int .i64 81]) (by simp [results,Tryz.results35,go_sem]) rfl ⟨HBW.out,by rw [HD.out]⟩
  rcases t6:decide ((u1:Int)<1) with _ | _
  case true=>
   have HD:=Lib.hid (show decBook b=none by rw [HE2.out,if_pos (HBD.out.2 (.inr (.inr (.inr (.inr (.inr (.inr (.inr (.inl (by simp at t6;omega))))))))))])
   go_wp2
   refine bodyPost_ret (v:= .tuple #[.int .i64 0,.int .i64 0,.slice none 0 0,.int .i64 81]) (by simp [results,Tryz.results35,go_sem]) rfl ⟨HBW.out,by rw [HD.out]⟩
  rcases t7:decide (1099511627776<(u1:Int)) with _ | _
  case true=>
   have HD:=Lib.hid (show decBook b=none by rw [HE2.out,if_pos (HBD.out.2 (.inr (.inr (.inr (.inr (.inr (.inr (.inr (.inr (.inl (by simp at t7;omega)))))))))))])
   go_wp2
   refine bodyPost_ret (v:= .tuple #[.int .i64 0,.int .i64 0,.slice none 0 0,.int .i64 81]) (by simp [results,Tryz.results35,go_sem]) rfl ⟨HBW.out,by rw [HD.out]⟩
  rcases t8:((u2:Int) != ((ps.length - 2:Nat):Int)) with _ | _
  case true=>
   have HD:=Lib.hid (show decBook b=none by rw [HE2.out,if_pos (HBD.out.2 (.inr (.inr (.inr (.inr (.inr (.inr (.inr (.inr (.inr (by simp at t8;omega)))))))))))])
   go_wp2
   refine bodyPost_ret (v:= .tuple #[.int .i64 0,.int .i64 0,.slice none 0 0,.int .i64 81]) (by simp [results,Tryz.results35,go_sem]) rfl ⟨HBW.out,by rw [HD.out]⟩
  have HEF:=Lib.hid (show decBook b=match stsP ((ps.take (ps.length - 1)).drop 1) [] with
   | none=>none
   | some ss=>if bookOk 0 ss then some (p.f.s,u1,ss) else none from HE3.out (fun h=>by
    rcases HBD.out.1 h with h | h | h | h | h | h | h | h | h | h
    ·cases h
    ·cases h
    ·simp at t1;omega
    ·simp at t2;omega
    ·simp at t3;omega
    ·simp at t4;omega
    ·simp at t5;omega
    ·simp at t6;omega
    ·simp at t7;omega
    ·simp at t8;omega))
  have hu1:IntKind.i64.wrap (u1:Int)=(u1:Int):=by simp at t7;rw [IntKind.wrap_i64];omega
  have hcut:=cut_pc bb off ps.length cap hn2 hpl
  have hmi: ∀ k,k<ps.length - 2→((ps.take (ps.length - 1)).drop 1)[k]? =ps[k+1]? :=fun k hk=>by
   rw [List.getElem?_drop,List.getElem?_take,if_pos (by omega),Nat.add_comm 1 k]
  have hml:((ps.take (ps.length - 1)).drop 1).length=ps.length - 2:=by rw [List.length_drop,List.length_take];omega
  obtain⟨mid,hmid⟩: ∃ mid,mid=(ps.take (ps.length - 1)).drop 1:=⟨_,rfl⟩
  rw [←hmid] at HEF hmi hml
  have HMI:=Lib.hid (fun(k:Nat) (hk:k<ps.length - 2)=>(show ∃ x,mid[k]? =some x∧ps[k+1]? =some x from⟨ps[k+1],(hmi k hk).trans (List.getElem?_eq_getElem (by omega)),List.getElem?_eq_getElem (by omega)⟩))
  have HML:=Lib.hid hml
  clear hmid hml hmi HE2 HE3 HBD
  go_wp2
  go_loopw [16,109] (fun sv iv wr=> ∃ (k:Nat) (xs:List (St×Value)),k≤ps.length - 2∧iv= .int .i64 (k:Int)∧xs.length=k∧Hid (StsOwn wr w4.heap.size sv xs)∧Hid (∀ x∈xs,x.1.who.length≤200)∧Hid (stsP mid []=stsP (mid.drop k) (xs.map (·.1)))∧Hid (Below w4.heap.size w4 wr)) (fun _ iv _=>ps.length - 2 - (intOf iv).toNat)
  case atStart=>exact⟨0,[],Nat.zero_le _,rfl,rfl,Lib.hid (stsOwn_nil _ _),Lib.hid (fun x hx=>by cases hx),Lib.hid rfl,Lib.hid (Below.refl _ _)⟩
  case round=>
   obtain⟨k,xs,hk,rfl,hxl,HO,HWX,HST,HB⟩:=hrel
   have HOW:=Lib.hid (fun j hj=>own_lt HO.out.1 (k:=j) hj)
   by_cases hlt:k<ps.length - 2
   ·obtain⟨x,hmk,hpk⟩:=HMI.out k hlt
    have q1:(k:Int)<((ps.length - 2:Nat):Int):=by omega
    have hdr:mid.drop k=x::mid.drop (k+1):=by
     have hkl:=getElem?_lt hmk
     rw [List.drop_eq_getElem_cons hkl]
     rw [List.getElem?_eq_getElem hkl] at hmk
     rw [Option.some.inj hmk]
    rw [hdr] at HST
    obtain⟨b2,off2,e2,dv,hxr,hxb⟩:=HHT.out (k+1) x hpk
    simp only [Option.some.injEq,Addr.mk.injEq,and_true] at e2
    obtain⟨rfl,rfl⟩:=e2
    have HXR:=Lib.hid (show wr.rangeAt bb (off+5+k*5) (pcCs x dv).toList by
     have:=range_later (range_later hxr HB4.out) HB.out
     rwa [show off+(k+1)*5=off+5+k*5 by omega] at this)
    have HXL:=Lib.hid (HBL.out x (List.mem_of_getElem? hpk))
    have HXB:=Lib.hid ((hxb.below HB4.out).below HB.out)
    obtain⟨odv,cdv,hsh,_,_⟩:=hxb
    subst hsh
    clear hmk hpk hdr hxr
    have hba:=below_alloc wr (.cells (pcCs x (.slice odv x.f.body.length cdv)) 124)
    have HBX:=Lib.hid (show (wr.alloc (.cells (pcCs x (.slice odv x.f.body.length cdv)) 124)).heap[wr.heap.size]? =some (.cells (pcCs x (.slice odv x.f.body.length cdv)) 124 (0,0)) from heap_alloc_new wr _)
    have HCD:=Lib.hid (canonDec_any x.f.body _ _ (HXB.out.below hba) (Nat.le_trans HXL.out (by decide)))
    have HB5:=Lib.hid (Below.next HB.out hba)
    have HO5:=Lib.hid (HO.out.below hba)
    have HSN:=Lib.hid (@stsP_stop x (mid.drop (k+1)) (xs.map (·.1)))
    have HSG:=Lib.hid (@stsP_go x (mid.drop (k+1)) (xs.map (·.1)))
    have HWD:=Lib.hid (decSt_who x.f.body)
    obtain⟨ds,hds⟩: ∃ ds,ds=decSt x.f.body:=⟨_,rfl⟩
    rw [←hds] at HCD HSN HSG HWD
    have HWR:=Lib.hid HB.out.size
    clear hds hba HB HO
    simp only [pcCs] at HBX HCD HB5 HO5
    obtain⟨s,e1⟩:=ds
    unfold StDP at HCD
    dsimp only at HCD HSN HSG HWD
    go_wp2_with (with_reducible refine wpList_load_pc rfl (.tmp 111) rfl bb (off+5+k*5) x (.slice odv x.f.body.length cdv) rfl HXR.out ?_)
    refine HCD.out.mono ?_
    rintro e w5 ⟨lv,rfl,hol,hb5⟩
    have hbz:=below_alloc w5 (.cells (stCs stNone (.slice none 0 0)) 130)
    have HSZ:=Lib.hid (stBlk_alloc w5 stNone (.slice none 0 0))
    have h1v:lv.oneCell'=true:=by obtain⟨_,_,e,_⟩:=own_shape hol;rw [e];rfl
    have HOL:=Lib.hid hol
    have HB5b:=Lib.hid (Below.next HB5.out hb5)
    have HOS:=Lib.hid (HO5.out.below hb5)
    have HBX5:=Lib.hid ((hb5.block _ (Array.getElem?_eq_some_iff.1 HBX.out).1).trans HBX.out)
    have hzz:=HBX.out
    have hg8:wr.heap.size<w5.heap.size:=by have:=(Array.getElem?_eq_some_iff.1 HBX5.out).1;exact this
    have hsa:(wr.alloc (.cells #[.int .i64 (x.pos:Int),.int .i64 (x.sz:Int),.int .i64 (x.f.k:Int),.int .i64 (x.f.s:Int),.slice odv x.f.body.length cdv] 124)).heap.size=wr.heap.size+1:=World.size_alloc _ _
    rw [hsa] at HOL
    clear hzz hsa hol hb5 HCD HB5 HO5 HBX HXR HXB
    simp only [stCs,stNone] at hbz HSZ
    go_wp2_with (with_reducible refine wpList_store_stW rfl (.tmp 19) (.tmp 118) rfl w5.heap.size ⟨0,0,0,0,0,[],0,0,0,0,0,[]⟩ s (.slice none 0 0) lv rfl rfl HSZ.out h1v ?_)
    intro w6 hw6
    have HS6:=Lib.hid (show StBlk w6 w5.heap.size s lv by rw [hw6.out];exact HSZ.out.row)
    have hb6:Below w5.heap.size w5 w6:=by rw [hw6.out];exact below_row hbz (Nat.le_refl _) _
    have HB6:=Lib.hid (Below.next HB5b.out hb6)
    have HO6:=Lib.hid (HOS.out.below hb6)
    have HL6:=Lib.hid (lnIn_own (A:=fun j=>wr.heap.size≤j∧j<w5.heap.size) HOL.out (fun j h1 h2=>⟨by omega,h2⟩))
    have HL6:=Lib.hid (HL6.out.below hb6)
    have HBX6:=Lib.hid ((hb6.block _ hg8).trans HBX5.out)
    have x2:w6.cell? ⟨wr.heap.size,2,none⟩=some (.int .i64 (x.f.k:Int)):=by simp [World.cell?,HBX6.out]
    have x3:w6.cell? ⟨wr.heap.size,3,none⟩=some (.int .i64 (x.f.s:Int)):=by simp [World.cell?,HBX6.out]
    have s0:=HS6.out.c0
    have hwr:w4.heap.size≤wr.heap.size:=by have:=HWR.out;omega
    have hs6:w5.heap.size<w6.heap.size:=HS6.out.lt
    clear hw6 hb6 hbz HSZ HOL HOS HBX5 HBX6 HB5b
    rcases z1:(e1 != 0) with _ | _
    case true=>
     have HD:=Lib.hid (show decBook b=none by rw [HEF.out,HST.out,HSN.out (.inl (by simpa using z1))])
     go_wp2
     refine bodyPost_ret (v:= .tuple #[.int .i64 0,.int .i64 0,.slice none 0 0,.int .i64 81]) (by simp [results,Tryz.results35,go_sem]) rfl ⟨Below.next HBW.out HB6.out,by rw [HD.out]⟩
    rcases z2:((x.f.k:Int) != 5) with _ | _
    case true=>
     have HD:=Lib.hid (show decBook b=none by rw [HEF.out,HST.out,HSN.out (.inr (.inl (by simp at z2;omega)))])
     go_wp2
     refine bodyPost_ret (v:= .tuple #[.int .i64 0,.int .i64 0,.slice none 0 0,.int .i64 81]) (by simp [results,Tryz.results35,go_sem]) rfl ⟨Below.next HBW.out HB6.out,by rw [HD.out]⟩
    rcases z3:((x.f.s:Int) != s.order) with _ | _
    case true=>
     have HD:=Lib.hid (show decBook b=none by rw [HEF.out,HST.out,HSN.out (.inr (.inr (by simpa using z3)))])
     go_wp2
     refine bodyPost_ret (v:= .tuple #[.int .i64 0,.int .i64 0,.slice none 0 0,.int .i64 81]) (by simp [results,Tryz.results35,go_sem]) rfl ⟨Below.next HBW.out HB6.out,by rw [HD.out]⟩
    have HST2:=Lib.hid (show stsP mid []=stsP (mid.drop (k+1)) ((xs++[(s,lv)]).map (·.1)) by
     rw [HST.out,HSG.out (by
      rintro(h | h | h)
      ·exact h (by simpa using z1)
      ·simp at z2;omega
      ·simp at z3;omega)]
     simp)
    have hk1:IntKind.i64.wrap ((k:Int)+1)=(k:Int)+1:=by rw [IntKind.wrap_i64];omega
    have hll:xs.length+1≤1000000000:=by omega
    have h46:w4.heap.size≤w6.heap.size:=by omega
    clear HSN HSG HST
    go_upto_region 17 with fail
    generalize w5.heap.size=gs at*
    go_wp2_with (first | (with_reducible refine wpList_load_st rfl (.tmp 19) rfl gs s lv rfl HS6.out ?_) | (refine wpList_appSt (p:=s) (dv:=lv) rfl (.tmp 136) (.tmp 138) rfl rfl rfl HO6.out h46 (HL6.out.mono fun j hj=>⟨by omega,by omega,fun e=>by have:=HOW.out j e;omega⟩) hll ?_))
    intro v7 w7 ho7 hb7 _ _
    have HO7:=Lib.hid ho7
    have HB7:=Lib.hid ((HB6.out.mono (Nat.le_refl _)).trans hb7)
    clear ho7 hb7 HO6 HB6 HS6 HL6
    go_wp2
    go_roundw
    case rel=>exact⟨k+1,xs++[(s,lv)],by omega,by go_num,by simp [hxl],HO7,Lib.hid (fun y hy=>by
     rcases List.mem_append.1 hy with hy | hy
     ·exact HWX.out y hy
     ·simp at hy;subst hy;exact HWD.out),HST2,HB7⟩
    case measure=>simp [intOf];omega
   ·obtain rfl:k=ps.length - 2:=by omega
    have HSF:=Lib.hid (show stsP mid []=some (xs.map (·.1)) by rw [HST.out,List.drop_eq_nil_of_le (by rw [HML.out];exact Nat.le_refl _)];rfl)
    have HEG:=Lib.hid (show decBook b=if bookOk 0 (xs.map (·.1)) then some (p.f.s,u1,xs.map (·.1)) else none by rw [HEF.out,HSF.out])
    have HSI:=Lib.hid (HO.out.stsIn (A:=fun j=>w.heap.size≤j) (fun j hj=>Nat.le_trans HBW.out.size hj))
    have HVL:=Lib.hid (bookValid_any (xs.map (·.1)) _ wr HSI.out (fun s hs=>by
     obtain⟨y,hy,rfl⟩:=List.mem_map.1 hs
     exact Nat.le_trans (HWX.out y hy) (by decide)))
    obtain⟨vb,hvb⟩: ∃ vb,vb=bookOk 0 (xs.map (·.1)):=⟨_,rfl⟩
    rw [←hvb] at HEG HVL
    clear hvb HSF HST
    go_wp2_with fail
    refine HVL.out.mono ?_
    rintro e w9 ⟨rfl,hb9⟩
    have HB9:=Lib.hid (Below.next HB.out hb9)
    have HS9:=Lib.hid (HSI.out.below hb9)
    clear hb9
    cases vb
    ·have HD:=Lib.hid (show decBook b=none by rw [HEG.out];rfl)
     go_wp2
     refine bodyPost_ret (v:= .tuple #[.int .i64 0,.int .i64 0,.slice none 0 0,.int .i64 81]) (by simp [results,Tryz.results35,go_sem]) rfl ⟨Below.next HBW.out HB9.out,by rw [HD.out]⟩
    ·have HD:=Lib.hid (show decBook b=some (p.f.s,u1,xs.map (·.1)) by rw [HEG.out,if_pos rfl])
     go_wp2
     refine bodyPost_ret (v:= .tuple #[.int .i64 (p.f.s:Int),.int .i64 (u1:Int),_,.int .i64 0]) (by simp [results,Tryz.results35,go_sem];first | rfl | skip) rfl ⟨Below.next HBW.out HB9.out,by rw [HD.out];exact⟨_,rfl,HS9.out⟩⟩
end Go.Proofs.YtcglcphhfmkccaaGreatDoor

namespace Go.Proofs.YtcglcphhfmkccaaGreatDoor
open Go.RowKit
def planS (ss:List (List UInt8)):Pl:=⟨true,firstM,ss,22,0⟩
theorem stray_open {d:Disk} (hd:d.down=false) (hn: ∀ f∈d.files,rightName f.name=true) {t:Bool} {m:Man} {n:List UInt8} (h:n∈straysD d t m):openE d n=0∧(doD d (opSize n)).2.2.1=(sizeN d n:Int):=by
 unfold straysD at h
 obtain⟨h1,_⟩:=List.mem_filter.1 h
 obtain⟨f,hf,rfl⟩:=List.mem_map.1 h1
 rcases ha:atF d.files f.name with _ | x
 ·have:=List.find?_eq_none.1 ha f hf
  simp at this
 ·have ho:openE d f.name=0:=by unfold openE;rw [hd,hn f hf,ha];rfl
  refine⟨ho,?_⟩
  rw [sizeO ho ha,sizeN_some ha]
theorem strays_len (d:Disk) (t:Bool) (m:Man):(straysD d t m).length≤d.files.length:=by
 unfold straysD
 refine Nat.le_trans (List.length_filter_le _ _) ?_
 simp
theorem sizesN_snoc (d:Disk) (a:List (List UInt8)) (n:List UInt8):sizesN d (a++[n])=sizesN d a+sizeN d n:=by simp [sizesN]
theorem strays_nodup {d:Disk} (h:Rise d.files) (t:Bool) (m:Man):(straysD d t m).Nodup:=(strays_sub d t m h).1.imp fun h=>bytes_ne h
theorem sizesN_take (d:Disk): ∀ (ss:List (List UInt8)) (k:Nat),sizesN d (ss.take k)≤sizesN d ss
 | [],k=>by simp
 | x::r,0=>by simp [sizesN]
 | x::r,k+1=>by
  have:=sizesN_take d r k
  simp only [sizesN,List.take_succ_cons,List.map_cons,List.sum_cons] at this ⊢
  omega
def FreshP (w:World) (r:Pl×Int) (e:Ending) (w':World):Prop:=
 ∃ sv rv,e= .returned (.tuple #[plV r.1 sv rv,.int .i64 r.2])∧SgIn (fun k=>w.heap.size≤k) w' sv r.1.man.segs∧StIn (fun k=>w.heap.size≤k) w' rv r.1.remove∧sv.oneCell'=true∧rv.oneCell'=true∧Below w.heap.size w w'
theorem stIn_nil (A:Nat→Prop) (w:World):StIn A w (.slice none 0 0) []:=⟨none,0,rfl,Nat.le_refl _,by decide,fun i g hg=>by simp at hg⟩
set_option maxRecDepth 100000 in
set_option maxHeartbeats 8000000 in
theorem freshG_any (w:World) (f m:Nat) (d:Disk) (L:List Slot) (h:FsAt w f m d L) (hdn:d.down=false) (hn:NibTab w):
  Calls Tryz.prog 19 #[.pointer (some ⟨f,0,none⟩)] w (FreshP w (freshD d)):=by
 have HH:=Lib.hid h
 have HDN:=Lib.hid hdn
 have HNB:=Lib.hid hn
 have hrm:=h.ok.room
 have hus:=h.ok.used
 have HSN:=Lib.hid (fun n (hm:n∈straysD d false firstM)=>stray_open hdn h.ok.names hm)
 have HSL:=Lib.hid (strays_len d false firstM)
 have hcn:=h.ok.count
 have HLL:=Lib.hid (show L.length=d.files.length by rw [←h.fil];simp [fils])
 have HSZ:=Lib.hid (sizesN_le (ns:=straysD d false firstM) h.ok.rise (strays_nodup h.ok.rise false firstM))
 have HFD:=Lib.hid (show freshD d=if d.room - (usedF d.files:Int)+(sizesN d (straysD d false firstM):Int)<51∨700<(d.files.length:Int) - ((straysD d false firstM).length:Int)+2 then (planZ,54) else (planS (straysD d false firstM),0) from rfl)
 have HSTR:=Lib.hid (fun W (hb:Below w.heap.size w W) mn sv=>strays_not W f m d L (h.below hb) hdn mn sv)
 have HRF:=Lib.hid (fun(W:World) (hb:Below w.heap.size w W)=>h.below hb)
 have HB0:=Lib.hid (below_alloc w (.cells #[.bool false,.int .i64 0,.int .i64 0,.int .i64 0,.int .i64 0,.int .i64 0,.slice none 0 0,.slice none 0 0,.int .i64 0,.int .i64 0] 37))
 have HR0:=Lib.hid (show PlBlk (w.alloc (.cells #[.bool false,.int .i64 0,.int .i64 0,.int .i64 0,.int .i64 0,.int .i64 0,.slice none 0 0,.slice none 0 0,.int .i64 0,.int .i64 0] 37)) w.heap.size planZ (.slice none 0 0) (.slice none 0 0) from plBlk_alloc w planZ (.slice none 0 0) (.slice none 0 0))
 obtain⟨ss,hss⟩: ∃ ss,ss=straysD d false firstM:=⟨_,rfl⟩
 have hss1: ∀ mn,mn=firstM→straysD d false mn=ss:=fun mn e=>by rw [e,hss]
 have HSTR:=Lib.hid (fun W hb sv=>by have:=HSTR.out W hb firstM sv;rw [hss1 firstM rfl] at this;exact this)
 rw [←hss] at HSN HSL HSZ HFD
 have HFD2:=Lib.hid (show freshD d=if d.room - (usedF d.files:Int)+(sizesN d ss:Int)<51∨700<(d.files.length:Int) - (ss.length:Int)+2 then (planZ,54) else (planS ss,0) from HFD.out)
 clear h hdn hn hss hss1 HFD
 obtain⟨U,hU⟩: ∃ U,U=usedF d.files:=⟨_,rfl⟩
 rw [←hU] at hus HSZ HFD2
 have HUU:=Lib.hid hU
 clear hU
 go_enter Tryz.func19,Tryz.ntmps19
 go_wp2_with fail
 refine(first_any _).mono ?_
 rintro e w1 ⟨sv,rfl,hsg,hone,hb1⟩
 have HB1:=Lib.hid (Below.next HB0.out hb1)
 have HR1:=Lib.hid (HR0.out.below hb1)
 have HSG:=Lib.hid (hsg.mono (A':=fun k=>w.heap.size+1≤k) (fun k hk=>by simp at hk;omega))
 obtain⟨osg,scap,rfl,_,_,_⟩:=hsg
 have HMz:=Lib.hid (mnBlk_alloc w1 zeroM (.slice none 0 0))
 simp only [mnCs,zeroM] at HMz
 clear hb1 HB0 HR0 hone
 go_wp2_with (with_reducible refine wpList_store_mn rfl (.tmp 4) (.tmp 13) rfl w1.heap.size ⟨0,0,0,0,0,[]⟩ firstM (.slice none 0 0) (.slice osg firstM.segs.length scap) rfl rfl HMz.out rfl ?_)
 intro w2 hw2
 have hba:=below_alloc w1 (.cells #[.int .i64 0,.int .i64 0,.int .i64 0,.int .i64 0,.int .i64 0,.slice none 0 0] 34)
 have HM2:=Lib.hid (show MnBlk w2 w1.heap.size firstM (.slice osg firstM.segs.length scap) by rw [hw2.out];exact HMz.out.row)
 have HBW:=Lib.hid (show Below w1.heap.size w1 w2 by rw [hw2.out];exact below_row hba (Nat.le_refl _) _)
 have HB2:=Lib.hid (Below.next HB1.out HBW.out)
 have HR2:=Lib.hid (HR1.out.below HBW.out)
 have HSG2:=Lib.hid (HSG.out.below HBW.out)
 clear hw2 hba HMz HB1 HR1 HSG HBW
 generalize w1.heap.size=b4 at*
 have HHD:=Lib.hid (header_any 1 1 w2 (HNB.out.below HB2.out))
 obtain⟨er,her⟩: ∃ y,y=hdrEnc 1 1:=⟨_,rfl⟩
 have HL:=Lib.hid (show er.1.length=22 by rw [her];exact first_len.1)
 rw [←her] at HHD
 clear her
 go_wp2_with fail
 refine HHD.out.mono ?_
 rintro e w3 ⟨v3,rfl,ho3,hb3⟩
 obtain⟨o3,cap3,rfl,_,_⟩:=own_shape ho3
 rw [HL.out]
 have HM3:=Lib.hid (HM2.out.below hb3)
 have HB3:=Lib.hid (Below.next HB2.out hb3)
 have HR3:=Lib.hid (HR2.out.below hb3)
 have HSG3:=Lib.hid (HSG2.out.below hb3)
 have HNB3:=Lib.hid (HNB.out.below HB3.out)
 clear ho3 hb3 HHD HM2 HB2 HR2 HSG2 HL
 go_upto_region 3 with fail
 go_cut [7] from 18 to 24 (fun p wx=> ∃ g rv,p= .pointer (some ⟨g,0,none⟩)∧Hid (PlBlk wx g (planS ss) (.slice osg firstM.segs.length scap) rv)∧Hid (wx.ownsRow w3.heap.size 9 1 rv ss.length (ss.map encStr))∧Hid (Below w3.heap.size w3 wx))
 case first=>
  refine wp_region_held_drew (S:=fun w'=>Below w3.heap.size w3 w') (by kernel_rfl) (show Below w3.heap.size w3 w3.drew from below_drewN' w3 1) (fun hHeld=> ?_)
  refine tkl 0 b4 0 [.int .i64 1,.int .i64 2,.int .i64 0,.int .i64 0,.int .i64 0,.slice osg firstM.segs.length scap] rfl rfl (fun w' h j v hv=>by rw [Nat.zero_add,(HM3.out.below h).cell];simpa [mnCs,firstM] using hv) Tryz.underlying34 rfl (by rw [mnInfo];rfl) ?_
  simp only [pA,pB,pC,pD]
  refine tq 1 rfl ?_
  refine tq 2 rfl ?_
  refine tq 3 rfl ?_
  refine tkl 4 b4 0 [.int .i64 1,.int .i64 2,.int .i64 0,.int .i64 0,.int .i64 0,.slice osg firstM.segs.length scap] rfl rfl (fun w' h j v hv=>by rw [Nat.zero_add,(HM3.out.below h).cell];simpa [mnCs,firstM] using hv) Tryz.underlying34 rfl (by rw [mnInfo];rfl) ?_
  simp only [pA,pB,pC,pD]
  generalize World.drew _=Wd at*
  refine wpAnyH_ready (rs:=[5,7]) (by kernel_rfl) (by simp) ?_
  refine AllReadyH.cons rfl (fun K hK=> ?_) (AllReadyH.cons rfl (fun K hK=> ?_) AllReadyH.nil)
  ·go_simp
   go_at_call 23
   refine(HSTR.out Wd (Below.next HB3.out hHeld) _).mono ?_
   rintro e w4 ⟨v4,rfl,ho4,hb4⟩
   have HO4:=Lib.hid (own_mono ho4 hHeld.size)
   obtain⟨o4,cap4,rfl,_,_⟩:=own_shape ho4
   have HB4:=Lib.hid (Below.next hHeld hb4)
   clear ho4 hb4 hHeld
   go_wp2_with fail
   refine hK.out _ _ HB4.out (fun hHeld=> ?_)
   clear hK K
   refine tq 6 rfl ?_
   have HBA:=Lib.hid (below_alloc w4 (.cells #[.bool false,.int .i64 0,.int .i64 0,.int .i64 0,.int .i64 0,.int .i64 0,.slice none 0 0,.slice none 0 0,.int .i64 0,.int .i64 0] 37))
   have HB5:=Lib.hid (Below.next HB4.out HBA.out)
   have HGZ:=Lib.hid (show PlBlk (w4.alloc (.cells #[.bool false,.int .i64 0,.int .i64 0,.int .i64 0,.int .i64 0,.int .i64 0,.slice none 0 0,.slice none 0 0,.int .i64 0,.int .i64 0] 37)) w4.heap.size planZ (.slice none 0 0) (.slice none 0 0) from plBlk_alloc w4 planZ (.slice none 0 0) (.slice none 0 0))
   have hgx:w3.heap.size≤w4.heap.size:=HB4.out.size
   refine wpAnyH_ready (rs:=[7]) (by kernel_rfl) (by simp) ?_
   refine AllReadyH.cons rfl (fun K hK=> ?_) AllReadyH.nil
   go_simp
   refine hK.out _ _ HB5.out (fun hHeld=> ?_)
   clear hK K HB4 hHeld
   refine wpAnyH_ready (rs:=[8]) (by kernel_rfl) (by simp) ?_
   refine AllReadyH.cons rfl (fun K hK=> ?_) AllReadyH.nil
   rw [if_pos (by kernel_rfl)]
   refine wp_store_row 37 (.tmp 7) (.tmp 24) rfl w4.heap.size (plCs (planS ss) (.slice osg firstM.segs.length scap) (.slice o4 ss.length cap4)) rfl rfl 37 (plCs planZ (.slice none 0 0) (.slice none 0 0)) HGZ.out plInfo rfl (plCs_all _ _ _ rfl rfl) ?_
   have HG6:=Lib.hid (show PlBlk ((w4.alloc (.cells #[.bool false,.int .i64 0,.int .i64 0,.int .i64 0,.int .i64 0,.int .i64 0,.slice none 0 0,.slice none 0 0,.int .i64 0,.int .i64 0] 37)).setRow w4.heap.size (plCs (planS ss) (.slice osg firstM.segs.length scap) (.slice o4 ss.length cap4))) w4.heap.size (planS ss) (.slice osg firstM.segs.length scap) (.slice o4 ss.length cap4) from HGZ.out.row)
   have HBR:=Lib.hid (show Below w4.heap.size w4 ((w4.alloc (.cells #[.bool false,.int .i64 0,.int .i64 0,.int .i64 0,.int .i64 0,.int .i64 0,.slice none 0 0,.slice none 0 0,.int .i64 0,.int .i64 0] 37)).setRow w4.heap.size (plCs (planS ss) (.slice osg firstM.segs.length scap) (.slice o4 ss.length cap4))) from below_row HBA.out (Nat.le_refl _) _)
   have HB6:=Lib.hid (show Below w3.heap.size w3 ((w4.alloc (.cells #[.bool false,.int .i64 0,.int .i64 0,.int .i64 0,.int .i64 0,.int .i64 0,.slice none 0 0,.slice none 0 0,.int .i64 0,.int .i64 0] 37)).setRow w4.heap.size (plCs (planS ss) (.slice osg firstM.segs.length scap) (.slice o4 ss.length cap4))) from below_row HB5.out hgx _)
   have HO6:=Lib.hid (own_later HO4.out HBR.out)
   refine hK.out _ _ HB6.out (fun hHeld=> ?_)
   clear hK K hHeld HGZ HB5
   refine wpAnyH_done (by kernel_rfl) ?_ _
   generalize (w4.alloc (.cells #[.bool false,.int .i64 0,.int .i64 0,.int .i64 0,.int .i64 0,.int .i64 0,.slice none 0 0,.slice none 0 0,.int .i64 0,.int .i64 0] 37)).setRow w4.heap.size (plCs (planS ss) (.slice osg firstM.segs.length scap) (.slice o4 ss.length cap4))=W6 at*
   go_wp2_with fail
   go_meet
   exact⟨_,_,rfl,HG6,HO6,HB6⟩
  ·have HBz:=Lib.hid (Below.next hHeld (below_alloc Wd (.cells #[.bool false,.int .i64 0,.int .i64 0,.int .i64 0,.int .i64 0,.int .i64 0,.slice none 0 0,.slice none 0 0,.int .i64 0,.int .i64 0] 37)))
   have HGZ:=Lib.hid (show PlBlk (Wd.alloc (.cells #[.bool false,.int .i64 0,.int .i64 0,.int .i64 0,.int .i64 0,.int .i64 0,.slice none 0 0,.slice none 0 0,.int .i64 0,.int .i64 0] 37)) Wd.heap.size planZ (.slice none 0 0) (.slice none 0 0) from plBlk_alloc Wd planZ (.slice none 0 0) (.slice none 0 0))
   have hgx:w3.heap.size≤Wd.heap.size:=hHeld.size
   have hgz:Wd.heap.size<(Wd.alloc (.cells #[.bool false,.int .i64 0,.int .i64 0,.int .i64 0,.int .i64 0,.int .i64 0,.slice none 0 0,.slice none 0 0,.int .i64 0,.int .i64 0] 37)).heap.size:=HGZ.out.lt
   go_simp
   refine hK.out _ _ HBz.out (fun hHeld=> ?_)
   clear hK K
   generalize Wd.heap.size=gx at*
   generalize Wd.alloc (.cells #[.bool false,.int .i64 0,.int .i64 0,.int .i64 0,.int .i64 0,.int .i64 0,.slice none 0 0,.slice none 0 0,.int .i64 0,.int .i64 0] 37)=Wz at*
   refine wpAnyH_ready (rs:=[5]) (by kernel_rfl) (by simp) ?_
   refine AllReadyH.cons rfl (fun K hK=> ?_) AllReadyH.nil
   go_simp
   go_at_call 23
   refine(HSTR.out Wz (Below.next HB3.out hHeld) _).mono ?_
   rintro e W5 ⟨v4,rfl,ho4,hb5⟩
   have HO4:=Lib.hid ho4
   obtain⟨o4,cap4,rfl,_,_⟩:=own_shape ho4
   have HB5:=Lib.hid (Below.next hHeld hb5)
   have HGZ:=Lib.hid (HGZ.out.below hb5)
   have hsz:=hHeld.size
   clear ho4 hb5 hHeld HBz
   go_wp2_with fail
   refine hK.out _ _ HB5.out (fun hHeld=> ?_)
   clear hK K
   refine tq 6 rfl ?_
   refine wpAnyH_ready (rs:=[8]) (by kernel_rfl) (by simp) ?_
   refine AllReadyH.cons rfl (fun K hK=> ?_) AllReadyH.nil
   rw [if_pos (by kernel_rfl)]
   refine wp_store_row 37 (.tmp 7) (.tmp 24) rfl gx (plCs (planS ss) (.slice osg firstM.segs.length scap) (.slice o4 ss.length cap4)) rfl rfl 37 (plCs planZ (.slice none 0 0) (.slice none 0 0)) HGZ.out plInfo rfl (plCs_all _ _ _ rfl rfl) ?_
   have HG6:=Lib.hid (show PlBlk (W5.setRow gx (plCs (planS ss) (.slice osg firstM.segs.length scap) (.slice o4 ss.length cap4))) gx (planS ss) (.slice osg firstM.segs.length scap) (.slice o4 ss.length cap4) from HGZ.out.row)
   have HB6:=Lib.hid (show Below w3.heap.size w3 (W5.setRow gx (plCs (planS ss) (.slice osg firstM.segs.length scap) (.slice o4 ss.length cap4))) from below_row HB5.out hgx _)
   have HO6:=Lib.hid (own_mono (own_setRow HO4.out hgz (plCs (planS ss) (.slice osg firstM.segs.length scap) (.slice o4 ss.length cap4))) hsz)
   refine hK.out _ _ HB6.out (fun hHeld=> ?_)
   clear hK K hHeld HGZ HB5
   generalize W5.setRow gx (plCs (planS ss) (.slice osg firstM.segs.length scap) (.slice o4 ss.length cap4))=W6 at*
   refine wpAnyH_done (by kernel_rfl) ?_ _
   go_wp2_with fail
   go_meet
   exact⟨_,_,rfl,HG6,HO6,HB6⟩
 case rest=>
  obtain⟨gx,rv,rfl,HG6,HO6,HB6⟩:=hcut
  obtain⟨orv,rcap,rfl,_,_⟩:=own_shape HO6.out
  have HBW:=Lib.hid (Below.next HB3.out HB6.out)
  have HFR:=Lib.hid (free_any wc f m d L (HRF.out wc HBW.out))
  rw [←HUU.out] at HFR
  go_wp2_with fail
  refine HFR.out.mono ?_
  rintro e w7 ⟨rfl,hb7⟩
  have HB7:=Lib.hid (Below.next HB6.out hb7)
  have HG7:=Lib.hid (HG6.out.below hb7)
  have HO7:=Lib.hid (own_later HO6.out hb7)
  have r7:=HG7.out.c7
  clear hb7 HFR HG6 HO6 HB6 HBW
  go_wp2
  go_loopw [8,30] (fun rmv iv wr=> ∃ k:Nat,k≤ss.length∧iv= .int .i64 (k:Int)∧rmv= .int .i64 (d.room - (U:Int)+(sizesN d (ss.take k):Int))∧Hid (Below w7.heap.size w7 wr)) (fun _ iv _=>ss.length - (intOf iv).toNat)
  case atStart=>exact⟨0,Nat.zero_le _,rfl,by simp [sizesN],Lib.hid (Below.refl _ _)⟩
  case round=>
   obtain⟨k,hk,rfl,rfl,HB⟩:=hrel
   by_cases hlt:k<ss.length
   ·obtain⟨x,hx,htk,hm⟩:=nth ss k hlt
    have q1:(k:Int)<(ss.length:Int):=by omega
    obtain⟨g7,cap7,e7,_,_,_,_,hcl⟩:=own_get HO7.out (by omega)
    simp only [Value.slice.injEq,true_and] at e7
    obtain⟨rfl,rfl⟩:=e7
    have k1:wr.cell? ⟨g7,k,none⟩=some (.string ⟨x.toArray⟩):=cell_later HB.out (hcl k _ (by rw [List.getElem?_map,hx];rfl))
    have HSI:=Lib.hid (size_any wr f m d L (HRF.out wr (Below.next HB3.out (Below.next HB7.out HB.out))) x)
    rw [(HSN.out x hm).2] at HSI
    generalize (doD d (opSize x)).2.2.2=ex at*
    have HTK:=Lib.hid (show sizesN d (ss.take (k+1))=sizesN d (ss.take k)+sizeN d x by rw [htk,sizesN_snoc])
    have hle:sizesN d (ss.take (k+1))≤U:=Nat.le_trans (sizesN_take d ss (k+1)) HSZ.out
    rw [HTK.out] at hle
    obtain⟨a,ha⟩: ∃ a,a=sizesN d (ss.take k):=⟨_,rfl⟩
    obtain⟨n,hn⟩: ∃ n,n=sizeN d x:=⟨_,rfl⟩
    rw [←ha,←hn] at hle HTK
    rw [←hn] at HSI
    rw [←ha]
    have hw1:IntKind.i64.wrap (d.room - (U:Int)+(a:Int)+(n:Int))=d.room - (U:Int)+((a+n:Nat):Int):=by rw [IntKind.wrap_i64];omega
    have hk1:IntKind.i64.wrap ((k:Int)+1)=(k:Int)+1:=by have:=HSL.out;rw [IntKind.wrap_i64];omega
    clear hx htk hm hcl ha hn hle
    go_wp2_with fail
    refine HSI.out.mono ?_
    rintro e w8 ⟨rfl,rfl⟩
    go_wp2
    go_roundw
    case rel=>exact⟨k+1,by omega,by go_num,by rw [HTK.out];congr 1,HB⟩
    case measure=>simp [intOf];omega
   ·obtain rfl:k=ss.length:=by omega
    rw [List.take_length]
    have HBC:=Lib.hid (Below.next HB7.out HB.out)
    have HG8:=Lib.hid (HG7.out.below HB.out)
    have HR8:=Lib.hid (HR3.out.below HBC.out)
    have HM8:=Lib.hid (HM3.out.below HBC.out)
    have HS8:=Lib.hid (HSG3.out.below HBC.out)
    have HO8:=Lib.hid (stIn_own (A:=fun k=>w3.heap.size≤k) (l:=ss) (own_later HO7.out HB.out) (fun _ h=>h))
    obtain⟨R,hR⟩: ∃ R,R=d.room - (U:Int)+(sizesN d ss:Int):=⟨_,rfl⟩
    rw [←hR] at HFD2
    rw [←hR]
    clear hR
    generalize ss.length=ns at*
    have hw51:IntKind.i64.wrap 51=51:=by decide
    go_wp2_with fail
    refine wp_region_held_drew (S:=fun w'=>Below wr.heap.size wr w') (by kernel_rfl) (show Below wr.heap.size wr wr.drew from below_drewN' wr 1) (fun hHeld=> ?_)
    refine tq 0 rfl ?_
    refine tq 1 rfl ?_
    refine tq 2 rfl ?_
    refine tkl 3 b4 0 [.int .i64 1,.int .i64 2,.int .i64 0,.int .i64 0,.int .i64 0,.slice osg firstM.segs.length scap] rfl rfl (fun w' h j v hv=>by rw [Nat.zero_add,(HM8.out.below h).cell];simpa [mnCs,firstM] using hv) Tryz.underlying34 rfl (by rw [mnInfo];rfl) ?_
    simp only [pA,pB,pC,pD]
    generalize World.drew _=We at*
    refine wpAnyH_ready (rs:=[4]) (by kernel_rfl) (by simp) ?_
    refine AllReadyH.cons rfl (fun K hK=> ?_) AllReadyH.nil
    go_simp
    go_at_call 32
    refine(manSize_any firstM (.slice osg firstM.segs.length scap) We (HS8.out.row.below hHeld) ((HNB3.out.below HBC.out).below hHeld)).mono ?_
    rw [first_len.2]
    rintro e w9 ⟨rfl,hb9⟩
    have HB9:=Lib.hid (Below.next hHeld hb9)
    clear hb9 hHeld
    go_wp2_with fail
    refine hK.out _ _ HB9.out (fun hHeld=> ?_)
    clear hK K
    rcases hr:decide (R<51) with _ | _
    ·have HR1:=Lib.hid (show 51≤R by simpa using hr)
     refine tq 5 rfl ?_
     refine tq 6 rfl ?_
     refine tq 7 rfl ?_
     have FX1:=Lib.hid (fun(wF:World) (hSw:(fun w'=>Below wr.heap.size wr w') wF)=>((HG8.out.below hSw).c7))
     refine tf FX1 8 rfl ?_
     refine tf FX1 11 rfl ?_
     refine tf FX1 12 rfl ?_
     refine tf FX1 13 rfl ?_
     clear FX1
     refine wpAnyH_ready (rs:=[9]) (by kernel_rfl) (by simp) ?_
     refine AllReadyH.cons rfl (fun K hK=> ?_) AllReadyH.nil
     go_simp
     go_at_call 33
     refine(list_any w9 f m d L (HRF.out w9 (Below.next HB3.out (Below.next HBC.out HB9.out))) HDN.out).mono ?_
     rintro e w10 ⟨vl,rfl,hol,hb10⟩
     obtain⟨ol,lcap,rfl,_,_⟩:=own_shape hol
     rw [HLL.out]
     have HB10:=Lib.hid (Below.next HB9.out hb10)
     have hnl:=HSL.out
     obtain⟨nf,hnf⟩: ∃ nf,nf=d.files.length:=⟨_,rfl⟩
     rw [←hnf] at hcn HFD2 hnl
     rw [←hnf]
     have hw1:IntKind.i64.wrap ((nf:Int) - (ns:Int))=(nf:Int) - (ns:Int):=by rw [IntKind.wrap_i64];omega
     have hw2:IntKind.i64.wrap ((nf:Int) - (ns:Int)+2)=(nf:Int) - (ns:Int)+2:=by rw [IntKind.wrap_i64];omega
     clear hol hb10 hHeld hnf hnl
     go_wp2_with fail
     refine hK.out _ _ HB10.out (fun hHeld=> ?_)
     clear hK K
     have HG9:=Lib.hid (HG8.out.below HB10.out)
     have HR9:=Lib.hid (HR8.out.below HB10.out)
     have HBE:=Lib.hid (Below.next HB3.out (Below.next HBC.out HB10.out))
     have HS9:=Lib.hid (HS8.out.below HB10.out)
     have HO9:=Lib.hid (HO8.out.below HB10.out)
     rcases h7:decide (700<(nf:Int) - (ns:Int)+2) with _ | _
     ·have HFE:=Lib.hid (show freshD d=(planS ss,0) by rw [HFD2.out,if_neg];rintro(h | h);exact absurd HR1.out (by omega);have:=of_decide_eq_false h7;exact this h)
      refine tq 10 rfl ?_
      refine tq 14 rfl ?_
      refine tq 15 rfl ?_
      refine tq 16 rfl ?_
      refine tq 17 rfl ?_
      refine wpAnyH_done (by kernel_rfl) ?_ _
      clear hHeld
      go_wp2_with (first | (with_reducible refine wpList_load_pl rfl (.tmp 7) rfl gx (planS ss) (.slice osg firstM.segs.length scap) (.slice orv ns rcap) rfl HG9.out ?_) | (with_reducible refine wpList_store_pl rfl (.tmp 2) (.tmp 63) rfl w.heap.size planZ (planS ss) (.slice none 0 0) (.slice none 0 0) (.slice osg firstM.segs.length scap) (.slice orv ns rcap) rfl rfl HR9.out rfl rfl ?_))
      intro w11 hw11
      have HT:=Lib.hid (show Turned (fun k=>k=w.heap.size) w10 w11 by rw [hw11.out];exact run_setRow_turned _ _ _)
      have HP:=Lib.hid (show PlBlk w11 w.heap.size (planS ss) (.slice osg firstM.segs.length scap) (.slice orv ns rcap) by rw [hw11.out];exact HR9.out.row)
      have HB11:=Lib.hid (show Below w.heap.size w w11 by rw [hw11.out];exact below_row HBE.out (Nat.le_refl _) _)
      have hsz3:=HB3.out.size
      have hwl:w.heap.size<w3.heap.size:=HR3.out.lt
      clear hw11
      go_wp2
      refine bodyPost_ret (v:= .tuple #[plV (planS ss) (.slice osg firstM.segs.length scap) (.slice orv ns rcap),.int .i64 0]) (results_pl2 rfl _ _ w.heap.size (planS ss) _ _ _ rfl rfl HP.out) rfl ?_
      rw [HFE.out]
      exact⟨_,_,rfl,(HS9.out.turned HT.out (fun k hk=>by omega)).mono (fun k hk=>by omega),(HO9.out.turned HT.out (fun k hk=>by omega)).mono (fun k hk=>by omega),rfl,rfl,HB11.out⟩
     ·have HFE:=Lib.hid (show freshD d=(planZ,54) by rw [HFD2.out,if_pos];exact .inr (of_decide_eq_true h7))
      refine tq 10 rfl ?_
      refine tq 14 rfl ?_
      refine tq 15 rfl ?_
      refine tq 16 rfl ?_
      refine tq 17 rfl ?_
      refine wpAnyH_done (by kernel_rfl) ?_ _
      clear hHeld
      go_wp2_with (with_reducible refine wpList_store_pl rfl (.tmp 2) (.tmp 62) rfl w.heap.size planZ planZ (.slice none 0 0) (.slice none 0 0) (.slice none 0 0) (.slice none 0 0) rfl rfl HR9.out rfl rfl ?_)
      intro w11 hw11
      have HP:=Lib.hid (show PlBlk w11 w.heap.size planZ (.slice none 0 0) (.slice none 0 0) by rw [hw11.out];exact HR9.out.row)
      have HB11:=Lib.hid (show Below w.heap.size w w11 by rw [hw11.out];exact below_row HBE.out (Nat.le_refl _) _)
      clear hw11
      go_wp2
      refine bodyPost_ret (v:= .tuple #[plV planZ (.slice none 0 0) (.slice none 0 0),.int .i64 54]) (results_pl2 rfl _ _ w.heap.size planZ _ _ _ rfl rfl HP.out) rfl ?_
      rw [HFE.out]
      exact⟨_,_,rfl,sgIn_nil _ _,stIn_nil _ _,rfl,rfl,HB11.out⟩
    ·have HFE:=Lib.hid (show freshD d=(planZ,54) by rw [HFD2.out,if_pos];exact .inl (of_decide_eq_true hr))
     refine tq 5 rfl ?_
     refine tq 6 rfl ?_
     refine tq 7 rfl ?_
     refine tkn 8 rfl ?_
     simp only [pA,pB,pC,pD]
     refine tkn 9 rfl ?_
     simp only [pA,pB,pC,pD]
     refine tkn 10 rfl ?_
     simp only [pA,pB,pC,pD]
     refine tkn 11 rfl ?_
     simp only [pA,pB,pC,pD]
     refine tkn 12 rfl ?_
     simp only [pA,pB,pC,pD]
     refine tkn 13 rfl ?_
     simp only [pA,pB,pC,pD]
     refine tkn 14 rfl ?_
     simp only [pA,pB,pC,pD]
     refine tkn 15 rfl ?_
     simp only [pA,pB,pC,pD]
     refine tkn 16 rfl ?_
     simp only [pA,pB,pC,pD]
     refine tq 17 rfl ?_
     refine wpAnyH_done (by kernel_rfl) ?_ _
     have HRE:=Lib.hid (HR8.out.below HB9.out)
     have HBE:=Lib.hid (Below.next HB3.out (Below.next HBC.out HB9.out))
     clear hHeld
     go_wp2_with (with_reducible refine wpList_store_pl rfl (.tmp 2) (.tmp 62) rfl w.heap.size planZ planZ (.slice none 0 0) (.slice none 0 0) (.slice none 0 0) (.slice none 0 0) rfl rfl HRE.out rfl rfl ?_)
     intro w11 hw11
     have HP:=Lib.hid (show PlBlk w11 w.heap.size planZ (.slice none 0 0) (.slice none 0 0) by rw [hw11.out];exact HRE.out.row)
     have HB11:=Lib.hid (show Below w.heap.size w w11 by rw [hw11.out];exact below_row HBE.out (Nat.le_refl _) _)
     clear hw11
     go_wp2
     refine bodyPost_ret (v:= .tuple #[plV planZ (.slice none 0 0) (.slice none 0 0),.int .i64 54]) (results_pl2 rfl _ _ w.heap.size planZ _ _ _ rfl rfl HP.out) rfl ?_
     rw [HFE.out]
     exact⟨_,_,rfl,sgIn_nil _ _,stIn_nil _ _,rfl,rfl,HB11.out⟩
end Go.Proofs.YtcglcphhfmkccaaGreatDoor

namespace Go.Proofs.YtcglcphhfmkccaaGreatDoor
open Go.RowKit
def BookLP (w:World) (f m:Nat) (d:Disk) (L:List Slot) (r:(Int×Nat×List St)×Nat) (e:Ending) (w':World):Prop:=
 ∃ v,e= .returned (.tuple #[.int .i64 (r.1.2.1:Int),v,.int .i64 r.1.1])∧StsIn (fun k=>w.heap.size≤k) w' v r.1.2.2∧FsAt w' f m (rdD d r.2) L∧Turned (fun i=>i=f) w w'
end Go.Proofs.YtcglcphhfmkccaaGreatDoor

namespace Go.Proofs.YtcglcphhfmkccaaGreatDoor
open Go.RowKit
set_option maxRecDepth 100000 in
set_option maxHeartbeats 4000000 in
theorem bookLoad_any (w:World) (f m:Nat) (d:Disk) (L:List Slot) (h:FsAt w f m d L) (hn:NibTab w) (num:Int):
  Calls Tryz.prog 20 #[.pointer (some ⟨f,0,none⟩),.int .i64 num] w (BookLP w f m d L (bookV d num)):=by
 have HF:=Lib.hid h
 have HN:=Lib.hid hn
 have HA:=Lib.hid (show bookV d num=match filD d (bookName num) with
  | none=>((openE d (bookName num),0,[]),0)
  | some x=>match decBook x.data with
   | none=>((81,0,[]),x.data.length)
   | some r=>if (r.1:Int)≠num then ((81,0,[]),x.data.length) else ((0,r.2.1,r.2.2),x.data.length) from rfl)
 obtain⟨nm,hnm⟩: ∃ nm,nm=bookName num:=⟨_,rfl⟩
 have HBN:=Lib.hid (fun W=>Book_any num W)
 rw [←hnm] at HBN HA
 clear h hn hnm
 go_enter Tryz.func20,Tryz.ntmps20
 go_wp2_with fail
 refine(HBN.out _).mono ?_
 rintro e w1 ⟨rfl,hb1⟩
 have HF1:=Lib.hid (HF.out.below hb1)
 have HN1:=Lib.hid (HN.out.below hb1)
 have HB1:=Lib.hid hb1
 have HSI:=Lib.hid (size_any w1 f m d L HF1.out nm)
 clear hb1 HBN HF HN
 by_cases he:openE d nm=0
 ·obtain⟨x,hx,hfx⟩:=filD_some he
  rw [sizeO he hx] at HSI
  have HLX:=Lib.hid (fil_len HF1.out hx)
  have HRD:=Lib.hid (show Calls Tryz.prog 27 #[.pointer (some ⟨f,0,none⟩),.string ⟨nm.toArray⟩,.int .i64 0,.int .i64 (x.data.length:Int)] w1 fun e w'=> ∃ v,e= .returned (.tuple #[v,.int .i64 0])∧OwnB w' w1.heap.size v x.data∧FsAt w' f m (rdD d x.data.length) L∧Turned (fun i=>i=f) w1 w' from by
   have:=read_any w1 f m d L HF1.out nm x he hx 0 x.data.length (by omega)
   rw [List.drop_zero,List.take_length] at this
   exact this)
  have HA2:=Lib.hid (show bookV d num=match decBook x.data with
   | none=>((81,0,[]),x.data.length)
   | some r=>if (r.1:Int)≠num then ((81,0,[]),x.data.length) else ((0,r.2.1,r.2.2),x.data.length) by rw [HA.out,hfx])
  clear HA he hx hfx
  go_wp2_with fail
  refine HSI.out.mono ?_
  rintro e w1' ⟨rfl,rfl⟩
  go_wp2_with fail
  refine HRD.out.mono ?_
  rintro e w2 ⟨v2,rfl,ho2,hf2,ht2⟩
  have HN2:=Lib.hid (HN1.out.turned ht2 (fs_nib HF1.out HN1.out) HN1.out.lt)
  have HT2:=Lib.hid (show Turned (fun i=>i=f) w w2 from(Turned.below HB1.out).trans ht2 fun i hi=> .inl hi)
  have HF2:=Lib.hid hf2
  have HBD:=Lib.hid (bookDec_any x.data v2 w2 ho2.brow HLX.out HN2.out)
  obtain⟨o2,cap2,hsh,_,_⟩:=own_shape ho2
  subst hsh
  obtain⟨r,hr⟩: ∃ r,r=decBook x.data:=⟨_,rfl⟩
  rw [←hr] at HBD HA2
  generalize x.data.length=nx at*
  clear hf2 ho2 ht2 hr HRD HSI HF1 HN1
  unfold BookP at HBD
  rcases r with _ | r
  ·dsimp only at HBD HA2
   go_wp2_with fail
   refine HBD.out.mono ?_
   rintro e w3 ⟨hb3,rfl⟩
   have HF3:=Lib.hid (HF2.out.below hb3)
   have HT3:=Lib.hid (show Turned (fun i=>i=f) w w3 from HT2.out.trans (Turned.below hb3) fun i hi=> .inl hi)
   clear hb3
   go_wp2
   refine bodyPost_ret (v:= .tuple #[.int .i64 0,.slice none 0 0,.int .i64 81]) (by simp [results,Tryz.results20,go_sem]) rfl ?_
   rw [HA2.out]
   exact⟨_,rfl,stsIn_nil _ _,HF3.out,HT3.out⟩
  ·obtain⟨n,sq,ss⟩:=r
   dsimp only at HBD HA2
   go_wp2_with fail
   refine HBD.out.mono ?_
   rintro e w3 ⟨hb3,bv,rfl,hss⟩
   have HF3:=Lib.hid (HF2.out.below hb3)
   have HT3:=Lib.hid (show Turned (fun i=>i=f) w w3 from HT2.out.trans (Turned.below hb3) fun i hi=> .inl hi)
   have HSS:=Lib.hid (hss.mono (A':=fun k=>w.heap.size≤k) (fun k hk=>Nat.le_trans HT2.out.size hk))
   clear hb3 hss
   rcases hq:((n:Int) != num) with _ | _
   ·have HE:=Lib.hid (show bookV d num=((0,sq,ss),nx) by rw [HA2.out,if_neg (by simpa using hq)])
    go_wp2
    refine bodyPost_ret (v:= .tuple #[.int .i64 (sq:Int),bv,.int .i64 0]) (by simp [results,Tryz.results20,go_sem]) rfl ?_
    rw [HE.out]
    exact⟨_,rfl,HSS.out,HF3.out,HT3.out⟩
   ·have HE:=Lib.hid (show bookV d num=((81,0,[]),nx) by rw [HA2.out,if_pos (by simpa using hq)])
    go_wp2
    refine bodyPost_ret (v:= .tuple #[.int .i64 0,.slice none 0 0,.int .i64 81]) (by simp [results,Tryz.results20,go_sem]) rfl ?_
    rw [HE.out]
    exact⟨_,rfl,stsIn_nil _ _,HF3.out,HT3.out⟩
 ·rw [sizeE he] at HSI
  have HE:=Lib.hid (show bookV d num=((openE d nm,0,[]),0) by rw [HA.out,filD_none he])
  have t1:(openE d nm != 0)=true:=by simpa using he
  generalize openE d nm=e0 at*
  clear he HA
  go_wp2_with fail
  refine HSI.out.mono ?_
  rintro e w1' ⟨rfl,rfl⟩
  go_wp2
  refine bodyPost_ret (v:= .tuple #[.int .i64 0,.slice none 0 0,.int .i64 e0]) (by simp [results,Tryz.results20,go_sem]) rfl ?_
  rw [HE.out]
  exact⟨_,rfl,stsIn_nil _ _,by rw [rdD_zero HF1.out.ok];exact HF1.out,Turned.below HB1.out⟩
end Go.Proofs.YtcglcphhfmkccaaGreatDoor

namespace Go.Proofs.YtcglcphhfmkccaaGreatDoor
open Go.RowKit
theorem run_cut_sg (oa:Option Addr) (len cap n:Nat) (h:n≤cap) (w:World):(Instr.slice 32 (.slice oa len cap) none (some (.int .i64 n)) none).run Tryz.prog w= .ok (.slice oa n cap) w:=by
 rw [run_slice_h (P:=Tryz.prog) w 32 oa len cap (by kernel_rfl) .i64 n (by omega) (by omega)]
 have:(sizeOf (Tryz.prog.elem 32)).run Tryz.prog w= .ok 4 w:=by kernel_rfl
 rw [this]
 show Result.ok (Value.slice (if cap=0 then oa else oa.map (·.add (0*4))) (n - 0) (cap - 0)) w=_
 have e:(if cap=0 then oa else oa.map (·.add (0*4)))=oa:=by
  split
  ·rfl
  ·cases oa with
   | none=>rfl
   | some a=>simp [Addr.add]
 rw [e,Nat.sub_zero,Nat.sub_zero]
theorem cut_sg (oa:Option Addr) (len cap n:Nat) (h:n≤cap) (w:World):(Instr.sliceAt 32 (.slice oa len cap) none (some (.int .i64 n)) none).run Tryz.prog w= .ok (.slice oa n cap) w:=by
 rw [run_sliceAt_slice _ _ _ _ _ _ (by kernel_rfl)]
 exact run_cut_sg oa len cap n h w
def PlanP (w:World) (f m:Nat) (d:Disk) (L:List Slot) (r:(Pl×Int)×Nat) (e:Ending) (w':World):Prop:=
 ∃ sv rv,e= .returned (.tuple #[plV r.1.1 sv rv,.int .i64 r.1.2])∧SgIn (fun k=>w.heap.size≤k) w' sv r.1.1.man.segs∧StIn (fun k=>w.heap.size≤k) w' rv r.1.1.remove∧sv.oneCell'=true∧rv.oneCell'=true∧FsAt w' f m (rdD d r.2) L∧Turned (fun i=>i=f) w w'
structure PlW (w:World) (f m:Nat) (d:Disk) (L:List Slot) (bm:Nat) (mn:Man) (sv:Value) (W:World):Prop where
 res:PlBlk W w.heap.size planZ (.slice none 0 0) (.slice none 0 0)
 man:MnBlk W bm mn sv
 seg:SgIn (fun k=>w.heap.size<k) W sv mn.segs
 fs:FsAt W f m d L
 nib:NibTab W
 top:Turned (fun i=>i=f) w W
 bmf:w.heap.size<bm
theorem PlW.next {w:World} {f m:Nat} {d d':Disk} {L:List Slot} {bm:Nat} {mn:Man} {sv:Value} {W W':World} (h:PlW w f m d L bm mn sv W) (hf:f<w.heap.size) (hF:FsAt W' f m d' L) (ht:Turned (fun i=>i=f) W W'):PlW w f m d' L bm mn sv W':=
 ⟨(ht.block _ h.res.lt (by omega)).trans h.res,(ht.block _ h.man.lt (by have:=h.bmf;omega)).trans h.man,h.seg.turned ht (fun k hk=>by omega),hF,h.nib.turned ht (fs_nib h.fs h.nib) h.nib.lt,h.top.trans ht (fun i hi=> .inl hi),h.bmf⟩
theorem PlW.below {w:World} {f m:Nat} {d:Disk} {L:List Slot} {bm:Nat} {mn:Man} {sv:Value} {W W':World} (h:PlW w f m d L bm mn sv W) (hf:f<w.heap.size) (hb:Below W.heap.size W W'):PlW w f m d L bm mn sv W':=
 h.next hf (h.fs.below hb) (Turned.below hb)
theorem PlW.answer {w:World} {f m:Nat} {d:Disk} {L:List Slot} {bm:Nat} {mn:Man} {sv:Value} {W:World} (h:PlW w f m d L bm mn sv W) (hF: ∀ k,foot f m L k→k<w.heap.size) (cs:Array Value):FsAt (W.setRow w.heap.size cs) f m d L∧Turned (fun i=>i=f) w (W.setRow w.heap.size cs):=by
 have ht:Turned (fun k=>k=w.heap.size) W (W.setRow w.heap.size cs):=run_setRow_turned _ _ _
 exact⟨h.fs.turned ht (fun k hk he=>by have:=hF k hk;omega),h.top.trans ht fun i hi=> .inr (by omega)⟩
theorem takeRun_sub {first most:Nat}: ∀ (xs:List (Nat×Frm)) (c:Nat),∀ _:Nat,∀ y∈takeRun first most c xs,y∈xs
 | [],_,_,_,h=>by simp [takeRun] at h
 | x::r,c,z,y,h=>by
  rw [takeRun] at h
  split at h
  ·cases h
  ·split at h
   ·simp at h;subst h;simp
   ·rcases List.mem_cons.1 h with rfl | h
    ·simp
    ·exact List.mem_cons_of_mem _ (takeRun_sub r (c+1) z y h)
theorem active_cnt (d:Disk) (g:Sg):(activeV d g).1.2.1≤512∧(activeV d g).1.1≤67108864∨ ¬ DiskOk d:=by
 by_cases hok:DiskOk d
 ·left
  unfold activeV
  rcases hf:filD d (segName g.num) with _ | x
  ·exact⟨Nat.zero_le _,Nat.zero_le _⟩
  ·dsimp only
   split
   ·exact⟨Nat.zero_le _,Nat.zero_le _⟩
   ·have h1:=takeRun_len (first:=(hdrOf x.data).2.1) (most:=512) (frs (x.data.drop (begV x.data g).1)) 0 (by decide)
    have h2:=len_le_used (at_name (filD_at hf)).2
    have h3:=hok.used
    have h4:=hok.room
    rename_i hb
    have h5:=hdr_pos (b:=x.data) (g:=g) (by simpa using hb)
    have h6:=lastEnd_le (b:=x.data.drop (begV x.data g).1) (takeRun (hdrOf x.data).2.1 512 0 (frs (x.data.drop (begV x.data g).1))) 0 (Nat.zero_le _) fun y hy=>(frs_mem (takeRun_sub _ _ 0 y hy)).1
    rw [List.length_drop] at h6
    simp only [scanRun,plcs,List.length_map]
    omega
 ·exact .inr hok
theorem planD_err {d:Disk} (h:(loadM d).1.2.2≠0):planD d=((planZ,if (loadM d).1.2.2=80 then 4 else (loadM d).1.2.2),(loadM d).2):=by unfold planD;rw [if_pos h]
theorem planD_new {d:Disk} (h:(loadM d).1.2.2=0) (h2:(loadM d).1.2.1=false):planD d=(freshD d,(loadM d).2):=by unfold planD;rw [if_neg (fun k=>k h),if_pos h2]
theorem planD_man {d:Disk} (h:(loadM d).1.2.2=0) (h2:(loadM d).1.2.1=true):planD d=((planM d (loadM d).1.1).1,(loadM d).2+(planM d (loadM d).1.1).2):=by unfold planD;rw [if_neg (fun k=>k h),if_neg (by rw [h2];decide)]
set_option maxRecDepth 100000 in
set_option maxHeartbeats 8000000 in
theorem plan_any (w:World) (f m:Nat) (d:Disk) (L:List Slot) (h:FsAt w f m d L) (hn:NibTab w):
  Calls Tryz.prog 8 #[.pointer (some ⟨f,0,none⟩)] w (PlanP w f m d L (planD d)):=by
 have hf:=h.hd.lt
 have HLT:=Lib.hid h.lt
 have HB0:=Lib.hid (below_alloc w (.cells (plCs planZ (.slice none 0 0) (.slice none 0 0)) 37))
 have HR0:=Lib.hid (plBlk_alloc w planZ (.slice none 0 0) (.slice none 0 0))
 have HLD:=Lib.hid (manLoad_any _ f m d L (h.below HB0.out) (hn.below HB0.out))
 have HN0:=Lib.hid (hn.below HB0.out)
 have HF0:=Lib.hid (h.below HB0.out)
 have HDR:=Lib.hid (show d.down=false∨(loadM d).1.2.2≠0 from by
  rcases hd:d.down
  ·exact .inl rfl
  ·right
   unfold loadM filD openE
   rw [hd]
   simp)
 have HP1:=Lib.hid (@planD_err d)
 have HP2:=Lib.hid (@planD_new d)
 have HP3:=Lib.hid (@planD_man d)
 have HMK:=Lib.hid (@load_ok d)
 have HLR:=Lib.hid (show (loadM d).2≤67108864 from by
  refine Nat.le_trans (load_read d) ?_
  unfold sizeN
  split
  ·exact Nat.zero_le _
  ·rename_i x hx;exact fil_len h hx)
 obtain⟨ld,hld⟩: ∃ ld,ld=loadM d:=⟨_,rfl⟩
 rw [←hld] at HLD HP1 HP2 HP3 HMK HDR HLR
 simp only [plCs,planZ,zeroM] at HB0 HR0 HLD HN0 HF0
 clear h hn hld
 obtain⟨⟨mn,th,e0⟩,nr⟩:=ld
 unfold LoadMP at HLD
 dsimp only at HLD HP1 HP2 HP3 HMK HDR HLR
 go_enter Tryz.func8,Tryz.ntmps8
 go_wp2_with fail
 refine HLD.out.mono ?_
 rintro e w1 ⟨sv,rfl,hsg,hone,hf1,ht1⟩
 have HSO:=Lib.hid hone
 have hsz0:w.heap.size<(w.alloc (.cells #[.bool false,.int .i64 0,.int .i64 0,.int .i64 0,.int .i64 0,.int .i64 0,.slice none 0 0,.slice none 0 0,.int .i64 0,.int .i64 0] 37)).heap.size:=HR0.out.lt
 have hsz1:=ht1.size
 have HW1:=Lib.hid (show PlBlk w1 w.heap.size planZ (.slice none 0 0) (.slice none 0 0)∧SgIn (fun k=>w.heap.size<k) w1 sv mn.segs∧FsAt w1 f m (rdD d nr) L∧NibTab w1∧Turned (fun i=>i=f) w w1 from
  ⟨(ht1.block _ HR0.out.lt (by omega)).trans HR0.out,hsg.mono (fun k hk=>by omega),hf1,HN0.out.turned ht1 (fs_nib HF0.out HN0.out) HN0.out.lt,(Turned.below HB0.out).trans ht1 fun i hi=> .inl hi⟩)
 have HMz:=Lib.hid (mnBlk_alloc w1 zeroM (.slice none 0 0))
 have hba:=below_alloc w1 (.cells (mnCs zeroM (.slice none 0 0)) 34)
 simp only [mnCs,zeroM] at HMz hba
 clear hsg hone hf1 ht1 HLD HB0 HR0 HN0 HF0
 go_wp2_with (with_reducible refine wpList_store_mn rfl (.tmp 4) (.tmp 20) rfl w1.heap.size ⟨0,0,0,0,0,[]⟩ mn (.slice none 0 0) sv rfl rfl HMz.out HSO.out ?_)
 intro w2 hw2
 have HW2:=Lib.hid (show PlW w f m (rdD d nr) L w1.heap.size mn sv w2 from by
  have hb:Below w1.heap.size w1 w2:=by rw [hw2.out];exact below_row hba (Nat.le_refl _) _
  obtain⟨h1,h2,h3,h4,h5⟩:=HW1.out
  exact⟨h1.below hb,by rw [hw2.out];exact HMz.out.row,h2.below hb,h3.below hb,h4.below hb,h5.trans (Turned.below hb) fun i hi=> .inl hi,by omega⟩)
 clear hw2 hba HMz HW1 hsz0 hsz1
 generalize w1.heap.size=bm at*
 rcases he8:(e0==80) with _ | _
 case true=>
  have HPE:=Lib.hid (show planD d=((planZ,4),nr) by rw [HP1.out (by simp at he8;omega),if_pos (by simpa using he8)])
  go_wp2_with (with_reducible refine wpList_store_pl rfl (.tmp 2) (.tmp 26) rfl w.heap.size planZ planZ (.slice none 0 0) (.slice none 0 0) (.slice none 0 0) (.slice none 0 0) rfl rfl HW2.out.res rfl rfl ?_)
  intro w3 hw3
  have HP:=Lib.hid (show PlBlk w3 w.heap.size planZ (.slice none 0 0) (.slice none 0 0) by rw [hw3.out];exact HW2.out.res.row)
  have HA:=Lib.hid (show FsAt w3 f m (rdD d nr) L∧Turned (fun i=>i=f) w w3 by rw [hw3.out];exact HW2.out.answer HLT.out _)
  clear hw3
  go_wp2
  refine bodyPost_ret (v:= .tuple #[plV planZ (.slice none 0 0) (.slice none 0 0),.int .i64 4]) (results_pl2 rfl _ _ w.heap.size planZ _ _ _ rfl rfl HP.out) rfl ?_
  rw [HPE.out]
  exact⟨_,_,rfl,sgIn_nil _ _,stIn_nil _ _,rfl,rfl,HA.out⟩
 rcases he:(e0 != 0) with _ | _
 case true=>
  have HPE:=Lib.hid (show planD d=((planZ,e0),nr) by rw [HP1.out (by simpa using he),if_neg (by simpa using he8)])
  go_wp2_with (with_reducible refine wpList_store_pl rfl (.tmp 2) (.tmp 30) rfl w.heap.size planZ planZ (.slice none 0 0) (.slice none 0 0) (.slice none 0 0) (.slice none 0 0) rfl rfl HW2.out.res rfl rfl ?_)
  intro w3 hw3
  have HP:=Lib.hid (show PlBlk w3 w.heap.size planZ (.slice none 0 0) (.slice none 0 0) by rw [hw3.out];exact HW2.out.res.row)
  have HA:=Lib.hid (show FsAt w3 f m (rdD d nr) L∧Turned (fun i=>i=f) w w3 by rw [hw3.out];exact HW2.out.answer HLT.out _)
  clear hw3
  go_wp2
  refine bodyPost_ret (v:= .tuple #[plV planZ (.slice none 0 0) (.slice none 0 0),.int .i64 e0]) (results_pl2 rfl _ _ w.heap.size planZ _ _ _ rfl rfl HP.out) rfl ?_
  rw [HPE.out]
  exact⟨_,_,rfl,sgIn_nil _ _,stIn_nil _ _,rfl,rfl,HA.out⟩
 have he0:e0=0:=by simpa using he
 have HDN:=Lib.hid (show d.down=false from by
  rcases HDR.out with h | h
  ·exact h
  ·exact absurd he0 h)
 cases th
 case false=>
  have HPE:=Lib.hid (show planD d=(freshD d,nr) from HP2.out he0 rfl)
  have HFR:=Lib.hid (show Calls Tryz.prog 19 #[.pointer (some ⟨f,0,none⟩)] w2 (FreshP w2 (freshD d)) from freshG_any w2 f m (rdD d nr) L HW2.out.fs HDN.out HW2.out.nib)
  obtain⟨fr,hfr⟩: ∃ fr,fr=freshD d:=⟨_,rfl⟩
  rw [←hfr] at HPE HFR
  obtain⟨fp,fe⟩:=fr
  unfold FreshP at HFR
  clear hfr he0 HP1 HP2 HP3 HMK
  go_wp2_with fail
  refine HFR.out.mono ?_
  rintro e w3 ⟨fsv,frv,rfl,hs3,hr3,ho3,hq3,hb3⟩
  have HW3:=Lib.hid (HW2.out.below hf hb3)
  have HS3:=Lib.hid hs3
  have HR3:=Lib.hid hr3
  have HO3:=Lib.hid ho3
  have HQ3:=Lib.hid hq3
  have hlo:w.heap.size<w2.heap.size:=HW2.out.res.lt
  clear hs3 hr3 ho3 hq3 hb3 HFR HW2
  go_wp2_with (with_reducible refine wpList_store_pl rfl (.tmp 2) (.tmp 37) rfl w.heap.size planZ fp (.slice none 0 0) (.slice none 0 0) fsv frv rfl rfl HW3.out.res HO3.out HQ3.out ?_)
  intro w4 hw4
  have HP:=Lib.hid (show PlBlk w4 w.heap.size fp fsv frv by rw [hw4.out];exact HW3.out.res.row)
  have HA:=Lib.hid (show FsAt w4 f m (rdD d nr) L∧Turned (fun i=>i=f) w w4 by rw [hw4.out];exact HW3.out.answer HLT.out _)
  have HT:=Lib.hid (show Turned (fun k=>k=w.heap.size) w3 w4 by rw [hw4.out];exact run_setRow_turned _ _ _)
  clear hw4
  go_wp2
  refine bodyPost_ret (v:= .tuple #[plV fp fsv frv,.int .i64 fe]) (results_pl2 rfl _ _ w.heap.size fp _ _ _ rfl rfl HP.out) rfl ?_
  rw [HPE.out]
  exact⟨_,_,rfl,(HS3.out.turned HT.out (fun k hk=>by omega)).mono (fun k hk=>by omega),(HR3.out.turned HT.out (fun k hk=>by omega)).mono (fun k hk=>by omega),HO3.out,HQ3.out,HA.out⟩
 case true=>
  have hmk:=(HMK.out rfl).1
  have HMF:=Lib.hid (manFine hmk)
  have HPE:=Lib.hid (show planD d=((planM d mn).1,nr+(planM d mn).2) from HP3.out he0 rfl)
  clear he0 HP1 HP2 HP3 HMK hmk
  have hlr:=HLR.out
  have s3:=HW2.out.man.c3
  go_upto_if 41 with fail
  go_cut [] from 39 to 58 (fun wx=>Hid (PlW w f m (rdD d (nr+(snapV d mn).2)) L bm mn sv wx)∧Hid ((snapV d mn).1=true)∧Hid ((snapV d mn).2≤67108864))
  case first=>
   rcases hsn:decide (0<mn.snap) with _ | _
   ·have HSV:=Lib.hid (show snapV d mn=(true,0) by unfold snapV;rw [if_neg (by simpa using hsn)])
    go_wp2_with fail
    go_meet
    exact⟨Lib.hid (by rw [HSV.out];exact HW2.out),Lib.hid (by rw [HSV.out]),Lib.hid (by rw [HSV.out];decide)⟩
   ·have HSV:=Lib.hid (show snapV d mn=(decide ((bookV d mn.snap).1.1=0)&&decide (((bookV d mn.snap).1.2.1:Int)=mn.snapSeq),(bookV d mn.snap).2) by unfold snapV;rw [if_pos (of_decide_eq_true hsn)])
    have HBK:=Lib.hid (show Calls Tryz.prog 20 #[.pointer (some ⟨f,0,none⟩),.int .i64 mn.snap] w2 (BookLP w2 f m (rdD d nr) L (bookV d mn.snap)) from bookLoad_any w2 f m (rdD d nr) L HW2.out.fs HW2.out.nib mn.snap)
    have HBR:=Lib.hid (show (bookV d mn.snap).2≤67108864 from by
     refine Nat.le_trans (book_read d mn.snap) ?_
     unfold sizeN
     split
     ·exact Nat.zero_le _
     ·rename_i x hx;exact fil_len HW2.out.fs hx)
    obtain⟨bk,hbk⟩: ∃ bk,bk=bookV d mn.snap:=⟨_,rfl⟩
    rw [←hbk] at HSV HBK HBR
    obtain⟨⟨e1,sq,ss⟩,n1⟩:=bk
    unfold BookLP at HBK
    dsimp only at HSV HBK HBR
    clear hbk
    go_wp2_with fail
    refine HBK.out.mono ?_
    rintro e w3 ⟨bv,rfl,_,hf3,ht3⟩
    have HW3:=Lib.hid (HW2.out.next hf (by rw [rdD_rdD] at hf3;exact hf3) ht3)
    have t4:=HW3.out.man.c4
    clear hf3 ht3 HBK HW2 s3
    rcases he1:(e1 != 0) with _ | _
    ·rcases hsq:((sq:Int) != mn.snapSeq) with _ | _
     ·have HSW:=Lib.hid (show snapV d mn=(true,n1) by rw [HSV.out,decide_eq_true (by simpa using he1),decide_eq_true (by simpa using hsq)];rfl)
      go_wp2_with fail
      go_meet
      exact⟨Lib.hid (by rw [HSW.out];exact HW3.out),Lib.hid (by rw [HSW.out]),Lib.hid (by rw [HSW.out];exact HBR.out)⟩
     ·have HSW:=Lib.hid (show snapV d mn=(false,n1) by rw [HSV.out,decide_eq_true (by simpa using he1),decide_eq_false (by simpa using hsq)];rfl)
      have HPE:=Lib.hid (show planD d=((planZ,4),nr+n1) by rw [HPE.out];unfold planM;rw [HSW.out,if_pos rfl])
      go_wp2_with (with_reducible refine wpList_store_pl rfl (.tmp 2) (.tmp 58) rfl w.heap.size planZ planZ (.slice none 0 0) (.slice none 0 0) (.slice none 0 0) (.slice none 0 0) rfl rfl HW3.out.res rfl rfl ?_)
      intro w9 hw9
      have HP:=Lib.hid (show PlBlk w9 w.heap.size planZ (.slice none 0 0) (.slice none 0 0) by rw [hw9.out];exact HW3.out.res.row)
      have HA:=Lib.hid (show FsAt w9 f m (rdD d (nr+n1)) L∧Turned (fun i=>i=f) w w9 by rw [hw9.out];exact HW3.out.answer HLT.out _)
      clear hw9
      go_wp2
      refine bodyPost_ret (v:= .tuple #[plV planZ (.slice none 0 0) (.slice none 0 0),.int .i64 4]) (results_pl2 rfl _ _ w.heap.size planZ _ _ _ rfl rfl HP.out) rfl ?_
      rw [HPE.out]
      exact⟨_,_,rfl,sgIn_nil _ _,stIn_nil _ _,rfl,rfl,HA.out⟩
    ·have HSW:=Lib.hid (show snapV d mn=(false,n1) by rw [HSV.out,decide_eq_false (by simpa using he1)];rfl)
     have HPE:=Lib.hid (show planD d=((planZ,4),nr+n1) by rw [HPE.out];unfold planM;rw [HSW.out,if_pos rfl])
     go_wp2_with (with_reducible refine wpList_store_pl rfl (.tmp 2) (.tmp 58) rfl w.heap.size planZ planZ (.slice none 0 0) (.slice none 0 0) (.slice none 0 0) (.slice none 0 0) rfl rfl HW3.out.res rfl rfl ?_)
     intro w9 hw9
     have HP:=Lib.hid (show PlBlk w9 w.heap.size planZ (.slice none 0 0) (.slice none 0 0) by rw [hw9.out];exact HW3.out.res.row)
     have HA:=Lib.hid (show FsAt w9 f m (rdD d (nr+n1)) L∧Turned (fun i=>i=f) w w9 by rw [hw9.out];exact HW3.out.answer HLT.out _)
     clear hw9
     go_wp2
     refine bodyPost_ret (v:= .tuple #[plV planZ (.slice none 0 0) (.slice none 0 0),.int .i64 4]) (results_pl2 rfl _ _ w.heap.size planZ _ _ _ rfl rfl HP.out) rfl ?_
     rw [HPE.out]
     exact⟨_,_,rfl,sgIn_nil _ _,stIn_nil _ _,rfl,rfl,HA.out⟩
  case rest=>
   obtain⟨HW3,HSV,HSR⟩:=hcut
   obtain⟨hlast,hlmem⟩:=last_segs HMF.out
   have HPM:=Lib.hid (show (planM d mn)=if (sealsV d mn.segs.dropLast).1=false then ((planZ,4),(snapV d mn).2+(sealsV d mn.segs.dropLast).2)
    else if (activeV d (lastSg mn)).1.2.2=false∨(lastSg mn).first - 1+((activeV d (lastSg mn)).1.2.1:Int)<mn.snapSeq then ((planZ,4),(snapV d mn).2+(sealsV d mn.segs.dropLast).2+(activeV d (lastSg mn)).2)
    else ((⟨false,mn,straysD d true mn,((activeV d (lastSg mn)).1.1:Int),(lastSg mn).first - 1+((activeV d (lastSg mn)).1.2.1:Int)⟩,0),(snapV d mn).2+(sealsV d mn.segs.dropLast).2+(activeV d (lastSg mn)).2) by unfold planM;rw [if_neg (by rw [HSV.out];decide)])
   obtain⟨ns,hns⟩: ∃ ns,ns=(snapV d mn).2:=⟨_,rfl⟩
   rw [←hns] at HW3 HSR HPM
   obtain⟨dl,hdl⟩: ∃ dl,dl=mn.segs.dropLast:=⟨_,rfl⟩
   obtain⟨lg,hlg⟩: ∃ lg,lg=lastSg mn:=⟨_,rfl⟩
   have HSG:=Lib.hid HMF.out.seg
   have hnx:=HMF.out.next
   have hlen:=HMF.out.len
   have hdk: ∀ (k:Nat) g,dl[k]? =some g→mn.segs[k]? =some g∧g∈mn.segs:=fun k g hg=>by
    have h1:mn.segs[k]? =some g:=by rw [hlast,←hdl,List.getElem?_append_left (getElem?_lt hg)];exact hg
    exact⟨h1,List.mem_of_getElem? h1⟩
   have hlk:mn.segs[dl.length]? =some lg:=by rw [hlast,←hdl,←hlg];simp
   have hll:mn.segs.length=dl.length+1:=by rw [hlast,←hdl];simp
   rw [←hdl,←hlg] at HPM
   rw [←hlg] at hlmem
   have HDK:=Lib.hid hdk
   have HLK:=Lib.hid hlk
   have HLM:=Lib.hid hlmem
   clear hlast hns hdl hlg hdk hlk hlmem HSV s3 HW2
   obtain⟨osg,scap,hsh,hl1,hl2,_⟩:=HW3.out.seg
   have s5:=HW3.out.man.c5
   rw [hsh] at s5
   rw [hll] at s5 hl1
   have hw1:IntKind.i64.wrap (((dl.length+1:Nat):Int) - 1)=(dl.length:Int):=by rw [IntKind.wrap_i64];omega
   have hcut:=cut_sg osg (dl.length+1) scap dl.length (by omega)
   have HHAT:=Lib.hid (fun(W:World) (hW:SgIn (fun k=>w.heap.size<k) W sv mn.segs) (i:Nat) g (hg:mn.segs[i]? =some g)=>(show ∃ b off,osg=some ⟨b,off,none⟩∧W.rangeAt b (off+i*4) (sgCs g).toList from by
    obtain⟨o1,c1,e1,_,_,h1⟩:=hW
    rw [hsh] at e1
    simp only [Value.slice.injEq,true_and] at e1
    obtain⟨rfl,rfl⟩:=e1
    obtain⟨b,off,e2,_,h2⟩:=h1 i g hg
    exact⟨b,off,e2,h2⟩))
   have HSH:=Lib.hid hsh
   have HLL:=Lib.hid hll
   have hdn:dl.length≤256:=by omega
   clear hsh hll
   go_wp2
   go_loopw [68] (fun iv wr=> ∃ (k n2:Nat),k≤dl.length∧iv= .int .i64 (k:Int)∧Hid (PlW w f m (rdD d (nr+(ns+n2))) L bm mn sv wr)∧Hid (sealsV d dl=((sealsV d (dl.drop k)).1,n2+(sealsV d (dl.drop k)).2))∧Hid (n2≤k*134217728)) (fun iv _=>dl.length - (intOf iv).toNat)
   case atStart=>exact⟨0,0,Nat.zero_le _,rfl,HW3,Lib.hid (by simp),Lib.hid (Nat.zero_le _)⟩
   case round=>
    obtain⟨k,n2,hk,rfl,HW,HSL,HNN⟩:=hrel
    clear HW3 s5
    have hnn:=HNN.out
    have hns:=HSR.out
    by_cases hlt:k<dl.length
    ·have hgk:dl[k]? =some dl[k]:=List.getElem?_eq_getElem hlt
     obtain⟨g,hg⟩: ∃ g,g=dl[k]:=⟨_,rfl⟩
     rw [←hg] at hgk
     have hdr:dl.drop k=g::dl.drop (k+1):=by rw [List.drop_eq_getElem_cons hlt,←hg]
     obtain⟨hgm,hgs⟩:=HDK.out k g hgk
     rw [hdr,sealsV] at HSL
     obtain⟨b,off,rfl,hce⟩:=HHAT.out wr HW.out.seg k g hgm
     have q1:(k:Int)<(dl.length:Int):=by omega
     have HCE:=Lib.hid hce
     have hft:=(HSG.out g hgs).2.2.2.2.2.2.1
     have HSBR:=Lib.hid (show (sealedV d g).2≤134217728 from by
      refine Nat.le_trans (sealed_read d g) ?_
      unfold sizeN
      split
      ·omega
      ·rename_i x hx;have:x.data.length≤67108864:=fil_len HW.out.fs hx;omega)
     have HBA:=Lib.hid (below_alloc wr (.cells (sgCs g) 63))
     have HBK:=Lib.hid (show SgBlk (wr.alloc (.cells (sgCs g) 63)) wr.heap.size g from heap_alloc_new wr _)
     have HWA:=Lib.hid (HW.out.below hf HBA.out)
     have HSE:=Lib.hid (show Calls Tryz.prog 21 #[.pointer (some ⟨f,0,none⟩),sgV g] (wr.alloc (.cells (sgCs g) 63)) fun e w'=>e= .returned (.bool (sealedV d g).1)∧FsAt w' f m (rdD (rdD d (nr+(ns+n2))) (sealedV d g).2) L∧Turned (fun i=>i=f) (wr.alloc (.cells (sgCs g) 63)) w' from
      sealed_any _ f m (rdD d (nr+(ns+n2))) L HWA.out.fs HWA.out.nib g hft)
     obtain⟨sr,hsr⟩: ∃ sr,sr=sealedV d g:=⟨_,rfl⟩
     rw [←hsr] at HSE HSBR HSL
     obtain⟨sb,sn⟩:=sr
     dsimp only at HSE HSBR HSL
     have hk1:IntKind.i64.wrap ((k:Int)+1)=(k:Int)+1:=by rw [IntKind.wrap_i64];omega
     clear hgk hg hdr hgm hgs hce hsr hft
     simp only [sgCs] at HBA HBK HWA HSE
     go_wp2_with (first | (with_reducible refine wpList_load_sg rfl (.tmp 70) rfl b (off+k*4) g rfl HCE.out ?_) | (with_reducible refine wpList_load_sg rfl (.tmp 12) rfl wr.heap.size 0 g rfl HBK.out.range ?_))
     refine HSE.out.mono ?_
     rintro e w5 ⟨rfl,hf5,ht5⟩
     have HW5:=Lib.hid (HWA.out.next hf (show FsAt w5 f m (rdD d (nr+(ns+(n2+sn)))) L by rw [rdD_rdD] at hf5;rw [show nr+(ns+(n2+sn))=nr+(ns+n2)+sn by omega];exact hf5) ht5)
     clear hf5 ht5 HSE HWA HBK HBA HCE HW
     cases sb
     ·have HSF:=Lib.hid (show sealsV d dl=(false,n2+sn) by rw [HSL.out,if_neg (by decide)])
      have HPE:=Lib.hid (show planD d=((planZ,4),nr+(ns+(n2+sn))) by rw [HPE.out,HPM.out,HSF.out,if_pos rfl])
      go_wp2_with (with_reducible refine wpList_store_pl rfl (.tmp 2) (.tmp 76) rfl w.heap.size planZ planZ (.slice none 0 0) (.slice none 0 0) (.slice none 0 0) (.slice none 0 0) rfl rfl HW5.out.res rfl rfl ?_)
      intro w9 hw9
      have HP:=Lib.hid (show PlBlk w9 w.heap.size planZ (.slice none 0 0) (.slice none 0 0) by rw [hw9.out];exact HW5.out.res.row)
      have HA:=Lib.hid (show FsAt w9 f m (rdD d (nr+(ns+(n2+sn)))) L∧Turned (fun i=>i=f) w w9 by rw [hw9.out];exact HW5.out.answer HLT.out _)
      clear hw9
      go_wp2
      refine bodyPost_ret (v:= .tuple #[plV planZ (.slice none 0 0) (.slice none 0 0),.int .i64 4]) (results_pl2 rfl _ _ w.heap.size planZ _ _ _ rfl rfl HP.out) rfl ?_
      rw [HPE.out]
      exact⟨_,_,rfl,sgIn_nil _ _,stIn_nil _ _,rfl,rfl,HA.out⟩
     ·have hsb:=HSBR.out
      go_wp2
      go_roundw
      case rel=>exact⟨k+1,n2+sn,by omega,by go_num,HW5,Lib.hid (by rw [HSL.out];simp [Nat.add_assoc]),Lib.hid (by omega)⟩
      case measure=>simp [intOf];omega
    ·obtain rfl:k=dl.length:=by omega
     have HSF:=Lib.hid (show sealsV d dl=(true,n2) by rw [HSL.out,List.drop_length];rfl)
     have HPM:=Lib.hid (show (planM d mn)=if (activeV d lg).1.2.2=false∨lg.first - 1+((activeV d lg).1.2.1:Int)<mn.snapSeq then ((planZ,4),ns+n2+(activeV d lg).2)
      else ((⟨false,mn,straysD d true mn,((activeV d lg).1.1:Int),lg.first - 1+((activeV d lg).1.2.1:Int)⟩,0),ns+n2+(activeV d lg).2) by rw [HPM.out,HSF.out,if_neg (by simp)])
     have HAC:=Lib.hid (show Calls Tryz.prog 22 #[.pointer (some ⟨f,0,none⟩),sgV lg] wr fun e w'=>e= .returned (.tuple #[.int .i64 ((activeV d lg).1.1:Int),.int .i64 ((activeV d lg).1.2.1:Int),.bool (activeV d lg).1.2.2])∧FsAt w' f m (rdD (rdD d (nr+(ns+n2))) (activeV d lg).2) L∧Turned (fun i=>i=f) wr w' from
      active_any wr f m (rdD d (nr+(ns+n2))) L HW.out.fs HW.out.nib lg)
     have HCN:=Lib.hid (show (activeV d lg).1.2.1≤512∧(activeV d lg).1.1≤67108864 from(active_cnt (rdD d (nr+(ns+n2))) lg).resolve_right fun h=>h HW.out.fs.ok)
     obtain⟨ar,har⟩: ∃ ar,ar=activeV d lg:=⟨_,rfl⟩
     rw [←har] at HPM HAC HCN
     obtain⟨⟨cu,cn,ok⟩,na⟩:=ar
     dsimp only at HPM HAC HCN
     obtain⟨b,off,rfl,hce⟩:=HHAT.out wr HW.out.seg dl.length lg HLK.out
     have HCE:=Lib.hid hce
     have s5:=HW.out.man.c5
     rw [HSH.out,HLL.out] at s5
     have q2:(dl.length:Int)<((dl.length+1:Nat):Int):=by omega
     clear har hce HSL HNN hnn hcut
     go_wp2_with (with_reducible refine wpList_load_sg rfl (.tmp 83) rfl b (off+dl.length*4) lg rfl HCE.out ?_)
     with_reducible refine HAC.out.mono ?_
     rintro e w6 ⟨rfl,hf6,ht6⟩
     have HW6:=Lib.hid (HW.out.next hf (show FsAt w6 f m (rdD d (nr+(ns+n2+na))) L by rw [rdD_rdD] at hf6;rw [show nr+(ns+n2+na)=nr+(ns+n2)+na by omega];exact hf6) ht6)
     obtain⟨b',off',e',hce⟩:=HHAT.out w6 HW6.out.seg dl.length lg HLK.out
     simp only [Option.some.injEq,Addr.mk.injEq,and_true] at e'
     obtain⟨rfl,rfl⟩:=e'
     have f1:w6.cell? ⟨b,off+dl.length*4+1,none⟩=some (.int .i64 lg.first):=hce 1 _ rfl
     have s6:=HW6.out.man.c5
     rw [HSH.out,HLL.out] at s6
     have s7:=HW6.out.man.c4
     have hlb:=HSG.out lg HLM.out
     have hcn:=HCN.out
     have hw2:IntKind.i64.wrap (lg.first - 1)=lg.first - 1:=by rw [IntKind.wrap_i64];omega
     have hw3:IntKind.i64.wrap (lg.first - 1+(cn:Int))=lg.first - 1+(cn:Int):=by rw [IntKind.wrap_i64];omega
     clear hf6 ht6 hce s5 HAC HW HCE hcn hlb
     cases ok
     ·have HPE:=Lib.hid (show planD d=((planZ,4),nr+(ns+n2+na)) by rw [HPE.out,HPM.out,if_pos (.inl rfl)])
      go_wp2_with (with_reducible refine wpList_store_pl rfl (.tmp 2) (.tmp 106) rfl w.heap.size planZ planZ (.slice none 0 0) (.slice none 0 0) (.slice none 0 0) (.slice none 0 0) rfl rfl HW6.out.res rfl rfl ?_)
      intro w9 hw9
      have HP:=Lib.hid (show PlBlk w9 w.heap.size planZ (.slice none 0 0) (.slice none 0 0) by rw [hw9.out];exact HW6.out.res.row)
      have HA:=Lib.hid (show FsAt w9 f m (rdD d (nr+(ns+n2+na))) L∧Turned (fun i=>i=f) w w9 by rw [hw9.out];exact HW6.out.answer HLT.out _)
      clear hw9
      go_wp2
      refine bodyPost_ret (v:= .tuple #[plV planZ (.slice none 0 0) (.slice none 0 0),.int .i64 4]) (results_pl2 rfl _ _ w.heap.size planZ _ _ _ rfl rfl HP.out) rfl ?_
      rw [HPE.out]
      exact⟨_,_,rfl,sgIn_nil _ _,stIn_nil _ _,rfl,rfl,HA.out⟩
     rcases hls:decide (lg.first - 1+(cn:Int)<mn.snapSeq) with _ | _
     case true=>
      have HPE:=Lib.hid (show planD d=((planZ,4),nr+(ns+n2+na)) by rw [HPE.out,HPM.out,if_pos (.inr (of_decide_eq_true hls))])
      go_wp2_with (with_reducible refine wpList_store_pl rfl (.tmp 2) (.tmp 106) rfl w.heap.size planZ planZ (.slice none 0 0) (.slice none 0 0) (.slice none 0 0) (.slice none 0 0) rfl rfl HW6.out.res rfl rfl ?_)
      intro w9 hw9
      have HP:=Lib.hid (show PlBlk w9 w.heap.size planZ (.slice none 0 0) (.slice none 0 0) by rw [hw9.out];exact HW6.out.res.row)
      have HA:=Lib.hid (show FsAt w9 f m (rdD d (nr+(ns+n2+na))) L∧Turned (fun i=>i=f) w w9 by rw [hw9.out];exact HW6.out.answer HLT.out _)
      clear hw9
      go_wp2
      refine bodyPost_ret (v:= .tuple #[plV planZ (.slice none 0 0) (.slice none 0 0),.int .i64 4]) (results_pl2 rfl _ _ w.heap.size planZ _ _ _ rfl rfl HP.out) rfl ?_
      rw [HPE.out]
      exact⟨_,_,rfl,sgIn_nil _ _,stIn_nil _ _,rfl,rfl,HA.out⟩
     have HPE:=Lib.hid (show planD d=((⟨false,mn,straysD d true mn,(cu:Int),lg.first - 1+(cn:Int)⟩,0),nr+(ns+n2+na)) by rw [HPE.out,HPM.out,if_neg];rintro(h | h);cases h;exact of_decide_eq_false hls h)
     have hbm:=HW6.out.bmf
     obtain rfl:=HSH.out
     go_wp2_with fail
     refine wp_region_held_drew (S:=fun w'=>Turned (fun k=>k=w.heap.size) w6 w') (by kernel_rfl) (Turned.below (below_drewN' w6 1)) (fun hHeld=> ?_)
     refine tkl 0 bm 0 [.int .i64 mn.gen,.int .i64 mn.next,.int .i64 mn.floor,.int .i64 mn.snap,.int .i64 mn.snapSeq,.slice (some ⟨b,off,none⟩) mn.segs.length scap] rfl rfl (fun w' h j v hv=>by rw [Nat.zero_add];exact h.cell (by rw [HW6.out.man.cell];simpa [mnCs] using hv) (by simp only;omega)) Tryz.underlying34 rfl (by rw [mnInfo];rfl) ?_
     simp only [pA,pB,pC,pD]
     refine tq 1 rfl ?_
     refine tkl 2 bm 0 [.int .i64 mn.gen,.int .i64 mn.next,.int .i64 mn.floor,.int .i64 mn.snap,.int .i64 mn.snapSeq,.slice (some ⟨b,off,none⟩) mn.segs.length scap] rfl rfl (fun w' h j v hv=>by rw [Nat.zero_add];exact h.cell (by rw [HW6.out.man.cell];simpa [mnCs] using hv) (by simp only;omega)) Tryz.underlying34 rfl (by rw [mnInfo];rfl) ?_
     simp only [pA,pB,pC,pD]
     refine tq 4 rfl ?_
     refine tq 5 rfl ?_
     have hbd:Below w6.heap.size w6 (World.drew w6):=below_drewN' w6 1
     have HPD:=Lib.hid (HW6.out.res.below hbd)
     clear hbd
     generalize World.drew w6=Wd at*
     refine wpAnyH_ready (rs:=[3]) (by kernel_rfl) (by simp) ?_
     refine AllReadyH.cons rfl (fun K hK=> ?_) AllReadyH.nil
     go_simp
     go_at_call 23
     refine(strays_there Wd f m (rdD d (nr+(ns+n2+na))) L (HW6.out.fs.turned hHeld (fun k hk he=>by have:=HLT.out k hk;omega)) HDN.out mn _ (HW6.out.seg.turned hHeld (fun k hk=>by omega)).row (fun g hg=>by have:=HSG.out g hg;omega) (by omega)).mono ?_
     rintro e w7 ⟨v7,rfl,ho7,hb7⟩
     have HT7:=Lib.hid (show Turned (fun k=>k=w.heap.size) w6 w7 from hHeld.trans (Turned.below hb7) fun i hi=> .inl hi)
     have HR7:=Lib.hid (stIn_own (A:=fun k=>w6.heap.size≤k) (l:=straysD d true mn) (own_mono ho7 hHeld.size) (fun _ h=>h))
     obtain⟨o7,cap7,rfl,_,_⟩:=own_shape ho7
     have HP7:=Lib.hid (HPD.out.below hb7)
     have hlo:w.heap.size<w6.heap.size:=HW6.out.res.lt
     clear ho7 hb7 hHeld HPD
     go_wp2_with fail
     refine hK.out _ _ HT7.out (fun hHeld=> ?_)
     clear hK K hHeld
     refine tq 6 rfl ?_
     refine wpAnyH_ready (rs:=[7]) (by kernel_rfl) (by simp) ?_
     refine AllReadyH.cons rfl (fun K hK=> ?_) AllReadyH.nil
     rw [if_pos (by kernel_rfl)]
     refine wp_store_row 37 (.tmp 2) (.tmp 113) rfl w.heap.size (plCs ⟨false,mn,straysD d true mn,(cu:Int),lg.first - 1+(cn:Int)⟩ (.slice (some ⟨b,off,none⟩) mn.segs.length scap) (.slice o7 (straysD d true mn).length cap7)) rfl rfl 37 (plCs planZ (.slice none 0 0) (.slice none 0 0)) HP7.out plInfo rfl (plCs_all _ _ _ rfl rfl) ?_
     have ht8:Turned (fun k=>k=w.heap.size) w7 (w7.setRow w.heap.size (plCs ⟨false,mn,straysD d true mn,(cu:Int),lg.first - 1+(cn:Int)⟩ (.slice (some ⟨b,off,none⟩) mn.segs.length scap) (.slice o7 (straysD d true mn).length cap7))):=run_setRow_turned _ _ _
     have HP8:=Lib.hid (show PlBlk (w7.setRow w.heap.size (plCs ⟨false,mn,straysD d true mn,(cu:Int),lg.first - 1+(cn:Int)⟩ (.slice (some ⟨b,off,none⟩) mn.segs.length scap) (.slice o7 (straysD d true mn).length cap7))) w.heap.size ⟨false,mn,straysD d true mn,(cu:Int),lg.first - 1+(cn:Int)⟩ (.slice (some ⟨b,off,none⟩) mn.segs.length scap) (.slice o7 (straysD d true mn).length cap7) from HP7.out.row)
     have HT8:=Lib.hid (show Turned (fun k=>k=w.heap.size) w6 (w7.setRow w.heap.size (plCs ⟨false,mn,straysD d true mn,(cu:Int),lg.first - 1+(cn:Int)⟩ (.slice (some ⟨b,off,none⟩) mn.segs.length scap) (.slice o7 (straysD d true mn).length cap7))) from HT7.out.trans ht8 fun i hi=> .inl hi)
     have HR8:=Lib.hid (HR7.out.turned ht8 fun k hk=>by omega)
     clear ht8 HR7 HT7 HP7
     generalize w7.setRow w.heap.size (plCs ⟨false,mn,straysD d true mn,(cu:Int),lg.first - 1+(cn:Int)⟩ (.slice (some ⟨b,off,none⟩) mn.segs.length scap) (.slice o7 (straysD d true mn).length cap7))=w8 at*
     refine hK.out _ _ HT8.out (fun hHeld=> ?_)
     clear hK K
     refine tk 8 rfl ?v_1 ?hy_1 ?r_1
     case hy_1=>intro w hSw;go_simp;try with_reducible rfl
     simp only [pA]
     refine wpAnyH_done (by kernel_rfl) ?_ _
     have HTE:=Lib.hid (show Turned (fun i=>i=f) w w8 from HW6.out.top.trans HT8.out fun i hi=> .inr (by omega))
     have HSE:=Lib.hid (show SgIn (fun k=>w.heap.size≤k) w8 (.slice (some ⟨b,off,none⟩) mn.segs.length scap) mn.segs from(HW6.out.seg.turned HT8.out (fun k hk=>by omega)).mono (fun k hk=>by omega))
     have HFE:=Lib.hid (show FsAt w8 f m (rdD d (nr+(ns+n2+na))) L from HW6.out.fs.turned HT8.out (fun k hk he=>by have:=HLT.out k hk;omega))
     clear hHeld
     go_wp2
     refine bodyPost_ret (v:= .tuple #[plV ⟨false,mn,straysD d true mn,(cu:Int),lg.first - 1+(cn:Int)⟩ (.slice (some ⟨b,off,none⟩) mn.segs.length scap) (.slice o7 (straysD d true mn).length cap7),.int .i64 0]) (results_pl2 rfl _ _ w.heap.size _ _ _ _ rfl rfl HP8.out) rfl ?_
     rw [HPE.out]
     exact⟨_,_,rfl,HSE.out,HR8.out.mono (fun k hk=>by omega),rfl,rfl,HFE.out,HTE.out⟩
end Go.Proofs.YtcglcphhfmkccaaGreatDoor

namespace Go.Proofs.YtcglcphhfmkccaaGreatDoor
open Go.RowKit
def datF (fs:List Fil) (n:List UInt8):Option (List UInt8):=(atF fs n).map (·.data)
theorem datF_at {fs:List Fil} {n:List UInt8} {x:Fil} (h:atF fs n=some x):datF fs n=some x.data:=by unfold datF;rw [h];rfl
theorem datF_none {fs:List Fil} {n:List UInt8} (h:atF fs n=none):datF fs n=none:=by unfold datF;rw [h];rfl
def stand (room:Int) (fs:List Fil):Disk:=⟨fs,room,0,false,0,0⟩
theorem filD_on {d:Disk} (hok:DiskOk d) (hd:d.down=false) (n:List UInt8):filD d n=atF d.files n:=by
 unfold filD openE
 rw [hd]
 rcases ha:atF d.files n with _ | x
 ·simp
 ·have:=hok.names x (at_name ha).2
  rw [(at_name ha).1] at this
  simp [this]
def snapB (o:Option (List UInt8)) (m:Man):Bool:=
 if 0<m.snap then match o with
  | none=>false
  | some b=>match decBook b with
   | none=>false
   | some r=>decide ((r.1:Int)=m.snap)&&decide ((r.2.1:Int)=m.snapSeq)
 else true
theorem bookV_off {d:Disk} {n:Int} (h:filD d (bookName n)=none):bookV d n=((openE d (bookName n),0,[]),0):=by unfold bookV;rw [h]
theorem bookV_bad {d:Disk} {n:Int} {x:Fil} (h:filD d (bookName n)=some x) (h2:decBook x.data=none):bookV d n=((81,0,[]),x.data.length):=by unfold bookV;rw [h];dsimp only;rw [h2]
theorem bookV_in {d:Disk} {n:Int} {x:Fil} {r:Nat×Nat×List St} (h:filD d (bookName n)=some x) (h2:decBook x.data=some r):bookV d n=if (r.1:Int)≠n then ((81,0,[]),x.data.length) else ((0,r.2.1,r.2.2),x.data.length):=by unfold bookV;rw [h];dsimp only;rw [h2]
theorem snapV_on {d:Disk} (hok:DiskOk d) (hd:d.down=false) (m:Man):(snapV d m).1=snapB (datF d.files (bookName m.snap)) m:=by
 unfold snapV snapB
 split
 ·rcases ha:atF d.files (bookName m.snap) with _ | x
  ·rw [datF_none ha]
   have:openE d (bookName m.snap)≠0:=fun e=>by
    obtain⟨_,_,y,hy⟩:=openE_zero e
    rw [ha] at hy;cases hy
   rw [bookV_off (by rw [filD_on hok hd];exact ha)]
   simp [this]
  ·rw [datF_at ha]
   have hf:filD d (bookName m.snap)=some x:=by rw [filD_on hok hd];exact ha
   dsimp only
   rcases hb:decBook x.data with _ | r
   ·rw [bookV_bad hf hb]
    simp
   ·rw [bookV_in hf hb]
    by_cases hr:(r.1:Int)=m.snap
    ·simp [hr]
    ·simp [hr]
 ·rfl
def sealB (o:Option (List UInt8)) (g:Sg):Bool:=
 match o with
 | none=>false
 | some b=>if (b.length:Int)≤g.foot then false
  else if (begV (b.take (min b.length 64)) g).2=false then false
  else match closingV (b.drop g.foot.toNat) g with
   | none=>false
   | some r=>match r.1 with
    | []=>false
    | k::_=>k.p==((begV (b.take (min b.length 64)) g).1:Int)
theorem sealedV_on {d:Disk} (hok:DiskOk d) (hd:d.down=false) (g:Sg):(sealedV d g).1=sealB (datF d.files (segName g.num)) g:=by
 unfold sealedV
 rw [filD_on hok hd]
 rcases ha:atF d.files (segName g.num) with _ | x
 ·rw [datF_none ha];rfl
 ·rw [datF_at ha]
  unfold sealB sealIn
  dsimp only
  split
  ·rfl
  ·split
   ·rfl
   ·rfl
def sealsB (fs:List Fil) (l:List Sg):Bool:=l.all fun g=>sealB (datF fs (segName g.num)) g
theorem sealsV_on {d:Disk} (hok:DiskOk d) (hd:d.down=false): ∀ l:List Sg,(sealsV d l).1=sealsB d.files l
 | []=>rfl
 | g::r=>by
  rw [sealsV]
  have ih:=sealsV_on hok hd r
  have h1:=sealedV_on hok hd g
  unfold sealsB at ih ⊢
  rw [List.all_cons,←ih,←h1]
  rcases (sealedV d g).1<;>simp
def actB (o:Option (List UInt8)) (g:Sg):Nat×Nat×Bool:=
 match o with
 | none=>(0,0,false)
 | some b=>if (begV b g).2=false then (0,0,false) else ((scanRun b (begV b g).1 (hdrOf b).2.1 512).2,(scanRun b (begV b g).1 (hdrOf b).2.1 512).1.length,true)
theorem activeV_on {d:Disk} (hok:DiskOk d) (hd:d.down=false) (g:Sg):(activeV d g).1=actB (datF d.files (segName g.num)) g:=by
 unfold activeV
 rw [filD_on hok hd]
 rcases ha:atF d.files (segName g.num) with _ | x
 ·rw [datF_none ha];rfl
 ·rw [datF_at ha]
  unfold actB
  dsimp only
  split<;>rfl
def manB (fs:List Fil) (m:Man):Pl×Int:=
 if snapB (datF fs (bookName m.snap)) m=false∨sealsB fs m.segs.dropLast=false then (planZ,4)
 else if (actB (datF fs (segN m)) (lastSg m)).2.2=false∨(lastSg m).first - 1+((actB (datF fs (segN m)) (lastSg m)).2.1:Int)<m.snapSeq then (planZ,4)
 else (⟨false,m,(fs.map (·.name)).filter (strayN true m),((actB (datF fs (segN m)) (lastSg m)).1:Int),(lastSg m).first - 1+((actB (datF fs (segN m)) (lastSg m)).2.1:Int)⟩,0)
theorem planM_on {d:Disk} (hok:DiskOk d) (hd:d.down=false) (m:Man):(planM d m).1=manB d.files m:=by
 unfold planM manB
 rw [snapV_on hok hd,sealsV_on hok hd,activeV_on hok hd]
 rw [show segName (lastSg m).num=segN m from rfl]
 rcases snapB (datF d.files (bookName m.snap)) m
 ·simp
 ·rcases sealsB d.files m.segs.dropLast
  ·simp
  ·simp only [Bool.true_eq_false,or_self,if_false,straysD]
   split<;>rfl
def alien (l:List UInt8):Bool:= !(strayN false zeroM l)
theorem strayN_false (m m':Man) (l:List UInt8):strayN false m l=strayN false m' l:=by
 unfold strayN
 simp
def aliens (fs:List Fil):List Fil:=fs.filter fun f=>alien f.name
def newB (room:Int) (fs:List Fil):Pl×Int:=
 if room - (usedF (aliens fs):Int)<51∨698<(aliens fs).length then (planZ,54) else (⟨true,firstM,(fs.map (·.name)).filter (strayN false firstM),22,0⟩,0)
theorem strays_alien (fs:List Fil) (m:Man):((fs.map (·.name)).filter (strayN false m)).length+(aliens fs).length=fs.length:=by
 induction fs with
 | nil=>rfl
 | cons f r ih=>
  unfold aliens at ih ⊢
  rw [List.map_cons,List.filter_cons,List.filter_cons]
  unfold alien at ih ⊢
  simp only [strayN_false zeroM m] at ih ⊢
  rcases strayN false m f.name<;>simp at ih ⊢ <;>omega
theorem strays_used: ∀ (fs:List Fil) (m:Man),Rise fs→(((fs.map (·.name)).filter (strayN false m)).map fun n=>match atF fs n with | none=>0 | some f=>f.data.length).sum+usedF (aliens fs)=usedF fs
 | [],_,_=>rfl
 | f::r,m,h=>by
  obtain⟨h1,h2⟩:=List.pairwise_cons.1 h
  have ih:=strays_used r m h2
  have e:(((r.map (·.name)).filter (strayN false m)).map fun n=>match atF (f::r) n with | none=>0 | some f=>f.data.length)=((r.map (·.name)).filter (strayN false m)).map fun n=>match atF r n with | none=>0 | some f=>f.data.length:=
   List.map_congr_left fun k hk=>by
    obtain⟨hk,_⟩:=List.mem_filter.1 hk
    obtain⟨y,hy,rfl⟩:=List.mem_map.1 hk
    have:=bytes_ne (h1 y hy)
    unfold atF
    rw [List.find?_cons,show (f.name==y.name)=false by simpa using this]
  have e0:atF (f::r) f.name=some f:=by unfold atF;rw [List.find?_cons];simp
  rw [List.map_cons,List.filter_cons]
  unfold aliens at ih ⊢
  rw [List.filter_cons]
  unfold alien at ih ⊢
  simp only [strayN_false zeroM m] at ih ⊢
  rcases hs:strayN false m f.name
  ·simp only [Bool.not_false,if_true,Bool.false_eq_true,if_false] at ih ⊢
   rw [e]
   simp only [usedF,List.map_cons,List.sum_cons] at ih ⊢
   omega
  ·simp only [Bool.not_true,if_true,Bool.false_eq_true,if_false] at ih ⊢
   rw [List.map_cons,List.sum_cons,e,e0]
   simp only [usedF,List.map_cons,List.sum_cons] at ih ⊢
   omega
theorem freshD_on {d:Disk} (hok:DiskOk d):freshD d=newB d.room d.files:=by
 unfold freshD newB
 have h1:=strays_alien d.files firstM
 have h2:sizesN d (straysD d false firstM)+usedF (aliens d.files)=usedF d.files:=strays_used d.files firstM hok.rise
 have h3:(straysD d false firstM).length+(aliens d.files).length=d.files.length:=h1
 by_cases hc:d.room - (usedF (aliens d.files):Int)<51∨698<(aliens d.files).length
 ·rw [if_pos hc,if_pos (by omega)]
 ·rw [if_neg hc,if_neg (by omega)]
  rfl
def findB (room:Int) (fs:List Fil):Pl×Int:=
 match datF fs manName with
 | none=>newB room fs
 | some b=>if (decMan b).2≠0 then (planZ,4) else manB fs (decMan b).1
theorem decMan_err (b:List UInt8):(decMan b).2=0∨(decMan b).2=80:=by
 unfold decMan
 repeat' split
 all_goals simp
theorem planD_on {d:Disk} (hok:DiskOk d) (hd:d.down=false):(planD d).1=findB d.room d.files:=by
 unfold planD findB loadM
 rw [filD_on hok hd]
 have hr:rightName manName=true:=by decide
 rcases ha:atF d.files manName with _ | x
 ·rw [datF_none ha]
  have:openE d manName=51:=by unfold openE;rw [hd,hr,ha];rfl
  simp only [this,if_true]
  simp [freshD_on hok]
 ·rw [datF_at ha]
  dsimp only
  rcases decMan_err x.data with h0 | h0
  ·simp only [h0,ne_eq,not_true_eq_false,if_false]
   simp [planM_on hok hd]
  ·simp [h0]
end Go.Proofs.YtcglcphhfmkccaaGreatDoor

namespace Go.Proofs.YtcglcphhfmkccaaGreatDoor
open Go.RowKit
theorem byteAt_take {b:List UInt8} {k i:Nat} (h:i<k):byteAt (b.take k) i=byteAt b i:=by
 unfold byteAt
 rw [List.getD_eq_getElem?_getD,List.getD_eq_getElem?_getD,List.getElem?_take_of_lt h]
theorem decF_take {b:List UInt8} {k:Nat} (h:(decF b).2.2=0) (hk:(decF b).2.1≤k):decF (b.take k)=decF b:=by
 have hf:=decF_fine h
 have hp:peekF (b.take k)=peekF b:=by
  unfold peekF
  rw [byteAt_take (by omega),byteAt_take (by omega),byteAt_take (by omega),byteAt_take (by omega),List.take_take,Nat.min_eq_left (by omega),
   List.drop_take,List.take_take,Nat.min_eq_left (by omega),List.length_take]
  by_cases hb:b.length<16
  ·rw [if_pos hb,if_pos (by omega)]
  ·rw [if_neg hb,if_neg (by omega)]
 have hs:(decF b).2.1=(peekF b).2.2.1:=by
  unfold decF at h ⊢
  split at h
  ·rename_i h1;exact absurd h h1
  ·rename_i h1
   rw [if_neg h1]
   split at h
   ·exact absurd h (by decide)
   ·rename_i h2
    rw [if_neg h2]
    split at h
    ·exact absurd h (by decide)
    ·rename_i h3
     rw [if_neg h3]
 rw [hs] at hk hf
 unfold decF
 rw [hp,List.take_take,Nat.min_eq_left hk,List.length_take]
 by_cases hb:b.length<(peekF b).2.2.1
 ·omega
 ·rw [if_neg hb,if_neg (by omega: ¬ min k b.length<(peekF b).2.2.1)]
theorem lastEnd_ge {b:List UInt8}: ∀ (n p:Nat) (first most c:Nat),p≤lastEnd p (takeRun first most c (frsGo n b p))
 | 0,p,_,_,_=>by rw [frsGo,takeRun,lastEnd];exact Nat.le_refl _
 | n+1,p,first,most,c=>by
  rw [frsGo]
  split
  ·rename_i hc
   have hf:=decF_fine hc.2
   rw [takeRun]
   split
   ·rw [lastEnd];exact Nat.le_refl _
   ·split
    ·rw [lastEnd,lastEnd];omega
    ·rw [lastEnd]
     have:=lastEnd_ge (b:=b) n (p+(decF (b.drop p)).2.1) first most (c+1)
     rw [show p+(decF (b.drop p)).1.body.length+20=p+(decF (b.drop p)).2.1 by omega]
     omega
  ·rw [takeRun,lastEnd];exact Nat.le_refl _
theorem takeRun_cut {b:List UInt8} {first most:Nat}: ∀ (n m p c K:Nat),lastEnd p (takeRun first most c (frsGo n b p))=K→b.length≤p+n→K≤p+m→takeRun first most c (frsGo m (b.take K) p)=takeRun first most c (frsGo n b p)
 | 0,m,p,c,K,h,_,_=>by
  rw [frsGo,takeRun] at h ⊢
  rw [lastEnd] at h
  rw [frsGo_end (by rw [List.length_take];omega),takeRun]
 | n+1,m,p,c,K,h,hn,hm=>by
  by_cases hc:p<b.length∧(decF (b.drop p)).2.2=0
  ·have hf:=decF_fine hc.2
   rw [List.length_drop] at hf
   rw [frsGo_step hc.1 hc.2] at h ⊢
   rw [takeRun] at h ⊢
   split at h
   ·rename_i h1
    rw [if_pos h1]
    rw [lastEnd] at h
    rw [frsGo_end (by rw [List.length_take];omega),takeRun]
   ·rename_i h1
    rw [if_neg h1]
    have hsz:p+(decF (b.drop p)).1.body.length+20=p+(decF (b.drop p)).2.1:=by omega
    have hge:p+(decF (b.drop p)).2.1≤K:=by
     split at h
     ·rw [lastEnd,lastEnd,hsz] at h;omega
     ·rw [lastEnd,hsz] at h
      have:=lastEnd_ge (b:=b) n (p+(decF (b.drop p)).2.1) first most (c+1)
      omega
    have hd:decF ((b.take K).drop p)=decF (b.drop p):=by
     rw [List.drop_take]
     exact decF_take hc.2 (by omega)
    obtain⟨m',rfl⟩: ∃ m',m=m'+1:=⟨m - 1,by omega⟩
    rw [frsGo_step (by rw [List.length_take];omega) (by rw [hd];exact hc.2),hd,takeRun,if_neg h1]
    split
    ·rfl
    ·rename_i h2
     rw [if_neg h2,lastEnd,hsz] at h
     rw [takeRun_cut n m' _ _ K h (by omega) (by omega)]
  ·have e:frsGo (n+1) b p=[]:=by rw [frsGo,if_neg hc]
   rw [e,takeRun] at h ⊢
   rw [lastEnd] at h
   rw [frsGo_end (by rw [List.length_take];omega),takeRun]
theorem scanRun_cut {b:List UInt8} {p first most:Nat} (_:p≤b.length):scanRun (b.take (scanRun b p first most).2) p first most=scanRun b p first most:=by
 have hk:(scanRun b p first most).2=p+lastEnd 0 (takeRun first most 0 (frs (b.drop p))):=rfl
 obtain⟨K,hK⟩: ∃ K,K=lastEnd 0 (takeRun first most 0 (frs (b.drop p))):=⟨_,rfl⟩
 have e:takeRun first most 0 (frs ((b.drop p).take K))=takeRun first most 0 (frs (b.drop p)):=by
  unfold frs at hK ⊢
  refine takeRun_cut _ _ 0 0 K hK.symm (by omega) ?_
  have hle:K≤(b.drop p).length:=by
   rw [hK]
   refine lastEnd_le _ 0 (Nat.zero_le _) fun x hx=> ?_
   have: ∀ (xs:List (Nat×Frm)) (c:Nat),∀ y∈takeRun first most c xs,y∈xs:=fun xs=>by
    induction xs with
    | nil=>intro c y h;simp [takeRun] at h
    | cons z r ih=>
     intro c y h
     rw [takeRun] at h
     split at h
     ·cases h
     ·split at h
      ·simp at h;subst h;simp
      ·rcases List.mem_cons.1 h with rfl | h
       ·simp
       ·exact List.mem_cons_of_mem _ (ih (c+1) y h)
   exact(frs_mem (this _ 0 x hx)).1
  rw [List.length_take];omega
 rw [hk,←hK]
 unfold scanRun
 rw [List.drop_take,Nat.add_sub_cancel_left,e]
theorem scanRun_bd {b:List UInt8} {p first most:Nat} (hp:p≤b.length):p≤(scanRun b p first most).2∧(scanRun b p first most).2≤b.length:=by
 have hle:lastEnd 0 (takeRun first most 0 (frs (b.drop p)))≤(b.drop p).length:=by
  refine lastEnd_le _ 0 (Nat.zero_le _) fun x hx=> ?_
  have: ∀ (xs:List (Nat×Frm)) (c:Nat),∀ y∈takeRun first most c xs,y∈xs:=fun xs=>by
   induction xs with
   | nil=>intro c y h;simp [takeRun] at h
   | cons z r ih=>
    intro c y h
    rw [takeRun] at h
    split at h
    ·cases h
    ·split at h
     ·simp at h;subst h;simp
     ·rcases List.mem_cons.1 h with rfl | h
      ·simp
      ·exact List.mem_cons_of_mem _ (ih (c+1) y h)
  exact(frs_mem (this _ 0 x hx)).1
 rw [List.length_drop] at hle
 show p≤p+_∧p+_≤_
 omega
theorem hdrOf_take {b:List UInt8} {k:Nat} (h:(hdrOf b).2.2.2=0) (hk:(hdrOf b).2.2.1≤k):hdrOf (b.take k)=hdrOf b:=by
 have h0:(decF b).2.2=0:=by
  unfold hdrOf at h
  split at h
  ·exact absurd h (by decide)
  ·rename_i hc
   rcases Decidable.em ((decF b).2.2=0) with h | h
   ·exact h
   ·exact absurd (.inl h) hc
 have hs:(hdrOf b).2.2.1=(decF b).2.1:=by
  unfold hdrOf at h ⊢
  split at h
  ·exact absurd h (by decide)
  ·rename_i hc
   rw [if_neg hc]
   split at h
   ·exact absurd h (by decide)
   ·unfold hdrIn at h ⊢
    split at h
    ·split at h
     ·exact absurd h (by decide)
     ·rename_i h3
      rw [if_neg h3]
    ·exact absurd h (by decide)
 have e:=decF_take (k:=k) h0 (by omega)
 unfold hdrOf
 rw [e]
theorem begV_take {b:List UInt8} {g:Sg} {k:Nat} (h:(begV b g).2=true) (hk:(begV b g).1≤k):begV (b.take k) g=begV b g:=by
 have h0:(hdrOf b).2.2.2=0:=by
  unfold begV at h
  simp only [Bool.and_eq_true,decide_eq_true_eq] at h
  exact h.1.1
 have e:=hdrOf_take h0 hk
 unfold begV
 rw [e]
theorem actB_cut {b:List UInt8} {g:Sg} (h:(actB (some b) g).2.2=true):actB (some (b.take (actB (some b) g).1)) g=actB (some b) g∧20≤(actB (some b) g).1∧(actB (some b) g).1≤b.length:=by
 unfold actB at h ⊢
 dsimp only at h ⊢
 rcases hb:(begV b g).2
 ·rw [hb] at h;simp at h
 ·rw [hb] at h
  simp only [Bool.true_eq_false,if_false] at h ⊢
  have hp:=hdr_pos hb
  have hbd:=scanRun_bd (b:=b) (p:=(begV b g).1) (first:=(hdrOf b).2.1) (most:=512) hp.2
  have e1:=begV_take (k:=(scanRun b (begV b g).1 (hdrOf b).2.1 512).2) hb hbd.1
  have h0:(hdrOf b).2.2.2=0:=by
   have hb2:=hb
   unfold begV at hb2
   simp only [Bool.and_eq_true,decide_eq_true_eq] at hb2
   exact hb2.1.1
  have e2:=hdrOf_take (k:=(scanRun b (begV b g).1 (hdrOf b).2.1 512).2) h0 (by exact hbd.1)
  rw [e1,e2,hb,scanRun_cut hp.2]
  simp only [Bool.true_eq_false,if_false]
  exact⟨trivial,by omega,hbd.2⟩
end Go.Proofs.YtcglcphhfmkccaaGreatDoor

namespace Go.Proofs.YtcglcphhfmkccaaGreatDoor
open Go.RowKit
def chgL (fs:List Fil) (o:DOp):List Fil:=(chgD (stand 0 fs) o).files
theorem chgD_eq (x:Disk) (o:DOp):chgD x o={x with files:=chgL x.files o}:=by
 unfold chgL chgD stand
 split
 ·rfl
 ·dsimp only
  rcases atF x.files o.name with _ | f
  ·rfl
  ·dsimp only
   split
   ·rfl
   ·split<;>rfl
structure Went (P Q:List Fil→Prop) (d:Disk) (r:Disk×Int):Prop where
 room:r.1.room=d.room
 ok:DiskOk r.1
 out:(r.2=0∧Q r.1.files∧r.1.down=false∧(d.fuse=0→r.1.fuse=0))∨(r.2=3∧d.fuse≠0∧r.1.down=true∧P r.1.files)
theorem went_nil {P Q:List Fil→Prop} {d:Disk} (hok:DiskOk d) (hd:d.down=false) (hq:Q d.files):Went P Q d (runD d []):=⟨rfl,hok,.inl ⟨rfl,hq,hd,fun h=>h⟩⟩
theorem went_step {P Q:List Fil→Prop} {d:Disk} {o:DOp} {ops:List DOp} (hok:DiskOk d) (hk:0≤o.k∧o.k≤5) (hn:o.n≤9223372036854775807) (hb:barD d o=0)
  (h1:P (if o.k=1 then chgL d.files o else d.files))
  (hr: ∀ d':Disk,d'.files=chgL d.files o→d'.room=d.room→d'.down=false→DiskOk d'→(d.fuse=0→d'.fuse=0)→Went P Q d' (runD d' ops)):Went P Q d (runD d (o::ops)):=by
 have hdn:=(bar_front hb).1
 have hdo:=doD_ok hok (o:=o) (by omega) hn
 by_cases hf:d.fuse=1
 ·have e:doD d o=(if o.k=1 then chgD (stepD d) o else stepD d,[],0,3):=by rw [doD_step hk hb,if_pos hf,if_pos hf]
  rw [e] at hdo
  rw [runD_stop (by rw [e];simp),e]
  have hst:(stepD d).down=true:=by unfold stepD;rw [if_pos hf]
  refine⟨?_,hdo,.inr ⟨rfl,by omega,?_,?_⟩⟩
  ·dsimp only
   split
   ·rw [chgD_eq];exact stepD_room d
   ·exact stepD_room d
  ·dsimp only
   split
   ·rw [chgD_eq];exact hst
   ·exact hst
  ·by_cases h:o.k=1
   ·rw [if_pos h] at h1
    simp only [if_pos h]
    rw [chgD_eq,stepD_files]
    exact h1
   ·rw [if_neg h] at h1
    simp only [if_neg h]
    rw [stepD_files]
    exact h1
 ·have e:doD d o=(chgD (stepD d) o,[],0,0):=by rw [doD_step hk hb,if_neg hf,if_neg hf]
  rw [e] at hdo
  rw [runD_go (by rw [e]),e]
  have hfu:d.fuse=0→(chgD (stepD d) o).fuse=0:=fun h=>by
   rw [chgD_eq]
   show (stepD d).fuse=0
   unfold stepD
   rw [if_neg hf]
   show (if 1<d.fuse then d.fuse - 1 else d.fuse)=0
   rw [if_neg (by omega)]
   exact h
  have hrm:(chgD (stepD d) o).room=d.room:=by rw [chgD_eq];exact stepD_room d
  have:=hr (chgD (stepD d) o) (by rw [chgD_eq,stepD_files]) hrm (by
   rw [chgD_eq]
   show (stepD d).down=false
   unfold stepD
   rw [if_neg hf]
   exact hdn) hdo hfu
  refine⟨this.room.trans hrm,this.ok,?_⟩
  rcases this.out with⟨a,b,c,e⟩ | ⟨a,b,c,e⟩
  ·exact .inl ⟨a,b,c,fun h=>e (hfu h)⟩
  ·exact .inr ⟨a,fun h=>b (hfu h),c,e⟩
theorem Went.mono {P Q P' Q':List Fil→Prop} {d:Disk} {r:Disk×Int} (h:Went P Q d r) (hp: ∀ fs,P fs→P' fs) (hq: ∀ fs,Q fs→Q' fs):Went P' Q' d r:=
 ⟨h.room,h.ok,h.out.imp (fun⟨a,b,c,e⟩=>⟨a,hq _ b,c,e⟩) fun⟨a,b,c,e⟩=>⟨a,b,c,hp _ e⟩⟩
theorem openE_on {d:Disk} (hok:DiskOk d) (hd:d.down=false) {n:List UInt8} {x:Fil} (ha:atF d.files n=some x):openE d n=0:=by
 have:=hok.names x (at_name ha).2
 rw [(at_name ha).1] at this
 unfold openE
 rw [hd,this,ha]
 rfl
theorem openE_off {d:Disk} (hd:d.down=false) {n:List UInt8} (hr:rightName n=true) (ha:atF d.files n=none):openE d n=51:=by
 unfold openE
 rw [hd,hr,ha]
 rfl
def takes:List (List UInt8)→List Fil→List Fil
 | [],fs=>fs
 | n::r,fs=>takes r (takeF n fs)
theorem takes_filter: ∀ (ns:List (List UInt8)) (fs:List Fil),takes ns fs=fs.filter fun f=> !(ns.contains f.name)
 | [],fs=>by
  rw [takes]
  exact(List.filter_eq_self.2 fun f _=>by simp).symm
 | n::r,fs=>by
  rw [takes,takes_filter r,takeF,List.filter_filter]
  refine List.filter_congr fun f _=> ?_
  rw [List.contains_cons]
  rcases (f.name==n)<;>simp
theorem takes_strays (s:List UInt8→Bool) (fs:List Fil):takes ((fs.map (·.name)).filter s) fs=fs.filter fun f=> !(s f.name):=by
 rw [takes_filter]
 refine List.filter_congr fun f hf=> ?_
 congr 1
 rw [Bool.eq_iff_iff,List.contains_iff_mem,List.mem_filter]
 exact⟨fun h=>h.2,fun h=>⟨List.mem_map_of_mem hf,h⟩⟩
theorem chg_remove {fs:List Fil} {n:List UInt8} {x:Fil} (ha:atF fs n=some x):chgL fs (opRemove n)=takeF n fs:=by
 unfold chgL chgD
 rw [if_neg (by simp [opRemove])]
 show (match atF fs n with | none=>stand 0 fs | some f=>_).files=_
 rw [ha]
 simp [opRemove,stand]
theorem went_removes {P Q I:List Fil→Prop} (hip: ∀ fs,I fs→P fs): ∀ (ns:List (List UInt8)) (d:Disk) (ops:List DOp),DiskOk d→d.down=false→ns.Nodup→(∀ n∈ns,∃ x,atF d.files n=some x)→I d.files→(∀ fs n,n∈ns→I fs→I (takeF n fs))→
  (∀ d':Disk,d'.files=takes ns d.files→d'.room=d.room→d'.down=false→DiskOk d'→(d.fuse=0→d'.fuse=0)→I d'.files→Went P Q d' (runD d' ops))→Went P Q d (runD d (ns.map opRemove++ops))
 | [],d,ops,hok,hd,_,_,hi,_,hr=>hr d rfl rfl hd hok (fun h=>h) hi
 | n::r,d,ops,hok,hd,hnd,hon,hi,hst,hr=>by
  obtain⟨hn1,hn2⟩:=List.nodup_cons.1 hnd
  obtain⟨x,hx⟩:=hon n (by simp)
  rw [List.map_cons,List.cons_append]
  refine went_step hok (by simp [opRemove]) (by simp [opRemove]) (by rw [bar_remove];exact openE_on hok hd hx) (hip _ hi) fun d' e1 e2 e3 e4 e5=> ?_
  rw [chg_remove hx] at e1
  have h1:I d'.files:=by rw [e1];exact hst _ _ (by simp) hi
  have:=went_removes (Q:=Q) hip r d' ops e4 e3 hn2 (fun k hk=>by
   obtain⟨y,hy⟩:=hon k (by simp [hk])
   exact⟨y,by rw [e1,at_take (by rintro rfl;exact hn1 hk)];exact hy⟩) h1 (fun fs k hk h=>hst fs k (by simp [hk]) h)
   (fun d2 g1 g2 g3 g4 g5 g6=>hr d2 (by rw [g1,e1];rfl) (g2.trans e2) g3 g4 (fun h=>g5 (e5 h)) g6)
  exact this
theorem at_put_same {f:Fil}: ∀ {fs:List Fil},(∀ x∈fs,x.name≠f.name)→atF (putF f fs) f.name=some f
 | [],_=>by simp [putF,atF]
 | y::r,h=>by
  have hy:=h y (by simp)
  have ih:=at_put_same (f:=f) (fs:=r) fun x hx=>h x (by simp [hx])
  unfold atF at ih ⊢
  unfold putF
  split
  ·rw [List.find?_cons];simp
  ·rw [List.find?_cons,show (y.name==f.name)=false by simpa using hy]
   exact ih
theorem at_put_other {f:Fil} {n:List UInt8} (hn:f.name≠n): ∀ {fs:List Fil},atF (putF f fs) n=atF fs n
 | []=>by simp [putF,atF,hn]
 | y::r=>by
  have ih:=at_put_other hn (fs:=r)
  unfold atF at ih ⊢
  unfold putF
  split
  ·rw [List.find?_cons,show (f.name==n)=false by simpa using hn]
  ·rw [List.find?_cons,List.find?_cons,ih]
theorem take_put {f:Fil} {fs:List Fil} (h: ∀ x∈fs,x.name≠f.name):takeF f.name (putF f fs)=fs:=by
 induction fs with
 | nil=>simp [putF,takeF]
 | cons y r ih=>
  have hy:=h y (by simp)
  have ih:=ih fun x hx=>h x (by simp [hx])
  have hr:takeF f.name (y::r)=y::r:=by
   unfold takeF
   rw [List.filter_eq_self]
   intro x hx
   simpa using h x hx
  unfold putF
  split
  ·unfold takeF at hr ⊢
   rw [List.filter_cons]
   simp only [beq_self_eq_true,Bool.not_true,Bool.false_eq_true,if_false]
   exact hr
  ·unfold takeF at ih ⊢
   rw [List.filter_cons,show (y.name==f.name)=false by simpa using hy]
   simp [ih]
theorem none_of {fs:List Fil} {n:List UInt8} (h: ∀ x∈fs,x.name≠n):atF fs n=none:=by
 unfold atF
 rw [List.find?_eq_none]
 intro x hx
 simpa using h x hx
theorem ne_of_none {fs:List Fil} {n:List UInt8} (h:atF fs n=none): ∀ x∈fs,x.name≠n:=fun x hx=>by
 have:=List.find?_eq_none.1 h x hx
 simpa using this
theorem aliens_put {f:Fil} (hf:alien f.name=false): ∀ fs:List Fil,aliens (putF f fs)=aliens fs
 | []=>by simp [putF,aliens,hf]
 | y::r=>by
  have ih:=aliens_put hf r
  unfold aliens at ih ⊢
  unfold putF
  split
  ·rw [List.filter_cons,hf];simp
  ·rw [List.filter_cons,List.filter_cons,ih]
theorem chg_create {fs:List Fil} {n:List UInt8}:chgL fs (opCreate n)=putF ⟨n,[],0⟩ fs:=by
 unfold chgL chgD
 rw [if_pos (by simp [opCreate])]
 rfl
theorem chg_put {fs:List Fil} {f:Fil} {o:DOp} (h: ∀ x∈fs,x.name≠f.name) (hn:o.name=f.name) (hk:o.k=1∨o.k=2∨o.k=5):chgL (putF f fs) o=putF (chgF o f) fs:=by
 unfold chgL chgD
 rw [if_neg (by omega)]
 show (match atF (putF f fs) o.name with | none=>stand 0 (putF f fs) | some f=>_).files=_
 rw [hn,at_put_same h]
 dsimp only
 rw [if_neg (by omega),if_neg (by omega)]
 show putF (chgF o f) (takeF f.name (putF f fs))=_
 rw [take_put h]
theorem chg_rename {fs:List Fil} {f:Fil} {t:List UInt8} (h: ∀ x∈fs,x.name≠f.name) (ht: ∀ x∈fs,x.name≠t):chgL (putF f fs) (opRename f.name t)=putF {f with name:=t} fs:=by
 unfold chgL chgD
 rw [if_neg (by simp [opRename])]
 show (match atF (putF f fs) f.name with | none=>stand 0 (putF f fs) | some f=>_).files=_
 rw [at_put_same h]
 dsimp only
 rw [if_neg (by simp [opRename]),if_pos (by simp [opRename])]
 show putF (chgF (opRename f.name t) f) (takeF t (takeF f.name (putF f fs)))=_
 rw [take_put h,take_none (none_of ht)]
 rfl
end Go.Proofs.YtcglcphhfmkccaaGreatDoor

namespace Go.Proofs.YtcglcphhfmkccaaGreatDoor
open Go.RowKit
def thereB (fs:List Fil):Bool:=(datF fs manName).isSome
def manF (fs:List Fil):Man:=match datF fs manName with | none=>zeroM | some b=>(decMan b).1
def SafeIn (fs:List Fil):Prop:= ∀ f∈fs,strayN (thereB fs) (manF fs) f.name=false→f.safe=(f.data.length:Int)
def Finds (room:Int) (r:Pl×Int) (fs:List Fil):Prop:=(findB room fs).2=r.2∧(findB room fs).1.man=r.1.man∧(findB room fs).1.cut=r.1.cut∧(findB room fs).1.last=r.1.last
def Stays (room:Int) (r:Pl×Int) (fs:List Fil):Prop:=Finds room r fs∧SafeIn fs
theorem finds_self (room:Int) (fs:List Fil):Finds room (findB room fs) fs:=⟨rfl,rfl,rfl,rfl⟩
theorem find_new {room:Int} {fs:List Fil} (h:datF fs manName=none):findB room fs=newB room fs:=by unfold findB;rw [h]
theorem new_same {room:Int} {fs fs':List Fil} (h:aliens fs'=aliens fs):(newB room fs').2=(newB room fs).2∧(newB room fs').1.man=(newB room fs).1.man∧(newB room fs').1.cut=(newB room fs).1.cut∧(newB room fs').1.last=(newB room fs).1.last:=by
 unfold newB
 rw [h]
 split
 ·exact⟨rfl,rfl,rfl,rfl⟩
 ·exact⟨rfl,rfl,rfl,rfl⟩
theorem finds_new {room:Int} {fs fs':List Fil} (h:datF fs manName=none) (h':datF fs' manName=none) (ha:aliens fs'=aliens fs):Finds room (findB room fs) fs':=by
 unfold Finds
 rw [find_new h,find_new h']
 exact new_same ha
theorem safe_new {fs:List Fil} (h:datF fs manName=none) (ha: ∀ f∈aliens fs,f.safe=(f.data.length:Int)):SafeIn fs:=fun f hf hs=>by
 have e:thereB fs=false:=by unfold thereB;rw [h];rfl
 rw [e,strayN_false _ zeroM] at hs
 exact ha f (List.mem_filter.2 ⟨hf,by unfold alien;rw [hs];rfl⟩)
theorem new_safe {fs:List Fil} (h:datF fs manName=none) (hs:SafeIn fs): ∀ f∈aliens fs,f.safe=(f.data.length:Int):=fun f hf=>by
 obtain⟨h1,h2⟩:=List.mem_filter.1 hf
 refine hs f h1 ?_
 have e:thereB fs=false:=by unfold thereB;rw [h];rfl
 rw [e,strayN_false _ zeroM]
 unfold alien at h2
 simpa using h2
theorem decMan_ok {b:List UInt8} (h:(decMan b).2=0):manOk (decMan b).1=true:=by
 revert h
 unfold decMan
 repeat' split
 ·simp
 ·simp
 ·rename_i h;intro _;simpa using h
 ·simp
theorem ns_man (t:Bool) (m:Man):strayN t m manName=false:=by
 unfold strayN
 rw [show parseOf manName=(1,0) by decide]
 rfl
theorem ns_seg {m:Man} (hf:ManFine m) {g:Sg} (hg:g∈m.segs):strayN true m (segName g.num)=false:=by
 have h1:=hf.seg g hg
 have h2:=hf.next
 unfold strayN
 rw [parse_seg g.num (by omega)]
 simp only [if_true]
 have:segHas m g.num=true:=by unfold segHas;rw [List.any_eq_true];exact⟨g,hg,by simp⟩
 rw [this]
 rfl
theorem ns_book {m:Man} (hf:ManFine m) (h:0<m.snap):strayN true m (bookName m.snap)=false:=by
 have h1:=hf.snap
 have h2:=hf.next
 unfold strayN
 rw [parse_book m.snap (by omega)]
 simp
theorem last_mem {m:Man} (hf:ManFine m):lastSg m∈m.segs:=(last_segs hf).2
theorem manB_same {fs fs':List Fil} {m:Man} (hf:ManFine m) (h: ∀ n,strayN true m n=false→datF fs' n=datF fs n):
  (manB fs' m).2=(manB fs m).2∧(manB fs' m).1.man=(manB fs m).1.man∧(manB fs' m).1.cut=(manB fs m).1.cut∧(manB fs' m).1.last=(manB fs m).1.last:=by
 have h1:snapB (datF fs' (bookName m.snap)) m=snapB (datF fs (bookName m.snap)) m:=by
  by_cases h0:0<m.snap
  ·rw [h _ (ns_book hf h0)]
  ·unfold snapB;rw [if_neg h0,if_neg h0]
 have h2:sealsB fs' m.segs.dropLast=sealsB fs m.segs.dropLast:=by
  unfold sealsB
  rw [Bool.eq_iff_iff,List.all_eq_true,List.all_eq_true]
  refine forall_congr' fun g=>forall_congr' fun hg=> ?_
  rw [h _ (ns_seg hf ((List.dropLast_subset _) hg))]
 have h3:datF fs' (segN m)=datF fs (segN m):=h _ (ns_seg hf (last_mem hf))
 unfold manB
 rw [h1,h2,h3]
 split
 ·exact⟨rfl,rfl,rfl,rfl⟩
 ·split
  ·exact⟨rfl,rfl,rfl,rfl⟩
  ·exact⟨rfl,rfl,rfl,rfl⟩
theorem find_man {room:Int} {fs:List Fil} {b:List UInt8} (h:datF fs manName=some b) (h0:(decMan b).2=0):findB room fs=manB fs (decMan b).1:=by
 unfold findB
 rw [h]
 dsimp only
 rw [if_neg (fun k=>k h0)]
theorem finds_man {room:Int} {fs fs':List Fil} {b:List UInt8} (h:datF fs manName=some b) (h0:(decMan b).2=0) (hs: ∀ n,strayN true (decMan b).1 n=false→datF fs' n=datF fs n):Finds room (findB room fs) fs':=by
 have h':datF fs' manName=some b:=(hs _ (ns_man _ _)).trans h
 unfold Finds
 rw [find_man h h0,find_man h' h0]
 exact manB_same (manFine (decMan_ok h0)) hs
theorem man_there {fs:List Fil} {b:List UInt8} (h:datF fs manName=some b):thereB fs=true∧manF fs=(decMan b).1:=by
 unfold thereB manF
 rw [h]
 exact⟨rfl,rfl⟩
theorem keptN_bd {f:Fil} (h:0≤f.safe∧f.safe≤(f.data.length:Int)) (k:Int):f.safe≤keptN f k∧keptN f k≤(f.data.length:Int):=by
 unfold keptN
 split
 ·split<;>omega
 ·omega
theorem rest_names: ∀ (fs:List Fil) (ks:List Int),(restF fs ks).map (·.name)=fs.map (·.name)
 | [],_=>rfl
 | f::r,ks=>by rw [restF,List.map_cons,List.map_cons,rest_names r]
theorem rest_safe: ∀ (fs:List Fil) (ks:List Int),(∀ f∈fs,0≤f.safe∧f.safe≤(f.data.length:Int))→ ∀ f∈restF fs ks,f.safe=(f.data.length:Int)∧0≤f.safe
 | [],_,_=>fun f hf=>by cases hf
 | f::r,ks,h=>fun x hx=>by
  rw [restF] at hx
  rcases List.mem_cons.1 hx with rfl | hx
  ·have:=keptN_bd (h f (by simp)) (ks.headD 0)
   have h0:=(h f (by simp)).1
   simp only [List.length_take]
   omega
  ·exact rest_safe r ks.tail (fun y hy=>h y (by simp [hy])) x hx
theorem rest_same {f:Fil} (h:f.safe=(f.data.length:Int)) (k:Int):(⟨f.name,f.data.take (keptN f k).toNat,keptN f k⟩:Fil)=f:=by
 have:=keptN_bd (f:=f) (by omega) k
 have e:keptN f k=(f.data.length:Int):=by omega
 rw [e]
 obtain⟨n,b,s⟩:=f
 simp only at h
 subst h
 simp
theorem rest_used: ∀ (fs:List Fil) (ks:List Int),usedF (restF fs ks)≤usedF fs
 | [],_=>Nat.le_refl _
 | f::r,ks=>by
  have ih:=rest_used r ks.tail
  rw [restF]
  simp only [usedF,List.map_cons,List.sum_cons,List.length_take] at ih ⊢
  omega
theorem rest_ok {d:Disk} (h:DiskOk d) (ks:List Int):DiskOk {d with files:=restF d.files ks,down:=false,fuse:=0}:=by
 have hn:=rest_names d.files ks
 have hr:Rise (restF d.files ks):=by
  have h1:=List.pairwise_map (f:=Fil.name) (R:=fun a b=>bytesBefore a b=true) (l:=restF d.files ks)
  have h2:=List.pairwise_map (f:=Fil.name) (R:=fun a b=>bytesBefore a b=true) (l:=d.files)
  exact h1.1 (by rw [hn];exact h2.2 h.rise)
 have hl:(restF d.files ks).length=d.files.length:=by rw [←List.length_map (f:=Fil.name),hn,List.length_map]
 refine⟨hr,fun f hf=> ?_,fun f hf=> ?_,by show (restF d.files ks).length≤700;rw [hl];exact h.count,h.room,?_,⟨Int.le_refl 0,by simp⟩,h.steps,h.reads⟩
 ·have:f.name∈(restF d.files ks).map (·.name):=List.mem_map_of_mem hf
  rw [hn] at this
  obtain⟨y,hy,e⟩:=List.mem_map.1 this
  rw [←e]
  exact h.names y hy
 ·have:=rest_safe d.files ks h.safe f hf
  omega
 ·have:=rest_used d.files ks
  have:=h.used
  show (usedF (restF d.files ks):Int)≤d.room
  omega
theorem rest_at: ∀ (fs:List Fil) (ks:List Int) (n:List UInt8),(∀ x,atF fs n=some x→x.safe=(x.data.length:Int))→atF (restF fs ks) n=atF fs n
 | [],_,_,_=>rfl
 | f::r,ks,n,h=>by
  unfold atF at h ⊢
  rw [restF,List.find?_cons,List.find?_cons]
  by_cases hn:f.name=n
  ·have e:(f.name==n)=true:=by simpa using hn
   rw [e]
   dsimp only
   have:=h f (by rw [List.find?_cons,e])
   rw [rest_same this]
  ·have e:(f.name==n)=false:=by simpa using hn
   rw [e]
   dsimp only
   exact rest_at r ks.tail n fun x hx=>h x (by rw [List.find?_cons,e];exact hx)
theorem rest_filter (s:List UInt8→Bool): ∀ (fs:List Fil) (ks:List Int),(∀ f∈fs,s f.name=true→f.safe=(f.data.length:Int))→(restF fs ks).filter (fun f=>s f.name)=fs.filter fun f=>s f.name
 | [],_,_=>rfl
 | f::r,ks,h=>by
  have ih:=rest_filter s r ks.tail fun x hx=>h x (by simp [hx])
  rw [restF,List.filter_cons,List.filter_cons,ih]
  rcases hs:s f.name
  ·simp
  ·rw [rest_same (h f (by simp) hs)]
theorem rest_dat_none {fs:List Fil} {n:List UInt8} (h:datF fs n=none) (ks:List Int):datF (restF fs ks) n=none:=by
 have ha:atF fs n=none:=by
  rcases ha:atF fs n with _ | x
  ·rfl
  ·rw [datF_at ha] at h;cases h
 exact datF_none (by rw [rest_at fs ks n (fun x hx=>by rw [ha] at hx;cases hx)];exact ha)
theorem stays_rest {room:Int} {r:Pl×Int} {fs:List Fil} (hs0: ∀ f∈fs,0≤f.safe∧f.safe≤(f.data.length:Int)) (h:Stays room r fs) (h4:r.2=0) (ks:List Int):Stays room r (restF fs ks):=by
 obtain⟨hf,hs⟩:=h
 have hsafe:SafeIn (restF fs ks):=fun f hf _=>(rest_safe fs ks hs0 f hf).1
 refine⟨?_,hsafe⟩
 have key:Finds room (findB room fs) (restF fs ks):=by
  rcases hm:datF fs manName with _ | b
  ·refine finds_new hm (rest_dat_none hm ks) ?_
   unfold aliens
   exact rest_filter alien fs ks fun f hf ha=>new_safe hm hs f (List.mem_filter.2 ⟨hf,ha⟩)
  ·have h0:(decMan b).2=0:=by
    have:=hf.1
    rw [h4] at this
    unfold findB at this
    rw [hm] at this
    dsimp only at this
    by_cases h0:(decMan b).2=0
    ·exact h0
    ·rw [if_pos h0] at this;cases this
   obtain⟨e1,e2⟩:=man_there hm
   refine finds_man hm h0 fun n hn=> ?_
   unfold datF
   rw [rest_at fs ks n fun x hx=> ?_]
   obtain⟨g1,g2⟩:=at_name hx
   refine hs x g2 ?_
   rw [e1,e2,g1]
   exact hn
 unfold Finds at key hf ⊢
 rw [key.1,key.2.1,key.2.2.1,key.2.2.2]
 exact hf
end Go.Proofs.YtcglcphhfmkccaaGreatDoor
