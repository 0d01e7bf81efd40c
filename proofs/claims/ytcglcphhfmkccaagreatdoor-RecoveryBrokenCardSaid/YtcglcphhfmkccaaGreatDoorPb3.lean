import Derived.LaidLaws
import Derived.Lay
import Derived.LaidMore
import Derived.Stop.LaidErr
import Derived.StillTailTactics
import Derived.Test.YtcglcphhfmkccaaGreatDoorPb2
namespace Go.Proofs.YtcglcphhfmkccaaGreatDoor
open Go.RowKit
theorem wp_fsPut {o:Oper} {a:Act} {K:Act→World→Prop} {Q:Exit→Act→World→Prop} {w:World} {f m:Nat} {L:List Slot} {s:Slot} (x y z:Operand) (hop:o.op=Op.mapUpdate 50 x y z)
  (hx:a.eval x= .map (some m)) (hy:a.eval y= .string ⟨s.fil.name.toArray⟩) (hz:a.eval z= .pointer (some ⟨s.blk,0,none⟩)) (hB:Body w f m L) (hn:s.fil.name.length≤1000) (hL:L.length≤1000000) (hs:SlotAt w s)
  (h1:s.blk≠f∧s.blk≠m∧datBlk s.sl≠some f∧datBlk s.sl≠some m∧datBlk s.sl≠some s.blk) (h2: ∀ t∈takeS s.fil.name L,Far s t)
  (hK: ∀ w',Body w' f m (putS s (takeS s.fil.name L))→w.grownBy w' (some m)→K (a.put o.dst undef) w'):o.wp Tryz.prog a w K Q:=by
 obtain⟨w',hrun,h3,h4⟩:=hB.put hn hL hs h1 h2
 unfold Oper.wp
 simp [execOp,hop,hx,hy,hz,hrun,Result.andThen]
 exact hK w' h3 h4
def FsMountPost (w:World) (r:Disk×Int) (e:Ending) (w':World):Prop:=
 ((r.2≠0∧e= .returned (.tuple #[.pointer none,.int .i64 r.2]))∨
  (r.2=0∧ ∃ f m L,e= .returned (.tuple #[.pointer (some ⟨f,0,none⟩),.int .i64 0])∧FsAt w' f m r.1 L∧ ∀ k,foot f m L k→w.heap.size≤k))∧Below w.heap.size w w'
structure FmW (w:World) (room:Int) (fs:List Fil) (f m k:Nat) (dc:Disk) (L:List Slot) (wr:World):Prop where
 at_:FsAt wr f m dc L
 low: ∀ k,foot f m L k→w.heap.size≤k
 below:Below w.heap.size w wr
 run:mountGo (newD room) fs=mountGo dc (fs.drop k)
 cnt:dc.files.length≤k
theorem FmW.next {w wr W:World} {room:Int} {fs:List Fil} {f m k:Nat} {dc:Disk} {L:List Slot} (h:FmW w room fs f m k dc L wr) (hb:Below wr.heap.size wr W):FmW w room fs f m k dc L W:=
 ⟨h.at_.below hb,h.low,Below.next h.below hb,h.run,h.cnt⟩
set_option maxRecDepth 100000 in
set_option maxHeartbeats 8000000 in
theorem fsMount_any {A:Nat→Prop} (room:Int) (fs:List Fil) (fv:Value) (w:World) (hf:FilesIn A w fv fs) (hl: ∀ f∈fs,f.data.length≤140737488355328):
  Calls Tryz.prog 5 #[.int .i64 room,fv] w (FsMountPost w (mountD room fs)):=by
 obtain⟨oa,cap,rfl,hl1,hl2,hcc⟩:=hf.shape
 have HCC:=Lib.hid hcc
 have HL:=Lib.hid hl
 clear hcc hf hl
 go_enter Tryz.func5,Tryz.ntmps5
 go_wp2_with fail
 refine(fsNew_any room w).mono ?_
 rintro e w1 ⟨f,m,rfl,hat,hf1,hm1,hb1⟩
 have HM:=Lib.hid (show FmW w room fs f m 0 (newD room) [] w1 from⟨hat,fun k hk=>by
  rcases hk with rfl | rfl | ⟨s,hs,_⟩
  ·exact hf1
  ·exact hm1
  ·exact absurd hs List.not_mem_nil,hb1,rfl,Nat.zero_le _⟩)
 clear hat hf1 hm1 hb1
 rcases h7:decide ((700:Int)<(fs.length:Int)) with _ | _
 case true=>
  have HE:=Lib.hid (show mountD room fs=(zeroD,53) by unfold mountD;rw [if_pos (by have:=of_decide_eq_true h7;omega)])
  go_wp2
  go_ret2
  unfold FsMountPost
  rw [HE.out]
  exact⟨.inl ⟨by decide,rfl⟩,HM.out.below⟩
 have HMD:=Lib.hid (show mountD room fs=mountGo (newD room) fs by unfold mountD;rw [if_neg (by have:=of_decide_eq_false h7;omega)])
 have hn7:fs.length≤700:=by have:=of_decide_eq_false h7;omega
 go_wp2
 go_loopw [8,16] (fun _ iv wr=> ∃ (k:Nat) (dc:Disk) (L:List Slot),k≤fs.length∧iv= .int .i64 k∧Hid (FmW w room fs f m k dc L wr)) (fun _ iv _=>fs.length - (intOf iv).toNat)
 case atStart=>exact⟨0,newD room,[],Nat.zero_le _,rfl,HM⟩
 case round=>
  clear HM h7
  obtain⟨k,dc,L,hk,rfl,HM⟩:=hrel
  by_cases hlt:k<fs.length
  ·obtain⟨x,hx,_,hxm⟩:=nth fs k hlt
   have q1:(k:Int)<(fs.length:Int):=by omega
   obtain⟨b,off,rfl,_,dv,hr,hdv⟩:=HCC.out k x hx
   have HFK:=Lib.hid hx
   have HR:=Lib.hid (range_later hr HM.out.below)
   have HDV:=Lib.hid (fun W (hW:Below w.heap.size w W)=>(hdv.below hW).brow)
   obtain⟨ao,dcap,rfl,hdl,hdc⟩:=hdv
   have HFZ:=Lib.hid (flBlk_alloc wr ⟨[],[],0⟩ (.slice none 0 0))
   simp only [flCs] at HFZ
   have HL1:=Lib.hid (HL.out x hxm)
   clear hx hxm hr hdc hdl
   go_wp2_with (first | (with_reducible refine wpList_load_fl rfl (.tmp 18) rfl b (off+k*3) x (.slice ao x.data.length dcap) rfl HR.out ?_) | (with_reducible refine wpList_store_fl rfl (.tmp 8) (.tmp 19) rfl wr.heap.size ⟨[],[],0⟩ x (.slice none 0 0) (.slice ao x.data.length dcap) rfl rfl HFZ.out rfl ?_))
   intro wf hwf
   have HFB:=Lib.hid (show FlBlk wf wr.heap.size x (.slice ao x.data.length dcap) by rw [hwf.out];exact HFZ.out.row)
   have HMF:=Lib.hid (show FmW w room fs f m k dc L wf by
    rw [hwf.out]
    exact HM.out.next (below_row ((Below.refl _ _).alloc (Nat.le_refl _) _) (Nat.le_refl _) _))
   have hgf: ¬ foot f m L wr.heap.size:=fun hc=>by have:=HM.out.at_.lt _ hc;omega
   have HGF:=Lib.hid hgf
   clear hwf HFZ HR HM hgf
   generalize wr.heap.size=gx at*
   have HM:=HMF
   clear HMF
   have n0:=HFB.out.c0
   have n1:=HFB.out.c1
   have n2:=HFB.out.c2
   have c0:=HM.out.at_.hd.c0
   have c1:wf.cell? ⟨f,1,none⟩=some (.int .i64 dc.room):=HM.out.at_.hd.c1
   have c2:wf.cell? ⟨f,2,none⟩=some (.int .i64 (usedF dc.files:Int)):=HM.out.at_.hd.c2
   have HRT:=Lib.hid (fun W=>Right_any x.name W)
   rcases hrn:rightName x.name with _ | _
   ·rw [hrn] at HRT
    have HE:=Lib.hid (show mountD room fs=(zeroD,50) by
     have he:mountE dc x=50:=by unfold mountE;rw [hrn];rfl
     rw [HMD.out,HM.out.run,mountGo_at HFK.out,if_neg (by rw [he];decide),he])
    clear hrn n1 n2 c0 c1 c2
    go_wp2_with (go_at_call 14;refine(HRT.out _).mono ?_;rintro e w3 ⟨rfl,rfl⟩)
    go_ret2
    unfold FsMountPost
    rw [HE.out]
    exact⟨.inl ⟨by decide,rfl⟩,HM.out.below⟩
   rw [hrn] at HRT
   have HRN:=Lib.hid hrn
   have HXL:=Lib.hid (right_len hrn)
   clear hrn
   rcases hsl:slotAt L x.name with _ | s
   case some=>
    have HE:=Lib.hid (show mountD room fs=(zeroD,52) by
     have hat:atF dc.files x.name=some s.fil:=by rw [←HM.out.at_.fil,fils_at,hsl];rfl
     have he:mountE dc x=52:=by unfold mountE;rw [HRN.out,hat];rfl
     rw [HMD.out,HM.out.run,mountGo_at HFK.out,if_neg (by rw [he];decide),he])
    have HLK:=Lib.hid (fun W (hB:Body W f m L)=>show (Instr.lookup 50 (.map (some m)) (.string ⟨x.name.toArray⟩) false).run Tryz.prog W= .ok (.pointer (some ⟨s.blk,0,none⟩)) W by
     have:=hB.look (n:=x.name) HXL.out;rw [hsl] at this;exact this)
    clear hsl
    go_wp2_with (go_at_call 14;refine(HRT.out _).mono ?_;rintro e w3 ⟨rfl,rfl⟩)
    have HMd:=Lib.hid (HM.out.next (show Below wf.heap.size wf wf.drew from below_drewN' wf 1))
    have HFd:=Lib.hid (HFB.out.below (show Below wf.heap.size wf wf.drew from below_drewN' wf 1))
    refine wp_region_held_drew (S:=fun w'=>HdAt w' f m (hdOf dc)∧FlBlk w' gx x (.slice ao x.data.length dcap)∧Body w' f m L) (by kernel_rfl) ⟨HMd.out.at_.hd,HFd.out,HMd.out.at_.body⟩ (fun hHeld=> ?_)
    clear n0 n1 n2 c0 c1 c2
    have FX1:=Lib.hid (fun(wF:World) (hSw:(fun w'=>HdAt w' f m (hdOf dc)∧FlBlk w' gx x (.slice ao x.data.length dcap)∧Body w' f m L) wF)=>And.intro ((hSw.1.c0)) (And.intro ((hSw.2.1.c0)) ((HLK.out _ hSw.2.2))))
    refine tf FX1 0 rfl ?_
    refine tf FX1 1 rfl ?_
    refine tf FX1 2 rfl ?_
    refine tf FX1 3 rfl ?_
    refine tf FX1 4 rfl ?_
    refine tf FX1 5 rfl ?_
    refine tf FX1 6 rfl ?_
    refine tf FX1 7 rfl ?_
    refine tf FX1 8 rfl ?_
    clear FX1
    refine wpAnyH_done (by kernel_rfl) ?_ _
    have HM:=HMd
    have HFB:=HFd
    clear HMd HFd HRT HLK
    generalize World.drew _=w3 at*
    go_wp2
    go_ret2
    unfold FsMountPost
    rw [HE.out]
    exact⟨.inl ⟨by decide,rfl⟩,HM.out.below⟩
   have HLK:=Lib.hid (fun W (hB:Body W f m L)=>show (Instr.lookup 50 (.map (some m)) (.string ⟨x.name.toArray⟩) false).run Tryz.prog W= .ok (.pointer none) W by
    have:=hB.look (n:=x.name) HXL.out;rw [hsl] at this;exact this)
   have HAT:=Lib.hid (show atF dc.files x.name=none by rw [←HM.out.at_.fil,fils_at,hsl];rfl)
   have HTS:=Lib.hid (show takeS x.name L=L by
    unfold takeS
    rw [List.filter_eq_self]
    intro y hy
    have:=List.find?_eq_none.1 hsl y hy
    simpa using this)
   clear hsl
   go_wp2_with (go_at_call 14;refine(HRT.out _).mono ?_;rintro e w3 ⟨rfl,rfl⟩)
   have HMd:=Lib.hid (HM.out.next (show Below wf.heap.size wf wf.drew from below_drewN' wf 1))
   have HFd:=Lib.hid (HFB.out.below (show Below wf.heap.size wf wf.drew from below_drewN' wf 1))
   refine wp_region_held_drew (S:=fun w'=>HdAt w' f m (hdOf dc)∧FlBlk w' gx x (.slice ao x.data.length dcap)∧Body w' f m L) (by kernel_rfl) ⟨HMd.out.at_.hd,HFd.out,HMd.out.at_.body⟩ (fun hHeld=> ?_)
   clear n0 n1 n2 c0 c1 c2
   have FX2:=Lib.hid (fun(wF:World) (hSw:(fun w'=>HdAt w' f m (hdOf dc)∧FlBlk w' gx x (.slice ao x.data.length dcap)∧Body w' f m L) wF)=>And.intro ((hSw.1.c0)) (And.intro ((hSw.2.1.c0)) ((HLK.out _ hSw.2.2))))
   refine tf FX2 0 rfl ?_
   refine tf FX2 1 rfl ?_
   refine tf FX2 2 rfl ?_
   refine tf FX2 3 rfl ?_
   refine tf FX2 4 rfl ?_
   refine tf FX2 5 rfl ?_
   refine tf FX2 6 rfl ?_
   refine tf FX2 7 rfl ?_
   refine tf FX2 8 rfl ?_
   clear FX2
   refine wpAnyH_done (by kernel_rfl) ?_ _
   have HM:=HMd
   have HFB:=HFd
   clear HMd HFd HRT HLK
   generalize World.drew _=w3 at*
   have n2:=HFB.out.c2
   have n1:=HFB.out.c1
   rcases hs0:decide (x.safe<0) with _ | _
   case true=>
    have HE:=Lib.hid (show mountD room fs=(zeroD,1) by
     have he:mountE dc x=1:=by unfold mountE;rw [HRN.out,HAT.out,hs0];rfl
     rw [HMD.out,HM.out.run,mountGo_at HFK.out,if_neg (by rw [he];decide),he])
    go_wp2
    go_ret2
    unfold FsMountPost
    rw [HE.out]
    exact⟨.inl ⟨by decide,rfl⟩,HM.out.below⟩
   rcases hs1:decide ((x.data.length:Int)<x.safe) with _ | _
   case true=>
    have HE:=Lib.hid (show mountD room fs=(zeroD,1) by
     have he:mountE dc x=1:=by unfold mountE;rw [HRN.out,HAT.out,hs0,hs1];rfl
     rw [HMD.out,HM.out.run,mountGo_at HFK.out,if_neg (by rw [he];decide),he])
    go_wp2
    go_ret2
    unfold FsMountPost
    rw [HE.out]
    exact⟨.inl ⟨by decide,rfl⟩,HM.out.below⟩
   have hus:=HM.out.at_.ok.used
   have hrm:=HM.out.at_.ok.room
   have hw:IntKind.i64.wrap (dc.room - (usedF dc.files:Int))=dc.room - (usedF dc.files:Int):=by rw [IntKind.wrap_i64];omega
   have c1:w3.cell? ⟨f,1,none⟩=some (.int .i64 dc.room):=HM.out.at_.hd.c1
   have c2:w3.cell? ⟨f,2,none⟩=some (.int .i64 (usedF dc.files:Int)):=HM.out.at_.hd.c2
   have HN:=Lib.hid (fun n=>HFB.out.below (below_drewN' w3 n))
   have HMN:=Lib.hid (fun n=>HM.out.next (below_drewN' w3 n))
   rcases hfull:decide (dc.room - (usedF dc.files:Int)<(x.data.length:Int)) with _ | _
   case true=>
    have HE:=Lib.hid (show mountD room fs=(zeroD,54) by
     have he:mountE dc x=54:=by
      unfold mountE;rw [HRN.out,HAT.out,hs0,hs1,hfull];rfl
     rw [HMD.out,HM.out.run,mountGo_at HFK.out,if_neg (by rw [he];decide),he])
    clear hus hrm
    go_wp2_with fail
    go_quiet (fail)
    go_wp2
    go_ret2
    unfold FsMountPost
    rw [HE.out]
    exact⟨.inl ⟨by decide,rfl⟩,(HMN.out _).below⟩
   have HE0:=Lib.hid (show mountE dc x=0 by
    unfold mountE;rw [HRN.out,HAT.out,hs0,hs1,hfull];rfl)
   have HUP:=Lib.hid (show (usedF (layF dc x).files:Int)=(usedF dc.files:Int)+(x.data.length:Int) by simp only [layF,usedF_put];omega)
   have HW:=Lib.hid (show IntKind.i64.wrap ((usedF dc.files:Int)+(x.data.length:Int))=(usedF dc.files:Int)+(x.data.length:Int) by have:=HL1.out;rw [IntKind.wrap_i64];omega)
   go_wp2_with fail
   go_quiet (fail)
   have HFB:=Lib.hid (HN.out nq)
   have HM:=Lib.hid (HMN.out nq)
   clear HN HMN n1 n2 c1 c2 hus hrm hw hfull hs0 hs1
   generalize w3.drewN nq=w4 at*
   have HMd:=Lib.hid (HM.out.next (show Below w4.heap.size w4 w4.drew from below_drewN' w4 1))
   have HFd:=Lib.hid (HFB.out.below (show Below w4.heap.size w4 w4.drew from below_drewN' w4 1))
   go_wp2_with fail
   refine wp_region_held_drew (S:=fun w'=>HdAt w' f m (hdOf dc)∧FlBlk w' gx x (.slice ao x.data.length dcap)) (by kernel_rfl) ⟨HMd.out.at_.hd,HFd.out⟩ (fun hHeld=> ?_)
   clear HM HFB
   have FX3:=Lib.hid (fun(wF:World) (hSw:(fun w'=>HdAt w' f m (hdOf dc)∧FlBlk w' gx x (.slice ao x.data.length dcap)) wF)=>And.intro ((hSw.1.c0)) (And.intro ((hSw.2.c0)) (And.intro ((hSw.2.c1)) ((hSw.2.c2)))))
   refine tf FX3 0 rfl ?_
   refine tf FX3 1 rfl ?_
   refine tf FX3 2 rfl ?_
   refine tf FX3 3 rfl ?_
   refine tf FX3 4 rfl ?_
   refine tf FX3 5 rfl ?_
   refine tf FX3 6 rfl ?_
   refine tf FX3 7 rfl ?_
   refine tf FX3 9 rfl ?_
   refine tf FX3 10 rfl ?_
   clear FX3
   generalize World.drew _=Wd at*
   refine wpAnyH_ready (rs:=[8]) (by kernel_rfl) (by simp) ?_
   refine AllReadyH.cons rfl (fun K hK=> ?_) AllReadyH.nil
   go_simp
   go_at_call 15
   refine(clone_any x.data (.slice ao x.data.length dcap) _ (HDV.out _ HMd.out.below) (Nat.le_trans HL1.out (by decide))).mono ?_
   rintro e w5 ⟨v5,rfl,ho5,hb5⟩
   have HD5:=Lib.hid (datAt_own ho5)
   obtain⟨o5,cap5,rfl,_,_⟩:=own_shape ho5
   have HM5:=Lib.hid (HMd.out.next hb5)
   have HF5:=Lib.hid (HFd.out.below hb5)
   have HOLD:=Lib.hid (fun k (hk:foot f m L k)=>HMd.out.at_.lt k hk)
   have HWL:=Lib.hid (HMd.out.below.size)
   clear ho5 hb5 HMd HFd hHeld
   go_wp2_with fail
   refine hK.out _ _ ⟨HM5.out.at_.hd,HF5.out⟩ (fun hHeld=> ?_)
   clear hK K
   refine tq 11 rfl ?_
   have HM6:=Lib.hid (HM5.out.next (below_alloc w5 (.cells #[.slice o5 x.data.length cap5,.int .i64 x.safe] 55)))
   have HF6:=Lib.hid (HF5.out.below (below_alloc w5 (.cells #[.slice o5 x.data.length cap5,.int .i64 x.safe] 55)))
   have HX:=Lib.hid (show SlotAt (w5.alloc (.cells #[.slice o5 x.data.length cap5,.int .i64 x.safe] 55)) ⟨x,w5.heap.size,.slice o5 x.data.length cap5⟩ from⟨heap_alloc_new w5 _,HD5.out.1.later (below_alloc w5 _)⟩)
   have HL5:=Lib.hid (fun k (hk:foot f m L k)=>HM5.out.at_.lt k hk)
   have HG5:=Lib.hid (fun g (hg:datBlk (.slice o5 x.data.length cap5)=some g)=>HD5.out.1.lt hg)
   refine wpAnyH_ready (rs:=[12]) (by kernel_rfl) (by simp) ?_
   refine AllReadyH.cons rfl (fun K hK=> ?_) AllReadyH.nil
   go_simp
   refine hK.out _ _ ⟨HM6.out.at_.hd,HF6.out⟩ (fun hHeld=> ?_)
   clear hK K hHeld
   have hL7:L.length≤1000000:=by
    have h1:=HM6.out.at_.fil
    have h2:=HM6.out.at_.ok.count
    rw [←h1] at h2
    have:(fils L).length=L.length:=by simp [fils]
    omega
   have HNE:=Lib.hid (show w5.heap.size≠f∧w5.heap.size≠m∧datBlk (.slice o5 x.data.length cap5)≠some f∧datBlk (.slice o5 x.data.length cap5)≠some m∧datBlk (.slice o5 x.data.length cap5)≠some w5.heap.size from
    ⟨fun e=>by have:=HL5.out f (.inl rfl);omega,fun e=>by have:=HL5.out m (.inr (.inl rfl));omega,fun e=>by have:=HD5.out.2 f e;have:=HOLD.out f (.inl rfl);omega,
     fun e=>by have:=HD5.out.2 m e;have:=HOLD.out m (.inr (.inl rfl));omega,fun e=>by have:=HG5.out _ e;omega⟩)
   have HFAR:=Lib.hid (show ∀ t∈takeS x.name L,Far ⟨x,w5.heap.size,.slice o5 x.data.length cap5⟩ t from fun t ht'=>by
    have ht:=(List.mem_filter.1 ht').1
    have hb:=HOLD.out t.blk (.inr (.inr ⟨t,ht,.inl rfl⟩))
    have hb5:=HL5.out t.blk (.inr (.inr ⟨t,ht,.inl rfl⟩))
    refine⟨fun e=> ?_,fun e=> ?_,fun e=> ?_,fun g hg hg'=> ?_⟩
    ·simp only at e;omega
    ·have:=HD5.out.2 t.blk e;omega
    ·have:=HL5.out _ (.inr (.inr ⟨t,ht,.inr e⟩));simp only at this;omega
    ·have h1:=HD5.out.2 g hg
     have h2:=HOLD.out g (.inr (.inr ⟨t,ht,.inr hg'⟩))
     omega)
   refine wpAnyH_ready (rs:=[13]) (by kernel_rfl) (by simp) ?_
   refine AllReadyH.cons rfl (fun K hK=> ?_) AllReadyH.nil
   rw [if_pos (by kernel_rfl)]
   refine wp_fsPut (s:=⟨x,w5.heap.size,.slice o5 x.data.length cap5⟩) (.tmp 63) (.tmp 65) (.tmp 72) rfl rfl rfl rfl HM6.out.at_.body HXL.out hL7 HX.out HNE.out HFAR.out ?_
   intro w7 hb7 hg7
   have HB7:=Lib.hid (show Body w7 f m (putS ⟨x,w5.heap.size,.slice o5 x.data.length cap5⟩ L) by have:=hb7;rw [HTS.out] at this;exact this)
   have hfm:=HM6.out.at_.body.apart.1
   have HH7:=Lib.hid (HM6.out.at_.hd.kept (hg7.block f HM6.out.at_.hd.lt (by simpa using hfm)))
   have HF7:=Lib.hid (show FlBlk w7 gx x (.slice ao x.data.length dcap) by
    unfold FlBlk
    rw [hg7.block gx (Array.getElem?_eq_some_iff.1 HF6.out).1 (by simpa using fun e=>HGF.out (.inr (.inl e)))]
    exact HF6.out)
   have HBW7:=Lib.hid (show Below w.heap.size w w7 from HM6.out.below.grown hg7 HM6.out.below.size (fun j hj=>by cases hj;exact HM6.out.low m (.inr (.inl rfl))))
   clear hb7 hg7 hfm
   refine hK.out _ _ ⟨HH7.out,HF7.out⟩ (fun hHeld=> ?_)
   clear hK K hHeld
   refine wpAnyH_done (by kernel_rfl) ?_ _
   have c2:w7.cell? ⟨f,2,none⟩=some (.int .i64 (usedF dc.files:Int)):=HH7.out.c2
   have f2:=HH7.out.free 2
   have n1:=HF7.out.c1
   have hw:=HW.out
   go_wp2_with fail
   go_still_tail 10,(by kernel_rfl)
   have HBd:=Lib.hid (show Below w7.heap.size w7 w7.drew from below_drewN' w7 1)
   have c2':w7.drew.cell? ⟨f,2,none⟩=some (.int .i64 (usedF dc.files:Int)):=c2
   refine wpList_store_cellV rfl 3 (.tmp 82) (.tmp 80) rfl f 2 (.int .i64 ((usedF dc.files:Int)+(x.data.length:Int))) (.int .i64 (usedF dc.files:Int)) (by kernel_rfl) rfl rfl rfl c2' f2 ?_
   intro w8 hw8
   have hk7:k<700:=by omega
   have HM8:=Lib.hid (show FmW w room fs f m (k+1) (layF dc x) (putS ⟨x,w5.heap.size,.slice o5 x.data.length cap5⟩ L) w8 by
    rw [hw8.out]
    have hcnt:=HM6.out.cnt
    refine⟨⟨?_,(HB7.out.below HH7.out.lt HBd.out).setHd 2 _,by rw [fils_put,HM6.out.at_.fil];rfl,layF_ok HM6.out.at_.ok HE0.out (by omega)⟩,fun q hq=> ?_,(Below.next HBW7.out HBd.out).setCell (p:=⟨f,2,none⟩) (HM6.out.low f (.inl rfl)) _,?_,by simp only [layF,putF_length];omega⟩
    ·have e:hdOf (layF dc x)={hdOf dc with used:=(usedF dc.files:Int)+(x.data.length:Int)}:=by
      unfold hdOf
      rw [HUP.out]
      rfl
     rw [e]
     exact(HH7.out.below HBd.out).set 2 _ rfl
    ·rcases foot_put q hq with h1 | h1 | h1
     ·exact HM6.out.low q h1
     ·rw [h1];exact HM5.out.below.size
     ·exact Nat.le_trans HWL.out (HD5.out.2 q h1)
    ·rw [HM6.out.run,mountGo_at HFK.out,if_pos HE0.out])
   clear hw8 c2 c2' f2 n1 hw
   go_wp2
   go_roundw
   case rel=>exact⟨k+1,layF dc x,_,by omega,by go_num,HM8⟩
   case measure=>simp [intOf];omega
  ·obtain rfl:k=fs.length:=by omega
   have HE:=Lib.hid (show mountD room fs=(dc,0) by rw [HMD.out,HM.out.run,List.drop_of_length_le (Nat.le_refl _)];rfl)
   go_wp2
   go_ret2
   unfold FsMountPost
   rw [HE.out]
   exact⟨.inr ⟨rfl,f,m,L,rfl,HM.out.at_,HM.out.low⟩,HM.out.below⟩
end Go.Proofs.YtcglcphhfmkccaaGreatDoor

namespace Go.Proofs.YtcglcphhfmkccaaGreatDoor
open Go.RowKit
def firstM:Man:=⟨1,2,0,0,0,[⟨1,1,0,0⟩]⟩
def zeroM:Man:=⟨0,0,0,0,0,[]⟩
def planF:Pl:=⟨true,firstM,[],22,0⟩
def planZ:Pl:=⟨false,zeroM,[],0,0⟩
theorem firstM_ok:manOk firstM=true:=by decide
theorem encV_one {n:Nat} (h:n<128):(encV n).length=1:=by rw [encV,dif_pos h];rfl
theorem first_len:(hdrEnc 1 1).1.length=22∧(encMan firstM).1.length=29:=by
 refine⟨?_,?_⟩
 ·rw [hdrEnc_ok (by decide) (by decide) (by decide) (by decide)]
  simp only [frameOf_length,List.length_append]
  rw [encV_one (by decide)]
 ·rw [encMan_ok firstM_ok]
  simp only [frameOf_length]
  show (encV 8++(encV 2++(encV 0++(encV 0++(encV 0++(encV 1++(encV 1++(encV 0++(encV 0++[]))))))))).length+20=29
  simp only [List.length_append,encV_one (show 8<128 by decide),encV_one (show 2<128 by decide),encV_one (show 1<128 by decide),encV_one (show 0<128 by decide),List.length_nil]
theorem mnCs_all (m:Man) (v:Value) (h:v.oneCell'=true):(mnCs m v).all (·.oneCell')=true:=
 Array.all_eq_true_iff_forall_mem.2 (by
  intro u hu
  simp only [mnCs,List.mem_toArray,List.mem_cons,List.not_mem_nil,or_false] at hu
  rcases hu with rfl | rfl | rfl | rfl | rfl | rfl<;>first | rfl | assumption)
theorem MnBlk.row {w:World} {g:Nat} {m m':Man} {sv sv':Value} (h:MnBlk w g m sv):MnBlk (w.setRow g (mnCs m' sv')) g m' sv':=setRow_heap w g _ _ _ _ h
theorem wpList_store_mn {ops:Array Oper} {rest:List Oper} {o:Oper} {a:Act} {w:World} {Q:Exit→Act→World→Prop} (hgd:o.guard=none) (x y:Operand) (ho:o.op= .store 34 x y)
  (g:Nat) (m m':Man) (sv sv':Value) (hx:a.eval x= .pointer (some ⟨g,0,none⟩)) (hy:a.eval y=mnV m' sv') (hE:MnBlk w g m sv) (h1:sv'.oneCell'=true)
  (h: ∀ W,Hid (W=w.setRow g (mnCs m' sv'))→wpList Tryz.prog ops Q rest (a.put o.dst undef) W):wpList Tryz.prog ops Q (o::rest) a w:=
 wpList_store_row hgd 34 x y ho g (mnCs m' sv') hx hy 34 (mnCs m sv) hE mnInfo rfl (mnCs_all m' sv' h1) (h _ (Lib.hid rfl))
theorem plCs_all (p:Pl) (v v':Value) (h:v.oneCell'=true) (h':v'.oneCell'=true):(plCs p v v').all (·.oneCell')=true:=
 Array.all_eq_true_iff_forall_mem.2 (by
  intro u hu
  simp only [plCs,List.mem_toArray,List.mem_cons,List.not_mem_nil,or_false] at hu
  rcases hu with rfl | rfl | rfl | rfl | rfl | rfl | rfl | rfl | rfl | rfl<;>first | rfl | assumption)
theorem PlBlk.row {w:World} {g:Nat} {p p':Pl} {sv rv sv' rv':Value} (h:PlBlk w g p sv rv):PlBlk (w.setRow g (plCs p' sv' rv')) g p' sv' rv':=setRow_heap w g _ _ _ _ h
theorem wpList_store_pl {ops:Array Oper} {rest:List Oper} {o:Oper} {a:Act} {w:World} {Q:Exit→Act→World→Prop} (hgd:o.guard=none) (x y:Operand) (ho:o.op= .store 37 x y)
  (g:Nat) (p p':Pl) (sv rv sv' rv':Value) (hx:a.eval x= .pointer (some ⟨g,0,none⟩)) (hy:a.eval y=plV p' sv' rv') (hE:PlBlk w g p sv rv) (h1:sv'.oneCell'=true) (h2:rv'.oneCell'=true)
  (h: ∀ W,Hid (W=w.setRow g (plCs p' sv' rv'))→wpList Tryz.prog ops Q rest (a.put o.dst undef) W):wpList Tryz.prog ops Q (o::rest) a w:=
 wpList_store_row hgd 37 x y ho g (plCs p' sv' rv') hx hy 37 (plCs p sv rv) hE plInfo rfl (plCs_all p' sv' rv' h1 h2) (h _ (Lib.hid rfl))
theorem run_load_mn {w:World} {g:Nat} {m:Man} {sv:Value} (hE:MnBlk w g m sv):(loadVar 34 ⟨g,0,none⟩).run Tryz.prog w= .ok (mnV m sv) w:=
 run_loadVar_row (P:=Tryz.prog) w g 34 34 (mnCs m sv) (0,0) _ hE Tryz.underlying34 rfl mnInfo
theorem run_load_pl {w:World} {g:Nat} {p:Pl} {sv rv:Value} (hE:PlBlk w g p sv rv):(loadVar 37 ⟨g,0,none⟩).run Tryz.prog w= .ok (plV p sv rv) w:=
 run_loadVar_row (P:=Tryz.prog) w g 37 37 (plCs p sv rv) (0,0) _ hE Tryz.underlying37 rfl plInfo
theorem results_mn1 {fn:Func} {p:Tmp} (h:fn.results= #[.cell p 34]) (tmps:Array Value) (w:World) (g:Nat) (m:Man) (sv:Value)
  (hp:tmps.getD p undef= .pointer (some ⟨g,0,none⟩)) (hE:MnBlk w g m sv):(results fn tmps).run Tryz.prog w= .ok (mnV m sv) w:=by
 have hl:=run_load_mn hE
 have hp':tmps[p]?.getD undef= .pointer (some ⟨g,0,none⟩):=by simpa using hp
 simp [results,h,hp',asAddr,hl]
theorem results_mn3 {fn:Func} {p q r:Tmp} (h:fn.results= #[.cell p 34,.tmp q,.tmp r]) (tmps:Array Value) (w:World) (g:Nat) (m:Man) (sv x y:Value)
  (hp:tmps.getD p undef= .pointer (some ⟨g,0,none⟩)) (hq:tmps.getD q undef=x) (hr:tmps.getD r undef=y) (hE:MnBlk w g m sv):(results fn tmps).run Tryz.prog w= .ok (.tuple #[mnV m sv,x,y]) w:=by
 have hl:=run_load_mn hE
 have hp':tmps[p]?.getD undef= .pointer (some ⟨g,0,none⟩):=by simpa using hp
 have hq':tmps[q]?.getD undef=x:=by simpa using hq
 have hr':tmps[r]?.getD undef=y:=by simpa using hr
 simp [results,h,hp',hq',hr',asAddr,hl]
theorem results_pl2 {fn:Func} {p q:Tmp} (h:fn.results= #[.cell p 37,.tmp q]) (tmps:Array Value) (w:World) (g:Nat) (P:Pl) (sv rv x:Value)
  (hp:tmps.getD p undef= .pointer (some ⟨g,0,none⟩)) (hq:tmps.getD q undef=x) (hE:PlBlk w g P sv rv):(results fn tmps).run Tryz.prog w= .ok (.tuple #[plV P sv rv,x]) w:=by
 have hl:=run_load_pl hE
 have hp':tmps[p]?.getD undef= .pointer (some ⟨g,0,none⟩):=by simpa using hp
 have hq':tmps[q]?.getD undef=x:=by simpa using hq
 simp [results,h,hp',hq',asAddr,hl]
set_option maxRecDepth 100000 in
theorem first_any (w:World):Calls Tryz.prog 29 #[] w fun e w'=> ∃ sv,e= .returned (mnV firstM sv)∧SgIn (fun k=>w.heap.size≤k) w' sv firstM.segs∧sv.oneCell'=true∧Below w.heap.size w w':=by
 have HM:=Lib.hid ((mnBlk_alloc w firstM (.slice (some ⟨w.heap.size+1,0,none⟩) 1 1)).below (below_alloc _ (.cells (sgCs ⟨1,1,0,0⟩) 63)))
 have HB:=Lib.hid (Below.next (below_alloc w (.cells (mnCs firstM (.slice (some ⟨w.heap.size+1,0,none⟩) 1 1)) 34)) (below_alloc _ (.cells (sgCs ⟨1,1,0,0⟩) 63)))
 have HS:=Lib.hid (show SgIn (fun k=>w.heap.size≤k) ((w.alloc (.cells (mnCs firstM (.slice (some ⟨w.heap.size+1,0,none⟩) 1 1)) 34)).alloc (.cells (sgCs ⟨1,1,0,0⟩) 63)) (.slice (some ⟨w.heap.size+1,0,none⟩) 1 1) firstM.segs from
  ⟨_,1,rfl,Nat.le_refl _,by decide,fun i g hg=>⟨w.heap.size+1,0,rfl,Nat.le_succ _,fun j u hj=>by
   match i,hg with
   | 0,hg=>
    simp [firstM] at hg
    subst hg
    have:=World.cell?_alloc_new (w.alloc (.cells (mnCs firstM (.slice (some ⟨w.heap.size+1,0,none⟩) 1 1)) 34)) (sgCs ⟨1,1,0,0⟩) 63 j
    rw [show (w.alloc (.cells (mnCs firstM (.slice (some ⟨w.heap.size+1,0,none⟩) 1 1)) 34)).heap.size=w.heap.size+1 by simp] at this
    rw [Nat.zero_mul,Nat.add_zero,Nat.zero_add,this]
    simpa using hj⟩⟩)
 go_enter Tryz.func29,Tryz.ntmps29
 go_wp2
 exact bodyPost_ret (v:=mnV firstM (.slice (some ⟨w.heap.size+1,0,none⟩) 1 1)) (results_mn1 rfl _ _ w.heap.size firstM (.slice (some ⟨w.heap.size+1,0,none⟩) 1 1) rfl HM.out) rfl ⟨_,rfl,HS.out,rfl,HB.out⟩
theorem manSize_any (m:Man) (sv:Value) (w:World) (hr:SgRow w sv m.segs) (hn:NibTab w):Calls Tryz.prog 32 #[mnV m sv] w fun e w'=>e= .returned (.int .i64 ((encMan m).1.length:Int))∧Below w.heap.size w w':=by
 have HB0:=Lib.hid (below_alloc w (.cells (mnCs m sv) 34))
 have HE:=Lib.hid (manEncode_any m sv _ (hr.below HB0.out) (hn.below HB0.out))
 have HM:=Lib.hid (mnBlk_alloc w m sv)
 simp only [mnCs] at HM HE
 clear hr hn
 obtain⟨en,hen⟩: ∃ y,y=encMan m:=⟨_,rfl⟩
 rw [←hen] at HE
 rw [←hen]
 clear hen
 go_enter Tryz.func32,Tryz.ntmps32
 go_wp2_with (with_reducible refine wpList_load_mn rfl (.tmp 1) rfl w.heap.size m sv rfl HM.out ?_)
 refine HE.out.mono ?_
 rintro e w1 ⟨v1,rfl,ho1,hb1⟩
 obtain⟨o1,cap1,rfl,_,_⟩:=own_shape ho1
 have HB:=Lib.hid (Below.next HB0.out hb1)
 clear ho1 hb1 HE HM
 go_wp2
 go_ret
 exact⟨rfl,HB.out⟩
theorem list_empty (w:World) (f m:Nat) (d:Disk) (h:FsAt w f m d []) (hdn:d.down=false):Calls Tryz.prog 33 #[.pointer (some ⟨f,0,none⟩)] w fun e w'=>(∃ oa cap,e= .returned (.slice oa 0 cap))∧Below w.heap.size w w':=by
 have HN:=Lib.hid (fsNames_any w f m d [] h (by decide))
 have c6:w.cell? ⟨f,6,none⟩=some (.bool false):=by rw [h.hd.c6];show some (Value.bool d.down)=_;rw [hdn]
 clear h hdn
 go_enter Tryz.func33,Tryz.ntmps33
 go_wp2_with fail
 refine HN.out.mono ?_
 rintro e w1 ⟨v1,rfl,hrow,hb1⟩
 obtain⟨oa,cap,rfl,_,_⟩:=own_shape hrow
 have HB:=Lib.hid hb1
 clear hb1 hrow HN
 go_wp2
 go_ret
 exact⟨⟨oa,cap,rfl⟩,HB.out⟩
set_option maxRecDepth 100000 in
theorem strays_empty (w:World) (f m:Nat) (d:Disk) (h:FsAt w f m d []) (hdn:d.down=false) (mn:Man) (sv:Value):Calls Tryz.prog 23 #[.pointer (some ⟨f,0,none⟩),.bool false,mnV mn sv] w fun e w'=>e= .returned (.slice none 0 0)∧Below w.heap.size w w':=by
 have HB0:=Lib.hid (Below.next (below_alloc w (.cells (mnCs mn sv) 34)) (below_alloc _ (.map #[] 0)))
 have hmk: ∀ W:World,(Instr.makeMap 92 none).run Tryz.prog W= .ok (.map (some W.heap.size)) (W.alloc (.map #[] 0)):=fun _=>rfl
 have HL:=Lib.hid (list_empty _ f m d (h.below HB0.out) hdn)
 clear h hdn
 go_enter Tryz.func23,Tryz.ntmps23
 go_wp2_with fail
 refine HL.out.mono ?_
 rintro e w1 ⟨⟨oa,cap,rfl⟩,hb1⟩
 have HB:=Lib.hid (Below.next HB0.out hb1)
 clear hb1 HL HB0
 go_wp2
 refine wp_loop_rounds 1 ?_
 rw [rounds_succ]
 go_wp2
 go_ret
 exact⟨rfl,HB.out⟩
set_option maxRecDepth 100000 in
theorem load_empty (w:World) (f m:Nat) (d:Disk) (h:FsAt w f m d []) (hdn:d.down=false):Calls Tryz.prog 18 #[.pointer (some ⟨f,0,none⟩)] w fun e w'=>e= .returned (.tuple #[mnV zeroM (.slice none 0 0),.bool false,.int .i64 0])∧Below w.heap.size w w':=by
 have HB0:=Lib.hid (below_alloc w (.cells (mnCs zeroM (.slice none 0 0)) 34))
 have HM:=Lib.hid (mnBlk_alloc w zeroM (.slice none 0 0))
 have HS:=Lib.hid (size_any _ f m d [] (h.below HB0.out) manN)
 have he:openE d manN=51:=by
  have hf:d.files=[]:=h.fil.symm
  unfold openE
  rw [hdn,hf]
  decide
 have hE1:doD d (opSize manN)=(d,[],0,51):=by rw [doD_size,if_pos (by rw [he];decide),he]
 rw [hE1] at HS
 simp only [mnCs,zeroM] at HM HB0 HS
 clear h hdn he hE1
 go_enter Tryz.func18,Tryz.ntmps18
 go_wp2_with fail
 refine HS.out.mono ?_
 rintro e w1 ⟨rfl,rfl⟩
 go_wp2_with (with_reducible refine wpList_store_mn rfl (.tmp 2) (.tmp 17) rfl w.heap.size ⟨0,0,0,0,0,[]⟩ zeroM (.slice none 0 0) (.slice none 0 0) rfl rfl HM.out rfl ?_)
 intro w2 hw2
 have HM2:=Lib.hid (show MnBlk w2 w.heap.size zeroM (.slice none 0 0) by rw [hw2.out];exact HM.out.row)
 have HB2:=Lib.hid (show Below w.heap.size w w2 by rw [hw2.out];exact below_row HB0.out (Nat.le_refl _) _)
 clear hw2 HM HB0
 go_wp2
 exact bodyPost_ret (v:= .tuple #[mnV zeroM (.slice none 0 0),.bool false,.int .i64 0]) (results_mn3 rfl _ _ w.heap.size zeroM (.slice none 0 0) _ _ rfl rfl rfl HM2.out) rfl ⟨rfl,HB2.out⟩
end Go.Proofs.YtcglcphhfmkccaaGreatDoor
namespace Go.Proofs.YtcglcphhfmkccaaGreatDoor
theorem new_store (n t mm h b:List UInt8) (hn:rightName n=true) (ht:rightName t=true) (hm:rightName mm=true) (h2:(n==t)=false) (h4:(n==mm)=false)
  (b1:bytesBefore t n=true) (b2:bytesBefore mm n=true) (hl:h.length=22) (bl:b.length=29):
  (runD (newD 51) [opCreate n,opAppend n h,opSync n,opCreate t,opAppend t b,opSync t,opRename t mm]).2=0∧usedF (runD (newD 51) [opCreate n,opAppend n h,opSync n,opCreate t,opAppend t b,opSync t,opRename t mm]).1.files=51:=by
 have s1:doD (newD 51) (opCreate n)=(⟨[⟨n,[],0⟩],51,0,false,1,0⟩,[],0,0):=by
  simp [doD,barD,opCreate,newD,clampRoom,hn,atF,chgD,putF]
 have s2:doD ⟨[⟨n,[],0⟩],51,0,false,1,0⟩ (opAppend n h)=(⟨[⟨n,h,0⟩],51,0,false,2,0⟩,[],0,0):=by
  simp [doD,barD,opAppend,hn,atF,chgD,chgF,putF,takeF,usedF,hl]
 have s3:doD ⟨[⟨n,h,0⟩],51,0,false,2,0⟩ (opSync n)=(⟨[⟨n,h,22⟩],51,0,false,3,0⟩,[],0,0):=by
  simp [doD,barD,opSync,hn,atF,chgD,chgF,putF,takeF,hl]
 have s4:doD ⟨[⟨n,h,22⟩],51,0,false,3,0⟩ (opCreate t)=(⟨[⟨t,[],0⟩,⟨n,h,22⟩],51,0,false,4,0⟩,[],0,0):=by
  simp [doD,barD,opCreate,ht,atF,chgD,putF,h2,b1]
 have s5:doD ⟨[⟨t,[],0⟩,⟨n,h,22⟩],51,0,false,4,0⟩ (opAppend t b)=(⟨[⟨t,b,0⟩,⟨n,h,22⟩],51,0,false,5,0⟩,[],0,0):=by
  simp [doD,barD,opAppend,ht,atF,chgD,chgF,putF,takeF,usedF,h2,b1,hl,bl]
 have s6:doD ⟨[⟨t,b,0⟩,⟨n,h,22⟩],51,0,false,5,0⟩ (opSync t)=(⟨[⟨t,b,29⟩,⟨n,h,22⟩],51,0,false,6,0⟩,[],0,0):=by
  simp [doD,barD,opSync,ht,atF,chgD,chgF,putF,takeF,h2,b1,bl]
 have s7:doD ⟨[⟨t,b,29⟩,⟨n,h,22⟩],51,0,false,6,0⟩ (opRename t mm)=(⟨[⟨mm,b,29⟩,⟨n,h,22⟩],51,0,false,7,0⟩,[],0,0):=by
  simp [doD,barD,opRename,ht,hm,atF,chgD,chgF,putF,takeF,h2,h4,b2]
 have e:runD (newD 51) [opCreate n,opAppend n h,opSync n,opCreate t,opAppend t b,opSync t,opRename t mm]=(⟨[⟨mm,b,29⟩,⟨n,h,22⟩],51,0,false,7,0⟩,0):=by
  simp only [runD,s1,s2,s3,s4,s5,s6,s7,if_true]
 rw [e]
 exact⟨rfl,by simp [usedF,hl,bl]⟩
theorem head_store:(applyD (newD 51) planF).2=0∧usedF (applyD (newD 51) planF).1.files=51:=by
 have e:applyD (newD 51) planF=runD (newD 51) [opCreate (segName 1),opAppend (segName 1) (hdrEnc 1 1).1,opSync (segName 1),opCreate tmpN,opAppend tmpN (encMan firstM).1,opSync tmpN,opRename tmpN manN]:=by
  unfold applyD
  rw [show planF.man=firstM from rfl,firstM_ok]
  rfl
 have hs:segName 1=[115,101,103,45,48,48,48,48,48,49]:=by decide
 rw [e,hs]
 exact new_store _ _ _ _ _ (by decide) (by decide) (by decide) (by decide) (by decide) (by decide) (by decide) first_len.1 first_len.2
end Go.Proofs.YtcglcphhfmkccaaGreatDoor
namespace Go.Proofs.YtcglcphhfmkccaaGreatDoor
open Go.RowKit
def FreshPost (w:World) (d:Disk) (e:Ending) (w':World):Prop:=
 (51≤d.room→ ∃ sv,e= .returned (.tuple #[plV planF sv (.slice none 0 0),.int .i64 0])∧SgIn (fun k=>w.heap.size≤k) w' sv firstM.segs∧sv.oneCell'=true)∧
 (d.room<51→e= .returned (.tuple #[plV planZ (.slice none 0 0) (.slice none 0 0),.int .i64 54]))∧Below w.heap.size w w'
set_option maxRecDepth 100000 in
set_option maxHeartbeats 4000000 in
theorem fresh_any (w:World) (f m:Nat) (d:Disk) (h:FsAt w f m d []) (hdn:d.down=false) (hn:NibTab w):
  Calls Tryz.prog 19 #[.pointer (some ⟨f,0,none⟩)] w (FreshPost w d):=by
 have HH:=Lib.hid h
 have HDN:=Lib.hid hdn
 have HNB:=Lib.hid hn
 have HUS:=Lib.hid (show d.room - (usedF d.files:Int)=d.room by rw [←h.fil];simp [usedF,fils])
 have hrm:=h.ok.room
 have HB0:=Lib.hid (below_alloc w (.cells #[.bool false,.int .i64 0,.int .i64 0,.int .i64 0,.int .i64 0,.int .i64 0,.slice none 0 0,.slice none 0 0,.int .i64 0,.int .i64 0] 37))
 have HR0:=Lib.hid (show PlBlk (w.alloc (.cells #[.bool false,.int .i64 0,.int .i64 0,.int .i64 0,.int .i64 0,.int .i64 0,.slice none 0 0,.slice none 0 0,.int .i64 0,.int .i64 0] 37)) w.heap.size planZ (.slice none 0 0) (.slice none 0 0) from plBlk_alloc w planZ (.slice none 0 0) (.slice none 0 0))
 clear h hdn hn
 go_enter Tryz.func19,Tryz.ntmps19
 go_wp2_with fail
 refine(first_any _).mono ?_
 rintro e w1 ⟨sv,rfl,hsg,hone,hb1⟩
 have HB1:=Lib.hid (Below.next HB0.out hb1)
 have HR1:=Lib.hid (HR0.out.below hb1)
 have HSG:=Lib.hid (hsg.mono (A':=fun k=>w.heap.size+1≤k) (fun k hk=>by simp at hk;omega))
 obtain⟨osg,scap,rfl,_,_,_⟩:=hsg
 have HMz:=Lib.hid (mnBlk_alloc w1 zeroM (.slice none 0 0))
 simp only [mnCs,zeroM] at HMz
 clear hb1 HB0 HR0 hone
 go_wp2_with (with_reducible refine wpList_store_mn rfl (.tmp 4) (.tmp 13) rfl w1.heap.size ⟨0,0,0,0,0,[]⟩ firstM (.slice none 0 0) (.slice osg firstM.segs.length scap) rfl rfl HMz.out rfl ?_)
 intro w2 hw2
 have hba:=below_alloc w1 (.cells #[.int .i64 0,.int .i64 0,.int .i64 0,.int .i64 0,.int .i64 0,.slice none 0 0] 34)
 have HM2:=Lib.hid (show MnBlk w2 w1.heap.size firstM (.slice osg firstM.segs.length scap) by rw [hw2.out];exact HMz.out.row)
 have HBW:=Lib.hid (show Below w1.heap.size w1 w2 by rw [hw2.out];exact below_row hba (Nat.le_refl _) _)
 have HB2:=Lib.hid (Below.next HB1.out HBW.out)
 have HR2:=Lib.hid (HR1.out.below HBW.out)
 have HSG2:=Lib.hid (HSG.out.below HBW.out)
 clear hw2 hba HMz HB1 HR1 HSG HBW
 generalize w1.heap.size=b4 at*
 have HHD:=Lib.hid (header_any 1 1 w2 (HNB.out.below HB2.out))
 obtain⟨er,her⟩: ∃ y,y=hdrEnc 1 1:=⟨_,rfl⟩
 have HL:=Lib.hid (show er.1.length=22 by rw [her];exact first_len.1)
 rw [←her] at HHD
 clear her
 go_wp2_with fail
 refine HHD.out.mono ?_
 rintro e w3 ⟨v3,rfl,ho3,hb3⟩
 obtain⟨o3,cap3,rfl,_,_⟩:=own_shape ho3
 rw [HL.out]
 have HM3:=Lib.hid (HM2.out.below hb3)
 have HB3:=Lib.hid (Below.next HB2.out hb3)
 have HR3:=Lib.hid (HR2.out.below hb3)
 have HSG3:=Lib.hid (HSG2.out.below hb3)
 have HF3:=Lib.hid (HH.out.below HB3.out)
 have HNB3:=Lib.hid (HNB.out.below HB3.out)
 clear ho3 hb3 HHD HM2 HB2 HR2 HSG2 HL
 go_wp2_with fail
 refine wp_region_held_drew (S:=fun w'=>Below w3.heap.size w3 w') (by kernel_rfl) (show Below w3.heap.size w3 w3.drew from below_drewN' w3 1) (fun hHeld=> ?_)
 refine tkl 0 b4 0 [.int .i64 1,.int .i64 2,.int .i64 0,.int .i64 0,.int .i64 0,.slice osg firstM.segs.length scap] rfl rfl (fun w' h j v hv=>by rw [Nat.zero_add,(HM3.out.below h).cell];simpa [mnCs,firstM] using hv) Tryz.underlying34 rfl (by rw [mnInfo];rfl) ?_
 simp only [pA,pB,pC,pD]
 refine tq 1 rfl ?_
 refine tq 2 rfl ?_
 refine tq 3 rfl ?_
 refine tkl 4 b4 0 [.int .i64 1,.int .i64 2,.int .i64 0,.int .i64 0,.int .i64 0,.slice osg firstM.segs.length scap] rfl rfl (fun w' h j v hv=>by rw [Nat.zero_add,(HM3.out.below h).cell];simpa [mnCs,firstM] using hv) Tryz.underlying34 rfl (by rw [mnInfo];rfl) ?_
 simp only [pA,pB,pC,pD]
 generalize World.drew _=Wd at*
 refine wpAnyH_ready (rs:=[5,7]) (by kernel_rfl) (by simp) ?_
 refine AllReadyH.cons rfl (fun K hK=> ?_) (AllReadyH.cons rfl (fun K hK=> ?_) AllReadyH.nil)
 ·go_simp
  go_at_call 23
  refine(strays_empty _ f m d (HF3.out.below hHeld) HDN.out firstM (.slice osg firstM.segs.length scap)).mono ?_
  rintro e w4 ⟨rfl,hb4⟩
  have HB4:=Lib.hid (Below.next hHeld hb4)
  clear hb4 hHeld
  go_wp2_with fail
  refine hK.out _ _ HB4.out (fun hHeld=> ?_)
  clear hK K
  refine tq 6 rfl ?_
  have HB5:=Lib.hid (Below.next HB4.out (below_alloc w4 (.cells #[.bool false,.int .i64 0,.int .i64 0,.int .i64 0,.int .i64 0,.int .i64 0,.slice none 0 0,.slice none 0 0,.int .i64 0,.int .i64 0] 37)))
  have HGZ:=Lib.hid (show PlBlk (w4.alloc (.cells #[.bool false,.int .i64 0,.int .i64 0,.int .i64 0,.int .i64 0,.int .i64 0,.slice none 0 0,.slice none 0 0,.int .i64 0,.int .i64 0] 37)) w4.heap.size planZ (.slice none 0 0) (.slice none 0 0) from plBlk_alloc w4 planZ (.slice none 0 0) (.slice none 0 0))
  have hgx:w3.heap.size≤w4.heap.size:=HB4.out.size
  refine wpAnyH_ready (rs:=[7]) (by kernel_rfl) (by simp) ?_
  refine AllReadyH.cons rfl (fun K hK=> ?_) AllReadyH.nil
  go_simp
  refine hK.out _ _ HB5.out (fun hHeld=> ?_)
  clear hK K HB4 hHeld
  generalize w4.heap.size=gx at*
  generalize w4.alloc (.cells #[.bool false,.int .i64 0,.int .i64 0,.int .i64 0,.int .i64 0,.int .i64 0,.slice none 0 0,.slice none 0 0,.int .i64 0,.int .i64 0] 37)=W5 at*
  refine wpAnyH_ready (rs:=[8]) (by kernel_rfl) (by simp) ?_
  refine AllReadyH.cons rfl (fun K hK=> ?_) AllReadyH.nil
  rw [if_pos (by kernel_rfl)]
  refine wp_store_row 37 (.tmp 7) (.tmp 24) rfl gx (plCs planF (.slice osg firstM.segs.length scap) (.slice none 0 0)) rfl rfl 37 (plCs planZ (.slice none 0 0) (.slice none 0 0)) HGZ.out plInfo rfl (plCs_all _ _ _ rfl rfl) ?_
  have HG6:=Lib.hid (show PlBlk (W5.setRow gx (plCs planF (.slice osg firstM.segs.length scap) (.slice none 0 0))) gx planF (.slice osg firstM.segs.length scap) (.slice none 0 0) from HGZ.out.row)
  have HB6:=Lib.hid (show Below w3.heap.size w3 (W5.setRow gx (plCs planF (.slice osg firstM.segs.length scap) (.slice none 0 0))) from below_row HB5.out hgx _)
  refine hK.out _ _ HB6.out (fun hHeld=> ?_)
  clear hK K hHeld HGZ HB5
  generalize W5.setRow gx (plCs planF (.slice osg firstM.segs.length scap) (.slice none 0 0))=W6 at*
  refine wpAnyH_done (by kernel_rfl) ?_ _
  have HF6:=Lib.hid (HF3.out.below HB6.out)
  have HFR:=Lib.hid (free_any W6 f m d [] HF6.out)
  rw [HUS.out] at HFR
  go_wp2_with fail
  refine HFR.out.mono ?_
  rintro e w7 ⟨rfl,hb7⟩
  have HB7:=Lib.hid (Below.next HB6.out hb7)
  have HG7:=Lib.hid (HG6.out.below hb7)
  have r7:=HG7.out.c7
  clear hb7 HFR HF6 HG6 HB6
  go_wp2
  refine wp_loop_rounds 1 ?_
  rw [rounds_succ]
  go_wp2_with fail
  refine wp_region_held_drew (S:=fun w'=>Below w7.heap.size w7 w') (by kernel_rfl) (show Below w7.heap.size w7 w7.drew from below_drewN' w7 1) (fun hHeld=> ?_)
  clear r7
  refine tq 0 rfl ?_
  refine tq 1 rfl ?_
  refine tq 2 rfl ?_
  refine tkl 3 b4 0 [.int .i64 1,.int .i64 2,.int .i64 0,.int .i64 0,.int .i64 0,.slice osg firstM.segs.length scap] rfl rfl (fun w' h j v hv=>by rw [Nat.zero_add,(HM3.out.below (Below.next HB7.out h)).cell];simpa [mnCs,firstM] using hv) Tryz.underlying34 rfl (by rw [mnInfo];rfl) ?_
  simp only [pA,pB,pC,pD]
  generalize World.drew _=We at*
  refine wpAnyH_ready (rs:=[4]) (by kernel_rfl) (by simp) ?_
  refine AllReadyH.cons rfl (fun K hK=> ?_) AllReadyH.nil
  go_simp
  go_at_call 32
  refine(manSize_any firstM (.slice osg firstM.segs.length scap) We (HSG3.out.row.below (Below.next HB7.out hHeld)) (HNB3.out.below (Below.next HB7.out hHeld))).mono ?_
  rw [first_len.2]
  rintro e w8 ⟨rfl,hb8⟩
  have HB8:=Lib.hid (Below.next hHeld hb8)
  clear hb8 hHeld
  go_wp2_with fail
  refine hK.out _ _ HB8.out (fun hHeld=> ?_)
  clear hK K
  have hw51:IntKind.i64.wrap 51=51:=by decide
  have hw0:IntKind.i64.wrap 0=0:=by decide
  have hw2:IntKind.i64.wrap 2=2:=by decide
  rcases hr:decide (d.room<51) with _ | _
  ·have hr2: ¬ d.room<51:=by simpa using hr
   have HR51:=Lib.hid hr2
   clear hr2
   refine tq 5 rfl ?_
   refine tq 6 rfl ?_
   refine tq 7 rfl ?_
   have FX1:=Lib.hid (fun(wF:World) (hSw:(fun w'=>Below w7.heap.size w7 w') wF)=>((HG7.out.below hSw).c7))
   refine tf FX1 8 rfl ?_
   refine tf FX1 11 rfl ?_
   refine tf FX1 12 rfl ?_
   refine tf FX1 13 rfl ?_
   clear FX1
   refine wpAnyH_ready (rs:=[9]) (by kernel_rfl) (by simp) ?_
   refine AllReadyH.cons rfl (fun K hK=> ?_) AllReadyH.nil
   go_simp
   go_at_call 33
   refine(list_empty w8 f m d (HF3.out.below (Below.next HB7.out HB8.out)) HDN.out).mono ?_
   rintro e w9 ⟨⟨ol,lcap,rfl⟩,hb9⟩
   have HB9:=Lib.hid (Below.next HB8.out hb9)
   clear hb9 hHeld
   go_wp2_with fail
   refine hK.out _ _ HB9.out (fun hHeld=> ?_)
   clear hK K
   refine tq 10 rfl ?_
   refine tq 14 rfl ?_
   refine tq 15 rfl ?_
   refine tq 16 rfl ?_
   refine tq 17 rfl ?_
   refine wpAnyH_done (by kernel_rfl) ?_ _
   have HGE:=Lib.hid (HG7.out.below HB9.out)
   have HRE:=Lib.hid (HR3.out.below (Below.next HB7.out HB9.out))
   have HBE:=Lib.hid (Below.next HB3.out (Below.next HB7.out HB9.out))
   have HSE:=Lib.hid (HSG3.out.below (Below.next HB7.out HB9.out))
   clear hHeld
   go_wp2_with (first | (with_reducible refine wpList_load_pl rfl (.tmp 7) rfl gx planF (.slice osg firstM.segs.length scap) (.slice none 0 0) rfl HGE.out ?_) | (with_reducible refine wpList_store_pl rfl (.tmp 2) (.tmp 63) rfl w.heap.size planZ planF (.slice none 0 0) (.slice none 0 0) (.slice osg firstM.segs.length scap) (.slice none 0 0) rfl rfl HRE.out rfl rfl ?_))
   intro w10 hw10
   have HP10:=Lib.hid (show PlBlk w10 w.heap.size planF (.slice osg firstM.segs.length scap) (.slice none 0 0) by rw [hw10.out];exact HRE.out.row)
   have HB10:=Lib.hid (show Below w.heap.size w w10 by rw [hw10.out];exact below_row HBE.out (Nat.le_refl _) _)
   have HT10:=Lib.hid (show Turned (fun k=>k=w.heap.size) w9 w10 by rw [hw10.out];exact⟨rfl,rfl,rfl,by simp,fun k _ hn=>setRow_other _ _ _ _ hn⟩)
   have HS10:=Lib.hid (show SgIn (fun k=>w.heap.size≤k) w10 (.slice osg firstM.segs.length scap) firstM.segs from(HSE.out.turned HT10.out (fun k hk=>by omega)).mono (fun k hk=>by omega))
   clear hw10
   go_wp2
   exact bodyPost_ret (v:= .tuple #[plV planF (.slice osg firstM.segs.length scap) (.slice none 0 0),.int .i64 0]) (results_pl2 rfl _ _ w.heap.size planF (.slice osg firstM.segs.length scap) (.slice none 0 0) _ rfl rfl HP10.out) rfl ⟨fun _=>⟨_,rfl,HS10.out,rfl⟩,fun hlt=>absurd hlt (by have:=HR51.out;omega),HB10.out⟩
  ·have hr2:d.room<51:=by simpa using hr
   have HR51:=Lib.hid hr2
   clear hr2
   refine tq 5 rfl ?_
   refine tq 6 rfl ?_
   refine tq 7 rfl ?_
   refine tkn 8 rfl ?_
   simp only [pA,pB,pC,pD]
   refine tkn 9 rfl ?_
   simp only [pA,pB,pC,pD]
   refine tkn 10 rfl ?_
   simp only [pA,pB,pC,pD]
   refine tkn 11 rfl ?_
   simp only [pA,pB,pC,pD]
   refine tkn 12 rfl ?_
   simp only [pA,pB,pC,pD]
   refine tkn 13 rfl ?_
   simp only [pA,pB,pC,pD]
   refine tkn 14 rfl ?_
   simp only [pA,pB,pC,pD]
   refine tkn 15 rfl ?_
   simp only [pA,pB,pC,pD]
   refine tkn 16 rfl ?_
   simp only [pA,pB,pC,pD]
   refine tq 17 rfl ?_
   refine wpAnyH_done (by kernel_rfl) ?_ _
   have HRE:=Lib.hid (HR3.out.below (Below.next HB7.out HB8.out))
   have HBE:=Lib.hid (Below.next HB3.out (Below.next HB7.out HB8.out))
   clear hHeld
   go_wp2_with (with_reducible refine wpList_store_pl rfl (.tmp 2) (.tmp 62) rfl w.heap.size planZ planZ (.slice none 0 0) (.slice none 0 0) (.slice none 0 0) (.slice none 0 0) rfl rfl HRE.out rfl rfl ?_)
   intro w10 hw10
   have HP10:=Lib.hid (show PlBlk w10 w.heap.size planZ (.slice none 0 0) (.slice none 0 0) by rw [hw10.out];exact HRE.out.row)
   have HB10:=Lib.hid (show Below w.heap.size w w10 by rw [hw10.out];exact below_row HBE.out (Nat.le_refl _) _)
   clear hw10
   go_wp2
   exact bodyPost_ret (v:= .tuple #[plV planZ (.slice none 0 0) (.slice none 0 0),.int .i64 54]) (results_pl2 rfl _ _ w.heap.size planZ (.slice none 0 0) (.slice none 0 0) _ rfl rfl HP10.out) rfl ⟨fun hge=>absurd HR51.out (by omega),fun _=>rfl,HB10.out⟩
 ·have HBz:=Lib.hid (Below.next hHeld (below_alloc Wd (.cells #[.bool false,.int .i64 0,.int .i64 0,.int .i64 0,.int .i64 0,.int .i64 0,.slice none 0 0,.slice none 0 0,.int .i64 0,.int .i64 0] 37)))
  have HGZ:=Lib.hid (show PlBlk (Wd.alloc (.cells #[.bool false,.int .i64 0,.int .i64 0,.int .i64 0,.int .i64 0,.int .i64 0,.slice none 0 0,.slice none 0 0,.int .i64 0,.int .i64 0] 37)) Wd.heap.size planZ (.slice none 0 0) (.slice none 0 0) from plBlk_alloc Wd planZ (.slice none 0 0) (.slice none 0 0))
  have hgx:w3.heap.size≤Wd.heap.size:=hHeld.size
  go_simp
  refine hK.out _ _ HBz.out (fun hHeld=> ?_)
  clear hK K
  generalize Wd.heap.size=gx at*
  generalize Wd.alloc (.cells #[.bool false,.int .i64 0,.int .i64 0,.int .i64 0,.int .i64 0,.int .i64 0,.slice none 0 0,.slice none 0 0,.int .i64 0,.int .i64 0] 37)=Wz at*
  refine wpAnyH_ready (rs:=[5]) (by kernel_rfl) (by simp) ?_
  refine AllReadyH.cons rfl (fun K hK=> ?_) AllReadyH.nil
  go_simp
  go_at_call 23
  refine(strays_empty _ f m d (HF3.out.below hHeld) HDN.out firstM (.slice osg firstM.segs.length scap)).mono ?_
  rintro e W5 ⟨rfl,hb5⟩
  have HB5:=Lib.hid (Below.next hHeld hb5)
  have HGZ:=Lib.hid (HGZ.out.below hb5)
  clear hb5 hHeld HBz
  go_wp2_with fail
  refine hK.out _ _ HB5.out (fun hHeld=> ?_)
  clear hK K
  refine tq 6 rfl ?_
  refine wpAnyH_ready (rs:=[8]) (by kernel_rfl) (by simp) ?_
  refine AllReadyH.cons rfl (fun K hK=> ?_) AllReadyH.nil
  rw [if_pos (by kernel_rfl)]
  refine wp_store_row 37 (.tmp 7) (.tmp 24) rfl gx (plCs planF (.slice osg firstM.segs.length scap) (.slice none 0 0)) rfl rfl 37 (plCs planZ (.slice none 0 0) (.slice none 0 0)) HGZ.out plInfo rfl (plCs_all _ _ _ rfl rfl) ?_
  have HG6:=Lib.hid (show PlBlk (W5.setRow gx (plCs planF (.slice osg firstM.segs.length scap) (.slice none 0 0))) gx planF (.slice osg firstM.segs.length scap) (.slice none 0 0) from HGZ.out.row)
  have HB6:=Lib.hid (show Below w3.heap.size w3 (W5.setRow gx (plCs planF (.slice osg firstM.segs.length scap) (.slice none 0 0))) from below_row HB5.out hgx _)
  refine hK.out _ _ HB6.out (fun hHeld=> ?_)
  clear hK K hHeld HGZ HB5
  generalize W5.setRow gx (plCs planF (.slice osg firstM.segs.length scap) (.slice none 0 0))=W6 at*
  refine wpAnyH_done (by kernel_rfl) ?_ _
  have HF6:=Lib.hid (HF3.out.below HB6.out)
  have HFR:=Lib.hid (free_any W6 f m d [] HF6.out)
  rw [HUS.out] at HFR
  go_wp2_with fail
  refine HFR.out.mono ?_
  rintro e w7 ⟨rfl,hb7⟩
  have HB7:=Lib.hid (Below.next HB6.out hb7)
  have HG7:=Lib.hid (HG6.out.below hb7)
  have r7:=HG7.out.c7
  clear hb7 HFR HF6 HG6 HB6
  go_wp2
  refine wp_loop_rounds 1 ?_
  rw [rounds_succ]
  go_wp2_with fail
  refine wp_region_held_drew (S:=fun w'=>Below w7.heap.size w7 w') (by kernel_rfl) (show Below w7.heap.size w7 w7.drew from below_drewN' w7 1) (fun hHeld=> ?_)
  clear r7
  refine tq 0 rfl ?_
  refine tq 1 rfl ?_
  refine tq 2 rfl ?_
  refine tkl 3 b4 0 [.int .i64 1,.int .i64 2,.int .i64 0,.int .i64 0,.int .i64 0,.slice osg firstM.segs.length scap] rfl rfl (fun w' h j v hv=>by rw [Nat.zero_add,(HM3.out.below (Below.next HB7.out h)).cell];simpa [mnCs,firstM] using hv) Tryz.underlying34 rfl (by rw [mnInfo];rfl) ?_
  simp only [pA,pB,pC,pD]
  generalize World.drew _=We at*
  refine wpAnyH_ready (rs:=[4]) (by kernel_rfl) (by simp) ?_
  refine AllReadyH.cons rfl (fun K hK=> ?_) AllReadyH.nil
  go_simp
  go_at_call 32
  refine(manSize_any firstM (.slice osg firstM.segs.length scap) We (HSG3.out.row.below (Below.next HB7.out hHeld)) (HNB3.out.below (Below.next HB7.out hHeld))).mono ?_
  rw [first_len.2]
  rintro e w8 ⟨rfl,hb8⟩
  have HB8:=Lib.hid (Below.next hHeld hb8)
  clear hb8 hHeld
  go_wp2_with fail
  refine hK.out _ _ HB8.out (fun hHeld=> ?_)
  clear hK K
  have hw51:IntKind.i64.wrap 51=51:=by decide
  have hw0:IntKind.i64.wrap 0=0:=by decide
  have hw2:IntKind.i64.wrap 2=2:=by decide
  rcases hr:decide (d.room<51) with _ | _
  ·have hr2: ¬ d.room<51:=by simpa using hr
   have HR51:=Lib.hid hr2
   clear hr2
   refine tq 5 rfl ?_
   refine tq 6 rfl ?_
   refine tq 7 rfl ?_
   have FX2:=Lib.hid (fun(wF:World) (hSw:(fun w'=>Below w7.heap.size w7 w') wF)=>((HG7.out.below hSw).c7))
   refine tf FX2 8 rfl ?_
   refine tf FX2 11 rfl ?_
   refine tf FX2 12 rfl ?_
   refine tf FX2 13 rfl ?_
   clear FX2
   refine wpAnyH_ready (rs:=[9]) (by kernel_rfl) (by simp) ?_
   refine AllReadyH.cons rfl (fun K hK=> ?_) AllReadyH.nil
   go_simp
   go_at_call 33
   refine(list_empty w8 f m d (HF3.out.below (Below.next HB7.out HB8.out)) HDN.out).mono ?_
   rintro e w9 ⟨⟨ol,lcap,rfl⟩,hb9⟩
   have HB9:=Lib.hid (Below.next HB8.out hb9)
   clear hb9 hHeld
   go_wp2_with fail
   refine hK.out _ _ HB9.out (fun hHeld=> ?_)
   clear hK K
   refine tq 10 rfl ?_
   refine tq 14 rfl ?_
   refine tq 15 rfl ?_
   refine tq 16 rfl ?_
   refine tq 17 rfl ?_
   refine wpAnyH_done (by kernel_rfl) ?_ _
   have HGE:=Lib.hid (HG7.out.below HB9.out)
   have HRE:=Lib.hid (HR3.out.below (Below.next HB7.out HB9.out))
   have HBE:=Lib.hid (Below.next HB3.out (Below.next HB7.out HB9.out))
   have HSE:=Lib.hid (HSG3.out.below (Below.next HB7.out HB9.out))
   clear hHeld
   go_wp2_with (first | (with_reducible refine wpList_load_pl rfl (.tmp 7) rfl gx planF (.slice osg firstM.segs.length scap) (.slice none 0 0) rfl HGE.out ?_) | (with_reducible refine wpList_store_pl rfl (.tmp 2) (.tmp 63) rfl w.heap.size planZ planF (.slice none 0 0) (.slice none 0 0) (.slice osg firstM.segs.length scap) (.slice none 0 0) rfl rfl HRE.out rfl rfl ?_))
   intro w10 hw10
   have HP10:=Lib.hid (show PlBlk w10 w.heap.size planF (.slice osg firstM.segs.length scap) (.slice none 0 0) by rw [hw10.out];exact HRE.out.row)
   have HB10:=Lib.hid (show Below w.heap.size w w10 by rw [hw10.out];exact below_row HBE.out (Nat.le_refl _) _)
   have HT10:=Lib.hid (show Turned (fun k=>k=w.heap.size) w9 w10 by rw [hw10.out];exact⟨rfl,rfl,rfl,by simp,fun k _ hn=>setRow_other _ _ _ _ hn⟩)
   have HS10:=Lib.hid (show SgIn (fun k=>w.heap.size≤k) w10 (.slice osg firstM.segs.length scap) firstM.segs from(HSE.out.turned HT10.out (fun k hk=>by omega)).mono (fun k hk=>by omega))
   clear hw10
   go_wp2
   exact bodyPost_ret (v:= .tuple #[plV planF (.slice osg firstM.segs.length scap) (.slice none 0 0),.int .i64 0]) (results_pl2 rfl _ _ w.heap.size planF (.slice osg firstM.segs.length scap) (.slice none 0 0) _ rfl rfl HP10.out) rfl ⟨fun _=>⟨_,rfl,HS10.out,rfl⟩,fun hlt=>absurd hlt (by have:=HR51.out;omega),HB10.out⟩
  ·have hr2:d.room<51:=by simpa using hr
   have HR51:=Lib.hid hr2
   clear hr2
   refine tq 5 rfl ?_
   refine tq 6 rfl ?_
   refine tq 7 rfl ?_
   refine tkn 8 rfl ?_
   simp only [pA,pB,pC,pD]
   refine tkn 9 rfl ?_
   simp only [pA,pB,pC,pD]
   refine tkn 10 rfl ?_
   simp only [pA,pB,pC,pD]
   refine tkn 11 rfl ?_
   simp only [pA,pB,pC,pD]
   refine tkn 12 rfl ?_
   simp only [pA,pB,pC,pD]
   refine tkn 13 rfl ?_
   simp only [pA,pB,pC,pD]
   refine tkn 14 rfl ?_
   simp only [pA,pB,pC,pD]
   refine tkn 15 rfl ?_
   simp only [pA,pB,pC,pD]
   refine tkn 16 rfl ?_
   simp only [pA,pB,pC,pD]
   refine tq 17 rfl ?_
   refine wpAnyH_done (by kernel_rfl) ?_ _
   have HRE:=Lib.hid (HR3.out.below (Below.next HB7.out HB8.out))
   have HBE:=Lib.hid (Below.next HB3.out (Below.next HB7.out HB8.out))
   clear hHeld
   go_wp2_with (with_reducible refine wpList_store_pl rfl (.tmp 2) (.tmp 62) rfl w.heap.size planZ planZ (.slice none 0 0) (.slice none 0 0) (.slice none 0 0) (.slice none 0 0) rfl rfl HRE.out rfl rfl ?_)
   intro w10 hw10
   have HP10:=Lib.hid (show PlBlk w10 w.heap.size planZ (.slice none 0 0) (.slice none 0 0) by rw [hw10.out];exact HRE.out.row)
   have HB10:=Lib.hid (show Below w.heap.size w w10 by rw [hw10.out];exact below_row HBE.out (Nat.le_refl _) _)
   clear hw10
   go_wp2
   exact bodyPost_ret (v:= .tuple #[plV planZ (.slice none 0 0) (.slice none 0 0),.int .i64 54]) (results_pl2 rfl _ _ w.heap.size planZ (.slice none 0 0) (.slice none 0 0) _ rfl rfl HP10.out) rfl ⟨fun hge=>absurd HR51.out (by omega),fun _=>rfl,HB10.out⟩
end Go.Proofs.YtcglcphhfmkccaaGreatDoor
namespace Go.Proofs.YtcglcphhfmkccaaGreatDoor
open Go.RowKit
theorem FsAt.turned {S:Nat→Prop} {w w':World} {f m:Nat} {d:Disk} {L:List Slot} (h:FsAt w f m d L) (ht:Turned S w w') (hS: ∀ k,foot f m L k→ ¬ S k):FsAt w' f m d L:=
 ⟨h.hd.kept (ht.block f h.hd.lt (hS f (.inl rfl))),h.body.turned h.hd.lt ht (fun k _ hk=>hS k hk),h.fil,h.ok⟩
set_option maxRecDepth 100000 in
set_option maxHeartbeats 4000000 in
theorem plan_empty (w:World) (f m:Nat) (d:Disk) (h:FsAt w f m d []) (hdn:d.down=false) (hn:NibTab w):
  Calls Tryz.prog 8 #[.pointer (some ⟨f,0,none⟩)] w (FreshPost w d):=by
 have HH:=Lib.hid h
 have HB0:=Lib.hid (below_alloc w (.cells #[.bool false,.int .i64 0,.int .i64 0,.int .i64 0,.int .i64 0,.int .i64 0,.slice none 0 0,.slice none 0 0,.int .i64 0,.int .i64 0] 37))
 have HR0:=Lib.hid (show PlBlk (w.alloc (.cells #[.bool false,.int .i64 0,.int .i64 0,.int .i64 0,.int .i64 0,.int .i64 0,.slice none 0 0,.slice none 0 0,.int .i64 0,.int .i64 0] 37)) w.heap.size planZ (.slice none 0 0) (.slice none 0 0) from plBlk_alloc w planZ (.slice none 0 0) (.slice none 0 0))
 have HLD:=Lib.hid (load_empty _ f m d (h.below HB0.out) hdn)
 have HNB:=Lib.hid hn
 have HDN:=Lib.hid hdn
 clear h hdn hn
 go_enter Tryz.func8,Tryz.ntmps8
 go_wp2_with fail
 refine HLD.out.mono ?_
 rintro e w1 ⟨rfl,hb1⟩
 have HBX:=Lib.hid (fun(W:World) (hb:Below w1.heap.size w1 W)=>show Below w.heap.size w W from Below.next (Below.next HB0.out hb1) hb)
 have HRX:=Lib.hid (HR0.out.below hb1)
 have HMz:=Lib.hid (mnBlk_alloc w1 zeroM (.slice none 0 0))
 simp only [mnCs,zeroM] at HMz
 clear hb1 HB0 HR0 HLD
 go_wp2_with (with_reducible refine wpList_store_mn rfl (.tmp 4) (.tmp 20) rfl w1.heap.size ⟨0,0,0,0,0,[]⟩ zeroM (.slice none 0 0) (.slice none 0 0) rfl rfl HMz.out rfl ?_)
 intro w2 hw2
 have hb2:Below w1.heap.size w1 w2:=by rw [hw2.out];exact below_row (below_alloc w1 _) (Nat.le_refl _) _
 have HB2:=Lib.hid (show Below w.heap.size w w2 from HBX.out _ hb2)
 have HR2:=Lib.hid (HRX.out.below hb2)
 have HFR:=Lib.hid (fresh_any w2 f m d (HH.out.below HB2.out) HDN.out (HNB.out.below HB2.out))
 clear hw2 hb2 HMz HBX HRX
 go_wp2_with fail
 refine HFR.out.mono ?_
 rintro e w3 ⟨hge,hlt,hb3⟩
 have HB3:=Lib.hid (Below.next HB2.out hb3)
 have HR3:=Lib.hid (HR2.out.below hb3)
 have HGE:=Lib.hid hge
 have HLT:=Lib.hid hlt
 have hs2:=HR2.out.lt
 clear hge hlt hb3 HFR HB2
 by_cases hr:d.room<51
 ·obtain rfl:=HLT.out hr
  have HRM:=Lib.hid hr
  clear hr hs2 HLT HGE
  go_wp2_with (with_reducible refine wpList_store_pl rfl (.tmp 2) (.tmp 37) rfl w.heap.size planZ planZ (.slice none 0 0) (.slice none 0 0) (.slice none 0 0) (.slice none 0 0) rfl rfl HR3.out rfl rfl ?_)
  intro w4 hw4
  have HP4:=Lib.hid (show PlBlk w4 w.heap.size planZ (.slice none 0 0) (.slice none 0 0) by rw [hw4.out];exact HR3.out.row)
  have HB4:=Lib.hid (show Below w.heap.size w w4 by rw [hw4.out];exact below_row HB3.out (Nat.le_refl _) _)
  clear hw4
  go_wp2
  exact bodyPost_ret (v:= .tuple #[plV planZ (.slice none 0 0) (.slice none 0 0),.int .i64 54]) (results_pl2 rfl _ _ w.heap.size planZ (.slice none 0 0) (.slice none 0 0) _ rfl rfl HP4.out) rfl ⟨fun hge=>absurd HRM.out (by omega),fun _=>rfl,HB4.out⟩
 ·obtain⟨sv,rfl,hsg,hone⟩:=HGE.out (by omega)
  have HRM:=Lib.hid hr
  have HSG:=Lib.hid (hsg.mono (A':=fun k=>w.heap.size+1≤k) (fun k hk=>by omega))
  have HONE:=Lib.hid hone
  clear hr hsg hone hs2 HLT HGE
  go_wp2_with (with_reducible refine wpList_store_pl rfl (.tmp 2) (.tmp 37) rfl w.heap.size planZ planF (.slice none 0 0) (.slice none 0 0) sv (.slice none 0 0) rfl rfl HR3.out HONE.out rfl ?_)
  intro w4 hw4
  have HP4:=Lib.hid (show PlBlk w4 w.heap.size planF sv (.slice none 0 0) by rw [hw4.out];exact HR3.out.row)
  have HB4:=Lib.hid (show Below w.heap.size w w4 by rw [hw4.out];exact below_row HB3.out (Nat.le_refl _) _)
  have HT4:=Lib.hid (show Turned (fun k=>k=w.heap.size) w3 w4 by rw [hw4.out];exact⟨rfl,rfl,rfl,by simp,fun k _ hn=>setRow_other _ _ _ _ hn⟩)
  have HS4:=Lib.hid ((HSG.out.turned HT4.out (fun k hk=>by omega)).mono (A':=fun k=>w.heap.size≤k) (fun k hk=>by omega))
  clear hw4 HT4 HSG
  go_wp2
  exact bodyPost_ret (v:= .tuple #[plV planF sv (.slice none 0 0),.int .i64 0]) (results_pl2 rfl _ _ w.heap.size planF sv (.slice none 0 0) _ rfl rfl HP4.out) rfl ⟨fun _=>⟨_,rfl,HS4.out,HONE.out⟩,fun hlt=>absurd hlt (by have:=HRM.out;omega),HB4.out⟩
set_option maxRecDepth 100000 in
set_option maxHeartbeats 4000000 in
theorem run_empty (w:World) (f m:Nat) (d:Disk) (h:FsAt w f m d []) (hdn:d.down=false) (hn:NibTab w) (hg: ¬ foot f m [] 0) (hroom:51≤d.room) (hst:d.steps+32<4611686018427387904) (hap:(applyD d planF).2=0):
  Calls Tryz.prog 10 #[.pointer (some ⟨f,0,none⟩)] w fun e w'=>(∃ sv,e= .returned (.tuple #[plV planF sv (.slice none 0 0),.int .i64 0])∧sv.oneCell'=true)∧FsPost w f m [] (applyD d planF).1 w':=by
 have HH:=Lib.hid h
 have HB0:=Lib.hid (below_alloc w (.cells #[.bool false,.int .i64 0,.int .i64 0,.int .i64 0,.int .i64 0,.int .i64 0,.slice none 0 0,.slice none 0 0,.int .i64 0,.int .i64 0] 37))
 have HR0:=Lib.hid (show PlBlk (w.alloc (.cells #[.bool false,.int .i64 0,.int .i64 0,.int .i64 0,.int .i64 0,.int .i64 0,.slice none 0 0,.slice none 0 0,.int .i64 0,.int .i64 0] 37)) w.heap.size planZ (.slice none 0 0) (.slice none 0 0) from plBlk_alloc w planZ (.slice none 0 0) (.slice none 0 0))
 have HPL:=Lib.hid (plan_empty _ f m d (h.below HB0.out) hdn (hn.below HB0.out))
 have HNB:=Lib.hid hn
 have HNG:=Lib.hid hg
 have HFW:=Lib.hid h.lt
 have HST:=Lib.hid hst
 have HAP:=Lib.hid hap
 have HRM:=Lib.hid hroom
 clear h hdn hn hg hst hap hroom
 go_enter Tryz.func10,Tryz.ntmps10
 go_wp2_with fail
 refine HPL.out.mono ?_
 rintro e w1 ⟨hge,_,hb1⟩
 obtain⟨sv,rfl,hsg,hone⟩:=hge HRM.out
 have HONE:=Lib.hid hone
 have HSG:=Lib.hid hsg
 have HPz:=Lib.hid (plBlk_alloc w1 planZ (.slice none 0 0) (.slice none 0 0))
 simp only [plCs,planZ,zeroM] at HPz
 have HB1:=Lib.hid (Below.next HB0.out hb1)
 have HR1:=Lib.hid (HR0.out.below hb1)
 have hss:w.heap.size<w1.heap.size:=HR1.out.lt
 clear hb1 hsg hone hge HPL HB0 HR0
 go_wp2_with (with_reducible refine wpList_store_pl rfl (.tmp 4) (.tmp 10) rfl w1.heap.size ⟨false,⟨0,0,0,0,0,[]⟩,[],0,0⟩ planF (.slice none 0 0) (.slice none 0 0) sv (.slice none 0 0) rfl rfl HPz.out HONE.out rfl ?_)
 intro w2 hw2
 have hb2:Below w1.heap.size w1 w2:=by rw [hw2.out];exact below_row (below_alloc w1 _) (Nat.le_refl _) _
 have HP2:=Lib.hid (show PlBlk w2 w1.heap.size planF sv (.slice none 0 0) by rw [hw2.out];exact HPz.out.row)
 have HB2:=Lib.hid (Below.next HB1.out hb2)
 have HR2:=Lib.hid (HR1.out.below hb2)
 have HF2:=Lib.hid (HH.out.below HB2.out)
 have HNF:=Lib.hid (fun k (hk:w.heap.size≤k)=>show ¬ foot f m [] k from fun hf=>by have:=HFW.out k hf;omega)
 have HSG2:=Lib.hid ((HSG.out.below hb2).mono (A':=fun k=> ¬ foot f m [] k) (fun k hk=>HNF.out k (by simp at hk;omega)))
 have HRA:=Lib.hid (recApply_good w2 f m d [] HF2.out planF sv (.slice none 0 0) HSG2.out ⟨none,0,rfl,Nat.le_refl _,by decide,fun i x hx=>by simp [planF] at hx⟩ (HNB.out.below HB2.out) HNG.out (by show d.steps+((0:Nat):Int)+16<_;have:=HST.out;omega) firstM_ok)
 clear hw2 hb2 HPz HB1 HR1 HSG
 have HSZ:=Lib.hid (show w.heap.size<w2.heap.size from HR2.out.lt)
 generalize w1.heap.size=b4 at*
 go_wp2_with (with_reducible refine wpList_load_pl rfl (.tmp 4) rfl b4 planF sv (.slice none 0 0) rfl HP2.out ?_)
 refine HRA.out.mono ?_
 rintro e w3 ⟨rfl,hp⟩
 rw [HAP.out]
 have HPP:=Lib.hid hp
 have HP3:=Lib.hid (HP2.out.kept (hp.block HP2.out.lt (HNF.out _ (by omega))))
 have HR3:=Lib.hid (HR2.out.kept (hp.block HR2.out.lt (HNF.out _ (Nat.le_refl _))))
 clear hp HRA HP2 HR2
 go_wp2_with (first | (with_reducible refine wpList_load_pl rfl (.tmp 4) rfl b4 planF sv (.slice none 0 0) rfl HP3.out ?_) | (with_reducible refine wpList_store_pl rfl (.tmp 2) (.tmp 23) rfl w.heap.size planZ planF (.slice none 0 0) (.slice none 0 0) sv (.slice none 0 0) rfl rfl HR3.out HONE.out rfl ?_))
 intro w4 hw4
 have HP4:=Lib.hid (show PlBlk w4 w.heap.size planF sv (.slice none 0 0) by rw [hw4.out];exact HR3.out.row)
 have HF4:=Lib.hid (show FsPost w f m [] (applyD d planF).1 w4 by
  obtain⟨L',h1,h2,h3⟩:=HPP.out
  have ht:Turned (fun k=>k=w.heap.size) w3 w4:=by rw [hw4.out];exact⟨rfl,rfl,rfl,by simp,fun k _ hn=>setRow_other _ _ _ _ hn⟩
  have hnf: ∀ k,foot f m L' k→ ¬ k=w.heap.size:=fun k hk e=>by
   rcases h3 k hk with h4 | h4
   ·exact HNF.out k (by omega) h4
   ·have:=HSZ.out;omega
  exact⟨L',h1.turned ht hnf,((Turned.below HB2.out).trans h2 (fun _ h=> .inl h)).trans ht (fun i hi=> .inr (by omega)),fun k hk=>(h3 k hk).imp id (fun h=>Nat.le_trans HB2.out.size h)⟩)
 clear hw4
 go_wp2
 exact bodyPost_ret (v:= .tuple #[plV planF sv (.slice none 0 0),.int .i64 0]) (results_pl2 rfl _ _ w.heap.size planF sv (.slice none 0 0) _ rfl rfl HP4.out) rfl ⟨⟨_,rfl,HONE.out⟩,HF4.out⟩
set_option maxRecDepth 100000 in
set_option maxHeartbeats 4000000 in
theorem head18_any (w:World) (hn:NibTab w):Calls Tryz.prog 4 #[] w fun e w'=>e= .returned (.bool true)∧Below w.heap.size w w':=by
 have HNB:=Lib.hid hn
 have HNL:=Lib.hid hn.lt
 clear hn
 go_enter Tryz.func4,Tryz.ntmps4
 go_wp2_with fail
 refine(fsNew_any 51 w).mono ?_
 rintro e w1 ⟨f,m,rfl,hat,hf,hm,hb1⟩
 have HB1:=Lib.hid hb1
 have HLO:=Lib.hid (show ∀ k,foot f m [] k→w.heap.size≤k from fun k hk=>by
  rcases hk with rfl | rfl | ⟨s,hs,_⟩
  ·exact hf
  ·exact hm
  ·exact absurd hs List.not_mem_nil)
 have HRN:=Lib.hid (run_empty w1 f m (newD 51) hat rfl (HNB.out.below hb1) (fun hc=>by have:=HLO.out _ hc;have:=HNL.out;omega) (by decide) (by decide) head_store.1)
 clear hat hf hm hb1
 go_wp2_with fail
 refine HRN.out.mono ?_
 rintro e w2 ⟨⟨sv,rfl,hone⟩,hp⟩
 have HONE:=Lib.hid hone
 obtain⟨L2,h2,ht2,hs2⟩:=hp
 have HF2:=Lib.hid h2
 have HB2:=Lib.hid (show Below w.heap.size w w2 from⟨ht2.os.trans HB1.out.os,ht2.tape.trans HB1.out.tape,ht2.output.trans HB1.out.output,Nat.le_trans HB1.out.size ht2.size,fun k hk=>(ht2.block k (Nat.lt_of_lt_of_le hk HB1.out.size) (fun hc=>by have:=HLO.out k hc;omega)).trans (HB1.out.block k hk)⟩)
 have HPz:=Lib.hid (plBlk_alloc w2 planZ (.slice none 0 0) (.slice none 0 0))
 simp only [plCs,planZ,zeroM] at HPz
 have HU:=Lib.hid head_store.2
 clear h2 ht2 hs2 HRN hone
 go_wp2_with (with_reducible refine wpList_store_pl rfl (.tmp 2) (.tmp 10) rfl w2.heap.size ⟨false,⟨0,0,0,0,0,[]⟩,[],0,0⟩ planF (.slice none 0 0) (.slice none 0 0) sv (.slice none 0 0) rfl rfl HPz.out HONE.out rfl ?_)
 intro w3 hw3
 have hb3:Below w2.heap.size w2 w3:=by rw [hw3.out];exact below_row (below_alloc w2 _) (Nat.le_refl _) _
 have HP3:=Lib.hid (show PlBlk w3 w2.heap.size planF sv (.slice none 0 0) by rw [hw3.out];exact HPz.out.row)
 have HB3:=Lib.hid (Below.next HB2.out hb3)
 have HF3:=Lib.hid (HF2.out.below hb3)
 clear hw3 hb3 HPz HF2 HB2
 generalize w2.heap.size=b2 at*
 go_wp2_with fail
 refine(fsNew_any 50 w3).mono ?_
 rintro e w4 ⟨f2,m2,rfl,hat2,_,_,hb4⟩
 have HB4:=Lib.hid (Below.next HB3.out hb4)
 have HP4:=Lib.hid (HP3.out.below hb4)
 have HF4:=Lib.hid (HF3.out.below hb4)
 have HPL:=Lib.hid (plan_empty w4 f2 m2 (newD 50) hat2 rfl (HNB.out.below HB4.out))
 clear hat2 hb4 HB3 HP3 HF3
 go_wp2_with fail
 refine HPL.out.mono ?_
 rintro e w5 ⟨_,hlt,hb5⟩
 obtain rfl:=hlt (by decide)
 have HPy:=Lib.hid (plBlk_alloc w5 planZ (.slice none 0 0) (.slice none 0 0))
 have HB5:=Lib.hid (Below.next HB4.out hb5)
 have HP5:=Lib.hid (HP4.out.below hb5)
 have HF5:=Lib.hid (HF4.out.below hb5)
 simp only [plCs,planZ,zeroM] at HPy
 clear hlt hb5 HPL HB4 HP4 HF4
 go_wp2_with (with_reducible refine wpList_store_pl rfl (.tmp 4) (.tmp 15) rfl w5.heap.size ⟨false,⟨0,0,0,0,0,[]⟩,[],0,0⟩ planZ (.slice none 0 0) (.slice none 0 0) (.slice none 0 0) (.slice none 0 0) rfl rfl HPy.out rfl rfl ?_)
 intro w6 hw6
 have hb6:Below w5.heap.size w5 w6:=by rw [hw6.out];exact below_row (below_alloc w5 _) (Nat.le_refl _) _
 have HQ6:=Lib.hid (show PlBlk w6 w5.heap.size planZ (.slice none 0 0) (.slice none 0 0) by rw [hw6.out];exact HPy.out.row)
 have HB6:=Lib.hid (Below.next HB5.out hb6)
 have HP6:=Lib.hid (HP5.out.below hb6)
 have HF6:=Lib.hid (HF5.out.below hb6)
 have c0:w6.cell? ⟨b2,0,none⟩=some (.bool true):=HP6.out.c0
 have c8:w6.cell? ⟨b2,8,none⟩=some (.int .i64 22):=HP6.out.c8
 have d0:w6.cell? ⟨w5.heap.size,0,none⟩=some (.bool false):=HQ6.out.c0
 have HUS:=Lib.hid (used_any w6 f m _ L2 HF6.out)
 rw [HU.out] at HUS
 clear hw6 hb6 HPy HB5 HP5 HF5
 go_wp2_with (go_at_call 13;refine HUS.out.mono ?_;rintro e w7 ⟨rfl,rfl⟩)
 go_ret
 exact⟨rfl,HB6.out⟩
end Go.Proofs.YtcglcphhfmkccaaGreatDoor
namespace Go.Proofs.YtcglcphhfmkccaaGreatDoor
open Go.RowKit
def sgCells (l:List Sg):List Value:=l.flatMap fun g=>(sgCs g).toList
theorem sgCells_at: ∀ (rs:List Sg) (i:Nat) (r:Sg),rs[i]? =some r→ ∀ (j:Nat) u,(sgCs r)[j]? =some u→(sgCells rs)[i*4+j]? =some u
 | [],i,r,h,_,_,_=>by simp at h
 | x::rs,0,r,h,j,u,hj=>by
  simp at h;subst h
  have hl:j<4:=by have:=(Array.getElem?_eq_some_iff.1 hj).1;simpa [sgCs] using this
  unfold sgCells
  rw [List.flatMap_cons,Nat.zero_mul,Nat.zero_add,List.getElem?_append_left (by simpa [sgCs] using hl)]
  simpa using hj
 | x::rs,i+1,r,h,j,u,hj=>by
  have:=sgCells_at rs i r (by simpa using h) j u hj
  unfold sgCells at this ⊢
  rw [List.flatMap_cons,List.getElem?_append_right (by simp [sgCs];omega)]
  rw [←this]
  congr 1
  simp [sgCs];omega
theorem sgIn_own {A:Nat→Prop} {w:World} {B:Nat} {v:Value} {l:List Sg} (h:w.ownsRow B 63 4 v l.length (sgCells l)) (hA: ∀ k,B≤k→A k):SgIn A w v l:=by
 by_cases hn:l=[]
 ·subst hn
  obtain⟨oa,cap,rfl,h1,h2⟩:=own_shape h
  exact⟨oa,cap,rfl,h1,by unfold maxLen at h2;omega,fun i g hg=>by simp at hg⟩
 ·obtain⟨g,cap,rfl,hB,_,h1,h2,h3⟩:=own_get h (List.length_pos_iff.2 hn)
  exact⟨_,cap,rfl,h1,by unfold maxLen at h2;omega,fun i x hx=>⟨g,0,rfl,hA g hB,fun j u hj=>by rw [Nat.zero_add];exact h3 _ _ (sgCells_at l i x hx j u (by simpa using hj))⟩⟩
def zeroSg:Value:= .agg #[.int .i64 0,.int .i64 0,.int .i64 0,.int .i64 0]
theorem infoSg:(Tryz.prog.info? 63).map (fun i=>(i.zero,i.size,i.bytes))=some (some zeroSg,4,32):=by kernel_rfl
theorem MnBlk.set {w:World} {g:Nat} {m:Man} {sv sv':Value} (h:MnBlk w g m sv) (e:(mnCs m sv).setIfInBounds 5 sv'=mnCs m sv'):MnBlk (w.setCell ⟨g,5,none⟩ sv') g m sv':=by
 unfold MnBlk at h ⊢
 rw [←e]
 simp only [World.setCell]
 rw [Array.getElem?_modify]
 simp [h]
theorem MnBlk.free {w:World} {g:Nat} {m:Man} {sv:Value} (h:MnBlk w g m sv) (j:Nat):w.frozen? ⟨g,j,none⟩=false:=by unfold MnBlk at h;simp [World.frozen?,h]
end Go.Proofs.YtcglcphhfmkccaaGreatDoor
namespace Go.Proofs.YtcglcphhfmkccaaGreatDoor
open Go.RowKit
theorem nib_of {w:World} {l:List (String×DataW Unit)} (hl:l=[("daybook/crc.nibbles",Rows.laid_daybook_crc_nibbles)]) (h:laidMet Tryz.prog l w):NibTab w:=by
 subst hl
 exact Lib.tabIs_of_head (g:=0) (t:=225) (e:=159) (by kernel_rfl) (by kernel_rfl) Tryz.underlying225 Tryz.underlying159 (by kernel_rfl) (by kernel_rfl) h
theorem turned_below {S:Nat→Prop} {B:Nat} {w0 w w':World} (hb:Below B w0 w) (ht:Turned S w w') (hS: ∀ k,S k→B≤k) (hB:B≤w.heap.size):Below B w0 w':=
 ⟨ht.os.trans hb.os,ht.tape.trans hb.tape,ht.output.trans hb.output,Nat.le_trans hb.size ht.size,fun k hk=>(ht.block k (Nat.lt_of_lt_of_le hk hB) (fun hc=>by have:=hS k hc;omega)).trans (hb.block k hk)⟩
theorem stIn_own {A:Nat→Prop} {w:World} {B:Nat} {v:Value} {l:List (List UInt8)} (h:w.ownsRow B 9 1 v l.length (l.map fun s=> .string ⟨s.toArray⟩)) (hA: ∀ k,B≤k→A k):StIn A w v l:=by
 by_cases hn:l=[]
 ·subst hn
  obtain⟨oa,cap,rfl,h1,h2⟩:=own_shape h
  exact⟨oa,cap,rfl,h1,by unfold maxLen at h2;omega,fun i g hg=>by simp at hg⟩
 ·obtain⟨g,cap,rfl,hB,_,h1,h2,h3⟩:=own_get h (List.length_pos_iff.2 hn)
  exact⟨_,cap,rfl,h1,by unfold maxLen at h2;omega,fun i x hx=>⟨g,0,rfl,hA g hB,by rw [Nat.zero_add];exact h3 _ _ (by rw [List.getElem?_map,hx];rfl)⟩⟩
theorem StIn.turned {A S:Nat→Prop} {w w':World} {v:Value} {l:List (List UInt8)} (h:StIn A w v l) (ht:Turned S w w') (hS: ∀ k,A k→ ¬ S k):StIn A w' v l:=by
 obtain⟨oa,cap,h1,h2,h3,h4⟩:=h
 exact⟨oa,cap,h1,h2,h3,fun i g hg=>by obtain⟨b,off,e,ha,hc⟩:=h4 i g hg;exact⟨b,off,e,ha,ht.cell hc (hS b ha)⟩⟩
theorem row_setCell {w:World} {b:Nat} {cs:Array Value} {ty:TypeId} (h:w.heap[b]? =some (.cells cs ty (0,0))) (j:Nat) (v:Value):(w.setCell ⟨b,j,none⟩ v).heap[b]? =some (.cells (cs.setIfInBounds j v) ty (0,0)):=by
 simp [World.setCell,Array.getElem?_modify,h]
theorem run_setRow_turned (w:World) (g:Nat) (cs:Array Value):Turned (fun k=>k=g) w (w.setRow g cs):=⟨rfl,rfl,rfl,by simp,fun k _ hn=>setRow_other _ _ _ _ hn⟩
end Go.Proofs.YtcglcphhfmkccaaGreatDoor

namespace Go.Proofs.YtcglcphhfmkccaaGreatDoor
open Go.RowKit
theorem frInfo:(Tryz.prog.info? 105).map (·.size)=some 3:=by kernel_rfl
theorem frCs_all (k s:Int) (v:Value) (h:v.oneCell'=true):(frCs k s v).all (·.oneCell')=true:=
 Array.all_eq_true_iff_forall_mem.2 (by
  intro u hu
  simp only [frCs,List.mem_toArray,List.mem_cons,List.not_mem_nil,or_false] at hu
  rcases hu with rfl | rfl | rfl<;>first | rfl | assumption)
theorem FrBlk.lt {w:World} {g:Nat} {k s:Int} {bv:Value} (h:FrBlk w g k s bv):g<w.heap.size:=(Array.getElem?_eq_some_iff.1 h).1
theorem FrBlk.row {w:World} {g:Nat} {k s k' s':Int} {bv bv':Value} (h:FrBlk w g k s bv):FrBlk (w.setRow g (frCs k' s' bv')) g k' s' bv':=setRow_heap w g _ _ _ _ h
theorem wpList_store_fr {ops:Array Oper} {rest:List Oper} {o:Oper} {a:Act} {w:World} {Q:Exit→Act→World→Prop} (hgd:o.guard=none) (x y:Operand) (ho:o.op= .store 105 x y)
  (g:Nat) (k s k' s':Int) (bv bv':Value) (hx:a.eval x= .pointer (some ⟨g,0,none⟩)) (hy:a.eval y=frV k' s' bv') (hE:FrBlk w g k s bv) (h1:bv'.oneCell'=true)
  (h: ∀ W,FrBlk W g k' s' bv'→Turned (fun k=>k=g) w W→wpList Tryz.prog ops Q rest (a.put o.dst undef) W):wpList Tryz.prog ops Q (o::rest) a w:=
 wpList_store_row hgd 105 x y ho g (frCs k' s' bv') hx hy 105 (frCs k s bv) hE frInfo rfl (frCs_all k' s' bv' h1) (h _ hE.row (run_setRow_turned _ _ _))
theorem run_load_fr {w:World} {g:Nat} {k s:Int} {bv:Value} (hE:FrBlk w g k s bv):(loadVar 105 ⟨g,0,none⟩).run Tryz.prog w= .ok (frV k s bv) w:=
 run_loadVar_row (P:=Tryz.prog) w g 105 105 (frCs k s bv) (0,0) _ hE Tryz.underlying105 rfl frInfo
theorem wpList_load_fr {ops:Array Oper} {rest:List Oper} {o:Oper} {a:Act} {w:World} {Q:Exit→Act→World→Prop} (hgd:o.guard=none) (x:Operand) (ho:o.op= .load 105 x)
  (g:Nat) (k s:Int) (bv:Value) (hx:a.eval x= .pointer (some ⟨g,0,none⟩)) (hE:FrBlk w g k s bv)
  (h:wpList Tryz.prog ops Q rest (a.put o.dst (frV k s bv)) w):wpList Tryz.prog ops Q (o::rest) a w:=
 wpList_load_row hgd 105 x ho g hx 105 (frCs k s bv) (0,0) _ hE Tryz.underlying105 rfl frInfo h
theorem results_fr3 {fn:Func} {p q r:Tmp} (h:fn.results= #[.cell p 105,.tmp q,.tmp r]) (tmps:Array Value) (w:World) (g:Nat) (k s:Int) (bv x y:Value)
  (hp:tmps.getD p undef= .pointer (some ⟨g,0,none⟩)) (hq:tmps.getD q undef=x) (hr:tmps.getD r undef=y) (hE:FrBlk w g k s bv):(results fn tmps).run Tryz.prog w= .ok (.tuple #[frV k s bv,x,y]) w:=by
 have hl:=run_load_fr hE
 have hp':tmps[p]?.getD undef= .pointer (some ⟨g,0,none⟩):=by simpa using hp
 have hq':tmps[q]?.getD undef=x:=by simpa using hq
 have hr':tmps[r]?.getD undef=y:=by simpa using hr
 simp [results,h,hp',hq',hr',asAddr,hl]
theorem results_fr2 {fn:Func} {p q:Tmp} (h:fn.results= #[.cell p 105,.tmp q]) (tmps:Array Value) (w:World) (g:Nat) (k s:Int) (bv x:Value)
  (hp:tmps.getD p undef= .pointer (some ⟨g,0,none⟩)) (hq:tmps.getD q undef=x) (hE:FrBlk w g k s bv):(results fn tmps).run Tryz.prog w= .ok (.tuple #[frV k s bv,x]) w:=by
 have hl:=run_load_fr hE
 have hp':tmps[p]?.getD undef= .pointer (some ⟨g,0,none⟩):=by simpa using hp
 have hq':tmps[q]?.getD undef=x:=by simpa using hq
 simp [results,h,hp',hq',asAddr,hl]
section
variable {ops : Array Oper} {rest : List Oper} {o : Oper} {a : Act} {w : World} {Q : Exit → Act → World → Prop}
theorem wpList_cut_lhm (hgd:o.guard=none) (x y z u:Operand) (ho:o.op= .slice 45 x (some y) (some z) (some u)) (oa:Option Addr) (cap lo hi n:Nat) (l:List UInt8) (hx:a.eval x= .slice oa l.length cap) (hy:a.eval y= .int .i64 (lo:Int)) (hz:a.eval z= .int .i64 (hi:Int)) (hu:a.eval u= .int .i64 (hi:Int))
  (hv:BRow w (.slice oa l.length cap) l) (h1:lo≤hi) (h2:hi≤l.length) (hn:Hid (hi - lo=n)) (h: ∀ oa' cap',BRow w (.slice oa' n cap') ((l.take hi).drop lo)→wpList Tryz.prog ops Q rest (a.put o.dst (.slice oa' n cap')) w):wpList Tryz.prog ops Q (o::rest) a w:=by
 have hv':=hv
 obtain⟨_,c',e,hl',_⟩:=hv'
 simp only [Value.slice.injEq,true_and] at e
 obtain⟨rfl,rfl⟩:=e
 have hb:=brow_cut (lo:=lo) (hi:=hi) (mx:=hi) hv h1 h2 (Nat.le_refl _)
 refine wpList_plain hgd fun K hK=> ?_
 unfold Oper.wp execOp
 simp only [ho,hx,hy,hz,hu,Option.map_some,sliceAt_b,run_cut_lhm oa l.length cap lo hi hi h1 (Nat.le_refl _) (Nat.le_trans h2 hl'),Sem.run_bind,Sem.run_pure,Result.andThen_ok]
 have hn':=hn.out
 subst hn'
 exact hK _ _ (h _ _ hb)
end
def DecPost (w:World) (r:Frm×Nat×Int) (e:Ending) (w':World):Prop:= ∃ bv,e= .returned (.tuple #[frV (r.1.k:Int) (r.1.s:Int) bv,.int .i64 (r.2.1:Int),.int .i64 r.2.2])∧BRowIn (fun k=>w.heap.size≤k) w' bv r.1.body∧Below w.heap.size w w'
theorem decF_bad {b:List UInt8} {k s n:Nat} {e:Int} (h:peekF b=(k,s,n,e)) (he:e≠0):decF b=(zFrm,0,e):=by unfold decF;rw [h,if_pos he]
theorem decF_torn {b:List UInt8} {k s n:Nat} (h:peekF b=(k,s,n,0)) (hn:b.length<n):decF b=(zFrm,0,60):=by unfold decF;rw [h,if_neg (fun h=>h rfl),if_pos hn]
theorem decF_sum {b:List UInt8} {k s n:Nat} (h:peekF b=(k,s,n,0)) (hn: ¬ b.length<n) (hc:crcOk ((b.take n).drop 16)=false):decF b=(zFrm,0,62):=by unfold decF;rw [h,if_neg (fun h=>h rfl),if_neg hn,if_pos hc]
theorem decF_good {b:List UInt8} {k s n:Nat} (h:peekF b=(k,s,n,0)) (hn: ¬ b.length<n) (hc: ¬ crcOk ((b.take n).drop 16)=false):decF b=(⟨k,s,((b.take n).drop 16).take (n - 20)⟩,n,0):=by unfold decF;rw [h,if_neg (fun h=>h rfl),if_neg hn,if_neg hc]
theorem browIn_nil (A:Nat→Prop) (w:World):BRowIn A w (.slice none 0 0) []:=⟨none,0,rfl,Nat.le_refl _,fun h=>absurd rfl h⟩
set_option maxRecDepth 100000 in
set_option maxHeartbeats 4000000 in
theorem frameDec_any (l:List UInt8) (v:Value) (w:World) (hv:BRow w v l) (hl:l.length≤9223372036854775807) (hn:NibTab w):
  Calls Tryz.prog 85 #[v] w (DecPost w (decF l)):=by
 have HB0:=Lib.hid (below_alloc w (.cells (frCs 0 0 (.slice none 0 0)) 105))
 have HF0:=Lib.hid (frBlk_alloc w 0 0 (.slice none 0 0))
 have HPK:=Lib.hid (peek_any l v _ (hv.below HB0.out) hl (hn.below HB0.out))
 have HNB:=Lib.hid hn
 have HV:=Lib.hid (fun W (hb:Below w.heap.size w W)=>hv.below hb)
 have HPF:=Lib.hid (@peekF_fine l)
 obtain⟨oa,cap,rfl,hlc,hc⟩:=hv
 simp only [frCs] at HB0 HF0 HPK
 obtain⟨r,hr⟩: ∃ r,r=peekF l:=⟨_,rfl⟩
 rw [←hr] at HPK HPF
 have HR:=Lib.hid hr.symm
 clear hc hr hn
 obtain⟨k,s,sz,e0⟩:=r
 unfold PeekPost at HPK
 go_enter Tryz.func85,Tryz.ntmps85
 go_wp2_with fail
 refine HPK.out.mono ?_
 rintro e w1 ⟨rfl,hb1⟩
 have HB1:=Lib.hid (Below.next HB0.out hb1)
 have HF1:=Lib.hid (HF0.out.below hb1)
 clear hb1 HB0 HF0 HPK
 rcases he0:(e0 != 0) with _ | _
 ·have he00:e0=0:=by simpa using he0
  subst he00
  obtain⟨_,hk1,hk7,hs1,hz1,hz2⟩:=HPF.out rfl
  obtain⟨m,hm⟩: ∃ m,sz=m+20:=⟨sz - 20,by omega⟩
  obtain⟨m4,hm4⟩: ∃ m4,m4=m+4:=⟨_,rfl⟩
  rcases hlt:decide (l.length<sz) with _ | _
  ·have hle:sz≤l.length:=by have:=of_decide_eq_false hlt;omega
   have HNT:=Lib.hid (show ¬ l.length<sz by omega)
   have HM4:=Lib.hid (show sz - 16=m4 by omega)
   have hlo:16≤sz:=by omega
   have HBR:=Lib.hid (HV.out w1 HB1.out)
   have q4:(m4:Int) - 4=(m:Int):=by omega
   obtain⟨rs,hrs⟩: ∃ rs,rs=(l.take sz).drop 16:=⟨_,rfl⟩
   have HRS:=Lib.hid hrs
   have HRL:=Lib.hid (show rs.length=m4 by rw [hrs,List.length_drop,List.length_take];omega)
   have hml:m≤m4:=by omega
   have HML:=Lib.hid (show sz - 20=m by omega)
   have hmb:m≤16384:=by omega
   clear hrs hm hm4 he0 HPF hk1 hk7 hs1 hz1 hz2
   go_wp2_with (with_reducible refine wpList_cut_lhm rfl (.tmp 26) (.const (.int .i64 16)) (.tmp 27) (.tmp 28) rfl oa cap 16 sz m4 l rfl rfl rfl rfl HBR.out hlo hle HM4 ?_)
   intro oa' cap' hbr
   rw [←HRS.out] at hbr
   have HRB:=Lib.hid hbr
   have HCL:=Lib.hid (closed_any rs _ w1 hbr (by rw [HRL.out];omega) (HNB.out.below HB1.out))
   clear hbr
   go_wp2_with fail
   refine HCL.out.mono ?_
   rintro e w2 ⟨rfl,hb2⟩
   have HB2:=Lib.hid (Below.next HB1.out hb2)
   have HF2:=Lib.hid (HF1.out.below hb2)
   have HRB2:=Lib.hid (HRB.out.below hb2)
   clear hb2 HCL HB1 HF1 HRB HBR
   rcases hck:crcOk rs with _ | _
   ·have HE:=Lib.hid (decF_sum HR.out HNT.out (by rw [←HRS.out];exact hck))
    go_wp2_with (with_reducible refine wpList_store_fr rfl (.tmp 2) (.tmp 33) rfl w.heap.size 0 0 0 0 (.slice none 0 0) (.slice none 0 0) rfl rfl HF2.out rfl ?_)
    intro w3 hf3 ht3
    have HF3:=Lib.hid hf3
    have HB3:=Lib.hid (turned_below HB2.out ht3 (fun k hk=>by omega) HB2.out.size)
    clear hf3 ht3
    go_wp2
    refine bodyPost_ret (v:= .tuple #[frV 0 0 (.slice none 0 0),.int .i64 0,.int .i64 62]) (results_fr3 rfl _ _ w.heap.size 0 0 (.slice none 0 0) _ _ rfl rfl rfl HF3.out) rfl ⟨_,by rw [HE.out];rfl,by rw [HE.out];exact browIn_nil _ _,HB3.out⟩
   ·have HE:=Lib.hid (decF_good HR.out HNT.out (by rw [←HRS.out,hck];decide))
    rw [←HRS.out,HML.out] at HE
    have HRB2':=Lib.hid (show BRow w2 (.slice oa' rs.length cap') rs by rw [HRL.out];exact HRB2.out)
    have HCN:=Lib.hid (fun W oa2 cap2 (hb:BRow W (.slice oa2 m cap2) (rs.take m))=>clone_any (rs.take m) (.slice oa2 m cap2) W hb (by rw [List.length_take];omega))
    have hmr:m≤rs.length:=by rw [HRL.out];exact hml
    have HX:=Lib.hid (show Value.slice oa' m4 cap'= .slice oa' rs.length cap' by rw [HRL.out])
    clear hck
    go_wp2_with (refine wpList_cut_h rfl (.tmp 36) (.tmp 39) rfl oa' cap' m rs HX.out rfl HRB2'.out hmr ?_)
    intro oa2 cap2 hbr2
    go_wp2_with fail
    refine(HCN.out w2 oa2 cap2 hbr2).mono ?_
    rintro e w3 ⟨v3,rfl,ho3,hb3⟩
    have HB3:=Lib.hid (Below.next HB2.out hb3)
    have HF3:=Lib.hid (HF2.out.below hb3)
    have HO3:=Lib.hid (browIn_own (A:=fun k=>w2.heap.size≤k) ho3 (fun _ h=>h))
    obtain⟨o3,cap3,e3,_,_⟩:=own_shape ho3
    rw [show (rs.take m).length=m by rw [List.length_take];omega] at e3
    subst e3
    have hg2:=HF2.out.lt
    clear ho3 hb3 hbr2 HCN HRB2 HRB2' HX
    go_wp2_with (with_reducible refine wpList_store_fr rfl (.tmp 2) (.tmp 42) rfl w.heap.size 0 0 k s (.slice none 0 0) (.slice o3 m cap3) rfl rfl HF3.out rfl ?_)
    intro w4 hf4 ht4
    have HF4:=Lib.hid hf4
    have HB4:=Lib.hid (turned_below HB3.out ht4 (fun k hk=>by omega) HB3.out.size)
    have HO4:=Lib.hid ((HO3.out.turned ht4 (fun k hk he=>by omega)).mono (A':=fun k=>w.heap.size≤k) (fun k hk=>by omega))
    clear hf4 ht4 HO3 HB3 HF3
    go_wp2
    refine bodyPost_ret (v:= .tuple #[frV k s (.slice o3 m cap3),.int .i64 sz,.int .i64 0]) (results_fr3 rfl _ _ w.heap.size k s (.slice o3 m cap3) _ _ rfl rfl rfl HF4.out) rfl ⟨_,by rw [HE.out],by rw [HE.out];exact HO4.out,HB4.out⟩
  ·have hle:l.length<sz:=by have:=of_decide_eq_true hlt;omega
   have HE:=Lib.hid (decF_torn HR.out hle)
   clear hle hm hm4
   go_wp2_with (with_reducible refine wpList_store_fr rfl (.tmp 2) (.tmp 25) rfl w.heap.size 0 0 0 0 (.slice none 0 0) (.slice none 0 0) rfl rfl HF1.out rfl ?_)
   intro w3 hf3 ht3
   have HF3:=Lib.hid hf3
   have HB3:=Lib.hid (turned_below HB1.out ht3 (fun k hk=>by omega) HB1.out.size)
   clear hf3 ht3
   go_wp2
   refine bodyPost_ret (v:= .tuple #[frV 0 0 (.slice none 0 0),.int .i64 0,.int .i64 60]) (results_fr3 rfl _ _ w.heap.size 0 0 (.slice none 0 0) _ _ rfl rfl rfl HF3.out) rfl ⟨_,by rw [HE.out];rfl,by rw [HE.out];exact browIn_nil _ _,HB3.out⟩
 ·have HE:=Lib.hid (decF_bad HR.out (show e0≠0 by simpa using he0))
  go_wp2_with (with_reducible refine wpList_store_fr rfl (.tmp 2) (.tmp 19) rfl w.heap.size 0 0 0 0 (.slice none 0 0) (.slice none 0 0) rfl rfl HF1.out rfl ?_)
  intro w3 hf3 ht3
  have HF3:=Lib.hid hf3
  have HB3:=Lib.hid (turned_below HB1.out ht3 (fun k hk=>by omega) HB1.out.size)
  clear hf3 ht3
  go_wp2
  refine bodyPost_ret (v:= .tuple #[frV 0 0 (.slice none 0 0),.int .i64 0,.int .i64 e0]) (results_fr3 rfl _ _ w.heap.size 0 0 (.slice none 0 0) _ _ rfl rfl rfl HF3.out) rfl ⟨_,by rw [HE.out];rfl,by rw [HE.out];exact browIn_nil _ _,HB3.out⟩
end Go.Proofs.YtcglcphhfmkccaaGreatDoor

namespace Go.Proofs.YtcglcphhfmkccaaGreatDoor
open Go.RowKit
def wholeF (b:List UInt8) (kind:Nat):Frm×Int:=if (decF b).2.2≠0 then (zFrm,(decF b).2.2) else if (decF b).1.k≠kind∨(decF b).2.1≠b.length then (zFrm,63) else ((decF b).1,0)
def WholePost (w:World) (r:Frm×Int) (e:Ending) (w':World):Prop:= ∃ bv,e= .returned (.tuple #[frV (r.1.k:Int) (r.1.s:Int) bv,.int .i64 r.2])∧BRowIn (fun k=>w.heap.size≤k) w' bv r.1.body∧Below w.heap.size w w'
theorem BRowIn.low1 {A:Nat→Prop} {w:World} {v:Value} {l:List UInt8} (h:BRowIn A w v l):BRowIn (fun k=>A k∧k<w.heap.size) w v l:=h.low
set_option maxRecDepth 100000 in
set_option maxHeartbeats 4000000 in
theorem whole_any (l:List UInt8) (v:Value) (kind:Nat) (w:World) (hv:BRow w v l) (hl:l.length≤9223372036854775807) (hn:NibTab w):
  Calls Tryz.prog 49 #[v,.int .i64 (kind:Int)] w (WholePost w (wholeF l kind)):=by
 have HB0:=Lib.hid (below_alloc w (.cells (frCs 0 0 (.slice none 0 0)) 105))
 have HF0:=Lib.hid (frBlk_alloc w 0 0 (.slice none 0 0))
 have HD:=Lib.hid (frameDec_any l v _ (hv.below HB0.out) hl (hn.below HB0.out))
 obtain⟨oa,cap,rfl,hlc,hc⟩:=hv
 have HW:=Lib.hid (show wholeF l kind=if (decF l).2.2≠0 then (zFrm,(decF l).2.2) else if (decF l).1.k≠kind∨(decF l).2.1≠l.length then (zFrm,63) else ((decF l).1,0) from rfl)
 simp only [frCs] at HB0 HF0 HD
 obtain⟨r,hr⟩: ∃ r,r=decF l:=⟨_,rfl⟩
 rw [←hr] at HD HW
 clear hc hr hn
 obtain⟨⟨k,s,body⟩,sz,e0⟩:=r
 unfold DecPost at HD
 go_enter Tryz.func49,Tryz.ntmps49
 go_wp2_with fail
 refine HD.out.mono ?_
 rintro e w1 ⟨bv,rfl,hbv,hb1⟩
 have HB1:=Lib.hid (Below.next HB0.out hb1)
 have HF1:=Lib.hid (HF0.out.below hb1)
 have HBV:=Lib.hid (hbv.low1.mono (A':=fun x=>(w.heap.size<x)∧x<w1.heap.size) (fun x hx=>⟨by have:=hx.1;simp at this;omega,hx.2⟩))
 have HFz:=Lib.hid (frBlk_alloc w1 0 0 (.slice none 0 0))
 have HBz:=Lib.hid (below_alloc w1 (.cells (frCs 0 0 (.slice none 0 0)) 105))
 have hone:=hbv.one
 simp only [frCs] at HFz HBz
 have hsz:=HF1.out.lt
 clear hbv hb1 HB0 HF0 HD
 go_wp2_with (with_reducible refine wpList_store_fr rfl (.tmp 6) (.tmp 12) rfl w1.heap.size 0 0 (k:Int) (s:Int) (.slice none 0 0) bv rfl rfl HFz.out hone ?_)
 intro w2 hf2 ht2
 have HF2:=Lib.hid hf2
 have HB2:=Lib.hid (turned_below (HB1.out.trans (HBz.out.mono HB1.out.size)) ht2 (fun x hx=>by have:=HB1.out.size;omega) (by have:=HB1.out.size;have:=HBz.out.size;omega))
 have HFr:=Lib.hid (show FrBlk w2 w.heap.size 0 0 (.slice none 0 0) by
  unfold FrBlk
  rw [ht2.block _ (Nat.lt_of_lt_of_le hsz HBz.out.size) (by omega)]
  exact HF1.out.below HBz.out)
 have HV2:=Lib.hid ((HBV.out.below HBz.out).turned ht2 (fun x hx he=>by have:=hx.2;omega))
 have c0:w2.cell? ⟨w1.heap.size,0,none⟩=some (.int .i64 (k:Int)):=HF2.out.c0
 clear hf2 ht2 HB1 HF1 HBV HFz HBz
 generalize w1.heap.size=g at*
 rcases he0:(e0 != 0) with _ | _
 ·have he00:e0=0:=by simpa using he0
  subst he00
  rcases hk:((k:Int) != (kind:Int)) with _ | _
  ·have HK:=Lib.hid (show k=kind by simp at hk;omega)
   rcases hz:((sz:Int) != (l.length:Int)) with _ | _
   ·have HZ:=Lib.hid (show sz=l.length by simp at hz;omega)
    have HE:=Lib.hid (show wholeF l kind=(⟨k,s,body⟩,0) by rw [HW.out];simp [HK.out,HZ.out])
    go_wp2_with (first | (with_reducible refine wpList_load_fr rfl (.tmp 6) rfl g (k:Int) (s:Int) bv rfl HF2.out ?_) | (with_reducible refine wpList_store_fr rfl (.tmp 4) (.tmp 32) rfl w.heap.size 0 0 (k:Int) (s:Int) (.slice none 0 0) bv rfl rfl HFr.out hone ?_))
    intro w3 hf3 ht3
    have HF3:=Lib.hid hf3
    have HB3:=Lib.hid (turned_below HB2.out ht3 (fun x hx=>by omega) HB2.out.size)
    have HV3:=Lib.hid ((HV2.out.turned ht3 (fun x hx he=>by have:=hx.1;omega)).mono (A':=fun x=>w.heap.size≤x) (fun x hx=>by have:=hx.1;omega))
    clear hf3 ht3
    go_wp2
    refine bodyPost_ret (v:= .tuple #[frV k s bv,.int .i64 0]) (results_fr2 rfl _ _ w.heap.size k s bv _ rfl rfl HF3.out) rfl ⟨_,by rw [HE.out],by rw [HE.out];exact HV3.out,HB3.out⟩
   ·have HE:=Lib.hid (show wholeF l kind=(zFrm,63) by rw [HW.out,if_neg (fun h=>h rfl),if_pos (.inr (by simp at hz;omega))])
    go_wp2_with (with_reducible refine wpList_store_fr rfl (.tmp 4) (.tmp 31) rfl w.heap.size 0 0 0 0 (.slice none 0 0) (.slice none 0 0) rfl rfl HFr.out rfl ?_)
    intro w3 hf3 ht3
    have HF3:=Lib.hid hf3
    have HB3:=Lib.hid (turned_below HB2.out ht3 (fun x hx=>by omega) HB2.out.size)
    clear hf3 ht3
    go_wp2
    refine bodyPost_ret (v:= .tuple #[frV 0 0 (.slice none 0 0),.int .i64 63]) (results_fr2 rfl _ _ w.heap.size 0 0 (.slice none 0 0) _ rfl rfl HF3.out) rfl ⟨_,by rw [HE.out];rfl,by rw [HE.out];exact browIn_nil _ _,HB3.out⟩
  ·have HE:=Lib.hid (show wholeF l kind=(zFrm,63) by rw [HW.out,if_neg (fun h=>h rfl),if_pos (.inl (by simp at hk;omega))])
   go_wp2_with (with_reducible refine wpList_store_fr rfl (.tmp 4) (.tmp 31) rfl w.heap.size 0 0 0 0 (.slice none 0 0) (.slice none 0 0) rfl rfl HFr.out rfl ?_)
   intro w3 hf3 ht3
   have HF3:=Lib.hid hf3
   have HB3:=Lib.hid (turned_below HB2.out ht3 (fun x hx=>by omega) HB2.out.size)
   clear hf3 ht3
   go_wp2
   refine bodyPost_ret (v:= .tuple #[frV 0 0 (.slice none 0 0),.int .i64 63]) (results_fr2 rfl _ _ w.heap.size 0 0 (.slice none 0 0) _ rfl rfl HF3.out) rfl ⟨_,by rw [HE.out];rfl,by rw [HE.out];exact browIn_nil _ _,HB3.out⟩
 ·have HE:=Lib.hid (show wholeF l kind=(zFrm,e0) by rw [HW.out];rw [if_pos (show e0≠0 by simpa using he0)])
  go_wp2_with (with_reducible refine wpList_store_fr rfl (.tmp 4) (.tmp 18) rfl w.heap.size 0 0 0 0 (.slice none 0 0) (.slice none 0 0) rfl rfl HFr.out rfl ?_)
  intro w3 hf3 ht3
  have HF3:=Lib.hid hf3
  have HB3:=Lib.hid (turned_below HB2.out ht3 (fun x hx=>by omega) HB2.out.size)
  clear hf3 ht3
  go_wp2
  refine bodyPost_ret (v:= .tuple #[frV 0 0 (.slice none 0 0),.int .i64 e0]) (results_fr2 rfl _ _ w.heap.size 0 0 (.slice none 0 0) _ rfl rfl HF3.out) rfl ⟨_,by rw [HE.out];rfl,by rw [HE.out];exact browIn_nil _ _,HB3.out⟩
end Go.Proofs.YtcglcphhfmkccaaGreatDoor

namespace Go.Proofs.YtcglcphhfmkccaaGreatDoor
open Go.RowKit
def frsGo:Nat→List UInt8→Nat→List (Nat×Frm)
 | 0,_,_=>[]
 | n+1,b,at_=>if at_<b.length∧(decF (b.drop at_)).2.2=0 then (at_,(decF (b.drop at_)).1)::frsGo n b (at_+(decF (b.drop at_)).2.1) else []
def frs (b:List UInt8):List (Nat×Frm):=frsGo b.length b 0
theorem decF_fine {b:List UInt8} (h:(decF b).2.2=0):(decF b).2.1=(decF b).1.body.length+20∧(decF b).1.body.length≤16384∧(decF b).2.1≤b.length∧1≤(decF b).1.k∧(decF b).1.k≤7∧(decF b).1.s≤1099511627776:=by
 unfold decF at h ⊢
 split at h
 ·rename_i h1;exact absurd h h1
 ·rename_i h1
  rw [if_neg h1]
  have hp:=peekF_fine (b:=b) (by simpa using h1)
  split at h
  ·exact absurd h (by decide)
  ·rename_i h2
   rw [if_neg h2]
   split at h
   ·exact absurd h (by decide)
   ·rename_i h3
    rw [if_neg h3]
    simp only [List.length_take,List.length_drop]
    omega
theorem frsGo_step {n:Nat} {b:List UInt8} {p:Nat} (h1:p<b.length) (h2:(decF (b.drop p)).2.2=0):frsGo (n+1) b p=(p,(decF (b.drop p)).1)::frsGo n b (p+(decF (b.drop p)).2.1):=by rw [frsGo,if_pos ⟨h1,h2⟩]
theorem frsGo_end {b:List UInt8} {p:Nat} (h1:b.length≤p): ∀ n,frsGo n b p=[]
 | 0=>rfl
 | n+1=>by rw [frsGo,if_neg (by omega)]
theorem frsGo_bad {b:List UInt8} {p:Nat} (h2:(decF (b.drop p)).2.2≠0): ∀ n,frsGo n b p=[]
 | 0=>rfl
 | n+1=>by rw [frsGo,if_neg (fun h=>h2 h.2)]
structure Plc where
 pos:Nat
 sz:Nat
 f:Frm
def pcCs (p:Plc) (v:Value):Array Value:= #[.int .i64 (p.pos:Int),.int .i64 (p.sz:Int),.int .i64 (p.f.k:Int),.int .i64 (p.f.s:Int),v]
@[reducible] def pcV (p : Plc) (v : Value) : Value := .agg #[.int .i64 (p.pos : Int), .int .i64 (p.sz : Int), .int .i64 (p.f.k : Int), .int .i64 (p.f.s : Int), v]
def pcCells (xs:List (Plc×Value)):List Value:=xs.flatMap fun x=>(pcCs x.1 x.2).toList
theorem pcCells_snoc (xs:List (Plc×Value)) (x:Plc×Value):pcCells (xs++[x])=pcCells xs++(pcCs x.1 x.2).toList:=by simp [pcCells]
theorem pcCells_at: ∀ (xs:List (Plc×Value)) (i:Nat) (x:Plc×Value),xs[i]? =some x→ ∀ (j:Nat) u,(pcCs x.1 x.2)[j]? =some u→(pcCells xs)[i*5+j]? =some u
 | [],i,x,h=>by simp at h
 | y::ys,0,x,h=>by
  intro j u hj
  simp at h;subst h
  have hl:j<5:=by have:=(Array.getElem?_eq_some_iff.1 hj).1;simpa [pcCs] using this
  unfold pcCells
  rw [List.flatMap_cons,Nat.zero_mul,Nat.zero_add,List.getElem?_append_left (by simpa [pcCs] using hl)]
  simpa using hj
 | y::ys,i+1,x,h=>by
  intro j u hj
  have:=pcCells_at ys i x (by simpa using h) j u hj
  unfold pcCells at this ⊢
  rw [List.flatMap_cons,List.getElem?_append_right (by simp [pcCs];omega)]
  rw [←this]
  congr 1
  simp [pcCs];omega
def PcIn (A:Nat→Prop) (w:World) (v:Value) (ps:List Plc):Prop:=
 ∃ oa cap,v= .slice oa ps.length cap∧ps.length≤cap∧cap≤maxLen∧(ps≠ []→ ∃ b off,oa=some ⟨b,off,none⟩∧A b∧ ∀ (i:Nat) p,ps[i]? =some p→ ∃ dv,w.rangeAt b (off+i*5) (pcCs p dv).toList∧BRowIn A w dv p.f.body)
theorem PcIn.shape {A:Nat→Prop} {w:World} {v:Value} {ps:List Plc} (h:PcIn A w v ps): ∃ oa cap,v= .slice oa ps.length cap∧ps.length≤cap∧cap≤9223372036854775807∧
  ∀ (i:Nat) p,ps[i]? =some p→ ∃ b off,oa=some ⟨b,off,none⟩∧A b∧ ∃ dv,w.rangeAt b (off+i*5) (pcCs p dv).toList∧BRowIn A w dv p.f.body:=by
 obtain⟨oa,cap,rfl,h2,h3,h4⟩:=h
 refine⟨oa,cap,rfl,h2,by unfold maxLen at h3;omega,fun i p hp=> ?_⟩
 obtain⟨b,off,rfl,ha,h6⟩:=h4 (by rintro rfl;simp at hp)
 exact⟨b,off,rfl,ha,h6 i p hp⟩
def PcOwn (w:World) (B:Nat) (v:Value) (xs:List (Plc×Value)):Prop:=
 w.ownsRow B 124 5 v xs.length (pcCells xs)∧ ∀ x∈xs,BRowIn (fun k=>B≤k∧k<w.heap.size∧v.ownBlock≠some k) w x.2 x.1.f.body
theorem pcOwn_nil (w:World) (B:Nat):PcOwn w B (.slice none 0 0) []:=⟨⟨rfl,.inl ⟨rfl,rfl⟩⟩,fun _ h=>by cases h⟩
theorem BRowIn.turned' {A S:Nat→Prop} {w w':World} {v:Value} {l:List UInt8} (h:BRowIn A w v l) (ht:Turned S w w') (hS: ∀ k,A k→k<w.heap.size→ ¬ S k):BRowIn A w' v l:=by
 obtain⟨oa,cap,h1,h2,h3⟩:=h
 refine⟨oa,cap,h1,h2,fun hn=> ?_⟩
 obtain⟨b,off,e,ha,hc⟩:=h3 hn
 refine⟨b,off,e,ha,fun i x hx=> ?_⟩
 have:=hc i x hx
 have hlt:b<w.heap.size:=by
  unfold World.cell? at this
  rcases Nat.lt_or_ge b w.heap.size with h | h
  ·exact h
  ·rw [Array.getElem?_eq_none h] at this;simp at this
 unfold World.cell? at this ⊢
 rw [ht.block b hlt (hS b ha hlt)]
 exact this
theorem PcOwn.turned {S:Nat→Prop} {w w':World} {B:Nat} {v:Value} {xs:List (Plc×Value)} (h:PcOwn w B v xs) (ht:Turned S w w') (hS: ∀ k,S k→k<B∨w.heap.size≤k):PcOwn w' B v xs:=by
 refine⟨⟨h.1.1,?_⟩,fun x hx=>(BRowIn.turned' (h.2 x hx) ht (fun k hk hlt hs=>by have:=hS k hs;omega)).mono fun k hk=>⟨hk.1,Nat.lt_of_lt_of_le hk.2.1 ht.size,hk.2.2⟩⟩
 rcases h.1.2 with hn | ⟨g,cap,cur,rfl,hb1,hg,rest⟩
 ·exact .inl hn
 ·have hlt:=(Array.getElem?_eq_some_iff.1 hg).1
  exact .inr ⟨g,cap,cur,rfl,hb1,by rw [ht.block _ hlt (fun hs=>by have:=hS _ hs;omega)];exact hg,rest⟩
theorem PcOwn.below {w w':World} {B:Nat} {v:Value} {xs:List (Plc×Value)} (h:PcOwn w B v xs) (hb:Below w.heap.size w w'):PcOwn w' B v xs:=
 h.turned (S:=fun _=>False) (Turned.below hb) (fun _ h=>h.elim)
theorem BRowIn.kept {A:Nat→Prop} {w w':World} {B:Nat} {v:Value} {l:List UInt8} (h:BRowIn A w v l) (hk:Kept B w w'):BRowIn A w' v l:=by
 obtain⟨oa,cap,h1,h2,h3⟩:=h
 refine⟨oa,cap,h1,h2,fun hn=> ?_⟩
 obtain⟨b,off,e,ha,hc⟩:=h3 hn
 exact⟨b,off,e,ha,fun i x hx=>hk.cell (hc i x hx)⟩
theorem PcOwn.kept {w w':World} {B B':Nat} {v:Value} {xs:List (Plc×Value)} (h:PcOwn w B v xs) (hk:Kept B' w w'):PcOwn w' B v xs:=by
 refine⟨⟨h.1.1,?_⟩,fun x hx=>((h.2 x hx).kept hk).mono fun k hk'=>⟨hk'.1,Nat.lt_of_lt_of_le hk'.2.1 hk.size,hk'.2.2⟩⟩
 rcases h.1.2 with hn | ⟨g,cap,cur,rfl,hb1,hg,rest⟩
 ·exact .inl hn
 ·exact .inr ⟨g,cap,cur,rfl,hb1,hk.blk hg,rest⟩
theorem PcOwn.pcIn {A:Nat→Prop} {w:World} {B:Nat} {v:Value} {xs:List (Plc×Value)} (h:PcOwn w B v xs) (hA: ∀ k,B≤k→A k):PcIn A w v (xs.map (·.1)):=by
 by_cases hn:xs=[]
 ·subst hn
  rcases h.1.2 with⟨rfl,_⟩ | ⟨g,cap,cur,rfl,_,_,h1,h2,_⟩
  ·exact⟨none,0,rfl,Nat.le_refl _,by decide,fun h=>absurd rfl h⟩
  ·exact⟨_,cap,rfl,h1,h2,fun h=>absurd rfl h⟩
 ·obtain⟨g,cap,rfl,hB,_,h1,h2,h3⟩:=own_get h.1 (List.length_pos_iff.2 hn)
  refine⟨_,cap,by rw [List.length_map],by rw [List.length_map];exact h1,h2,fun _=>⟨g,0,rfl,hA g hB,fun i p hp=> ?_⟩⟩
  rw [List.getElem?_map] at hp
  obtain⟨x,hx,rfl⟩:=Option.map_eq_some_iff.1 hp
  exact⟨x.2,fun j u hj=>by rw [Nat.zero_add];exact h3 _ _ (pcCells_at xs i x hx j u (by simpa using hj)),(h.2 x (List.mem_of_getElem? hx)).mono fun k hk=>hA k hk.1⟩
theorem pcInfo:(Tryz.prog.info? 124).map (·.size)=some 5:=by kernel_rfl
def zeroPc:Value:= .agg #[.int .i64 0,.int .i64 0,.int .i64 0,.int .i64 0,.slice none 0 0]
theorem infoPc:(Tryz.prog.info? 124).map (fun i=>(i.zero,i.size,i.bytes))=some (some zeroPc,5,56):=by kernel_rfl
theorem run_append_ownB {P:Program} (w:World) (base:Nat) (t ty e:TypeId) (i:TypeInfo) (z:Value) (size bytes:Nat) (ht:P.underlying t=some (.slice e)) (hi:P.info? e=some i) (hz:i.zero=some z)
  (hsize:i.size=size) (hby:i.bytes=bytes) (hzs:z.cells.size=size) (hsz:0<size) (v:Value) (n:Nat) (xs:List Value) (hown:w.ownsRow base e size v n xs)
  (a:Addr) (m c:Nat) (news:List Value) (hl:news.length=m*size) (hnews: ∀ j u,news[j]? =some u→w.cell? (a.add j)=some u) (h1: ∀ u∈news,u.oneCell'=true)
  (h63:n+m≤maxLen) (hbytes:(n+m)*bytes≤140737488355328) (hbase:base≤w.heap.size) (hm:0<m):
  ∃ v' w',(Builtin.append_ #[t,t] ty #[v,.slice (some a) m c]).run P w= .ok v' w'∧w'.ownsRow base e size v' (n+m) (xs++news)∧w.grownBy w' v.ownBlock∧(v'.ownBlock=v.ownBlock∨v'.ownBlock=some w.heap.size):=by
 obtain⟨v',w',hr,h2,h3,_⟩:=run_append_own (P:=P) w base t ty e i z size bytes ht hi hz hsize hby hzs hsz v n xs hown a m c news hl hnews h1 h63 hbytes hbase
 refine⟨v',w',hr,h2,h3,?_⟩
 subst hsize
 subst hby
 have hsmall:n+m≤9223372036854775807:=by simp only [maxLen] at h63;omega
 rcases hown.2 with⟨rfl,rfl⟩ | ⟨g,cap,cur,rfl,hbg,hg,hnc,hcm,hcs,htake⟩
 ·have h:=run_append_nil (P:=P) w t ty e i z ht hi hz a m c news hl hnews (by omega) (by omega) (by have hb:=hbytes;simp only [Nat.zero_add] at hb;omega)
  rw [hr] at h
  injection h with h _
  right;rw [h];rfl
 ·by_cases hroom:n+m≤cap
  ·have hfit:n*i.size+news.length≤cur.size:=by rw [hl,hcs,←Nat.add_mul];exact Nat.mul_le_mul_right _ hroom
   have h:=run_append_room (P:=P) w t ty e i ht hi g n cap cur hg a m c news hl hnews h1 hroom hfit
   rw [hr] at h
   injection h with h _
   left;rw [h];rfl
  ·have holds: ∀ j u,xs[j]? =some u→w.cell? ((⟨g,0,none⟩:Addr).add j)=some u:=hown.cells (g:=g) rfl
   have h:=run_append_grow (P:=P) w t ty e i z ht hi hz ⟨g,0,none⟩ n cap xs hown.1 holds a m c news hl hnews (by omega) (by omega) (growslice_fits (by omega) hbytes)
   rw [hr] at h
   injection h with h _
   right;rw [h];rfl
theorem wpList_append_ownB {P:Program} (w:World) {ops:Array Oper} {rest:List Oper} {o:Oper} {a:Act} {Q:Exit→Act→World→Prop} (hgd:o.guard=none) (s x:Operand) (t:TypeId)
  (ho:o.op= .call {callee:= .builtin .append,args:= #[s,x],argTypes:= #[t,t]})
  (base:Nat) (e:TypeId) (i:TypeInfo) (z:Value) (size bytes:Nat) (ht:P.underlying t=some (.slice e)) (hi:P.info? e=some i) (hz:i.zero=some z)
  (hsize:i.size=size) (hby:i.bytes=bytes) (hzs:z.cells.size=size) (hsz:0<size)
  (v:Value) (n:Nat) (xs:List Value) (hs:a.eval s=v) (hown:w.ownsRow base e size v n xs)
  (ad:Addr) (m c:Nat) (news:List Value) (hx:a.eval x= .slice (some ad) m c) (hl:news.length=m*size) (hnews: ∀ j u,news[j]? =some u→w.cell? (ad.add j)=some u) (h1: ∀ u∈news,u.oneCell'=true)
  (h63:n+m≤maxLen) (hbytes:(n+m)*bytes≤140737488355328) (hbase:base≤w.heap.size) (hm:0<m)
  (h: ∀ v' w',w'.ownsRow base e size v' (n+m) (xs++news)→w.grownBy w' v.ownBlock→(v'.ownBlock=v.ownBlock∨v'.ownBlock=some w.heap.size)→wpList P ops Q rest (a.put o.dst v') w'):wpList P ops Q (o::rest) a w:=
 wpList_plain hgd fun K hK=>by
  obtain⟨v',w',hr,h2,h3,h4⟩:=run_append_ownB (P:=P) w base t o.type e i z size bytes ht hi hz hsize hby hzs hsz v n xs hown ad m c news hl hnews h1 h63 hbytes hbase hm
  unfold Oper.wp execOp
  simp only [ho,resolve,invoke,builtin,Sem.run_bind,Sem.run_pure,Result.andThen_ok,List.map_toArray,List.map_cons,List.map_nil,hs,hx,hr]
  exact hK _ _ (h v' w' h2 h3 h4)
theorem wpList_appPl {ops:Array Oper} {rest:List Oper} {o:Oper} {a:Act} {Q:Exit→Act→World→Prop} {w:World} (hgd:o.guard=none) (s y:Operand) (ho:o.op= .call {callee:= .builtin .append,args:= #[s,y],argTypes:= #[89,89]}) {B:Nat} {v:Value} {xs:List (Plc×Value)} {p:Plc} {dv:Value}
  (hs:a.eval s=v) (hy:a.eval y= .slice (some ⟨w.heap.size,0,none⟩) 1 1) (hown:PcOwn w B v xs) (hB:B≤w.heap.size) (hd:BRowIn (fun k=>B≤k∧k<w.heap.size∧v.ownBlock≠some k) w dv p.f.body) (hl:xs.length+1≤1000000000)
  (h: ∀ v' w',PcOwn w' B v' (xs++[(p,dv)])→Below B w w'→Turned (fun k=>v.ownBlock=some k) w w'→v'.oneCell'=true→wpList Tryz.prog ops Q rest (a.put o.dst v') w'):wpList Tryz.prog ops Q (o::rest) a (w.alloc (.cells #[.int .i64 (p.pos:Int),.int .i64 (p.sz:Int),.int .i64 (p.f.k:Int),.int .i64 (p.f.s:Int),dv] 124)):=by
 obtain⟨i0,hi,hz0,hz1,hz2⟩:=info_parts infoPc
 have hb:=below_alloc w (.cells #[.int .i64 (p.pos:Int),.int .i64 (p.sz:Int),.int .i64 (p.f.k:Int),.int .i64 (p.f.s:Int),dv] 124)
 have h1d:dv.oneCell'=true:=by obtain⟨_,_,e,_,_⟩:=hd;rw [e];rfl
 refine wpList_append_ownB _ hgd s y 89 ho B 124 i0 zeroPc 5 56 Tryz.underlying89 hi hz0 hz1 hz2 rfl (by decide) v xs.length (pcCells xs) hs (own_later hown.1 hb) ⟨w.heap.size,0,none⟩ 1 1 (pcCs p dv).toList hy rfl (fun j u hj=> ?_) (fun u hu=> ?_) (by unfold maxLen;omega) (by omega) (Nat.le_trans hB hb.size) (by decide) ?_
 ·rw [addr_add,Nat.zero_add,World.cell?_alloc_new]
  simpa [pcCs] using hj
 ·simp [pcCs] at hu;rcases hu with rfl | rfl | rfl | rfl | rfl
  ·rfl
  ·rfl
  ·rfl
  ·rfl
  ·exact h1d
 ·intro v' w' hown' hg hnew
  have hb2:=below_of_grown (own_later hown.1 hb) (Nat.le_trans hB hb.size) hg
  have hrow: ∀ (x:Value) (l:List UInt8),BRowIn (fun k=>B≤k∧k<w.heap.size∧v.ownBlock≠some k) w x l→BRowIn (fun k=>B≤k∧k<w'.heap.size∧v'.ownBlock≠some k) w' x l:=fun x l hx=>by
   obtain⟨oa,cap,e1,e2,e3⟩:=hx.below hb
   refine⟨oa,cap,e1,e2,fun hn=> ?_⟩
   obtain⟨b,off,e4,ha,hc⟩:=e3 hn
   refine⟨b,off,e4,⟨ha.1,Nat.lt_of_lt_of_le ha.2.1 (Nat.le_trans hb.size hg.size),fun e=> ?_⟩,fun i u hu=>hg.cell (hc i u hu) fun e=>ha.2.2 e.symm⟩
   have:=ha.2.1
   rcases hnew with h | h
   ·rw [h] at e;exact ha.2.2 e
   ·rw [h] at e
    have e':=Option.some.inj e
    have:=hb.size
    omega
  have hone:v'.oneCell'=true:=by obtain⟨_,_,e,_⟩:=own_shape hown';rw [e];rfl
  refine h v' w' ⟨?_,fun x hx=> ?_⟩ ((hb.mono hB).trans hb2) ⟨hg.os.trans hb.os,hg.tape.trans hb.tape,hg.output.trans hb.output,Nat.le_trans hb.size hg.size,fun k hk hne=> ?_⟩ hone
  ·rw [List.length_append,pcCells_snoc]
   exact hown'
  ·rcases List.mem_append.1 hx with hx | hx
   ·exact hrow _ _ (hown.2 x hx)
   ·simp at hx;rw [hx];exact hrow _ _ hd
  ·rw [hg.block k (Nat.lt_of_lt_of_le hk hb.size) (fun e=>hne e.symm)]
   exact hb.block k hk
end Go.Proofs.YtcglcphhfmkccaaGreatDoor

namespace Go.Proofs.YtcglcphhfmkccaaGreatDoor
open Go.RowKit
attribute [local go_sem] Oper.semAt_some
def EachKeep (g:Nat) (v:Value) (b:List UInt8) (W:World):Prop:=W.cell? ⟨g,0,none⟩=some v∧BRow W v b∧NibTab W
abbrev FrX:=Nat×Frm×Value
def frEnc (x:FrX):Array Value:= #[.int .i64 (x.1:Int),frV (x.2.1.k:Int) (x.2.1.s:Int) x.2.2]
def frOf (xs:List FrX):List (Nat×Frm):=xs.map fun x=>(x.1,x.2.1)
def FrR (b:List UInt8) (pre:List FrX) (x:FrX) (Wo W:World):Prop:=frOf (pre++[x]) <+: frs b∧BRowIn (fun k=>Wo.heap.size≤k∧k<W.heap.size) W x.2.2 x.2.1.body∧x.2.1.body.length≤16384∧x.1≤9223372036854775807∧x.2.1.k≤7∧x.2.1.s≤1099511627776
theorem frOf_snoc (xs:List FrX) (x:FrX):frOf (xs++[x])=frOf xs++[(x.1,x.2.1)]:=by simp [frOf]
theorem Kept.ofBelow {B:Nat} {W W':World} (h:Below W.heap.size W W'):Kept B W W':=⟨h.os,h.tape,h.output,h.size,fun k _ hk _=>(h.block k (Array.getElem?_eq_some_iff.1 hk).1).trans hk⟩
theorem each_any (oa:Option Addr) (n cap:Nat) (w:World):Calls Tryz.prog 64 #[.slice oa n cap] w fun e w'=>e= .returned (.func (.func 102) #[] #[.pointer (some ⟨w.heap.size,0,none⟩)])∧w'=w.alloc (.cells #[.slice oa n cap] 45):=by
 have hmk: ∀ (fn:Fn) (first cap:Array Value) (W:World),(Instr.makeFunc fn first cap).run Tryz.prog W= .ok (.func fn first cap) W:=fun _ _ _ _=>rfl
 go_enter Tryz.func64,Tryz.ntmps64
 go_wp2
 go_ret
 exact⟨rfl,rfl⟩
set_option maxRecDepth 100000 in
set_option maxHeartbeats 4000000 in
theorem each1_seq (b:List UInt8) (oa:Option Addr) (cap g:Nat) (w:World) (Kp:World→World→Prop) (hl:b.length≤4611686018427387904) (Kd:World→Prop) (hE:Kd w) (hKE: ∀ W,Kd W→EachKeep g (.slice oa b.length cap) b W) (hKB: ∀ W W',Kd W→Below W.heap.size W W'→Kd W')
  (hK: ∀ W W',w.heap.size≤W.heap.size→Kd W→Kp W W'→Kd W'∧W.heap.size≤W'.heap.size):
  SeqR Tryz.prog 102 #[.pointer (some ⟨g,0,none⟩)] frEnc (FrR b) Kp (fun xs=>frOf xs=frs b) (fun pre=>pre≠ []∧frOf pre <+: frs b) w:=fun l J Jx W hW hJ hJx hY h0=>by
 have HE:=Lib.hid (hKB _ _ hE hW)
 have HKE:=Lib.hid hKE
 have HKB:=Lib.hid hKB
 have HW:=Lib.hid hW
 have HK:=Lib.hid hK
 have HY:=Lib.hid hY
 have HJ:=Lib.hid hJ
 have H0:=Lib.hid h0
 clear hE hK hKE hKB hY hJ hJx h0 hW
 refine callsIn_of_wp Tryz.func102 rfl trivial ?_ rfl
 simp only [Tryz.ntmps102,List.size_toArray,List.length_cons,List.length_nil,Nat.reduceAdd,Nat.reduceSub,Array.replicate_succ,Array.replicate_zero,List.push_toArray,List.append_toArray,List.nil_append,List.cons_append]
 gi_wp2
 gi_loopw [3] (fun i wr=> ∃ (p n:Nat) (pre:List FrX),i= .int .i64 (p:Int)∧Hid (J pre wr)∧Hid (Kd wr)∧Hid (W.heap.size≤wr.heap.size)∧p≤b.length∧Hid (b.length - p≤n∧frs b=frOf pre++frsGo n b p)) (fun i _=>b.length - (intOf i).toNat)
 case atStart=>exact⟨0,b.length,[],rfl,H0,HE,Lib.hid (Nat.le_refl _),Nat.zero_le _,Lib.hid ⟨by omega,rfl⟩⟩
 case round=>
  obtain⟨p,n,pre,rfl,HJr,HEr,HSr,hp,HFr⟩:=hrel
  clear H0 HE
  have c0:=(HKE.out _ HEr.out).1
  by_cases hlt:p<b.length
  ·have q1:(p:Int)<(b.length:Int):=by omega
   have hlc:b.length≤cap:=by obtain⟨_,_,e,h,_⟩:=(HKE.out _ HEr.out).2.1;simp only [Value.slice.injEq,true_and] at e;obtain⟨_,rfl⟩:=e;exact h
   have hcp: ¬ cap=p:=by omega
   have HBR:=Lib.hid (show BRow wr (.slice (oa.map fun x=>x.add p) (b.length - p) (cap - p)) (b.drop p) by
    have h:=brow_cut (lo:=p) (hi:=b.length) (mx:=cap) (HKE.out _ HEr.out).2.1 (by omega) (Nat.le_refl _) hlc
    rw [List.take_length] at h
    simpa [sliced,hcp] using h)
   clear hlc
   have HDV:=Lib.hid (fun oa' cap' (hv:BRow wr (.slice oa' (b.length - p) cap') (b.drop p))=>frameDec_any (b.drop p) _ wr hv (by rw [List.length_drop];omega) (HKE.out _ HEr.out).2.2)
   have HFN:=Lib.hid (@decF_fine (b.drop p))
   have HST:=Lib.hid (fun h2=> @frsGo_step (n - 1) b p hlt h2)
   have HBD:=Lib.hid (fun h2=> @frsGo_bad b p h2 n)
   obtain⟨r,hr⟩: ∃ r,r=decF (b.drop p):=⟨_,rfl⟩
   rw [←hr] at HDV HFN HST HBD
   clear hr
   obtain⟨⟨k,s,body⟩,sz,e0⟩:=r
   unfold DecPost at HDV
   gi_wp2_with fail
   refine⟨trivial,(callsIn_wide.2 (HDV.out _ _ HBR.out)).mono ?_⟩
   rintro e w2 ⟨bv,rfl,hbv,hb2⟩
   have HB2:=Lib.hid hb2
   have HBV:=Lib.hid hbv.low1
   obtain⟨ob,bcap,rfl,hbl,_⟩:=hbv
   have HB3:=Lib.hid (hb2.trans ((below_alloc w2 (.cells (frCs (k:Int) (s:Int) (.slice ob body.length bcap)) 105)).mono hb2.size))
   have HF3:=Lib.hid (frBlk_alloc w2 (k:Int) (s:Int) (.slice ob body.length bcap))
   have HV3:=Lib.hid (HBV.out.below (below_alloc w2 (.cells (frCs (k:Int) (s:Int) (.slice ob body.length bcap)) 105)))
   simp only [frCs] at HB3 HF3 HV3
   clear hb2 HBR HDV
   rcases he0:(e0 != 0) with _ | _
   ·have he00:e0=0:=by simpa using he0
    subst he00
    obtain⟨hz,hbl2,hzl,hk1,hk7,hs1⟩:=HFN.out rfl
    have HFS:=Lib.hid (HST.out rfl)
    obtain⟨n',hn'⟩: ∃ n',n=n'+1:=⟨n - 1,by have:=HFr.out.1;omega⟩
    have HN:=Lib.hid hn'
    have HZ:=Lib.hid hz
    rw [List.length_drop] at hzl
    have hps:p+sz≤b.length:=by omega
    have hwp:IntKind.i64.wrap ((p:Int)+(sz:Int))=((p+sz:Nat):Int):=by rw [IntKind.wrap_i64];omega
    have HPX:=Lib.hid (show frOf (pre++[(p,⟨k,s,body⟩,.slice ob body.length bcap)]) <+: frs b by
     rw [HFr.out.2,HN.out,frOf_snoc]
     have h:=HFS.out
     rw [HN.out,Nat.add_sub_cancel] at h
     rw [h]
     exact(List.prefix_append_right_inj _).2 ⟨_,rfl⟩)
    have HR:=Lib.hid (show FrR b pre (p,⟨k,s,body⟩,.slice ob body.length bcap) wr (w2.alloc (.cells #[.int .i64 (k:Int),.int .i64 (s:Int),.slice ob body.length bcap] 105)) from
     ⟨HPX.out,HV3.out.mono fun x hx=>⟨by have:=hx.1;omega,by have:=hx.2;simp;omega⟩,hbl2,by show p≤_;omega,hk7,hs1⟩)
    have HS3:=Lib.hid (Nat.le_trans HSr.out HB3.out.size)
    have HE3:=Lib.hid (HKB.out _ _ HEr.out HB3.out)
    have HW3:=Lib.hid (Nat.le_trans HW.out.size HS3.out)
    have c00:=HF3.out.c0
    have c01:=HF3.out.c1
    have c02:=HF3.out.c2
    have hy0:=HY.out pre (p,⟨k,s,body⟩,.slice ob body.length bcap) wr _ HJr.out HSr.out (Kept.ofBelow HB3.out) HR.out
    obtain⟨fn,tmps,assign,body',hy,hR⟩:=hy0
    simp only [frEnc] at hy
    clear hz hzl hn' HFN HST HBD hbl
    gi_wp2
    refine hR.mono ?_
    rintro e W3 (⟨rfl,hJ3,hk3⟩ | ⟨rfl,hJx3⟩)
    ·obtain⟨hE3,hs3⟩:=HK.out _ _ HW3.out HE3.out hk3
     have HE4:=Lib.hid hE3
     have HS4:=Lib.hid (Nat.le_trans HS3.out hs3)
     have HJ4:=Lib.hid hJ3
     clear hE3 hs3 hJ3 hk3 hy hR HE3 c00 c01 c02 HF3 HV3 HB3 HBV
     gi_wp2
     go_roundw
     case rel=>exact⟨p+sz,n',pre++[(p,⟨k,s,body⟩,.slice ob body.length bcap)],by go_num,HJ4,HE4,HS4,hps,Lib.hid ⟨by have:=HFr.out.1;have:=HN.out;have:=HZ.out;omega,by rw [HFr.out.2,HN.out,frOf_snoc];have h:=HFS.out;rw [HN.out,Nat.add_sub_cancel] at h;rw [h,List.append_assoc];rfl⟩⟩
     case measure=>have:=HZ.out;simp [intOf];omega
    ·gi_wp2
     refine bodyPost_ret (results_none rfl _ _ _) rfl ?_
     exact⟨⟨_,rfl⟩,.inr ⟨_,⟨by simp,HPX.out⟩,hJx3⟩⟩
   ·have HFE:=Lib.hid (show frOf pre=frs b by rw [HFr.out.2,HBD.out (by simpa using he0),List.append_nil])
    have HJ3:=Lib.hid (HJ.out _ _ _ HJr.out (Kept.ofBelow HB3.out))
    clear HF3 HV3 HBV HB3 HFN HST HBD
    gi_wp2
    refine⟨fun f h=>(by cases h),?_⟩
    gi_wp2
    refine bodyPost_ret (results_none rfl _ _ _) rfl ?_
    exact⟨⟨_,rfl⟩,.inl ⟨_,HFE.out,HJ3.out⟩⟩
  ·obtain rfl:p=b.length:=by omega
   have HFE:=Lib.hid (show frOf pre=frs b by rw [HFr.out.2,frsGo_end (Nat.le_refl _),List.append_nil])
   gi_wp2
   go_end0
   exact⟨⟨_,rfl⟩,.inl ⟨_,HFE.out,HJr.out⟩⟩
end Go.Proofs.YtcglcphhfmkccaaGreatDoor

namespace Go.Proofs.YtcglcphhfmkccaaGreatDoor
open Go.RowKit
def PlcBlk (w:World) (g:Nat) (p:Plc) (v:Value):Prop:=w.heap[g]? =some (.cells (pcCs p v) 124 (0,0))
theorem PlcBlk.lt {w:World} {g:Nat} {p:Plc} {v:Value} (h:PlcBlk w g p v):g<w.heap.size:=(Array.getElem?_eq_some_iff.1 h).1
theorem PlcBlk.cell {w:World} {g:Nat} {p:Plc} {v:Value} (h:PlcBlk w g p v) (j:Nat):w.cell? ⟨g,j,none⟩=(pcCs p v)[j]? :=cell_of_row w g j _ _ _ h
theorem pcCs_all (p:Plc) (v:Value) (h:v.oneCell'=true):(pcCs p v).all (·.oneCell')=true:=
 Array.all_eq_true_iff_forall_mem.2 (by
  intro u hu
  simp only [pcCs,List.mem_toArray,List.mem_cons,List.not_mem_nil,or_false] at hu
  rcases hu with rfl | rfl | rfl | rfl | rfl<;>first | rfl | assumption)
theorem run_load_plc {w:World} {g:Nat} {p:Plc} {v:Value} (hE:PlcBlk w g p v):(loadVar 124 ⟨g,0,none⟩).run Tryz.prog w= .ok (pcV p v) w:=
 run_loadVar_row (P:=Tryz.prog) w g 124 124 (pcCs p v) (0,0) _ hE Tryz.underlying124 rfl pcInfo
theorem wpList_load_plc {ops:Array Oper} {rest:List Oper} {o:Oper} {a:Act} {w:World} {Q:Exit→Act→World→Prop} (hgd:o.guard=none) (x:Operand) (ho:o.op= .load 124 x)
  (g:Nat) (p:Plc) (v:Value) (hx:a.eval x= .pointer (some ⟨g,0,none⟩)) (hE:PlcBlk w g p v)
  (h:wpList Tryz.prog ops Q rest (a.put o.dst (pcV p v)) w):wpList Tryz.prog ops Q (o::rest) a w:=
 wpList_load_row hgd 124 x ho g hx 124 (pcCs p v) (0,0) _ hE Tryz.underlying124 rfl pcInfo h
theorem results_plc1 {fn:Func} {r:Tmp} (h:fn.results= #[.cell r 124]) (tmps:Array Value) (w:World) (g:Nat) (p:Plc) (v:Value)
  (hr:tmps.getD r undef= .pointer (some ⟨g,0,none⟩)) (hE:PlcBlk w g p v):(results fn tmps).run Tryz.prog w= .ok (pcV p v) w:=by
 have hl:=run_load_plc hE
 have hr':tmps[r]?.getD undef= .pointer (some ⟨g,0,none⟩):=by simpa using hr
 simp [results,h,hr',asAddr,hl]
set_option maxRecDepth 100000 in
set_option maxHeartbeats 2000000 in
theorem placed_any (pos z k s:Nat) (body:List UInt8) (oa:Option Addr) (cap:Nat) (w:World) (hl:body.length≤16384) (hz:Hid (z=body.length+20)):
  Calls Tryz.prog 65 #[.int .i64 (pos:Int),frV (k:Int) (s:Int) (.slice oa body.length cap)] w fun e w'=>e= .returned (pcV ⟨pos,z,⟨k,s,body⟩⟩ (.slice oa body.length cap))∧Below w.heap.size w w':=by
 have HB:=Lib.hid (Below.next (below_alloc w (.cells (frCs (k:Int) (s:Int) (.slice oa body.length cap)) 105)) (below_alloc _ (.cells #[.int .i64 0,.int .i64 0,.int .i64 0,.int .i64 0,.slice none 0 0] 124)))
 have HF:=Lib.hid ((frBlk_alloc w (k:Int) (s:Int) (.slice oa body.length cap)).below (below_alloc _ (.cells #[.int .i64 0,.int .i64 0,.int .i64 0,.int .i64 0,.slice none 0 0] 124)))
 have HZ:=Lib.hid (heap_alloc_new (w.alloc (.cells (frCs (k:Int) (s:Int) (.slice oa body.length cap)) 105)) (.cells #[.int .i64 0,.int .i64 0,.int .i64 0,.int .i64 0,.slice none 0 0] 124))
 rw [show (w.alloc (.cells (frCs (k:Int) (s:Int) (.slice oa body.length cap)) 105)).heap.size=w.heap.size+1 by simp] at HZ
 have HS:=Lib.hid (fun W=>frameSize_any body.length W hl)
 rw [←hz.out] at HS
 simp only [frCs] at HB HF HZ
 go_enter Tryz.func65,Tryz.ntmps65
 go_wp2_with fail
 generalize (w.alloc (.cells #[.int .i64 (k:Int),.int .i64 (s:Int),.slice oa body.length cap] 105)).alloc (.cells #[.int .i64 0,.int .i64 0,.int .i64 0,.int .i64 0,.slice none 0 0] 124)=W1 at*
 have HS1:=Lib.hid (show w.heap.size+2≤W1.heap.size by have:=(Array.getElem?_eq_some_iff.1 HZ.out).1;omega)
 have HFB:=Lib.hid (fun W (h:Below (w.heap.size+1) W1 W)=>(show FrBlk W w.heap.size (k:Int) (s:Int) (.slice oa body.length cap) by unfold FrBlk;rw [h.block _ (by omega)];exact HF.out))
 refine wp_region_held_drew (S:=fun w'=>Below (w.heap.size+1) W1 w') (by kernel_rfl) ((below_drewN' W1 1).mono (by have:=HS1.out;omega)) (fun hHeld=> ?_)
 have FX1:=Lib.hid (fun(wF:World) (hSw:(fun w'=>Below (w.heap.size+1) W1 w') wF)=>((HFB.out _ hSw).c2))
 refine tf FX1 0 rfl ?_
 refine tf FX1 1 rfl ?_
 refine tf FX1 2 rfl ?_
 refine tf FX1 3 rfl ?_
 clear FX1
 refine tkl 5 w.heap.size 0 [.int .i64 (k:Int),.int .i64 (s:Int),.slice oa body.length cap] rfl rfl (fun w' h j u hu=>by rw [Nat.zero_add,cell_of_row w' _ j _ _ _ (HFB.out _ h)];simpa [frCs] using hu) Tryz.underlying105 rfl frInfo ?_
 simp only [pA,pB,pC,pD]
 refine wpAnyH_ready (rs:=[4]) (by kernel_rfl) (by simp) ?_
 refine AllReadyH.cons rfl (fun K hK=> ?_) AllReadyH.nil
 go_simp
 go_at_call 103
 refine(HS.out _).mono ?_
 rintro e w1 ⟨rfl,rfl⟩
 go_wp2_with fail
 refine hK.out _ _ hHeld (fun hHeld=> ?_)
 clear hK K
 refine tq 6 rfl ?_
 refine wpAnyH_ready (rs:=[7]) (by kernel_rfl) (by simp) ?_
 refine AllReadyH.cons rfl (fun K hK=> ?_) AllReadyH.nil
 rw [if_pos (by kernel_rfl)]
 have HZ2:=Lib.hid (show (W1.drew).heap[w.heap.size+1]? =some (.cells #[.int .i64 0,.int .i64 0,.int .i64 0,.int .i64 0,.slice none 0 0] 124 (0,0)) from HZ.out)
 refine wp_store_row 124 (.tmp 4) (.tmp 11) rfl (w.heap.size+1) (pcCs ⟨pos,z,⟨k,s,body⟩⟩ (.slice oa body.length cap)) rfl rfl 124 #[.int .i64 0,.int .i64 0,.int .i64 0,.int .i64 0,.slice none 0 0] HZ2.out pcInfo rfl (pcCs_all _ _ rfl) ?_
 refine hK.out _ _ (below_row ((below_drewN' W1 1).mono (by have:=HS1.out;omega)) (Nat.le_refl _) _) (fun _=> ?_)
 clear hK K
 refine wpAnyH_done (by kernel_rfl) ?_ _
 go_wp2
 refine bodyPost_ret (v:=pcV ⟨pos,z,⟨k,s,body⟩⟩ (.slice oa body.length cap)) (results_plc1 rfl _ _ (w.heap.size+1) ⟨pos,z,⟨k,s,body⟩⟩ _ rfl ?_) rfl ⟨rfl,?_⟩
 ·exact setRow_heap _ _ _ _ _ _ HZ2.out
 ·exact below_row (HB.out.trans ((below_drewN' W1 1).mono (by have:=HS1.out;omega))) (by omega) _
end Go.Proofs.YtcglcphhfmkccaaGreatDoor

namespace Go.Proofs.YtcglcphhfmkccaaGreatDoor
open Go.RowKit
attribute [local go_sem] Oper.semAt_some
theorem frsGo_len: ∀ (n:Nat) (b:List UInt8) (p:Nat),(frsGo n b p).length≤n
 | 0,_,_=>Nat.le_refl _
 | n+1,b,p=>by
  rw [frsGo]
  split
  ·have:=frsGo_len n b (p+(decF (b.drop p)).2.1)
   simp only [List.length_cons];omega
  ·exact Nat.zero_le _
theorem frs_len (b:List UInt8):(frs b).length≤b.length:=frsGo_len _ _ _
theorem frsGo_mem: ∀ (n:Nat) (b:List UInt8) (p:Nat) (x:Nat×Frm),x∈frsGo n b p→x.1+x.2.body.length+20≤b.length∧x.2.body.length≤16384
 | 0,_,_,x=>by intro h;cases h
 | n+1,b,p,x=>by
  intro h
  rw [frsGo] at h
  split at h
  ·rename_i hc
   rcases List.mem_cons.1 h with rfl | h
   ·have:=decF_fine hc.2
    rw [List.length_drop] at this
    simp only
    omega
   ·exact frsGo_mem n b _ x h
  ·cases h
theorem frs_mem {b:List UInt8} {x:Nat×Frm} (h:x∈frs b):x.1+x.2.body.length+20≤b.length∧x.2.body.length≤16384:=frsGo_mem _ _ _ _ h
def lastEnd (d:Nat):List (Nat×Frm)→Nat
 | []=>d
 | x::r=>lastEnd (x.1+x.2.body.length+20) r
theorem lastEnd_snoc: ∀ (xs:List (Nat×Frm)) (d:Nat) (x:Nat×Frm),lastEnd d (xs++[x])=x.1+x.2.body.length+20
 | [],_,_=>rfl
 | _::r,_,x=>lastEnd_snoc r _ x
theorem lastEnd_le {b:List UInt8}: ∀ (xs:List (Nat×Frm)) (d:Nat),d≤b.length→(∀ x∈xs,x.1+x.2.body.length+20≤b.length)→lastEnd d xs≤b.length
 | [],_,h,_=>h
 | x::r,_,_,h2=>lastEnd_le r _ (h2 x List.mem_cons_self) fun y hy=>h2 y (List.mem_cons_of_mem _ hy)
def plcs (b0:Nat) (xs:List (Nat×Frm)):List Plc:=xs.map fun x=>⟨b0+x.1,x.2.body.length+20,x.2⟩
def plX (b0:Nat) (pre:List FrX):List (Plc×Value):=pre.map fun x=>(⟨b0+x.1,x.2.1.body.length+20,x.2.1⟩,x.2.2)
theorem plX_snoc (b0:Nat) (pre:List FrX) (x:FrX):plX b0 (pre++[x])=plX b0 pre++[(⟨b0+x.1,x.2.1.body.length+20,x.2.1⟩,x.2.2)]:=by simp [plX]
theorem plX_fst (b0:Nat) (pre:List FrX):(plX b0 pre).map (·.1)=plcs b0 (frOf pre):=by simp [plX,plcs,frOf]
def scanAll (b:List UInt8):List Plc×Nat×Int:=
 (plcs 0 (frs b),lastEnd 0 (frs b),if lastEnd 0 (frs b)=b.length then 0 else (decF (b.drop (lastEnd 0 (frs b)))).2.2)
def AllP (w:World) (r:List Plc×Nat×Int) (e:Ending) (w':World):Prop:= ∃ v,e= .returned (.tuple #[v,.int .i64 (r.2.1:Int),.int .i64 r.2.2])∧PcIn (fun k=>w.heap.size≤k) w' v r.1∧Below w.heap.size w w'
theorem keepsFrom_turned {S:Nat→Prop} {B:Nat} {W W':World} (ht:Turned S W W') (hS: ∀ k o,B≤k→S k→W.heap[k]? =some o→o.isCells=true):KeepsFrom B W W':=
 ⟨ht.size,fun k o hB hk ho=>(ht.block k (Array.getElem?_eq_some_iff.1 hk).1 (fun hs=>by have:=hS k o hB hs hk;rw [ho] at this;cases this)).trans hk⟩
theorem Turned.kept {S:Nat→Prop} {B:Nat} {X W W':World} (ht:Turned S X W) (hk:Kept B W W') (hB:X.heap.size≤B):Turned S X W':=
 ⟨hk.os.trans ht.os,hk.tape.trans ht.tape,hk.output.trans ht.output,Nat.le_trans ht.size hk.size,fun k hlt hs=>by
  have h1:=ht.block k hlt hs
  rcases hx:X.heap[k]? with _ | o
  ·rw [Array.getElem?_eq_getElem hlt] at hx;cases hx
  ·rw [hx] at h1;exact hk.block k o h1 (.inl (by omega))⟩
def ScI (B g5 g6 b0:Nat) (b:List UInt8) (X:World) (pre:List FrX) (W:World):Prop:=
 ∃ v,W.heap[g5]? =some (.cells #[v] 89 (0,0))∧W.heap[g6]? =some (.cells #[.int .i64 ((b0+lastEnd 0 (frOf pre):Nat):Int)] 3 (0,0))∧PcOwn W B v (plX b0 pre)∧frOf pre <+: frs b∧Turned (fun k=>k=g5∨k=g6) X W
theorem ScI.kept {B g5 g6 b0:Nat} {b:List UInt8} {X:World} (hB:X.heap.size≤B):AbidesK B (ScI B g5 g6 b0 b X):=fun _ _ _ ⟨v,h1,h2,h3,h4,h5⟩ hk=>⟨v,hk.blk h1,hk.blk h2,h3.kept hk,h4,h5.kept hk hB⟩
def ScK (B g5 g6:Nat) (W W':World):Prop:=Turned (fun k=>k=g5∨k=g6∨B≤k) W W'
theorem ScK.trans {B g5 g6:Nat} {A C D:World} (h:ScK B g5 g6 A C) (k:ScK B g5 g6 C D):ScK B g5 g6 A D:=Turned.trans h k fun _ h=> .inl h
theorem ScK.put {B g5 g6:Nat} (W:World) (l:Nat) (o o':Obj) (hl:B≤l) (_:W.heap[l]? =some o) (_:o.isCells=false):ScK B g5 g6 W (W.putObj l o'):=
 ⟨rfl,rfl,rfl,by simp,fun k _ hk=>World.putObj_heap_other (by intro e;subst e;exact hk (.inr (.inr hl)))⟩
set_option maxRecDepth 100000 in
set_option maxHeartbeats 4000000 in
theorem scanAll_any (b:List UInt8) (v:Value) (w:World) (hv:BRow w v b) (hl:b.length≤67108864) (hn:NibTab w):
  Calls Tryz.prog 58 #[v] w (AllP w (scanAll b)):=by
 have HV:=Lib.hid hv
 have HN:=Lib.hid hn
 obtain⟨oa,cap,rfl,hlc,hcc⟩:=hv
 clear hn hcc
 obtain⟨W0,hW0⟩: ∃ W0,W0=(((w.alloc (Obj.cells #[Value.slice none 0 0] 89)).alloc (Obj.cells #[Value.int IntKind.i64 0] 3)).alloc (Obj.cells #[Value.slice oa b.length cap] 45)):=⟨_,rfl⟩
 have HSZ:=Lib.hid (show W0.heap.size=w.heap.size+3 by rw [hW0];simp)
 have HB0:=Lib.hid (show Below w.heap.size w W0 by rw [hW0];exact(((Below.refl _ w).alloc (Nat.le_refl _) _).alloc (by simp) _).alloc (by simp;omega) _)
 have H5:=Lib.hid (show W0.heap[w.heap.size]? =some (.cells #[.slice none 0 0] 89 (0,0)) by
  rw [hW0,Below.heap_alloc _ _ _ (by simp;omega),Below.heap_alloc _ _ _ (by simp)];exact heap_alloc_new w _)
 have H6:=Lib.hid (show W0.heap[w.heap.size+1]? =some (.cells #[.int .i64 0] 3 (0,0)) by
  rw [hW0,Below.heap_alloc _ _ _ (by simp)]
  have:=heap_alloc_new (w.alloc (Obj.cells #[Value.slice none 0 0] 89)) (Obj.cells #[Value.int IntKind.i64 0] 3)
  rwa [World.size_alloc] at this)
 have HC:=Lib.hid (show W0.cell? ⟨w.heap.size+1+1,0,none⟩=some (.slice oa b.length cap) by
  rw [hW0]
  have:=World.cell?_alloc_new ((w.alloc (Obj.cells #[Value.slice none 0 0] 89)).alloc (Obj.cells #[Value.int IntKind.i64 0] 3)) #[Value.slice oa b.length cap] 45 0
  rw [World.size_alloc,World.size_alloc] at this
  rw [this];rfl)
 have HW0:=Lib.hid hW0
 clear hW0
 refine(callsIn_wide (n:=3)).1 (callsIn_of_wp_marks Tryz.func58 rfl trivial (wpIn_wide.2 ?_) rfl)
 simp only [Tryz.ntmps58,List.size_toArray,List.length_cons,List.length_nil,Nat.reduceAdd,Nat.reduceSub,Array.replicate_succ,Array.replicate_zero,List.push_toArray,List.append_toArray,List.nil_append,List.cons_append]
 go_wp2_with fail
 refine(each_any oa b.length cap _).mono ?_
 rintro e w1 ⟨rfl,rfl⟩
 go_wp2_with fail
 rw [←HW0.out]
 refine wp_rangeFuncR (gf:=102) (lb:= #[.pointer (some ⟨w.heap.size+1+1,0,none⟩)]) (encs:=frEnc) (R:=FrR b) (Kp:=ScK W0.heap.size w.heap.size (w.heap.size+1)) (S:=fun xs=>frOf xs=frs b) (Sp:=fun pre=>pre≠ []∧frOf pre <+: frs b) rfl (enters_of Tryz.func102 (by kernel_rfl) rfl)
  (each1_seq b oa cap (w.heap.size+1+1) W0 _ (by omega) (fun W=>Below w.heap.size w W∧W.cell? ⟨w.heap.size+1+1,0,none⟩=some (.slice oa b.length cap)) ⟨HB0.out,HC.out⟩ (fun W h=>⟨h.2,HV.out.below h.1,HN.out.below h.1⟩) (fun W W' h hb=>⟨Below.next h.1 hb,cell_later hb h.2⟩) ?hK)
  ScK.trans ScK.put (fun _=>rfl) (ScI W0.heap.size w.heap.size (w.heap.size+1) 0 b W0) (fun _ _ _=>False) (ScI.kept (Nat.le_refl _)) (fun _ _ _ _ h _=>h) ?h0 ?hround ?hdone ?hstop
 case hK=>
  intro W W' hs ⟨h1,h2⟩ hk
  refine⟨⟨turned_below h1 hk (fun k hk'=>by have:=HSZ.out;omega) h1.size,?_⟩,hk.size⟩
  exact Turned.cell hk h2 (by have:=HSZ.out;rintro(h | h | h)<;>simp only at h<;>omega)
 case h0=>exact⟨.slice none 0 0,H5.out,H6.out,pcOwn_nil _ _,List.nil_prefix,Turned.refl _ _⟩
 case hround=>
  rintro l pre ⟨p,⟨k,s,body⟩,bv⟩ Wo W hl0 hszo hI hko hR
  obtain⟨hpx,hbv,hbl,hp1,hk7,hs1⟩:=hR
  dsimp only at hbv hbl hp1 hk7 hs1
  have HI:=Lib.hid hI
  have HKO:=Lib.hid hko
  have hsz:W0.heap.size≤W.heap.size:=Nat.le_trans hszo hko.size
  clear hko
  have HPX:=Lib.hid hpx
  have HBV:=Lib.hid hbv
  obtain⟨ob,bcap,rfl,_,_⟩:=hbv
  clear hI hpx
  simp only [frEnc]
  gi_wp2
  refine⟨keepsFrom_turned (S:=fun _=>False) (Turned.below (below_alloc W _)) (fun _ _ _ h=>h.elim),Turned.below (below_alloc W _),fun W2 hk2=> ?_⟩
  have HKW:=Lib.hid ((Kept.ofBelow (B:=W0.heap.size) (below_alloc W (.cells #[.int .i64 (k:Int),.int .i64 (s:Int),.slice ob body.length bcap] 105))).trans hk2)
  have HKK:=Lib.hid (HKO.out.trans HKW.out)
  obtain⟨v,h5o,h6o,howno,_,htno⟩:=HI.out
  have h5:=HKK.out.blk h5o
  have h6:=HKK.out.blk h6o
  have hown:=howno.kept HKK.out
  have htn:=htno.kept HKK.out (Nat.le_refl _)
  have HF:=Lib.hid (show FrBlk W2 W.heap.size (k:Int) (s:Int) (.slice ob body.length bcap) from hk2.blk (frBlk_alloc W (k:Int) (s:Int) (.slice ob body.length bcap)))
  have HBV2:=Lib.hid (show BRowIn (fun j=>W0.heap.size≤j∧j<W2.heap.size∧v.ownBlock≠some j) W2 (.slice ob body.length bcap) body from
   (HBV.out.kept HKW.out).mono fun j hj=>⟨Nat.le_trans hszo hj.1,by have:=hj.2;have:=(below_alloc W (.cells (frCs (k:Int) (s:Int) (.slice ob body.length bcap)) 105)).size;have:=hk2.size;simp only [frCs] at *;omega,fun e=>by have:=(howno.1.lt j e).2;have:=hj.1;omega⟩)
  clear h5o h6o howno htno
  have HO2:=Lib.hid hown
  have HT2:=Lib.hid htn
  have H52:=Lib.hid h5
  have H62:=Lib.hid h6
  obtain⟨z,hz⟩: ∃ z,z=body.length+20:=⟨_,rfl⟩
  have HZ:=Lib.hid hz
  have hsz2:W0.heap.size≤W2.heap.size:=Nat.le_trans hsz HKW.out.size
  have hg8:W0.heap.size≤W.heap.size:=hsz
  clear h5 h6 hown htn hk2 HKK HI HBV hz
  generalize W.heap.size=g8 at*
  refine wpIn_block (wpIn_seq (wpIn_region_plain (by rfl) (letsOut_then (letsOut_block letsOut_G)) ?_))
  go_wp2_with (with_reducible refine wpList_load_fr rfl (.tmp 8) rfl g8 (k:Int) (s:Int) (.slice ob body.length bcap) rfl HF.out ?_)
  refine(placed_any p z k s body ob bcap W2 hbl HZ).mono ?_
  rintro e W3 ⟨rfl,hb3⟩
  have HF9:=Lib.hid (heap_alloc_new W3 (.cells (pcCs ⟨p,z,⟨k,s,body⟩⟩ (.slice ob body.length bcap)) 124))
  have HB4:=Lib.hid (Below.next hb3 (below_alloc W3 (.cells (pcCs ⟨p,z,⟨k,s,body⟩⟩ (.slice ob body.length bcap)) 124)))
  have HLEN:=Lib.hid (show (plX 0 pre).length+1≤1000000000 by
   have h1:=HPX.out.length_le
   have h2:=frs_len b
   rw [frOf_snoc] at h1
   simp only [List.length_append,List.length_cons,List.length_nil,frOf,List.length_map] at h1
   simp only [plX,List.length_map]
   omega)
  have hg9:W2.heap.size≤W3.heap.size:=hb3.size
  simp only [pcCs] at HF9 HB4
  clear hb3
  go_wp2_with fail
  generalize W3.alloc (.cells #[.int .i64 (p:Int),.int .i64 (z:Int),.int .i64 (k:Int),.int .i64 (s:Int),.slice ob body.length bcap] 124)=W4 at*
  generalize W3.heap.size=g9 at*
  have HPB:=Lib.hid (show PlcBlk W4 g9 ⟨p,z,⟨k,s,body⟩⟩ (.slice ob body.length bcap) from HF9.out)
  have HO4:=Lib.hid (HO2.out.below HB4.out)
  have HBV4:=Lib.hid ((HBV2.out.below HB4.out).mono fun j hj=>(⟨hj.1,Nat.lt_of_lt_of_le hj.2.1 HB4.out.size,hj.2.2⟩:W0.heap.size≤j∧j<W4.heap.size∧v.ownBlock≠some j))
  have H54:=Lib.hid ((HB4.out.block _ (Array.getElem?_eq_some_iff.1 H52.out).1).trans H52.out)
  have H64:=Lib.hid ((HB4.out.block _ (Array.getElem?_eq_some_iff.1 H62.out).1).trans H62.out)
  have hsz4:W0.heap.size≤W4.heap.size:=Nat.le_trans hsz2 HB4.out.size
  have c5:W4.cell? ⟨w.heap.size,0,none⟩=some v:=cell_of_row W4 _ 0 _ _ _ H54.out
  clear HF9
  refine wpIn_seq (wpIn_region_plain (by rfl) (letsOut_then (letsOut_block letsOut_G)) ?_)
  go_wp2_with (first | (with_reducible refine wpList_load_plc rfl (.tmp 9) rfl g9 ⟨p,z,⟨k,s,body⟩⟩ (.slice ob body.length bcap) rfl HPB.out ?_) | (refine wpList_appPl (p:=⟨p,z,⟨k,s,body⟩⟩) (dv:= .slice ob body.length bcap) rfl (.tmp 20) (.tmp 22) rfl rfl rfl HO4.out hsz4 HBV4.out HLEN.out ?_))
  intro v5 W5 ho5 hb5 ht5 h15
  have HLT:=Lib.hid (fun j (e:v.ownBlock=some j)=>(HO2.out.1.lt j e).2)
  have HO5:=Lib.hid ho5
  have HT5:=Lib.hid ht5
  have H55:=Lib.hid ((hb5.block w.heap.size (by have:=HSZ.out;omega)).trans H54.out)
  have H65:=Lib.hid ((hb5.block (w.heap.size+1) (by have:=HSZ.out;omega)).trans H64.out)
  have HPB5:=Lib.hid (show PlcBlk W5 g9 ⟨p,z,⟨k,s,body⟩⟩ (.slice ob body.length bcap) from(ht5.block g9 HPB.out.lt (fun e=>by have:=HLT.out _ e;omega)).trans HPB.out)
  have c55:W5.cell? ⟨w.heap.size,0,none⟩=some v:=cell_of_row W5 _ 0 _ _ _ H55.out
  have f55:W5.frozen? ⟨w.heap.size,0,none⟩=false:=by have:=H55.out;simp [World.frozen?,this]
  clear ho5 hb5 ht5 HO4 HBV4 HPB H54 H64 c5
  go_wp2_with (with_reducible refine wpList_store_cellV rfl 89 (.tmp 5) (.tmp 23) rfl w.heap.size 0 v5 v (by kernel_rfl) h15 rfl rfl c55 f55 ?_)
  intro W6 hw6
  have HT6:=Lib.hid (show Turned (fun j=>j=w.heap.size) W5 W6 by rw [hw6.out];exact Turned.setCell (S:=fun j=>j=w.heap.size) _ ⟨w.heap.size,0,none⟩ _ rfl)
  have H56:=Lib.hid (show W6.heap[w.heap.size]? =some (.cells #[v5] 89 (0,0)) by rw [hw6.out];exact row_setCell H55.out 0 v5)
  have H66:=Lib.hid ((HT6.out.block _ (Array.getElem?_eq_some_iff.1 H65.out).1 (by simp)).trans H65.out)
  have HPB6:=Lib.hid (show PlcBlk W6 g9 ⟨p,z,⟨k,s,body⟩⟩ (.slice ob body.length bcap) from(HT6.out.block g9 HPB5.out.lt (by have:=HSZ.out;omega)).trans HPB5.out)
  have HO6:=Lib.hid (HO5.out.turned HT6.out (fun j hj=>by have:=HSZ.out;omega))
  clear hw6 c55 f55 HO5
  have c6:W6.cell? ⟨w.heap.size+1,0,none⟩=some (.int .i64 ((0+lastEnd 0 (frOf pre):Nat):Int)):=cell_of_row W6 _ 0 _ _ _ H66.out
  have f6:W6.frozen? ⟨w.heap.size+1,0,none⟩=false:=by have:=H66.out;simp [World.frozen?,this]
  have c9:W6.cell? ⟨g9,1,none⟩=some (.int .i64 (z:Int)):=HPB6.out.cell 1
  have hpz:p+z≤67108864:=by
   have h1:=frs_mem (b:=b) (x:=(p,⟨k,s,body⟩)) (HPX.out.mem (by rw [frOf_snoc];simp))
   have:=HZ.out
   simp only at h1
   omega
  have hwz:IntKind.i64.wrap ((p:Int)+(z:Int))=((p+z:Nat):Int):=by rw [IntKind.wrap_i64];omega
  refine wpIn_region_plain (by rfl) (letsOut_block letsOut_G) ?_
  go_wp2_with fail
  have HT7:=Lib.hid (Turned.setCell (S:=fun j=>j=w.heap.size+1) W6 ⟨w.heap.size+1,0,none⟩ (.int .i64 ((p:Int)+(z:Int))) rfl)
  have H57:=Lib.hid ((HT7.out.block _ (Array.getElem?_eq_some_iff.1 H56.out).1 (by omega)).trans H56.out)
  have H67:=Lib.hid (row_setCell H66.out 0 (.int .i64 ((p:Int)+(z:Int))))
  have HO7:=Lib.hid (HO6.out.turned HT7.out (fun j hj=>by have:=HSZ.out;omega))
  generalize W6.setCell ⟨w.heap.size+1,0,none⟩ (.int .i64 ((p:Int)+(z:Int)))=W7 at*
  have HTT:=Lib.hid (show Turned (fun j=>j=w.heap.size∨j=w.heap.size+1∨v.ownBlock=some j) W2 W7 from
   (((Turned.below HB4.out).trans HT5.out (fun i hi=> .inl (.inr (.inr hi)))).trans HT6.out (fun i hi=> .inl (.inl hi))).trans HT7.out (fun i hi=> .inl (.inr (.inl hi))))
  refine⟨keepsFrom_turned HTT.out fun j o hj hs ho=> ?_,HTT.out.mono fun j hj=> ?_,v5,H57.out,?_,?_,HPX.out,HT2.out.trans HTT.out fun j hj=> ?_⟩
  ·rcases hs with h | h | h
   ·have:=HSZ.out;omega
   ·have:=HSZ.out;omega
   ·rcases HO2.out.1.2 with⟨rfl,_⟩ | ⟨g,gcap,cur,rfl,_,hg,_⟩
    ·cases h
    ·have e:g=j:=Option.some.inj h
     subst e
     rw [hg] at ho
     cases ho
     rfl
  ·rcases hj with h | h | h
   ·exact .inl h
   ·exact .inr (.inl h)
   ·exact .inr (.inr (HO2.out.1.lt j h).1)
  ·have e:(p:Int)+(z:Int)=((0+(p+body.length+20):Nat):Int):=by have:=HZ.out;omega
   rw [H67.out,frOf_snoc,lastEnd_snoc,e]
   rfl
  ·rw [plX_snoc,Nat.zero_add,←HZ.out]
   exact HO7.out
  ·rcases hj with h | h | h
   ·exact .inl (.inl h)
   ·exact .inl (.inr h)
   ·exact .inr (HO2.out.1.lt j h).1
 case hdone=>
  rintro D xs W hD hxs ⟨v,h5,h6,hown,_,htn⟩ hdf
  rw [hxs,Nat.zero_add] at h6
  have HFST:=Lib.hid (plX_fst 0 xs)
  rw [hxs] at HFST
  have HSA:=Lib.hid (show scanAll b=(plcs 0 (frs b),lastEnd 0 (frs b),if lastEnd 0 (frs b)=b.length then 0 else (decF (b.drop (lastEnd 0 (frs b)))).2.2) from rfl)
  have hnb:lastEnd 0 (frs b)≤b.length:=lastEnd_le _ _ (Nat.zero_le _) fun x hx=>(frs_mem hx).1
  obtain⟨n,hn⟩: ∃ n,n=lastEnd 0 (frs b):=⟨_,rfl⟩
  rw [←hn] at h6 HSA hnb
  have HBW:=Lib.hid (turned_below HB0.out htn (fun j hj=>by omega) HB0.out.size)
  have HO:=Lib.hid hown
  have HDF:=Lib.hid hdf
  have c5:=cell_of_row W _ 0 _ _ _ h5
  have c6:=cell_of_row W _ 0 _ _ _ h6
  have HBR:=Lib.hid (HV.out.below HBW.out)
  have hDlt:w.heap.size≤D:=by have:=HSZ.out;omega
  have HSZW:=Lib.hid (show w.heap.size≤W0.heap.size by have:=HSZ.out;omega)
  simp only [List.getElem?_toArray,List.getElem?_cons_zero] at c5 c6
  clear hn h5 h6 hown htn hdf hxs HSZ HB0 H5 H6 HC HW0
  rcases hz:((n:Int)==(b.length:Int)) with _ | _
  ·have HSE:=Lib.hid (show scanAll b=(plcs 0 (frs b),n,(decF (b.drop n)).2.2) by rw [HSA.out,if_neg (by intro e;subst e;simp at hz)])
   have HDV:=Lib.hid (fun oa' cap' (hv:BRow W (.slice oa' (b.length - n) cap') (b.drop n))=>frameDec_any (b.drop n) _ W hv (by rw [List.length_drop];omega) (HN.out.below HBW.out))
   obtain⟨r,hr⟩: ∃ r,r=decF (b.drop n):=⟨_,rfl⟩
   rw [←hr] at HDV HSE
   clear hr HSA
   obtain⟨⟨k,s,body⟩,sz,e0⟩:=r
   unfold DecPost at HDV
   go_wp2_with (with_reducible refine wpList_cut_l rfl (.tmp 35) (.tmp 36) rfl oa cap n b rfl rfl HBR.out hnb ?_)
   intro oa' cap' hbr
   go_wp2_with fail
   refine(HDV.out oa' cap' hbr).mono ?_
   rintro e w2 ⟨bv,rfl,hbv,hb2⟩
   obtain⟨ob,bcap,rfl,_,_⟩:=hbv
   have HB2:=Lib.hid (hb2.trans ((below_alloc w2 (.cells (frCs (k:Int) (s:Int) (.slice ob body.length bcap)) 105)).mono hb2.size))
   simp only [frCs] at HB2
   have d5:=cell_later HB2.out c5
   have d6:=cell_later HB2.out c6
   clear hb2 hbr HDV c5 c6
   go_wp2_with fail
   generalize w2.alloc (.cells #[.int .i64 (k:Int),.int .i64 (s:Int),.slice ob body.length bcap] 105)=w3 at*
   go_quiet (fail)
   go_wp2
   have HBF:=Lib.hid (Below.next HB2.out (below_drewN' w3 nq))
   have hdf:=(HBF.out.block D (Array.getElem?_eq_some_iff.1 HDF.out).1).trans HDF.out
   have HKF:=Lib.hid (Kept.putObj (B:=W0.heap.size) (.deferred none) hD hdf rfl)
   refine⟨by simp,.inl ⟨_,_,rfl,run_takeDeferred hdf,?_⟩⟩
   refine⟨.tuple #[v,.int .i64 (n:Int),.int .i64 e0],by simp [results,Tryz.results58,go_sem],v,by rw [HSE.out],?_,HKF.out.after (HBW.out.trans (HBF.out.mono HBW.out.size)) HSZW.out⟩
   rw [HSE.out]
   have h:=((HO.out.below HBF.out).kept HKF.out).pcIn (A:=fun k=>w.heap.size≤k) (fun k hk=>Nat.le_trans HSZW.out hk)
   rw [HFST.out] at h
   exact h
  ·have HSE:=Lib.hid (show scanAll b=(plcs 0 (frs b),n,0) by rw [HSA.out,if_pos (by simp at hz;omega)])
   clear HSA
   go_wp2_with fail
   go_quiet (fail)
   go_wp2
   have HBF:=Lib.hid (below_drewN' W nq)
   have hdf:=(HBF.out.block D (Array.getElem?_eq_some_iff.1 HDF.out).1).trans HDF.out
   have HKF:=Lib.hid (Kept.putObj (B:=W0.heap.size) (.deferred none) hD hdf rfl)
   refine⟨by simp,.inl ⟨_,_,rfl,run_takeDeferred hdf,?_⟩⟩
   refine⟨.tuple #[v,.int .i64 (n:Int),.int .i64 0],by simp [results,Tryz.results58,go_sem],v,by rw [HSE.out],?_,HKF.out.after (HBW.out.trans (HBF.out.mono HBW.out.size)) HSZW.out⟩
   rw [HSE.out]
   have h:=((HO.out.below HBF.out).kept HKF.out).pcIn (A:=fun k=>w.heap.size≤k) (fun k hk=>Nat.le_trans HSZW.out hk)
   rw [HFST.out] at h
   exact h
 case hstop=>
  intro D c pre W _ _ h _
  exact h.elim
end Go.Proofs.YtcglcphhfmkccaaGreatDoor

namespace Go.Proofs.YtcglcphhfmkccaaGreatDoor
open Go.RowKit
def iCells (vs:List Nat):List Value:=vs.map fun(u:Nat)=>Value.int .i64 (u:Int)
def OwnI (w:World) (B:Nat) (v:Value) (vs:List Nat):Prop:=w.ownsRow B 3 1 v vs.length (iCells vs)
theorem OwnI.later {w w':World} {B:Nat} {v:Value} {vs:List Nat} (h:OwnI w B v vs) (hb:Below w.heap.size w w'):OwnI w' B v vs:=own_later h hb
theorem ownI_nil (w:World) (B:Nat):OwnI w B (.slice none 0 0) []:=⟨rfl,.inl ⟨rfl,rfl⟩⟩
theorem OwnI.at {w:World} {B:Nat} {v:Value} {vs:List Nat} (h:OwnI w B v vs) (hn:0<vs.length): ∃ g cap,v= .slice (some ⟨g,0,none⟩) vs.length cap∧vs.length≤cap∧B≤g∧ ∀ (i:Nat) u,vs[i]? =some u→w.cell? ⟨g,i,none⟩=some (.int .i64 (u:Int)):=by
 obtain⟨g,cap,e,hB,_,h1,_,h3⟩:=own_get h hn
 exact⟨g,cap,e,h1,hB,fun i u hu=>h3 i _ (by rw [iCells,List.getElem?_map,hu];rfl)⟩
theorem infoI64:(Tryz.prog.info? 3).map (fun i=>(i.zero,i.size,i.bytes))=some (some (.int .i64 0),1,8):=by kernel_rfl
theorem wpList_appI1 {ops:Array Oper} {rest:List Oper} {o:Oper} {a:Act} {Q:Exit→Act→World→Prop} {w:World} (hgd:o.guard=none) (s y:Operand) (ho:o.op= .call {callee:= .builtin .append,args:= #[s,y],argTypes:= #[23,23]}) {B:Nat} {v:Value} {us:List Nat} {p N:Nat} {pv:Int}
  (hs:a.eval s=v) (hN:N=w.heap.size) (hy:a.eval y= .slice (some ⟨N,0,none⟩) 1 1) (hown:OwnI w B v us) (hB:B≤w.heap.size) (h1:pv=(p:Int)) (hl:us.length≤100000)
  (h: ∀ v' w',OwnI w' B v' (us++[p])→Below B w w'→w.heap.size≤w'.heap.size→wpList Tryz.prog ops Q rest (a.put o.dst v') w'):wpList Tryz.prog ops Q (o::rest) a (w.alloc (.cells #[.int .i64 pv] 3)):=by
 subst h1 hN
 obtain⟨i0,hi,hz0,hz1,hz2⟩:=info_parts infoI64
 have hb:=below_alloc w (.cells #[.int .i64 (p:Int)] 3)
 refine wpList_append_own _ hgd s y 23 ho B 3 i0 (.int .i64 0) 1 8 Tryz.underlying23 hi hz0 hz1 hz2 rfl (by decide) v us.length (iCells us) hs (own_later hown hb) ⟨w.heap.size,0,none⟩ 1 1 [.int .i64 (p:Int)] hy rfl (fun j u hj=> ?_) (fun u hu=> ?_) (by unfold maxLen;omega) (by omega) (Nat.le_trans hB hb.size) ?_
 ·rw [addr_add,Nat.zero_add,World.cell?_alloc_new]
  simpa using hj
 ·simp at hu;rcases hu with rfl;rfl
 ·intro v' w' hown' hg _
  refine h v' w' ?_ ((hb.mono hB).trans (below_of_grown (own_later hown hb) (Nat.le_trans hB hb.size) hg)) (Nat.le_trans hb.size hg.size)
  unfold OwnI
  rw [List.length_append,show iCells (us++[p])=iCells us++[.int .i64 (p:Int)] by simp [iCells]]
  exact hown'
theorem wpList_cut_lU {ops:Array Oper} {rest:List Oper} {o:Oper} {a:Act} {w U:World} {Q:Exit→Act→World→Prop} (hgd:o.guard=none) (x y:Operand) (ho:o.op= .slice 45 x (some y) none none) (oa:Option Addr) (cap n:Nat) (l:List UInt8) (hx:a.eval x= .slice oa l.length cap) (hy:a.eval y= .int .i64 (n:Int))
  (hv:BRow U (.slice oa l.length cap) l) (hn:n≤l.length) (h: ∀ oa' cap',BRow U (.slice oa' (l.length - n) cap') (l.drop n)→wpList Tryz.prog ops Q rest (a.put o.dst (.slice oa' (l.length - n) cap')) w):wpList Tryz.prog ops Q (o::rest) a w:=by
 have hv':=hv
 obtain⟨_,c',e,hl',_⟩:=hv'
 simp only [Value.slice.injEq,true_and] at e
 obtain⟨rfl,rfl⟩:=e
 have hb:=brow_cut (lo:=n) (hi:=l.length) (mx:=cap) hv hn (Nat.le_refl _) hl'
 rw [List.take_length] at hb
 refine wpList_plain hgd fun K hK=> ?_
 unfold Oper.wp execOp
 simp only [ho,hx,hy,Option.map_some,Option.map_none,sliceAt_b,run_cut_l oa l.length cap n hn,Sem.run_bind,Sem.run_pure,Result.andThen_ok]
 exact hK _ _ (h _ _ hb)
def unnumsV:Nat→List UInt8→List Nat→Option (List Nat×List UInt8)
 | 0,b,vs=>some (vs,b)
 | n+1,b,vs=>if (decV b).2.2≠0∨2199023255552<(decV b).1 then none else unnumsV n (b.drop (decV b).2.1) (vs++[(decV b).1])
theorem unnums_stop {n:Nat} {b:List UInt8} {vs:List Nat} (h:(decV b).2.2≠0∨2199023255552<(decV b).1):unnumsV (n+1) b vs=none:=by rw [unnumsV,if_pos h]
theorem unnums_go {n:Nat} {b:List UInt8} {vs:List Nat} (h: ¬ ((decV b).2.2≠0∨2199023255552<(decV b).1)):unnumsV (n+1) b vs=unnumsV n (b.drop (decV b).2.1) (vs++[(decV b).1]):=by rw [unnumsV,if_neg h]
theorem unnums_len: ∀ {n:Nat} {b:List UInt8} {vs:List Nat} {r:List Nat×List UInt8},unnumsV n b vs=some r→r.1.length=vs.length+n∧r.2.length≤b.length
 | 0,b,vs,r=>by
  intro h
  simp only [unnumsV,Option.some.injEq] at h
  subst h
  exact⟨rfl,Nat.le_refl _⟩
 | n+1,b,vs,r=>by
  intro h
  by_cases hc:(decV b).2.2≠0∨2199023255552<(decV b).1
  ·rw [unnums_stop hc] at h;cases h
  ·rw [unnums_go hc] at h
   have:=unnums_len h
   simp only [List.length_append,List.length_cons,List.length_nil,List.length_drop] at this
   omega
theorem unnums_le: ∀ {n:Nat} {b:List UInt8} {vs:List Nat} {r:List Nat×List UInt8},unnumsV n b vs=some r→(∀ u∈vs,u≤2199023255552)→ ∀ u∈r.1,u≤2199023255552
 | 0,b,vs,r=>by
  intro h hv
  simp only [unnumsV,Option.some.injEq] at h
  subst h
  exact hv
 | n+1,b,vs,r=>by
  intro h hv
  by_cases hc:(decV b).2.2≠0∨2199023255552<(decV b).1
  ·rw [unnums_stop hc] at h;cases h
  ·rw [unnums_go hc] at h
   refine unnums_le h fun u hu=> ?_
   rcases List.mem_append.1 hu with hu | hu
   ·exact hv u hu
   ·simp at hu;omega
def UnPost (w:World) (r:Option (List Nat×List UInt8)) (e:Ending) (w':World):Prop:=Below w.heap.size w w'∧
 match r with
 | none=>e= .returned (.tuple #[.slice none 0 0,.slice none 0 0,.bool false])
 | some r=> ∃ vv rv,e= .returned (.tuple #[vv,rv,.bool true])∧OwnI w' w.heap.size vv r.1∧BRow w' rv r.2
set_option maxRecDepth 100000 in
set_option maxHeartbeats 4000000 in
theorem unnums_any (b:List UInt8) (v:Value) (n:Nat) (w:World) (hv:BRow w v b) (hl:b.length≤140737488355328) (hn:n≤1000):
  Calls Tryz.prog 100 #[v,.int .i64 (n:Int)] w (UnPost w (unnumsV n b [])):=by
 have HV:=Lib.hid hv
 clear hv
 go_enter Tryz.func100,Tryz.ntmps100
 go_wp2
 go_loopw [0,7,12] (fun sv vv iv wr=> ∃ (k:Nat) (c:List UInt8) (vs:List Nat),k≤n∧iv= .int .i64 (k:Int)∧Hid (vs.length=k)∧Hid (c.length≤b.length)∧Hid (OwnI wr w.heap.size vv vs)∧Hid (BRow w sv c)∧Hid (unnumsV n b []=unnumsV (n - k) c vs)∧Hid (Below w.heap.size w wr)) (fun _ _ iv _=>n - (intOf iv).toNat)
 case atStart=>exact⟨0,b,[],Nat.zero_le _,rfl,Lib.hid rfl,Lib.hid (Nat.le_refl _),Lib.hid (ownI_nil _ _),HV,Lib.hid rfl,Lib.hid (Below.refl _ _)⟩
 case round=>
  obtain⟨k,c,vs,hk,rfl,HVL,HCL,HO,HC,HU,HB⟩:=hrel
  clear HV
  obtain⟨oa,cap,hsh,hcc,_⟩:=HC.out
  subst hsh
  by_cases hlt:k<n
  ·have q1:(k:Int)<(n:Int):=by omega
   have HNK:=Lib.hid (show n - k=(n - (k+1))+1 by omega)
   rw [HNK.out] at HU
   have HD:=Lib.hid (varDecode_any c _ wr (HC.out.below HB.out) (by have:=HCL.out;omega))
   have HLT:=Lib.hid (decV_lt c)
   have HLN:=Lib.hid (@decV_len c)
   have HST:=Lib.hid (@unnums_stop (n - (k+1)) c vs)
   have HGO:=Lib.hid (@unnums_go (n - (k+1)) c vs)
   obtain⟨r,hr⟩: ∃ r,r=decV c:=⟨_,rfl⟩
   rw [←hr] at HD HLT HLN HST HGO
   clear hr HNK hcc
   obtain⟨u,n1,e1⟩:=r
   unfold VarPost at HD
   go_wp2_with fail
   refine HD.out.mono ?_
   rintro e w2 ⟨rfl,hb2⟩
   have HB2:=Lib.hid (Below.next HB.out hb2)
   have HO2:=Lib.hid (HO.out.later hb2)
   clear hb2 HD HO HB
   rcases he1:(e1 != 0) with _ | _
   ·have HE1:=Lib.hid (show e1=0 by simpa using he1)
    rcases hu1:decide (2199023255552<u) with _ | _
    ·have hu2: ¬ 2199023255552<u:=of_decide_eq_false hu1
     have t1:decide ((2199023255552:Int)<(u:Int))=false:=by simp;omega
     have hw1:IntKind.i64.wrap (u:Int)=(u:Int):=by rw [IntKind.wrap_i64];omega
     have hn1:n1≤c.length:=(HLN.out HE1.out).2
     have HG:=Lib.hid (HGO.out (by rintro(h | h);exact h HE1.out;exact hu2 h))
     have hsz:=HB2.out.size
     have hvl:vs.length≤100000:=by have:=HVL.out;omega
     have hk1:IntKind.i64.wrap ((k:Int)+1)=(k:Int)+1:=by rw [IntKind.wrap_i64];omega
     clear HLN HLT HST HGO he1 hu1 hu2
     go_wp2_with (with_reducible refine wpList_appI1 (p:=u) rfl (.tmp 26) (.tmp 29) rfl rfl rfl rfl HO2.out hsz rfl hvl ?_)
     intro v' w3 ho3 hb3 hs3
     have HO3:=Lib.hid ho3
     have HB3:=Lib.hid (HB2.out.trans hb3)
     clear ho3 hb3 HO2 HB2 hsz
     go_wp2_with (with_reducible refine wpList_cut_lU rfl (.tmp 31) (.tmp 32) rfl oa cap n1 c rfl rfl HC.out hn1 ?_)
     intro oa' cap' hbr
     have HBR:=Lib.hid hbr
     clear hbr
     go_wp2
     go_roundw
     case rel=>exact⟨k+1,c.drop n1,vs++[u],by omega,by go_num,Lib.hid (by have:=HVL.out;simp;omega),Lib.hid (by have:=HCL.out;rw [List.length_drop];omega),HO3,HBR,Lib.hid (by rw [HU.out];exact HG.out),HB3⟩
     case measure=>simp [intOf];omega
    ·have hu2:2199023255552<u:=of_decide_eq_true hu1
     have t1:decide ((2199023255552:Int)<(u:Int))=true:=by simp;omega
     have HE:=Lib.hid (show unnumsV n b []=none by rw [HU.out];exact HST.out (.inr hu2))
     clear hu2 HLT HST HGO HLN hu1
     go_wp2
     refine bodyPost_ret (v:= .tuple #[.slice none 0 0,.slice none 0 0,.bool false]) (by simp [results,Tryz.results100,go_sem]) rfl ⟨HB2.out,by rw [HE.out]⟩
   ·have HE:=Lib.hid (show unnumsV n b []=none by rw [HU.out];exact HST.out (.inl (by simpa using he1)))
    clear HLT HST HGO HLN
    go_wp2
    refine bodyPost_ret (v:= .tuple #[.slice none 0 0,.slice none 0 0,.bool false]) (by simp [results,Tryz.results100,go_sem]) rfl ⟨HB2.out,by rw [HE.out]⟩
  ·obtain rfl:k=n:=by omega
   have HE:=Lib.hid (show unnumsV k b []=some (vs,c) by rw [HU.out,Nat.sub_self];rfl)
   clear hcc
   go_wp2
   refine bodyPost_ret (v:= .tuple #[_,.slice oa c.length cap,.bool true]) (by simp [results,Tryz.results100,go_sem];first | rfl | skip) rfl ⟨HB.out,by rw [HE.out];exact⟨_,_,rfl,HO.out,HC.out.below HB.out⟩⟩
end Go.Proofs.YtcglcphhfmkccaaGreatDoor

namespace Go.Proofs.YtcglcphhfmkccaaGreatDoor
open Go.RowKit
def rightB (num first:Int):Bool:=decide (1≤num)&&decide (num≤999999)&&decide (1≤first)&&decide (first≤1099511627777)
def hdrIn (vs:List Nat) (rest:List UInt8) (s n:Nat):Nat×Nat×Nat×Int:=
 match vs with
 | [a,c]=>if rest≠ []∨a≠s∨rightB a c=false then (0,0,0,71) else (a,c,n,0)
 | _=>(0,0,0,71)
def hdrOf (b:List UInt8):Nat×Nat×Nat×Int:=
 if (decF b).2.2≠0∨(decF b).1.k≠2 then (0,0,0,71)
 else match unnumsV 2 (decF b).1.body [] with
  | none=>(0,0,0,71)
  | some r=>hdrIn r.1 r.2 (decF b).1.s (decF b).2.1
theorem list2 {vs:List Nat} (h:vs.length=2): ∃ a c,vs=[a,c]:=by
 match vs,h with
 | [a,c],_=>exact⟨a,c,rfl⟩
theorem OwnI.two {w:World} {B:Nat} {v:Value} {a c:Nat} (h:OwnI w B v [a,c]): ∃ g cap,v= .slice (some ⟨g,0,none⟩) 2 cap∧2≤cap∧w.cell? ⟨g,0,none⟩=some (.int .i64 (a:Int))∧w.cell? ⟨g,1,none⟩=some (.int .i64 (c:Int)):=by
 obtain⟨g,cap,e,h1,_,h3⟩:=h.at (by simp)
 exact⟨g,cap,e,h1,h3 0 a rfl,h3 1 c rfl⟩
def HdrPost (w:World) (r:Nat×Nat×Nat×Int) (e:Ending) (w':World):Prop:=e= .returned (.tuple #[.int .i64 (r.1:Int),.int .i64 (r.2.1:Int),.int .i64 (r.2.2.1:Int),.int .i64 r.2.2.2])∧Below w.heap.size w w'
set_option maxRecDepth 100000 in
set_option maxHeartbeats 8000000 in
theorem hdrOf_any (l:List UInt8) (v:Value) (w:World) (hv:BRow w v l) (hl:l.length≤140737488355328) (hn:NibTab w):
  Calls Tryz.prog 62 #[v] w (HdrPost w (hdrOf l)):=by
 have HD:=Lib.hid (frameDec_any l v w hv (by omega) hn)
 have HFN:=Lib.hid (@decF_fine l)
 have HH:=Lib.hid (show hdrOf l=if (decF l).2.2≠0∨(decF l).1.k≠2 then (0,0,0,71) else match unnumsV 2 (decF l).1.body [] with
  | none=>(0,0,0,71)
  | some r=>hdrIn r.1 r.2 (decF l).1.s (decF l).2.1 from rfl)
 obtain⟨oa,cap,rfl,hlc,hc⟩:=hv
 obtain⟨r,hr⟩: ∃ r,r=decF l:=⟨_,rfl⟩
 rw [←hr] at HD HH HFN
 clear hc hr hn hlc
 obtain⟨⟨k,s,body⟩,sz,e0⟩:=r
 unfold DecPost at HD
 go_enter Tryz.func62,Tryz.ntmps62
 go_wp2_with fail
 refine HD.out.mono ?_
 rintro e w1 ⟨bv,rfl,hbv,hb1⟩
 have HB1:=Lib.hid hb1
 have HBV:=Lib.hid hbv.low1
 have HFz:=Lib.hid (frBlk_alloc w1 0 0 (.slice none 0 0))
 have HBz:=Lib.hid (below_alloc w1 (.cells (frCs 0 0 (.slice none 0 0)) 105))
 have hone:=hbv.one
 simp only [frCs] at HFz HBz
 clear hbv hb1 HD
 go_wp2_with (with_reducible refine wpList_store_fr rfl (.tmp 6) (.tmp 15) rfl w1.heap.size 0 0 (k:Int) (s:Int) (.slice none 0 0) bv rfl rfl HFz.out hone ?_)
 intro w2 hf2 ht2
 have HF2:=Lib.hid hf2
 have HB2:=Lib.hid (turned_below (HB1.out.trans (HBz.out.mono HB1.out.size)) ht2 (fun x hx=>by have:=HB1.out.size;omega) (by have:=HB1.out.size;have:=HBz.out.size;omega))
 have HV2:=Lib.hid (((HBV.out.below HBz.out).turned ht2 (fun x hx he=>by have:=hx.2;omega)).brow)
 have c0:w2.cell? ⟨w1.heap.size,0,none⟩=some (.int .i64 (k:Int)):=HF2.out.c0
 clear hf2 ht2 HB1 HFz HBz HBV
 generalize w1.heap.size=g at*
 rcases he0:(e0 != 0) with _ | _
 ·have he00:e0=0:=by simpa using he0
  subst he00
  rcases hk:((k:Int) != 2) with _ | _
  ·have HK:=Lib.hid (show k=2 by simp at hk;omega)
   have hbl:body.length≤16384:=(HFN.out rfl).2.1
   have HU:=Lib.hid (fun W (hb:BRow W bv body)=>unnums_any body bv 2 W hb (by omega) (by omega))
   have HUL:=Lib.hid (fun r (h:unnumsV 2 body []=some r)=>unnums_len h)
   have HUM:=Lib.hid (fun r (h:unnumsV 2 body []=some r)=>unnums_le h (fun _ h=>by cases h))
   have HH2:=Lib.hid (show hdrOf l=match unnumsV 2 body [] with
    | none=>(0,0,0,71)
    | some r=>hdrIn r.1 r.2 s sz by rw [HH.out];simp [HK.out])
   obtain⟨r,hr⟩: ∃ r,r=unnumsV 2 body []:=⟨_,rfl⟩
   rw [←hr] at HU HUL HUM HH2
   clear hr HH HFN
   have c2:=HF2.out.c2
   go_wp2_with fail
   refine(HU.out w2 HV2.out).mono ?_
   rintro e w3 ⟨hb3,hpost⟩
   have HB3:=Lib.hid (Below.next HB2.out hb3)
   have HF3:=Lib.hid (HF2.out.below hb3)
   clear hb3 HU HB2 HF2 HV2 c0 c2
   rcases r with _ | ⟨vs,rest⟩
   ·simp only at hpost
    subst hpost
    go_wp2
    go_quiet (fail)
    go_wp2
    refine bodyPost_ret (v:= .tuple #[.int .i64 0,.int .i64 0,.int .i64 0,.int .i64 71]) (by simp [results,Tryz.results62,go_sem]) rfl ⟨by rw [HH2.out];rfl,Below.next HB3.out (below_drewN' _ _)⟩
   ·obtain⟨vv,rv,rfl,hov,hrv⟩:=hpost
    obtain⟨a,c,hvs⟩:=list2 (by have:=(HUL.out _ rfl).1;simpa using this)
    subst hvs
    have ha:a≤2199023255552:=HUM.out _ rfl a (by simp)
    have hc:c≤2199023255552:=HUM.out _ rfl c (by simp)
    obtain⟨gv,vcap,rfl,hvc,d0,d1⟩:=hov.two
    obtain⟨ra,rcap,rfl,_,_⟩:=hrv
    have c1:=HF3.out.c1
    have HR:=Lib.hid (fun W=>right_any (a:Int) (c:Int) W)
    have HH3:=Lib.hid (show hdrOf l=if rest≠ []∨a≠s∨rightB a c=false then (0,0,0,71) else (a,c,sz,0) by rw [HH2.out];rfl)
    clear HUL HUM hov HH2
    rcases hrl:decide (0<rest.length) with _ | _
    ·have HRN:=Lib.hid (show rest=[] by simpa using hrl)
     rcases has:((a:Int) != (s:Int)) with _ | _
     ·have HAS:=Lib.hid (show a=s by simp at has;omega)
      rcases hri:rightB (a:Int) (c:Int) with _ | _
      ·have HG:=Lib.hid (show hdrOf l=(0,0,0,71) by rw [HH3.out,if_pos (.inr (.inr hri))])
       have HR2:=Lib.hid (fun W=>HR.out W)
       rw [show (decide (1≤(a:Int))&&decide ((a:Int)≤999999)&&decide (1≤(c:Int))&&decide ((c:Int)≤1099511627777))=false from hri] at HR2
       go_wp2
       go_quiet ((go_at_call 53;exact Calls.quiet_of_same ((HR2.out _).mono fun e w1 h=>⟨h.1,h.2.symm⟩)))
       go_wp2
       refine bodyPost_ret (v:= .tuple #[.int .i64 0,.int .i64 0,.int .i64 0,.int .i64 71]) (by simp [results,Tryz.results62,go_sem]) rfl ⟨by rw [HG.out];rfl,Below.next HB3.out (below_drewN' _ _)⟩
      ·have HG:=Lib.hid (show hdrOf l=(a,c,sz,0) by rw [HH3.out,if_neg (by rintro(h | h | h);exact h HRN.out;exact h HAS.out;rw [hri] at h;cases h)])
       have HR2:=Lib.hid (fun W=>HR.out W)
       rw [show (decide (1≤(a:Int))&&decide ((a:Int)≤999999)&&decide (1≤(c:Int))&&decide ((c:Int)≤1099511627777))=true from hri] at HR2
       go_wp2
       go_quiet ((go_at_call 53;exact Calls.quiet_of_same ((HR2.out _).mono fun e w1 h=>⟨h.1,h.2.symm⟩)))
       go_wp2
       go_quiet (fail)
       go_wp2
       refine bodyPost_ret (v:= .tuple #[.int .i64 (a:Int),.int .i64 (c:Int),.int .i64 (sz:Int),.int .i64 0]) (by simp [results,Tryz.results62,go_sem]) rfl ⟨by rw [HG.out],?_⟩
       exact Below.next (Below.next HB3.out (below_drewN' _ _)) (below_drewN' _ _)
     ·have HG:=Lib.hid (show hdrOf l=(0,0,0,71) by rw [HH3.out,if_pos (.inr (.inl (by rintro rfl;simp at has)))])
      go_wp2
      go_quiet (fail)
      go_wp2
      refine bodyPost_ret (v:= .tuple #[.int .i64 0,.int .i64 0,.int .i64 0,.int .i64 71]) (by simp [results,Tryz.results62,go_sem]) rfl ⟨by rw [HG.out];rfl,Below.next HB3.out (below_drewN' _ _)⟩
    ·have HG:=Lib.hid (show hdrOf l=(0,0,0,71) by rw [HH3.out,if_pos (.inl (by rintro rfl;simp at hrl))])
     go_wp2
     go_quiet (fail)
     go_wp2
     refine bodyPost_ret (v:= .tuple #[.int .i64 0,.int .i64 0,.int .i64 0,.int .i64 71]) (by simp [results,Tryz.results62,go_sem]) rfl ⟨by rw [HG.out];rfl,Below.next HB3.out (below_drewN' _ _)⟩
  ·have HE:=Lib.hid (show hdrOf l=(0,0,0,71) by rw [HH.out,if_pos (.inr (by simp at hk;omega))])
   go_wp2
   refine bodyPost_ret (v:= .tuple #[.int .i64 0,.int .i64 0,.int .i64 0,.int .i64 71]) (by simp [results,Tryz.results62,go_sem]) rfl ⟨by rw [HE.out];rfl,HB2.out⟩
 ·have HE:=Lib.hid (show hdrOf l=(0,0,0,71) by rw [HH.out,if_pos (.inl (by simpa using he0))])
  go_wp2
  refine bodyPost_ret (v:= .tuple #[.int .i64 0,.int .i64 0,.int .i64 0,.int .i64 71]) (by simp [results,Tryz.results62,go_sem]) rfl ⟨by rw [HE.out];rfl,HB2.out⟩
end Go.Proofs.YtcglcphhfmkccaaGreatDoor

namespace Go.Proofs.YtcglcphhfmkccaaGreatDoor
open Go.RowKit
theorem turned_blw {S:Nat→Prop} {B:Nat} {w0 w w':World} (hb:Below B w0 w) (ht:Turned S w w') (hS: ∀ k,S k→B≤k) (hB:B≤w.heap.size):Below B w0 w':=
 ⟨ht.os.trans hb.os,ht.tape.trans hb.tape,ht.output.trans hb.output,Nat.le_trans hb.size ht.size,fun k hk=>(ht.block k (by omega) (fun h=>by have:=hS k h;omega)).trans (hb.block k hk)⟩
theorem setRow_trn (w:World) (g:Nat) (cs:Array Value):Turned (fun k=>k=g) w (w.setRow g cs):=⟨rfl,rfl,rfl,by simp,fun k _ hn=>setRow_other _ _ _ _ hn⟩
structure Mk where
 s:Int
 p:Int
def mkCs (m:Mk):Array Value:= #[.int .i64 m.s,.int .i64 m.p]
@[reducible] def mkV (m : Mk) : Value := .agg #[.int .i64 m.s, .int .i64 m.p]
theorem mkInfo:(Tryz.prog.info? 88).map (·.size)=some 2:=by kernel_rfl
def MkBlk (w:World) (g:Nat) (m:Mk):Prop:=w.heap[g]? =some (.cells (mkCs m) 88 (0,0))
theorem MkBlk.lt {w:World} {g:Nat} {m:Mk} (h:MkBlk w g m):g<w.heap.size:=(Array.getElem?_eq_some_iff.1 h).1
theorem MkBlk.keep {w w':World} {g B:Nat} {m:Mk} (h:MkBlk w g m) (hb:Below B w w') (hB:g<B):MkBlk w' g m:=by
 unfold MkBlk at *;rw [hb.block g hB];exact h
theorem MkBlk.below {w w':World} {g:Nat} {m:Mk} (h:MkBlk w g m) (hb:Below w.heap.size w w'):MkBlk w' g m:=h.keep hb h.lt
theorem MkBlk.cell {w:World} {g:Nat} {m:Mk} (h:MkBlk w g m) (j:Nat):w.cell? ⟨g,j,none⟩=(mkCs m)[j]? :=by
 unfold MkBlk at h;simp [World.cell?,h]
theorem MkBlk.c0 {w:World} {g:Nat} {m:Mk} (h:MkBlk w g m):w.cell? ⟨g,0,none⟩=some (.int .i64 m.s):=h.cell 0
theorem MkBlk.c1 {w:World} {g:Nat} {m:Mk} (h:MkBlk w g m):w.cell? ⟨g,1,none⟩=some (.int .i64 m.p):=h.cell 1
theorem mkBlk_alloc (w:World) (m:Mk):MkBlk (w.alloc (.cells (mkCs m) 88)) w.heap.size m:=heap_alloc_new w _
theorem MkBlk.row {w:World} {g:Nat} {m m':Mk} (h:MkBlk w g m):MkBlk (w.setRow g (mkCs m')) g m':=setRow_heap w g _ _ _ _ h
theorem mkCs_all (m:Mk):(mkCs m).all (·.oneCell')=true:=
 Array.all_eq_true_iff_forall_mem.2 (by
  intro u hu
  simp only [mkCs,List.mem_toArray,List.mem_cons,List.not_mem_nil,or_false] at hu
  rcases hu with rfl | rfl<;>rfl)
theorem wpList_store_mk {ops:Array Oper} {rest:List Oper} {o:Oper} {a:Act} {w:World} {Q:Exit→Act→World→Prop} (hgd:o.guard=none) (x y:Operand) (ho:o.op= .store 88 x y)
  (g:Nat) (m m':Mk) (hx:a.eval x= .pointer (some ⟨g,0,none⟩)) (hy:a.eval y=mkV m') (hE:MkBlk w g m)
  (h: ∀ W,MkBlk W g m'→Turned (fun k=>k=g) w W→wpList Tryz.prog ops Q rest (a.put o.dst undef) W):wpList Tryz.prog ops Q (o::rest) a w:=
 wpList_store_row hgd 88 x y ho g (mkCs m') hx hy 88 (mkCs m) hE mkInfo rfl (mkCs_all m') (h _ hE.row (setRow_trn _ _ _))
theorem wpList_load_mk {ops:Array Oper} {rest:List Oper} {o:Oper} {a:Act} {w:World} {Q:Exit→Act→World→Prop} (hgd:o.guard=none) (x:Operand) (ho:o.op= .load 88 x)
  (g:Nat) (m:Mk) (hx:a.eval x= .pointer (some ⟨g,0,none⟩)) (hE:MkBlk w g m)
  (h:wpList Tryz.prog ops Q rest (a.put o.dst (mkV m)) w):wpList Tryz.prog ops Q (o::rest) a w:=
 wpList_load_row hgd 88 x ho g hx 88 (mkCs m) (0,0) _ hE Tryz.underlying88 rfl mkInfo h
theorem wpList_load_mkAt {ops:Array Oper} {rest:List Oper} {o:Oper} {a:Act} {w:World} {Q:Exit→Act→World→Prop} (hgd:o.guard=none) (x:Operand) (ho:o.op= .load 88 x)
  (b off:Nat) (m:Mk) (hx:a.eval x= .pointer (some ⟨b,off,none⟩)) (hE:w.rangeAt b off (mkCs m).toList)
  (h:wpList Tryz.prog ops Q rest (a.put o.dst (mkV m)) w):wpList Tryz.prog ops Q (o::rest) a w:=
 wpList_load_mid hgd 88 x ho b off hx (mkCs m).toList _ hE Tryz.underlying88 rfl mkInfo h
def MkRow (w:World) (v:Value) (ms:List Mk):Prop:=
 ∃ oa cap,v= .slice oa ms.length cap∧ms.length≤cap∧cap≤9223372036854775807∧ ∀ (i:Nat) m,ms[i]? =some m→ ∃ b off,oa=some ⟨b,off,none⟩∧w.rangeAt b (off+i*2) (mkCs m).toList
def marksOk:Int→Int→List Mk→Bool
 | _,_,[]=>true
 | s,p,m::r=>if m.s≤s∨m.p≤p∨1099511627776<m.s∨1099511627776<m.p then false else marksOk m.s m.p r
def marksV (ms:List Mk):Bool:=decide (ms.length≤512)&&marksOk 0 (-1) ms
theorem marks_bad {s p:Int} {m:Mk} {r:List Mk} (h:m.s≤s∨m.p≤p∨1099511627776<m.s∨1099511627776<m.p):marksOk s p (m::r)=false:=by rw [marksOk,if_pos h]
theorem marks_go {s p:Int} {m:Mk} {r:List Mk} (h: ¬ (m.s≤s∨m.p≤p∨1099511627776<m.s∨1099511627776<m.p)):marksOk s p (m::r)=marksOk m.s m.p r:=by rw [marksOk,if_neg h]
set_option maxRecDepth 100000 in
set_option maxHeartbeats 4000000 in
theorem marksValid_any (ms:List Mk) (v:Value) (w:World) (hv:MkRow w v ms):
  Calls Tryz.prog 124 #[v] w fun e w'=>e= .returned (.bool (marksV ms))∧Below w.heap.size w w':=by
 obtain⟨oa,cap,rfl,hl1,hl2,hc⟩:=hv
 have HC:=Lib.hid hc
 clear hc
 rcases ht:decide ((512:Int)<(ms.length:Int)) with _ | _
 ·have hle:ms.length≤512:=by simp at ht;omega
  have HV:=Lib.hid (show marksV ms=marksOk 0 (-1) ms by unfold marksV;rw [decide_eq_true hle];rfl)
  have HA:=Lib.hid (mkBlk_alloc w ⟨0,0⟩)
  have HB0:=Lib.hid (below_alloc w (.cells (mkCs ⟨0,0⟩) 88))
  simp only [mkCs] at HA HB0
  go_enter Tryz.func124,Tryz.ntmps124
  go_wp2_with (with_reducible refine wpList_store_mk rfl (.tmp 3) (.tmp 9) rfl w.heap.size ⟨0,0⟩ ⟨0,-1⟩ rfl rfl HA.out ?_)
  intro w1 hm1 ht1
  have HM1:=Lib.hid hm1
  have HB1:=Lib.hid (turned_blw HB0.out ht1 (fun k hk=>by omega) HB0.out.size)
  clear hm1 ht1 HA HB0
  go_wp2
  go_loopw [12] (fun iv wr=> ∃ (k:Nat) (x:Mk),k≤ms.length∧iv= .int .i64 (k:Int)∧Hid (MkBlk wr w.heap.size x)∧Hid (marksV ms=marksOk x.s x.p (ms.drop k))∧Hid (Below w.heap.size w wr)) (fun iv _=>ms.length - (intOf iv).toNat)
  case atStart=>exact⟨0,⟨0,-1⟩,Nat.zero_le _,rfl,HM1,Lib.hid HV.out,HB1⟩
  case round=>
   clear HM1 HB1
   obtain⟨k,x,hk,rfl,HX,HE,HB⟩:=hrel
   by_cases hlt:k<ms.length
   ·obtain⟨m,hm,_,_⟩:=nth ms k hlt
    obtain⟨b,off,rfl,hcell⟩:=HC.out k m hm
    have q1:(k:Int)<(ms.length:Int):=by omega
    have HCE:=Lib.hid (range_later (range_later hcell HB.out) (below_alloc wr (.cells (mkCs ⟨0,0⟩) 88)))
    have HCE0:=Lib.hid (range_later hcell HB.out)
    have HD:=Lib.hid (drop_cons hm)
    have HN:=Lib.hid (mkBlk_alloc wr ⟨0,0⟩)
    have HBN:=Lib.hid (below_alloc wr (.cells (mkCs ⟨0,0⟩) 88))
    have HXN:=Lib.hid (HX.out.below HBN.out)
    have hgl:=HX.out.lt
    have HBD:=Lib.hid (@marks_bad x.s x.p m (ms.drop (k+1)))
    have HGO:=Lib.hid (@marks_go x.s x.p m (ms.drop (k+1)))
    rw [HD.out] at HE
    have hk1:IntKind.i64.wrap ((k:Int)+1)=(k:Int)+1:=by rw [IntKind.wrap_i64];omega
    clear hcell hm HD
    simp only [mkCs] at HN HBN HXN
    go_wp2_with (first | (with_reducible refine wpList_load_mkAt rfl (.tmp 14) rfl b (off+k*2) m rfl HCE0.out ?_) | (with_reducible refine wpList_store_mk rfl (.tmp 5) (.tmp 15) rfl wr.heap.size ⟨0,0⟩ m rfl rfl HN.out ?_))
    intro w2 hm2 ht2
    have HM2:=Lib.hid hm2
    have HX2:=Lib.hid (show MkBlk w2 w.heap.size x by
     unfold MkBlk
     rw [ht2.block _ (Nat.lt_of_lt_of_le hgl HBN.out.size) (by omega)]
     exact HXN.out)
    have HB2:=Lib.hid (turned_blw (HB.out.trans (HBN.out.mono HB.out.size)) ht2 (fun i hi=>by have:=HB.out.size;omega) (by have:=HB.out.size;have:=HBN.out.size;omega))
    have hne: ¬ w.heap.size=wr.heap.size:=by omega
    clear hm2 ht2 HN HBN HXN HX HB HCE HCE0
    generalize wr.heap.size=g at*
    have c0:=HM2.out.c0
    have c1:=HM2.out.c1
    have d0:=HX2.out.c0
    have d1:=HX2.out.c1
    rcases t1:decide (m.s≤x.s) with _ | _
    ·rcases t2:decide (m.p≤x.p) with _ | _
     ·rcases t3:decide ((1099511627776:Int)<m.s) with _ | _
      ·rcases t4:decide ((1099511627776:Int)<m.p) with _ | _
       ·have HG:=Lib.hid (HGO.out (by simp at t1 t2 t3 t4;omega))
        go_wp2_with (first | (with_reducible refine wpList_load_mk rfl (.tmp 5) rfl g m rfl HM2.out ?_) | (with_reducible refine wpList_store_mk rfl (.tmp 3) (.tmp 38) rfl w.heap.size x m rfl rfl HX2.out ?_))
        intro w3 hm3 ht3
        have HM3:=Lib.hid hm3
        have HB3:=Lib.hid (turned_blw HB2.out ht3 (fun i hi=>by omega) HB2.out.size)
        clear hm3 ht3
        go_wp2
        go_roundw
        case rel=>exact⟨k+1,m,by omega,by go_num,HM3,Lib.hid (HE.out.trans HG.out),HB3⟩
        case measure=>simp [intOf];omega
       ·have HG:=Lib.hid (HBD.out (by simp at t4;omega))
        go_wp2
        go_ret
        exact⟨by rw [HE.out,HG.out];rfl,HB2.out⟩
      ·have HG:=Lib.hid (HBD.out (by simp at t3;omega))
       go_wp2
       go_ret
       exact⟨by rw [HE.out,HG.out];rfl,HB2.out⟩
     ·have HG:=Lib.hid (HBD.out (by simp at t2;omega))
      go_wp2
      go_ret
      exact⟨by rw [HE.out,HG.out];rfl,HB2.out⟩
    ·have HG:=Lib.hid (HBD.out (by simp at t1;omega))
     go_wp2
     go_ret
     exact⟨by rw [HE.out,HG.out];rfl,HB2.out⟩
   ·obtain rfl:k=ms.length:=by omega
    have HE2:=Lib.hid (show marksV ms=true by rw [HE.out,List.drop_length];rfl)
    go_wp2
    go_ret
    exact⟨by rw [HE2.out];rfl,HB.out⟩
 ·have HV:=Lib.hid (show marksV ms=false by unfold marksV;rw [decide_eq_false (by simp at ht;omega)];rfl)
  go_enter Tryz.func124,Tryz.ntmps124
  go_wp2
  go_ret
  exact⟨by rw [HV.out];rfl,Below.refl _ _⟩
end Go.Proofs.YtcglcphhfmkccaaGreatDoor

namespace Go.Proofs.YtcglcphhfmkccaaGreatDoor
open Go.RowKit
def mkCells (ms:List Mk):List Value:=ms.flatMap fun m=>(mkCs m).toList
theorem mkCells_snoc (ms:List Mk) (m:Mk):mkCells (ms++[m])=mkCells ms++(mkCs m).toList:=by simp [mkCells]
theorem mkCells_at: ∀ (ms:List Mk) (i:Nat) (m:Mk),ms[i]? =some m→ ∀ (j:Nat) u,(mkCs m)[j]? =some u→(mkCells ms)[i*2+j]? =some u
 | [],i,x,h=>by simp at h
 | y::ys,0,x,h=>by
  intro j u hj
  simp at h;subst h
  have hl:j<2:=by have:=(Array.getElem?_eq_some_iff.1 hj).1;simpa [mkCs] using this
  unfold mkCells
  rw [List.flatMap_cons,Nat.zero_mul,Nat.zero_add,List.getElem?_append_left (by simpa [mkCs] using hl)]
  simpa using hj
 | y::ys,i+1,x,h=>by
  intro j u hj
  have:=mkCells_at ys i x (by simpa using h) j u hj
  unfold mkCells at this ⊢
  rw [List.flatMap_cons,List.getElem?_append_right (by simp [mkCs];omega)]
  rw [←this]
  congr 1
  simp [mkCs];omega
def MkOwn (w:World) (B:Nat) (v:Value) (ms:List Mk):Prop:=w.ownsRow B 88 2 v ms.length (mkCells ms)
theorem MkOwn.later {w w':World} {B:Nat} {v:Value} {ms:List Mk} (h:MkOwn w B v ms) (hb:Below w.heap.size w w'):MkOwn w' B v ms:=own_later h hb
theorem mkOwn_nil (w:World) (B:Nat):MkOwn w B (.slice none 0 0) []:=⟨rfl,.inl ⟨rfl,rfl⟩⟩
theorem MkOwn.row {w:World} {B:Nat} {v:Value} {ms:List Mk} (h:MkOwn w B v ms):MkRow w v ms:=by
 by_cases hn:ms=[]
 ·subst hn
  obtain⟨oa,cap,rfl,h1,h2⟩:=own_shape h
  exact⟨oa,cap,rfl,h1,by unfold maxLen at h2;omega,fun i u hu=>by simp at hu⟩
 ·obtain⟨g,cap,rfl,_,_,h1,h2,h3⟩:=own_get h (List.length_pos_iff.2 hn)
  exact⟨_,cap,rfl,h1,by unfold maxLen at h2;omega,fun i m hm=>⟨g,0,rfl,fun j u hj=>by rw [Nat.zero_add];exact h3 _ _ (mkCells_at ms i m hm j u (by simpa using hj))⟩⟩
theorem MkOwn.mono {w:World} {B B':Nat} {v:Value} {ms:List Mk} (h:MkOwn w B v ms) (hB:B'≤B):MkOwn w B' v ms:=by
 refine⟨h.1,?_⟩
 rcases h.2 with hn | ⟨g,cap,cur,e,hb1,rest⟩
 ·exact .inl hn
 ·exact .inr ⟨g,cap,cur,e,Nat.le_trans hB hb1,rest⟩
theorem MkOwn.turned {w w':World} {B g:Nat} {v:Value} {ms:List Mk} (h:MkOwn w B v ms) (ht:Turned (fun k=>k=g) w w') (hg:g<B):MkOwn w' B v ms:=by
 refine⟨h.1,?_⟩
 rcases h.2 with hn | ⟨g',cap,cur,rfl,hb1,hg',rest⟩
 ·exact .inl hn
 ·exact .inr ⟨g',cap,cur,rfl,hb1,by rw [ht.block _ (Array.getElem?_eq_some_iff.1 hg').1 (by omega)];exact hg',rest⟩
theorem infoMk:(Tryz.prog.info? 88).map (fun i=>(i.zero,i.size,i.bytes))=some (some (mkV ⟨0,0⟩),2,16):=by kernel_rfl
theorem wpList_appMk {ops:Array Oper} {rest:List Oper} {o:Oper} {a:Act} {Q:Exit→Act→World→Prop} {w:World} (hgd:o.guard=none) (s y:Operand) (ho:o.op= .call {callee:= .builtin .append,args:= #[s,y],argTypes:= #[84,84]}) {B:Nat} {v:Value} {ms:List Mk} {m:Mk} {N:Nat}
  (hs:a.eval s=v) (hN:N=w.heap.size) (hy:a.eval y= .slice (some ⟨N,0,none⟩) 1 1) (hown:MkOwn w B v ms) (hB:B≤w.heap.size) (hl:ms.length≤100000)
  (h: ∀ v' w',MkOwn w' B v' (ms++[m])→Below B w w'→w.heap.size≤w'.heap.size→wpList Tryz.prog ops Q rest (a.put o.dst v') w'):wpList Tryz.prog ops Q (o::rest) a (w.alloc (.cells #[.int .i64 m.s,.int .i64 m.p] 88)):=by
 subst hN
 obtain⟨i0,hi,hz0,hz1,hz2⟩:=info_parts infoMk
 have hb:=below_alloc w (.cells #[.int .i64 m.s,.int .i64 m.p] 88)
 refine wpList_append_own _ hgd s y 84 ho B 88 i0 (mkV ⟨0,0⟩) 2 16 Tryz.underlying84 hi hz0 hz1 hz2 rfl (by decide) v ms.length (mkCells ms) hs (own_later hown hb) ⟨w.heap.size,0,none⟩ 1 1 (mkCs m).toList hy rfl (fun j u hj=> ?_) (fun u hu=> ?_) (by unfold maxLen;omega) (by omega) (Nat.le_trans hB hb.size) ?_
 ·rw [addr_add,Nat.zero_add,World.cell?_alloc_new]
  simpa [mkCs] using hj
 ·simp [mkCs] at hu;rcases hu with rfl | rfl<;>rfl
 ·intro v' w' hown' hg _
  refine h v' w' ?_ ((hb.mono hB).trans (below_of_grown (own_later hown hb) (Nat.le_trans hB hb.size) hg)) (Nat.le_trans hb.size hg.size)
  unfold MkOwn
  rw [List.length_append,mkCells_snoc]
  exact hown'
def idxGo:List Nat→Int→Int→List Mk→Option (List Mk)
 | a::c::r,s,p,acc=>if 1099511627776<a∨1099511627776<c then none else idxGo r (s+a) (p+c) (acc++[⟨s+a,p+c⟩])
 | _,_,_,acc=>some acc
def idxDec (b:List UInt8):List Mk×Int:=
 if (decAll b 1024).2.2≠0 then ([],(decAll b 1024).2.2) else if (decAll b 1024).2.1≠b.length∨(decAll b 1024).1.length % 2≠0 then ([],70)
 else match idxGo (decAll b 1024).1 0 0 [] with
  | none=>([],70)
  | some ms=>if marksV ms then (ms,0) else ([],70)
theorem drop_two {us:List Nat} {i a c:Nat} (h1:us[i]? =some a) (h2:us[i+1]? =some c):us.drop i=a::c::us.drop (i+2):=by rw [drop_cons8 h1,drop_cons8 h2]
theorem idx_bad {a c:Nat} {r:List Nat} {s p:Int} {acc:List Mk} (h:1099511627776<a∨1099511627776<c):idxGo (a::c::r) s p acc=none:=by rw [idxGo,if_pos h]
theorem idx_go {a c:Nat} {r:List Nat} {s p:Int} {acc:List Mk} (h: ¬ (1099511627776<a∨1099511627776<c)):idxGo (a::c::r) s p acc=idxGo r (s+a) (p+c) (acc++[⟨s+a,p+c⟩]):=by rw [idxGo,if_neg h]
theorem decNs_len: ∀ (n:Nat) (b:List UInt8) (a:Nat) (us:List Nat),(decNs n b a us).1.length≤us.length+n
 | 0,_,_,us=>by simp [decNs]
 | n+1,b,a,us=>by
  rw [decNs]
  split
  ·simp
  ·have:=decNs_len n b (a+(decV (b.drop a)).2.1) (us++[(decV (b.drop a)).1])
   simp only [List.length_append,List.length_cons,List.length_nil] at this
   omega
theorem decAll_len (b:List UInt8) (most:Nat):(decAll b most).1.length≤most:=by
 unfold decAll
 split
 ·simp
 ·split
  ·simp
  ·have:=decNs_len (decV b).1 b (decV b).2.1 []
   simp only [List.length_nil] at this
   omega
def IdxPost (w:World) (r:List Mk×Int) (e:Ending) (w':World):Prop:= ∃ v,e= .returned (.tuple #[v,.int .i64 r.2])∧MkOwn w' w.heap.size v r.1∧Below w.heap.size w w'
set_option maxRecDepth 100000 in
set_option maxHeartbeats 8000000 in
theorem idxDec_any (l:List UInt8) (v:Value) (w:World) (hv:BRow w v l) (hl:l.length≤140737488355328):
  Calls Tryz.prog 101 #[v] w (IdxPost w (idxDec l)):=by
 have HD0:=Lib.hid (decodeAll_any l v 1024 w hv hl (by decide) (by decide))
 obtain⟨oa,cap,rfl,hlc,hc⟩:=hv
 have HI:=Lib.hid (show idxDec l=if (decAll l 1024).2.2≠0 then ([],(decAll l 1024).2.2) else if (decAll l 1024).2.1≠l.length∨(decAll l 1024).1.length % 2≠0 then ([],70)
  else match idxGo (decAll l 1024).1 0 0 [] with
  | none=>([],70)
  | some ms=>if marksV ms then (ms,0) else ([],70) from rfl)
 have HLEN:=Lib.hid (decAll_len l 1024)
 obtain⟨r,hr⟩: ∃ r,r=decAll l 1024:=⟨_,rfl⟩
 rw [←hr] at HD0 HI HLEN
 clear hc hr
 obtain⟨us,at0,e0⟩:=r
 unfold AllPost at HD0
 go_enter Tryz.func101,Tryz.ntmps101
 go_wp2_with fail
 refine HD0.out.mono ?_
 rintro e w1 ⟨v1,rfl,ho1,hb1⟩
 have HUR:=Lib.hid (OwnU.row ho1)
 obtain⟨ob,bcap,hsh,hbl,_⟩:=own_shape ho1
 have HB1:=Lib.hid hb1
 subst hsh
 clear hb1 HD0 ho1 hbl hlc
 rcases he0:(e0 != 0) with _ | _
 ·have HE0:=Lib.hid (show e0=0 by simpa using he0)
  rcases hz:((at0:Int) != (l.length:Int)) with _ | _
  ·rcases hp2:((us.length:Int) % 2 != 0) with _ | _
   ·have HEV:=Lib.hid (show us.length % 2=0 by simp at hp2;omega)
    have HI2:=Lib.hid (show idxDec l=match idxGo us 0 0 [] with
     | none=>([],70)
     | some ms=>if marksV ms then (ms,0) else ([],70) by
     rw [HI.out,if_neg (fun h=>h HE0.out),if_neg (by rintro(h | h);exact h (by simp at hz;omega);exact h HEV.out)])
    have HA:=Lib.hid (mkBlk_alloc w1 ⟨0,0⟩)
    have HB2:=Lib.hid (Below.next HB1.out (below_alloc w1 (.cells (mkCs ⟨0,0⟩) 88)))
    have HUB:=Lib.hid (fun W (h:Below w1.heap.size w1 W)=>HUR.out.below h)
    have HU2:=Lib.hid (below_alloc w1 (.cells (mkCs ⟨0,0⟩) 88))
    have HW1:=Lib.hid (show (w1.alloc (.cells (mkCs ⟨0,0⟩) 88)).heap.size=w1.heap.size+1 by simp)
    have HSW:=Lib.hid HB1.out.size
    simp only [mkCs] at HA HB2 HU2 HW1
    clear HI HUR HB1
    go_wp2
    clear hz hp2 he0
    generalize w1.alloc (.cells #[.int .i64 0,.int .i64 0] 88)=w2 at*
    generalize w1.heap.size=g at*
    go_loopw [7,9] (fun mv iv wr=> ∃ (k:Nat) (x:Mk) (acc:List Mk),2*k≤us.length∧iv= .int .i64 ((2*k:Nat):Int)∧Hid (acc.length=k)∧Hid (MkBlk wr g x)∧Hid (0≤x.s∧x.s≤1099511627776*(k:Int)∧0≤x.p∧x.p≤1099511627776*(k:Int))∧Hid (MkOwn wr (g+1) mv acc)∧Hid (idxGo us 0 0 []=idxGo (us.drop (2*k)) x.s x.p acc)∧Hid (Below g w1 wr)∧Hid (Below w.heap.size w wr)∧Hid (g+1≤wr.heap.size)) (fun _ iv _=>us.length - (intOf iv).toNat)
    case atStart=>exact⟨0,⟨0,0⟩,[],Nat.zero_le _,rfl,Lib.hid rfl,HA,Lib.hid ⟨by decide,by decide,by decide,by decide⟩,Lib.hid (mkOwn_nil _ _),Lib.hid rfl,HU2,HB2,Lib.hid (by rw [HW1.out];exact Nat.le_refl _)⟩
    case round=>
     clear HA HU2 HB2 HW1
     obtain⟨k,x,acc,hk,rfl,HAL,HX,HXB,HO,HG,HU1,HB,HSZ⟩:=hrel
     have HU:=Lib.hid (HUB.out wr HU1.out)
     obtain⟨i,hi⟩: ∃ i,i=2*k:=⟨_,rfl⟩
     have HIK:=Lib.hid hi
     rw [←hi] at hk HG ⊢
     clear hi
     by_cases hlt:i<us.length
     ·have hlt1:i+1<us.length:=by have:=HEV.out;have:=HIK.out;omega
      obtain⟨va,hva,_,_⟩:=nth us i hlt
      obtain⟨vb,hvb,_,_⟩:=nth us (i+1) hlt1
      have HDR:=Lib.hid (drop_two hva hvb)
      obtain⟨ob',bc',eqs,_,huc⟩:=HU.out
      simp only [Value.slice.injEq,true_and] at eqs
      obtain⟨rfl,rfl⟩:=eqs
      obtain⟨b,off,rfl,ca⟩:=huc i va hva
      obtain⟨b',off',e2,cb⟩:=huc (i+1) vb hvb
      simp only [Option.some.injEq,Addr.mk.injEq,and_true] at e2
      obtain⟨rfl,rfl⟩:=e2
      have HLEN2:=Lib.hid (show i+1<1024 by have:=HLEN.out;omega)
      have q1:(i:Int)<(us.length:Int):=by omega
      obtain⟨j,hj⟩: ∃ j,j=i+1:=⟨_,rfl⟩
      have hwi:IntKind.i64.wrap ((i:Int)+1)=(j:Int):=by have:=HLEN2.out;rw [IntKind.wrap_i64];omega
      have q2:(j:Int)<(us.length:Int):=by omega
      rw [←hj] at cb
      clear hj
      have hwi2:IntKind.i64.wrap ((i:Int)+2)=(i:Int)+2:=by have:=HLEN2.out;rw [IntKind.wrap_i64];omega
      rw [HDR.out] at HG
      have HBD:=Lib.hid (@idx_bad va vb (us.drop (i+2)) x.s x.p acc)
      have HGO:=Lib.hid (@idx_go va vb (us.drop (i+2)) x.s x.p acc)
      have c0:=HX.out.c0
      have c1:=HX.out.c1
      clear hva hvb huc HDR
      rcases t1:decide ((1099511627776:Int)<(va:Int)) with _ | _
      ·rcases t2:decide ((1099511627776:Int)<(vb:Int)) with _ | _
       ·have ha:va≤1099511627776:=by simp at t1;omega
        have hb:vb≤1099511627776:=by simp at t2;omega
        have hwa:IntKind.i64.wrap (va:Int)=(va:Int):=by rw [IntKind.wrap_i64];omega
        have hwb:IntKind.i64.wrap (vb:Int)=(vb:Int):=by rw [IntKind.wrap_i64];omega
        have hwsa:IntKind.i64.wrap (x.s+(va:Int))=x.s+(va:Int):=by have:=HXB.out;have:=HLEN2.out;have:=HIK.out;rw [IntKind.wrap_i64];omega
        have hwsb:IntKind.i64.wrap (x.p+(vb:Int))=x.p+(vb:Int):=by have:=HXB.out;have:=HLEN2.out;have:=HIK.out;rw [IntKind.wrap_i64];omega
        have HG2:=Lib.hid (HGO.out (by omega))
        go_wp2
        go_still_tail 18,(by kernel_rfl)
        refine wpList_store_mk rfl (.tmp 8) (.tmp 67) rfl g x ⟨x.s+(va:Int),x.p+(vb:Int)⟩ rfl rfl (HX.out.below (below_drewN' wr 1)) ?_
        intro w4 hm4 ht4
        have HM4:=Lib.hid hm4
        have HO4:=Lib.hid ((HO.out.later (below_drewN' wr 1)).turned ht4 (Nat.lt_succ_self g))
        have HB4:=Lib.hid (turned_below (Below.next HB.out (below_drewN' wr 1)) ht4 (fun y hy=>by have:=HSW.out;omega) HB.out.size)
        have HU4:=Lib.hid (turned_below (HU1.out.trans ((below_drewN' wr 1).mono (by have:=HSZ.out;omega))) ht4 (fun y hy=>by omega) (show g≤wr.heap.size by have:=HSZ.out;omega))
        have hs4:g+1≤w4.heap.size:=Nat.le_trans HSZ.out ht4.size
        have HAL2:=Lib.hid (show acc.length≤100000 by have:=HAL.out;have:=HIK.out;have:=HLEN2.out;omega)
        clear hm4 ht4 HX HO HB HU c0 c1 ca cb
        go_wp2_with (first | (with_reducible refine wpList_load_mk rfl (.tmp 8) rfl g ⟨x.s+(va:Int),x.p+(vb:Int)⟩ rfl HM4.out ?_) | (refine wpList_appMk (m:=⟨x.s+(va:Int),x.p+(vb:Int)⟩) rfl (.tmp 68) (.tmp 70) rfl rfl rfl rfl HO4.out hs4 HAL2.out ?_))
        intro v5 w5 ho5 hb5 hs5
        have HO5:=Lib.hid ho5
        have HM5:=Lib.hid (HM4.out.keep hb5 (Nat.lt_succ_self g))
        have HB5:=Lib.hid (HB4.out.trans (hb5.mono (by have:=HSW.out;omega)))
        have HU5:=Lib.hid (HU4.out.trans (hb5.mono (Nat.le_succ g)))
        have HS5:=Lib.hid (Nat.le_trans hs4 hs5)
        clear ho5 hb5 hs5 hs4 HM4 HO4 HB4 HU4
        go_wp2
        go_roundw
        case rel=>exact⟨k+1,⟨x.s+(va:Int),x.p+(vb:Int)⟩,acc++[⟨x.s+(va:Int),x.p+(vb:Int)⟩],by have:=HIK.out;omega,by have:=HIK.out;first | (congr 1;omega) | (simp;omega),Lib.hid (by have:=HAL.out;simp;omega),HM5,Lib.hid (by have:=HXB.out;simp only;omega),HO5,Lib.hid (by rw [HG.out,HG2.out];have:=HIK.out;subst this;rfl),HU5,HB5,HS5⟩
        case measure=>simp [intOf];omega
       ·have HE:=Lib.hid (show idxDec l=([],70) by rw [HI2.out,HG.out,HBD.out (.inr (by simp at t2;omega))])
        go_wp2
        refine bodyPost_ret (v:= .tuple #[.slice none 0 0,.int .i64 70]) (by simp [results,Tryz.results101,go_sem]) rfl ⟨_,by rw [HE.out],by rw [HE.out];exact mkOwn_nil _ _,HB.out⟩
      ·have HE:=Lib.hid (show idxDec l=([],70) by rw [HI2.out,HG.out,HBD.out (.inl (by simp at t1;omega))])
       go_wp2
       refine bodyPost_ret (v:= .tuple #[.slice none 0 0,.int .i64 70]) (by simp [results,Tryz.results101,go_sem]) rfl ⟨_,by rw [HE.out],by rw [HE.out];exact mkOwn_nil _ _,HB.out⟩
     ·obtain rfl:i=us.length:=by omega
      have HG3:=Lib.hid (show idxDec l=if marksV acc then (acc,0) else ([],70) by rw [HI2.out,HG.out,List.drop_length];rfl)
      have HMV:=Lib.hid (marksValid_any acc _ wr HO.out.row)
      have HO2:=Lib.hid (HO.out.mono (B':=w.heap.size) (by have:=HSW.out;omega))
      obtain⟨m,hm⟩: ∃ m,m=marksV acc:=⟨_,rfl⟩
      rw [←hm] at HMV HG3
      clear hm HX
      go_wp2_with fail
      refine HMV.out.mono ?_
      rintro e w4 ⟨rfl,hb4⟩
      have HO4:=Lib.hid (HO2.out.later hb4)
      have HB4:=Lib.hid (Below.next HB.out hb4)
      clear hb4 HMV
      rcases m with _ | _
      ·go_wp2
       refine bodyPost_ret (v:= .tuple #[.slice none 0 0,.int .i64 70]) (by simp [results,Tryz.results101,go_sem]) rfl ⟨_,by rw [HG3.out];rfl,by rw [HG3.out];exact mkOwn_nil _ _,HB4.out⟩
      ·go_wp2
       refine bodyPost_ret (v:= .tuple #[_,.int .i64 0]) (by simp [results,Tryz.results101,go_sem];first | rfl | skip) rfl ⟨_,by rw [HG3.out];rfl,by rw [HG3.out];exact HO4.out,HB4.out⟩
   ·have HE:=Lib.hid (show idxDec l=([],70) by rw [HI.out,if_neg (fun h=>h HE0.out),if_pos (.inr (by simp at hp2;omega))])
    go_wp2
    refine bodyPost_ret (v:= .tuple #[.slice none 0 0,.int .i64 70]) (by simp [results,Tryz.results101,go_sem]) rfl ⟨_,by rw [HE.out],by rw [HE.out];exact mkOwn_nil _ _,HB1.out⟩
  ·have HE:=Lib.hid (show idxDec l=([],70) by rw [HI.out,if_neg (fun h=>h HE0.out),if_pos (.inl (by intro e;simp [e] at hz))])
   go_wp2
   refine bodyPost_ret (v:= .tuple #[.slice none 0 0,.int .i64 70]) (by simp [results,Tryz.results101,go_sem]) rfl ⟨_,by rw [HE.out],by rw [HE.out];exact mkOwn_nil _ _,HB1.out⟩
 ·have HE:=Lib.hid (show idxDec l=([],e0) by rw [HI.out,if_pos (show e0≠0 by simpa using he0)])
  go_wp2
  refine bodyPost_ret (v:= .tuple #[.slice none 0 0,.int .i64 e0]) (by simp [results,Tryz.results101,go_sem]) rfl ⟨_,by rw [HE.out],by rw [HE.out];exact mkOwn_nil _ _,HB1.out⟩
end Go.Proofs.YtcglcphhfmkccaaGreatDoor

namespace Go.Proofs.YtcglcphhfmkccaaGreatDoor
open Go.RowKit
def clCs (a c d:Int) (mv:Value):Array Value:= #[.int .i64 a,.int .i64 c,.int .i64 d,mv]
@[reducible] def clV (a c d : Int) (mv : Value) : Value := .agg #[.int .i64 a, .int .i64 c, .int .i64 d, mv]
theorem clInfo:(Tryz.prog.info? 137).map (·.size)=some 4:=by kernel_rfl
def ClBlk (w:World) (g:Nat) (a c d:Int) (mv:Value):Prop:=w.heap[g]? =some (.cells (clCs a c d mv) 137 (0,0))
theorem ClBlk.lt {w:World} {g:Nat} {a c d:Int} {mv:Value} (h:ClBlk w g a c d mv):g<w.heap.size:=(Array.getElem?_eq_some_iff.1 h).1
theorem ClBlk.below {w w':World} {g:Nat} {a c d:Int} {mv:Value} (h:ClBlk w g a c d mv) (hb:Below w.heap.size w w'):ClBlk w' g a c d mv:=by
 unfold ClBlk at *;rw [hb.block g (Array.getElem?_eq_some_iff.1 h).1];exact h
theorem ClBlk.cell {w:World} {g:Nat} {a c d:Int} {mv:Value} (h:ClBlk w g a c d mv) (j:Nat):w.cell? ⟨g,j,none⟩=(clCs a c d mv)[j]? :=by
 unfold ClBlk at h;simp [World.cell?,h]
theorem clBlk_alloc (w:World) (a c d:Int) (mv:Value):ClBlk (w.alloc (.cells (clCs a c d mv) 137)) w.heap.size a c d mv:=heap_alloc_new w _
theorem clCs_all (a c d:Int) (v:Value) (h:v.oneCell'=true):(clCs a c d v).all (·.oneCell')=true:=
 Array.all_eq_true_iff_forall_mem.2 (by
  intro u hu
  simp only [clCs,List.mem_toArray,List.mem_cons,List.not_mem_nil,or_false] at hu
  rcases hu with rfl | rfl | rfl | rfl<;>first | rfl | assumption)
theorem wpList_store_cl {ops:Array Oper} {rest:List Oper} {o:Oper} {a:Act} {w:World} {Q:Exit→Act→World→Prop} (hgd:o.guard=none) (x y:Operand) (ho:o.op= .store 137 x y)
  (g:Nat) (p q r p' q' r':Int) (mv mv':Value) (hx:a.eval x= .pointer (some ⟨g,0,none⟩)) (hy:a.eval y=clV p' q' r' mv') (hE:ClBlk w g p q r mv) (h1:mv'.oneCell'=true)
  (h: ∀ W,ClBlk W g p' q' r' mv'→Turned (fun k=>k=g) w W→wpList Tryz.prog ops Q rest (a.put o.dst undef) W):wpList Tryz.prog ops Q (o::rest) a w:=
 wpList_store_row hgd 137 x y ho g (clCs p' q' r' mv') hx hy 137 (clCs p q r mv) hE clInfo rfl (clCs_all p' q' r' mv' h1) (h _ (setRow_heap w g _ _ _ _ hE) (run_setRow_turned _ _ _))
theorem results_cl2 {fn:Func} {p q:Tmp} (h:fn.results= #[.cell p 137,.tmp q]) (tmps:Array Value) (w:World) (g:Nat) (a c d:Int) (mv x:Value)
  (hp:tmps.getD p undef= .pointer (some ⟨g,0,none⟩)) (hq:tmps.getD q undef=x) (hE:ClBlk w g a c d mv):(results fn tmps).run Tryz.prog w= .ok (.tuple #[clV a c d mv,x]) w:=by
 have hl:(loadVar 137 ⟨g,0,none⟩).run Tryz.prog w= .ok (clV a c d mv) w:=run_loadVar_row (P:=Tryz.prog) w g 137 137 (clCs a c d mv) (0,0) _ hE Tryz.underlying137 rfl clInfo
 have hp':tmps[p]?.getD undef= .pointer (some ⟨g,0,none⟩):=by simpa using hp
 have hq':tmps[q]?.getD undef=x:=by simpa using hq
 simp [results,h,hp',hq',asAddr,hl]
structure Cls where
 first:Nat
 count:Nat
 stride:Nat
 marks:List Mk
def clsIn (vs:List Nat) (rest:List UInt8):Option Cls:=
 match vs with
 | [a,c,d]=>if d<1∨64<d∨c<1 then none else if (idxDec rest).2=0 then some ⟨a,c,d,(idxDec rest).1⟩ else none
 | _=>none
def uncloseV (b:List UInt8):Option Cls:=match unnumsV 3 b [] with
 | none=>none
 | some r=>clsIn r.1 r.2
theorem list3 {vs:List Nat} (h:vs.length=3): ∃ a c d,vs=[a,c,d]:=by
 match vs,h with
 | [a,c,d],_=>exact⟨a,c,d,rfl⟩
theorem OwnI.three {w:World} {B:Nat} {v:Value} {a c d:Nat} (h:OwnI w B v [a,c,d]): ∃ g cap,v= .slice (some ⟨g,0,none⟩) 3 cap∧3≤cap∧B≤g∧w.cell? ⟨g,0,none⟩=some (.int .i64 (a:Int))∧w.cell? ⟨g,1,none⟩=some (.int .i64 (c:Int))∧w.cell? ⟨g,2,none⟩=some (.int .i64 (d:Int)):=by
 obtain⟨g,cap,e,h1,hB,h3⟩:=h.at (by simp)
 exact⟨g,cap,e,h1,hB,h3 0 a rfl,h3 1 c rfl,h3 2 d rfl⟩
def ClPost (w:World) (r:Option Cls) (e:Ending) (w':World):Prop:=Below w.heap.size w w'∧
 match r with
 | none=> ∃ (a c d:Int) (oa:Option Addr) (n cap:Nat),e= .returned (.tuple #[clV a c d (.slice oa n cap),.bool false])
 | some r=> ∃ mv,e= .returned (.tuple #[clV (r.first:Int) (r.count:Int) (r.stride:Int) mv,.bool true])∧MkOwn w' w.heap.size mv r.marks∧1≤r.count∧r.count≤2199023255552∧1≤r.stride∧r.stride≤64∧r.first≤2199023255552
set_option maxRecDepth 100000 in
set_option maxHeartbeats 8000000 in
theorem unclose_any (l:List UInt8) (v:Value) (w:World) (hv:BRow w v l) (hl:l.length≤140737488355328):
  Calls Tryz.prog 63 #[v] w (ClPost w (uncloseV l)):=by
 have HB0:=Lib.hid (below_alloc w (.cells (clCs 0 0 0 (.slice none 0 0)) 137))
 have HF0:=Lib.hid (clBlk_alloc w 0 0 0 (.slice none 0 0))
 have HU:=Lib.hid (unnums_any l v 3 _ (hv.below HB0.out) hl (by decide))
 have HSZ0:=Lib.hid (show (w.alloc (.cells (clCs 0 0 0 (.slice none 0 0)) 137)).heap.size=w.heap.size+1 by simp)
 have HUL:=Lib.hid (fun r (h:unnumsV 3 l []=some r)=>unnums_len h)
 have HUM:=Lib.hid (fun r (h:unnumsV 3 l []=some r)=>unnums_le h (fun _ h=>by cases h))
 have HH:=Lib.hid (show uncloseV l=match unnumsV 3 l [] with
  | none=>none
  | some r=>clsIn r.1 r.2 from rfl)
 obtain⟨oa,cap,rfl,_,_⟩:=hv
 obtain⟨r,hr⟩: ∃ r,r=unnumsV 3 l []:=⟨_,rfl⟩
 rw [←hr] at HU HUL HUM HH
 clear hr
 simp only [clCs] at HB0 HF0 HU HSZ0
 go_enter Tryz.func63,Tryz.ntmps63
 go_wp2_with fail
 refine HU.out.mono ?_
 rintro e w1 ⟨hb1,hpost⟩
 have HB1:=Lib.hid (Below.next HB0.out hb1)
 have HF1:=Lib.hid (ClBlk.below HF0.out hb1)
 clear hb1 HU HF0 HB0
 rcases r with _ | ⟨vs,rest⟩
 ·simp only at hpost
  subst hpost
  go_wp2_with (with_reducible refine wpList_store_cl rfl (.tmp 2) (.tmp 35) rfl w.heap.size 0 0 0 0 0 0 (.slice none 0 0) (.slice none 0 0) rfl rfl HF1.out rfl ?_)
  intro w3 hf3 ht3
  have HF3:=Lib.hid hf3
  have HB3:=Lib.hid (turned_below HB1.out ht3 (fun k hk=>by omega) HB1.out.size)
  clear hf3 ht3
  go_wp2
  refine bodyPost_ret (v:= .tuple #[clV 0 0 0 (.slice none 0 0),.bool false]) (results_cl2 rfl _ _ w.heap.size 0 0 0 (.slice none 0 0) _ rfl rfl HF3.out) rfl ⟨HB3.out,by rw [HH.out];exact⟨0,0,0,none,0,0,rfl⟩⟩
 ·obtain⟨vv,rv,rfl,hov,hrv⟩:=hpost
  obtain⟨a,c,d,hvs⟩:=list3 (by have:=(HUL.out _ rfl).1;simpa using this)
  subst hvs
  have ha:a≤2199023255552:=HUM.out _ rfl a (by simp)
  have hc:c≤2199023255552:=HUM.out _ rfl c (by simp)
  have hrl:rest.length≤l.length:=(HUL.out _ rfl).2
  have HOV:=Lib.hid hov
  obtain⟨gv,vcap,rfl,hvc,hgv,d0,d1,d2⟩:=hov.three
  rw [HSZ0.out] at hgv
  have HID:=Lib.hid (idxDec_any rest rv w1 hrv (by omega))
  have HH3:=Lib.hid (show uncloseV l=if d<1∨64<d∨c<1 then none else if (idxDec rest).2=0 then some ⟨a,c,d,(idxDec rest).1⟩ else none by rw [HH.out];rfl)
  obtain⟨ra,rcap,rfl,_,_⟩:=hrv
  clear HUL HUM hov HH HOV hrl HSZ0
  rcases t1:decide ((d:Int)<1) with _ | _
  ·rcases t2:decide ((64:Int)<(d:Int)) with _ | _
   ·rcases t3:decide ((c:Int)<1) with _ | _
    ·have HH4:=Lib.hid (show uncloseV l=if (idxDec rest).2=0 then some ⟨a,c,d,(idxDec rest).1⟩ else none by rw [HH3.out,if_neg (by simp at t1 t2 t3;omega)])
     have HBDS:=Lib.hid (show 1≤c∧1≤d∧d≤64 by simp at t1 t2 t3;omega)
     obtain⟨r,hr⟩: ∃ r,r=idxDec rest:=⟨_,rfl⟩
     rw [←hr] at HID HH4
     clear hr HH3
     obtain⟨ms,e0⟩:=r
     unfold IdxPost at HID
     go_wp2_with fail
     refine HID.out.mono ?_
     rintro e w2 ⟨mv,rfl,hmo,hb2⟩
     obtain⟨om,mcap,hsh,_,_⟩:=own_shape hmo
     subst hsh
     have HMO:=Lib.hid hmo
     have HB2:=Lib.hid (Below.next HB1.out hb2)
     have HF2:=Lib.hid (ClBlk.below HF1.out hb2)
     have hlt:=HF1.out.lt
     have D0:=Lib.hid (cell_later hb2 d0)
     have D1:=Lib.hid (cell_later hb2 d1)
     have D2:=Lib.hid (cell_later hb2 d2)
     have hneq: ¬ gv=w.heap.size:=by omega
     clear hb2 hmo d0 d1 d2 HID HB1 HF1
     go_wp2_with fail
     refine wp_region_held_drew (S:=fun w'=>Turned (fun k=>k=w.heap.size) w2 w') (by kernel_rfl) (Turned.below (below_drewN' _ 1)) (fun hHeld=> ?_)
     have FX1:=Lib.hid (fun(wF:World) (hSw:(fun w'=>Turned (fun k=>k=w.heap.size) w2 w') wF)=>And.intro ((hSw.cell D0.out hneq)) (And.intro ((hSw.cell D1.out hneq)) ((hSw.cell D2.out hneq))))
     refine tf FX1 0 rfl ?_
     refine tf FX1 1 rfl ?_
     refine tf FX1 2 rfl ?_
     refine tf FX1 3 rfl ?_
     refine tf FX1 4 rfl ?_
     refine tf FX1 5 rfl ?_
     refine tf FX1 6 rfl ?_
     refine tf FX1 7 rfl ?_
     refine tf FX1 8 rfl ?_
     refine tf FX1 9 rfl ?_
     refine tf FX1 10 rfl ?_
     refine tf FX1 11 rfl ?_
     refine tf FX1 12 rfl ?_
     clear FX1
     have HF3:=Lib.hid (ClBlk.below HF2.out (below_drewN' w2 1))
     refine wpAnyH_ready (rs:=[13]) (by kernel_rfl) (by simp) ?_
     refine AllReadyH.cons rfl (fun K hK=> ?_) AllReadyH.nil
     rw [if_pos (by kernel_rfl)]
     refine wp_store_row 137 (.tmp 2) (.tmp 51) rfl w.heap.size (clCs (a:Int) (c:Int) (d:Int) (.slice om ms.length mcap)) rfl rfl 137 (clCs 0 0 0 (.slice none 0 0)) HF3.out clInfo rfl (clCs_all _ _ _ _ rfl) ?_
     have HT4:=Lib.hid (hHeld.trans (run_setRow_turned (w2.drewN 1) w.heap.size (clCs (a:Int) (c:Int) (d:Int) (.slice om ms.length mcap))) (fun i hi=> .inl hi))
     have HF4:=Lib.hid (show ClBlk ((w2.drewN 1).setRow w.heap.size (clCs (a:Int) (c:Int) (d:Int) (.slice om ms.length mcap))) w.heap.size (a:Int) (c:Int) (d:Int) (.slice om ms.length mcap) from setRow_heap _ _ _ _ _ _ HF3.out)
     refine hK.out _ _ HT4.out (fun hHeld=> ?_)
     clear hK K
     have HB4:=Lib.hid (turned_below HB2.out HT4.out (fun k hk=>by omega) HB2.out.size)
     have HM4:=Lib.hid ((HMO.out.turned HT4.out hlt).mono (Nat.le_of_lt hlt))
     refine tk 14 rfl ?v_2 ?hy_2 ?r_2
     case hy_2=>intro w hSw;go_simp;try with_reducible rfl
     simp only [pA]
     refine wpAnyH_done (by kernel_rfl) ?_ _
     rcases he:(e0==0) with _ | _
     ·have HG:=Lib.hid (show uncloseV l=none by rw [HH4.out,if_neg (by simpa using he)])
      go_wp2
      refine bodyPost_ret (v:= .tuple #[clV (a:Int) (c:Int) (d:Int) (.slice om ms.length mcap),.bool false]) (results_cl2 rfl _ _ w.heap.size _ _ _ _ _ rfl rfl HF4.out) rfl ⟨HB4.out,by rw [HG.out];exact⟨_,_,_,_,_,_,rfl⟩⟩
     ·have HG:=Lib.hid (show uncloseV l=some ⟨a,c,d,ms⟩ by rw [HH4.out,if_pos (by simpa using he)])
      go_wp2
      refine bodyPost_ret (v:= .tuple #[clV (a:Int) (c:Int) (d:Int) (.slice om ms.length mcap),.bool true]) (results_cl2 rfl _ _ w.heap.size _ _ _ _ _ rfl rfl HF4.out) rfl ⟨HB4.out,by rw [HG.out];exact⟨_,rfl,HM4.out,HBDS.out.1,hc,HBDS.out.2.1,HBDS.out.2.2,ha⟩⟩
    ·have HG:=Lib.hid (show uncloseV l=none by rw [HH3.out,if_pos (.inr (.inr (by simp at t3;omega)))])
     go_wp2_with (with_reducible refine wpList_store_cl rfl (.tmp 2) (.tmp 35) rfl w.heap.size 0 0 0 0 0 0 (.slice none 0 0) (.slice none 0 0) rfl rfl HF1.out rfl ?_)
     intro w3 hf3 ht3
     have HF3:=Lib.hid hf3
     have HB3:=Lib.hid (turned_below HB1.out ht3 (fun k hk=>by omega) HB1.out.size)
     clear hf3 ht3
     go_wp2
     refine bodyPost_ret (v:= .tuple #[clV 0 0 0 (.slice none 0 0),.bool false]) (results_cl2 rfl _ _ w.heap.size 0 0 0 (.slice none 0 0) _ rfl rfl HF3.out) rfl ⟨HB3.out,by rw [HG.out];exact⟨0,0,0,none,0,0,rfl⟩⟩
   ·have HG:=Lib.hid (show uncloseV l=none by rw [HH3.out,if_pos (.inr (.inl (by simp at t2;omega)))])
    go_wp2_with (with_reducible refine wpList_store_cl rfl (.tmp 2) (.tmp 35) rfl w.heap.size 0 0 0 0 0 0 (.slice none 0 0) (.slice none 0 0) rfl rfl HF1.out rfl ?_)
    intro w3 hf3 ht3
    have HF3:=Lib.hid hf3
    have HB3:=Lib.hid (turned_below HB1.out ht3 (fun k hk=>by omega) HB1.out.size)
    clear hf3 ht3
    go_wp2
    refine bodyPost_ret (v:= .tuple #[clV 0 0 0 (.slice none 0 0),.bool false]) (results_cl2 rfl _ _ w.heap.size 0 0 0 (.slice none 0 0) _ rfl rfl HF3.out) rfl ⟨HB3.out,by rw [HG.out];exact⟨0,0,0,none,0,0,rfl⟩⟩
  ·have HG:=Lib.hid (show uncloseV l=none by rw [HH3.out,if_pos (.inl (by simp at t1;omega))])
   go_wp2_with (with_reducible refine wpList_store_cl rfl (.tmp 2) (.tmp 35) rfl w.heap.size 0 0 0 0 0 0 (.slice none 0 0) (.slice none 0 0) rfl rfl HF1.out rfl ?_)
   intro w3 hf3 ht3
   have HF3:=Lib.hid hf3
   have HB3:=Lib.hid (turned_below HB1.out ht3 (fun k hk=>by omega) HB1.out.size)
   clear hf3 ht3
   go_wp2
   refine bodyPost_ret (v:= .tuple #[clV 0 0 0 (.slice none 0 0),.bool false]) (results_cl2 rfl _ _ w.heap.size 0 0 0 (.slice none 0 0) _ rfl rfl HF3.out) rfl ⟨HB3.out,by rw [HG.out];exact⟨0,0,0,none,0,0,rfl⟩⟩
end Go.Proofs.YtcglcphhfmkccaaGreatDoor

namespace Go.Proofs.YtcglcphhfmkccaaGreatDoor
open Go.RowKit
def closeOk (first stride:Nat) (foot:Int):Nat→List Mk→Bool
 | _,[]=>true
 | i,m::r=>if m.s≠((first+i*stride:Nat):Int)∨foot≤m.p then false else closeOk first stride foot (i+1) r
def closeIn (c:Cls) (g:Sg):Option (List Mk×Nat):=
 if (c.first:Int)≠g.first∨(c.count:Int)≠g.count∨c.marks.length≠(c.count+c.stride - 1) / c.stride then none
 else if closeOk c.first c.stride g.foot 0 c.marks then some (c.marks,c.stride) else none
def closingV (b:List UInt8) (g:Sg):Option (List Mk×Nat):=
 if (wholeF b 3).2≠0∨((wholeF b 3).1.s:Int)≠g.num then none
 else match uncloseV (wholeF b 3).1.body with
  | none=>none
  | some c=>closeIn c g
theorem wholeF_len (b:List UInt8) (k:Nat):(wholeF b k).1.body.length≤16384:=by
 unfold wholeF
 split
 ·simp [zFrm]
 ·rename_i h
  split
  ·simp [zFrm]
  ·exact(decF_fine (by simpa using h)).2.1
def ClosP (w:World) (r:Option (List Mk×Nat)) (e:Ending) (w':World):Prop:=Below w.heap.size w w'∧
 match r with
 | none=>e= .returned (.tuple #[.slice none 0 0,.int .i64 0,.int .i64 70])
 | some r=> ∃ mv,e= .returned (.tuple #[mv,.int .i64 (r.2:Int),.int .i64 0])∧MkOwn w' w.heap.size mv r.1
theorem close_bad {first stride i:Nat} {foot:Int} {m:Mk} {r:List Mk} (h:m.s≠((first+i*stride:Nat):Int)∨foot≤m.p):closeOk first stride foot i (m::r)=false:=by rw [closeOk,if_pos h]
theorem close_go {first stride i:Nat} {foot:Int} {m:Mk} {r:List Mk} (h: ¬ (m.s≠((first+i*stride:Nat):Int)∨foot≤m.p)):closeOk first stride foot i (m::r)=closeOk first stride foot (i+1) r:=by rw [closeOk,if_neg h]
set_option maxRecDepth 100000 in
set_option maxHeartbeats 8000000 in
theorem closing_any (l:List UInt8) (v:Value) (g:Sg) (w:World) (hv:BRow w v l) (hl:l.length≤140737488355328) (hn:NibTab w):
  Calls Tryz.prog 38 #[v,sgV g] w (ClosP w (closingV l g)):=by
 have HB0:=Lib.hid (below_alloc w (.cells (sgCs g) 63))
 have HG0:=Lib.hid (show (w.alloc (.cells (sgCs g) 63)).heap[w.heap.size]? =some (.cells (sgCs g) 63 (0,0)) from heap_alloc_new w _)
 have HWH:=Lib.hid (whole_any l v 3 _ (hv.below HB0.out) (by omega) (hn.below HB0.out))
 have HH:=Lib.hid (show closingV l g=if (wholeF l 3).2≠0∨((wholeF l 3).1.s:Int)≠g.num then none
  else match uncloseV (wholeF l 3).1.body with
  | none=>none
  | some c=>closeIn c g from rfl)
 have HBL:=Lib.hid (wholeF_len l 3)
 have HSZ0:=Lib.hid (show (w.alloc (.cells (sgCs g) 63)).heap.size=w.heap.size+1 by simp)
 obtain⟨oa,cap,rfl,_,_⟩:=hv
 obtain⟨r,hr⟩: ∃ r,r=wholeF l 3:=⟨_,rfl⟩
 rw [←hr] at HWH HH HBL
 clear hr hn
 obtain⟨⟨k,s,body⟩,e0⟩:=r
 unfold WholePost at HWH
 simp only [sgCs] at HB0 HG0 HWH HSZ0
 go_enter Tryz.func38,Tryz.ntmps38
 go_wp2_with fail
 refine HWH.out.mono ?_
 rintro e w1 ⟨bv,rfl,hbv,hb1⟩
 have HB1:=Lib.hid (Below.next HB0.out hb1)
 have HG1:=Lib.hid ((hb1.block _ (Array.getElem?_eq_some_iff.1 HG0.out).1).trans HG0.out)
 have HBV:=Lib.hid hbv.brow
 obtain⟨ob,bcap,rfl,_,_⟩:=hbv
 have HB2:=Lib.hid (Below.next HB1.out (below_alloc w1 (.cells (frCs (k:Int) (s:Int) (.slice ob body.length bcap)) 105)))
 have HF2:=Lib.hid (frBlk_alloc w1 (k:Int) (s:Int) (.slice ob body.length bcap))
 have HV2:=Lib.hid (HBV.out.below (below_alloc w1 (.cells (frCs (k:Int) (s:Int) (.slice ob body.length bcap)) 105)))
 have HG2:=Lib.hid (((below_alloc w1 (.cells (frCs (k:Int) (s:Int) (.slice ob body.length bcap)) 105)).block _ (Array.getElem?_eq_some_iff.1 HG1.out).1).trans HG1.out)
 simp only [frCs] at HB2 HF2 HV2 HG2
 have c1:=HF2.out.c1
 have g0:=cell_of_row _ _ 0 _ _ _ HG2.out
 simp only [List.getElem?_toArray,List.getElem?_cons_zero] at g0
 clear hb1 HB0 HG0 HWH HB1 HG1 HBV HSZ0
 rcases he0:(e0 != 0) with _ | _
 ·rcases hs:((s:Int) != g.num) with _ | _
  ·have HH2:=Lib.hid (show closingV l g=match uncloseV body with
    | none=>none
    | some c=>closeIn c g by
    rw [HH.out,if_neg (by rintro(h | h);exact h (by simpa using he0);exact h (by simpa using hs))])
   have HUC:=Lib.hid (fun W (hb:BRow W (.slice ob body.length bcap) body)=>unclose_any body _ W hb (by have:=HBL.out;omega))
   obtain⟨r,hr⟩: ∃ r,r=uncloseV body:=⟨_,rfl⟩
   rw [←hr] at HUC HH2
   clear hr HH
   go_wp2_with fail
   generalize w1.alloc (.cells #[.int .i64 (k:Int),.int .i64 (s:Int),.slice ob body.length bcap] 105)=w2 at*
   generalize w1.heap.size=gf at*
   refine(HUC.out w2 HV2.out).mono ?_
   rintro e w3 ⟨hb3,hpost⟩
   have HB3:=Lib.hid (Below.next HB2.out hb3)
   have HG3:=Lib.hid ((hb3.block _ (Array.getElem?_eq_some_iff.1 HG2.out).1).trans HG2.out)
   clear HUC HV2 HF2 c1 g0
   rcases r with _ | c
   ·obtain⟨a',c',d',oa',n',cap',rfl⟩:=hpost
    have HB4:=Lib.hid (Below.next HB3.out (below_alloc w3 (.cells (clCs a' c' d' (.slice oa' n' cap')) 137)))
    simp only [clCs] at HB4
    clear hb3
    go_wp2_with fail
    go_quiet (fail)
    go_wp2
    refine bodyPost_ret (v:= .tuple #[.slice none 0 0,.int .i64 0,.int .i64 70]) (by simp [results,Tryz.results38,go_sem]) rfl ⟨Below.next HB4.out (below_drewN' _ _),by rw [HH2.out]⟩
   ·obtain⟨cf,cc,cs,ms⟩:=c
    obtain⟨mv,rfl,hmo,hc1,hc2,hs1,hs2,hf1⟩:=hpost
    dsimp only at hmo hc1 hc2 hs1 hs2 hf1
    obtain⟨om,mcap,hsh,hml,_⟩:=own_shape hmo
    subst hsh
    have HMO:=Lib.hid hmo
    have HB4:=Lib.hid (Below.next HB3.out (below_alloc w3 (.cells (clCs (cf:Int) (cc:Int) (cs:Int) (.slice om ms.length mcap)) 137)))
    have HC4:=Lib.hid (clBlk_alloc w3 (cf:Int) (cc:Int) (cs:Int) (.slice om ms.length mcap))
    have HMO4:=Lib.hid ((HMO.out.later (below_alloc w3 (.cells (clCs (cf:Int) (cc:Int) (cs:Int) (.slice om ms.length mcap)) 137))).mono (B':=w.heap.size) HB2.out.size)
    have HG4:=Lib.hid (((below_alloc w3 (.cells (clCs (cf:Int) (cc:Int) (cs:Int) (.slice om ms.length mcap)) 137)).block _ (Array.getElem?_eq_some_iff.1 HG3.out).1).trans HG3.out)
    simp only [clCs] at HB4 HC4 HMO4 HG4
    have HH3:=Lib.hid (show closingV l g=if (cf:Int)≠g.first∨(cc:Int)≠g.count∨ms.length≠(cc+cs - 1) / cs then none
     else if closeOk cf cs g.foot 0 ms then some (ms,cs) else none by rw [HH2.out];rfl)
    clear hmo HH2 HB3 HG3 HMO hb3
    go_wp2_with fail
    generalize w3.alloc (.cells #[.int .i64 (cf:Int),.int .i64 (cc:Int),.int .i64 (cs:Int),.slice om ms.length mcap] 137)=w4 at*
    generalize w3.heap.size=gc at*
    have k0:=HC4.out.cell 0
    have k1:=HC4.out.cell 1
    have k2:=HC4.out.cell 2
    have k3:=HC4.out.cell 3
    have j1:=cell_of_row w4 _ 1 _ _ _ HG4.out
    have j2:=cell_of_row w4 _ 2 _ _ _ HG4.out
    have j3:=cell_of_row w4 _ 3 _ _ _ HG4.out
    simp only [clCs,List.getElem?_toArray,List.getElem?_cons_zero,List.getElem?_cons_succ] at k0 k1 k2 k3 j1 j2 j3
    obtain⟨N,hN⟩: ∃ N,N=cc+cs - 1:=⟨_,rfl⟩
    have HN:=Lib.hid hN
    have hw1:IntKind.i64.wrap ((cc:Int)+(cs:Int))=(cc:Int)+(cs:Int):=by rw [IntKind.wrap_i64];omega
    have hw2:IntKind.i64.wrap ((cc:Int)+(cs:Int) - 1)=(N:Int):=by rw [IntKind.wrap_i64];omega
    have hcs0: ¬ cs=0:=by omega
    clear hN
    rcases hcf:((cf:Int) != g.first) with _ | _
    ·rcases hcc:((cc:Int) != g.count) with _ | _
     ·obtain⟨Q,hQ⟩: ∃ Q,Q=N / cs:=⟨_,rfl⟩
      have HQQ:=Lib.hid hQ
      have hQN:Q≤N:=by rw [hQ];exact Nat.div_le_self _ _
      have hN3:N≤2199023255616:=by have:=HN.out;omega
      have hwq:wrap64 ((N:Int) / (cs:Int))=(Q:Int):=by
       have e:(N:Int) / (cs:Int)=(Q:Int):=by rw [hQ];exact(Int.natCast_ediv N cs).symm
       rw [e]
       have h1:(0:Int)≤(Q:Int):=Int.natCast_nonneg Q
       have h2:(Q:Int)≤2199023255616:=by omega
       unfold wrap64
       omega
      clear hQ
      rcases hqm:((ms.length:Int) != (Q:Int)) with _ | _
      ·have HQ:=Lib.hid (show ms.length=N / cs by rw [←HQQ.out];exact Int.ofNat.inj (by simpa using hqm))
       have HH4:=Lib.hid (show closingV l g=if closeOk cf cs g.foot 0 ms then some (ms,cs) else none by
        rw [HH3.out,if_neg (by rintro(h | h | h);exact h (by simpa using hcf);exact h (by simpa using hcc);exact h (by rw [HQ.out,HN.out]))])
       go_quiet (fail)
       have HB5:=Lib.hid (Below.next HB4.out (below_drewN' w4 nq))
       have HC5:=Lib.hid (HC4.out.below (below_drewN' w4 nq))
       have HMO5:=Lib.hid (HMO4.out.later (below_drewN' w4 nq))
       have HG5:=Lib.hid (((below_drewN' w4 nq).block _ (Array.getElem?_eq_some_iff.1 HG4.out).1).trans HG4.out)
       generalize w4.drewN nq=w5 at*
       have k3:=HC5.out.cell 3
       simp only [clCs,List.getElem?_toArray,List.getElem?_cons_zero,List.getElem?_cons_succ] at k3
       clear HB4 HC4 HMO4 HG4 HH3 hw1 hw2 hwq
       go_wp2
       clear hqm hcf hcc
       go_loopw [67] (fun iv wr=> ∃ k:Nat,k≤ms.length∧iv= .int .i64 (k:Int)∧Hid (Below w5.heap.size w5 wr)∧Hid (closeOk cf cs g.foot 0 ms=closeOk cf cs g.foot k (ms.drop k))) (fun iv _=>ms.length - (intOf iv).toNat)
       case atStart=>exact⟨0,Nat.zero_le _,rfl,Lib.hid (Below.refl _ _),Lib.hid rfl⟩
       case round=>
        obtain⟨i,hk,rfl,HBR,HCO⟩:=hrel
        by_cases hlt:i<ms.length
        ·obtain⟨m,hm,_,_⟩:=nth ms i hlt
         obtain⟨_,_,eqs,_,_,hrow⟩:=HMO5.out.row
         simp only [Value.slice.injEq,true_and] at eqs
         obtain⟨rfl,rfl⟩:=eqs
         obtain⟨b,off,rfl,hcell⟩:=hrow i m hm
         have q1:(i:Int)<(ms.length:Int):=by omega
         have HCE:=Lib.hid (range_later hcell HBR.out)
         have HAL:=Lib.hid (Below.next HBR.out (below_alloc wr (.cells (mkCs m) 88)))
         have HMB:=Lib.hid (mkBlk_alloc wr m)
         have HDR:=Lib.hid (drop_cons8 hm)
         have hiq:i*cs≤N:=by
          have h1:=HQ.out
          have h2:i*cs≤N / cs*cs:=Nat.mul_le_mul_right _ (by omega)
          exact Nat.le_trans h2 (Nat.div_mul_le_self _ _)
         have hN2:N≤2199023255616:=by have:=HN.out;omega
         obtain⟨q,hq⟩: ∃ q,q=i*cs:=⟨_,rfl⟩
         obtain⟨u,hu⟩: ∃ u,u=cf+i*cs:=⟨_,rfl⟩
         have hcast:(i:Int)*(cs:Int)=(q:Int):=by rw [hq];exact(Int.natCast_mul i cs).symm
         rw [←hq] at hiq
         have hwm:IntKind.i64.wrap ((i:Int)*(cs:Int))=(q:Int):=by rw [hcast,IntKind.wrap_i64];omega
         have hwa:IntKind.i64.wrap ((cf:Int)+(q:Int))=(u:Int):=by rw [hu,←hq,IntKind.wrap_i64];omega
         have hwi:IntKind.i64.wrap ((i:Int)+1)=(i:Int)+1:=by have:=HQ.out;have:N / cs≤N:=Nat.div_le_self _ _;rw [IntKind.wrap_i64];omega
         have HBD:=Lib.hid (@close_bad cf cs i g.foot m (ms.drop (i+1)))
         have HGO:=Lib.hid (@close_go cf cs i g.foot m (ms.drop (i+1)))
         rw [←hu] at HBD HGO
         rw [HDR.out] at HCO
         simp only [mkCs] at HAL HMB
         clear hm hrow hcell HDR hcast hiq hq hu
         have k0:=cell_later HAL.out (HC5.out.cell 0)
         have k2:=cell_later HAL.out (HC5.out.cell 2)
         have j3:=cell_later HAL.out (cell_of_row w5 _ 3 _ _ _ HG5.out)
         have d0:=HMB.out.c0
         have d1:=HMB.out.c1
         simp only [clCs] at k0 k2
         have HB6:=Lib.hid (Below.next HB5.out HAL.out)
         rcases t1:(m.s != (u:Int)) with _ | _
         ·rcases t2:decide (g.foot≤m.p) with _ | _
          ·have HG:=Lib.hid (HGO.out (by simp at t1 t2;omega))
           go_wp2_with (with_reducible refine wpList_load_mkAt rfl (.tmp 70) rfl b (off+i*2) m rfl HCE.out ?_)
           go_roundw
           case rel=>exact⟨i+1,by omega,by go_num,HAL,Lib.hid (by rw [HCO.out,HG.out])⟩
           case measure=>simp [intOf];omega
          ·have HE:=Lib.hid (show closingV l g=none by rw [HH4.out,HCO.out,HBD.out (.inr (by simpa using t2))];rfl)
           go_wp2_with (with_reducible refine wpList_load_mkAt rfl (.tmp 70) rfl b (off+i*2) m rfl HCE.out ?_)
           refine bodyPost_ret (v:= .tuple #[.slice none 0 0,.int .i64 0,.int .i64 70]) (by simp [results,Tryz.results38,go_sem]) rfl ⟨HB6.out,by rw [HE.out]⟩
         ·have HE:=Lib.hid (show closingV l g=none by rw [HH4.out,HCO.out,HBD.out (.inl (by simpa using t1))];rfl)
          go_wp2_with (with_reducible refine wpList_load_mkAt rfl (.tmp 70) rfl b (off+i*2) m rfl HCE.out ?_)
          refine bodyPost_ret (v:= .tuple #[.slice none 0 0,.int .i64 0,.int .i64 70]) (by simp [results,Tryz.results38,go_sem]) rfl ⟨HB6.out,by rw [HE.out]⟩
        ·obtain rfl:i=ms.length:=by omega
         have HE:=Lib.hid (show closingV l g=some (ms,cs) by rw [HH4.out,HCO.out,List.drop_length];rfl)
         have k2:=cell_later HBR.out (HC5.out.cell 2)
         have k3':=cell_later HBR.out (HC5.out.cell 3)
         simp only [clCs] at k2 k3'
         go_wp2
         go_quiet (fail)
         go_wp2
         refine bodyPost_ret (v:= .tuple #[.slice om ms.length mcap,.int .i64 (cs:Int),.int .i64 0]) (by simp [results,Tryz.results38,go_sem]) rfl ⟨Below.next (Below.next HB5.out HBR.out) (below_drewN' _ _),by rw [HE.out];exact⟨_,rfl,(HMO5.out.later HBR.out).later (below_drewN' _ _)⟩⟩
      ·have HE:=Lib.hid (show closingV l g=none by rw [HH3.out,if_pos (.inr (.inr (by rw [←HN.out,←HQQ.out];intro e;simp [e] at hqm)))])
       go_quiet (fail)
       go_wp2
       refine bodyPost_ret (v:= .tuple #[.slice none 0 0,.int .i64 0,.int .i64 70]) (by simp [results,Tryz.results38,go_sem]) rfl ⟨Below.next HB4.out (below_drewN' _ _),by rw [HE.out]⟩
     ·have HE:=Lib.hid (show closingV l g=none by rw [HH3.out,if_pos (.inr (.inl (by simpa using hcc)))])
      go_quiet (fail)
      go_wp2
      refine bodyPost_ret (v:= .tuple #[.slice none 0 0,.int .i64 0,.int .i64 70]) (by simp [results,Tryz.results38,go_sem]) rfl ⟨Below.next HB4.out (below_drewN' _ _),by rw [HE.out]⟩
    ·have HE:=Lib.hid (show closingV l g=none by rw [HH3.out,if_pos (.inl (by simpa using hcf))])
     go_quiet (fail)
     go_wp2
     refine bodyPost_ret (v:= .tuple #[.slice none 0 0,.int .i64 0,.int .i64 70]) (by simp [results,Tryz.results38,go_sem]) rfl ⟨Below.next HB4.out (below_drewN' _ _),by rw [HE.out]⟩
  ·have HE:=Lib.hid (show closingV l g=none by rw [HH.out,if_pos (.inr (by simpa using hs))])
   go_wp2
   refine bodyPost_ret (v:= .tuple #[.slice none 0 0,.int .i64 0,.int .i64 70]) (by simp [results,Tryz.results38,go_sem]) rfl ⟨HB2.out,by rw [HE.out]⟩
 ·have HE:=Lib.hid (show closingV l g=none by rw [HH.out,if_pos (.inl (by simpa using he0))])
  go_wp2
  refine bodyPost_ret (v:= .tuple #[.slice none 0 0,.int .i64 0,.int .i64 70]) (by simp [results,Tryz.results38,go_sem]) rfl ⟨HB2.out,by rw [HE.out]⟩
end Go.Proofs.YtcglcphhfmkccaaGreatDoor
