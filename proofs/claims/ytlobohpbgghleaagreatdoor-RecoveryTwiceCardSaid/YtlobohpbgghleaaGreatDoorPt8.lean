import Derived.Deep.CutRange
import Derived.Laws.StructEq
import Derived.Test.YtlobohpbgghleaaGreatDoorPt7
namespace Go.Proofs.YtlobohpbgghleaaGreatDoor
open Go.RowKit
def planS (ss:List (List UInt8)):Pl:=⟨true,firstM,ss,22,0⟩
theorem stray_open {d:Disk} (hd:d.down=false) (hn: ∀ f∈d.files,rightName f.name=true) {t:Bool} {m:Man} {n:List UInt8} (h:n∈straysD d t m):openE d n=0∧(doD d (opSize n)).2.2.1=(sizeN d n:Int):=by
 unfold straysD at h
 obtain⟨h1,_⟩:=List.mem_filter.1 h
 obtain⟨f,hf,rfl⟩:=List.mem_map.1 h1
 rcases ha:atF d.files f.name with _ | x
 ·have:=List.find?_eq_none.1 ha f hf
  simp at this
 ·have ho:openE d f.name=0:=by unfold openE;rw [hd,hn f hf,ha];rfl
  refine⟨ho,?_⟩
  rw [sizeO ho ha,sizeN_some ha]
theorem strays_len (d:Disk) (t:Bool) (m:Man):(straysD d t m).length≤d.files.length:=by
 unfold straysD
 refine Nat.le_trans (List.length_filter_le _ _) ?_
 simp
theorem sizesN_snoc (d:Disk) (a:List (List UInt8)) (n:List UInt8):sizesN d (a++[n])=sizesN d a+sizeN d n:=by simp [sizesN]
theorem strays_nodup {d:Disk} (h:Rise d.files) (t:Bool) (m:Man):(straysD d t m).Nodup:=(strays_sub d t m h).1.imp fun h=>bytes_ne h
theorem sizesN_take (d:Disk): ∀ (ss:List (List UInt8)) (k:Nat),sizesN d (ss.take k)≤sizesN d ss
 | [],k=>by simp
 | x::r,0=>by simp [sizesN]
 | x::r,k+1=>by
  have:=sizesN_take d r k
  simp only [sizesN,List.take_succ_cons,List.map_cons,List.sum_cons] at this ⊢
  omega
def FreshP (w:World) (r:Pl×Int) (e:Ending) (w':World):Prop:=
 ∃ sv rv,e= .returned (.tuple #[plV r.1 sv rv,.int .i64 r.2])∧SgIn (fun k=>w.heap.size≤k) w' sv r.1.man.segs∧StIn (fun k=>w.heap.size≤k) w' rv r.1.remove∧sv.oneCell'=true∧rv.oneCell'=true∧Below w.heap.size w w'
theorem stIn_nil (A:Nat→Prop) (w:World):StIn A w (.slice none 0 0) []:=⟨none,0,rfl,Nat.le_refl _,by decide,fun i g hg=>by simp at hg⟩
set_option maxRecDepth 100000 in
set_option maxHeartbeats 8000000 in
theorem freshG_any (w:World) (f m:Nat) (d:Disk) (L:List Slot) (h:FsAt w f m d L) (hdn:d.down=false) (hn:NibTab w):
  Calls Tryz.prog 39 #[.pointer (some ⟨f,0,none⟩)] w (FreshP w (freshD d)):=by
 have HH:=Lib.hid h
 have HDN:=Lib.hid hdn
 have HNB:=Lib.hid hn
 have hrm:=h.ok.room
 have hus:=h.ok.used
 have HSN:=Lib.hid (fun n (hm:n∈straysD d false firstM)=>stray_open hdn h.ok.names hm)
 have HSL:=Lib.hid (strays_len d false firstM)
 have hcn:=h.ok.count
 have HLL:=Lib.hid (show L.length=d.files.length by rw [←h.fil];simp [fils])
 have HSZ:=Lib.hid (sizesN_le (ns:=straysD d false firstM) h.ok.rise (strays_nodup h.ok.rise false firstM))
 have HFD:=Lib.hid (show freshD d=if d.room - (usedF d.files:Int)+(sizesN d (straysD d false firstM):Int)<51∨700<(d.files.length:Int) - ((straysD d false firstM).length:Int)+2 then (planZ,54) else (planS (straysD d false firstM),0) from rfl)
 have HSTR:=Lib.hid (fun W (hb:Below w.heap.size w W) mn sv=>strays_not W f m d L (h.below hb) hdn mn sv)
 have HRF:=Lib.hid (fun(W:World) (hb:Below w.heap.size w W)=>h.below hb)
 have HB0:=Lib.hid (below_alloc w (.cells #[.bool false,.int .i64 0,.int .i64 0,.int .i64 0,.int .i64 0,.int .i64 0,.slice none 0 0,.slice none 0 0,.int .i64 0,.int .i64 0] 34))
 have HR0:=Lib.hid (show PlBlk (w.alloc (.cells #[.bool false,.int .i64 0,.int .i64 0,.int .i64 0,.int .i64 0,.int .i64 0,.slice none 0 0,.slice none 0 0,.int .i64 0,.int .i64 0] 34)) w.heap.size planZ (.slice none 0 0) (.slice none 0 0) from plBlk_alloc w planZ (.slice none 0 0) (.slice none 0 0))
 obtain⟨ss,hss⟩: ∃ ss,ss=straysD d false firstM:=⟨_,rfl⟩
 have hss1: ∀ mn,mn=firstM→straysD d false mn=ss:=fun mn e=>by rw [e,hss]
 have HSTR:=Lib.hid (fun W hb sv=>by have:=HSTR.out W hb firstM sv;rw [hss1 firstM rfl] at this;exact this)
 rw [←hss] at HSN HSL HSZ HFD
 have HFD2:=Lib.hid (show freshD d=if d.room - (usedF d.files:Int)+(sizesN d ss:Int)<51∨700<(d.files.length:Int) - (ss.length:Int)+2 then (planZ,54) else (planS ss,0) from HFD.out)
 clear h hdn hn hss hss1 HFD
 obtain⟨U,hU⟩: ∃ U,U=usedF d.files:=⟨_,rfl⟩
 rw [←hU] at hus HSZ HFD2
 have HUU:=Lib.hid hU
 clear hU
 go_enter Tryz.func39,Tryz.ntmps39
 go_wp2_with fail
 refine(first_any _).mono ?_
 rintro e w1 ⟨sv,rfl,hsg,hone,hb1⟩
 have HB1:=Lib.hid (Below.next HB0.out hb1)
 have HR1:=Lib.hid (HR0.out.below hb1)
 have HSG:=Lib.hid (hsg.mono (A':=fun k=>w.heap.size+1≤k) (fun k hk=>by simp at hk;omega))
 obtain⟨osg,scap,rfl,_,_,_⟩:=hsg
 have HMz:=Lib.hid (mnBlk_alloc w1 zeroM (.slice none 0 0))
 simp only [mnCs,zeroM] at HMz
 clear hb1 HB0 HR0 hone
 go_wp2_with (with_reducible refine wpList_store_mn rfl (.tmp 4) (.tmp 13) rfl w1.heap.size ⟨0,0,0,0,0,[]⟩ firstM (.slice none 0 0) (.slice osg firstM.segs.length scap) rfl rfl HMz.out rfl ?_)
 intro w2 hw2
 have hba:=below_alloc w1 (.cells #[.int .i64 0,.int .i64 0,.int .i64 0,.int .i64 0,.int .i64 0,.slice none 0 0] 31)
 have HM2:=Lib.hid (show MnBlk w2 w1.heap.size firstM (.slice osg firstM.segs.length scap) by rw [hw2.out];exact HMz.out.row)
 have HBW:=Lib.hid (show Below w1.heap.size w1 w2 by rw [hw2.out];exact below_row hba (Nat.le_refl _) _)
 have HB2:=Lib.hid (Below.next HB1.out HBW.out)
 have HR2:=Lib.hid (HR1.out.below HBW.out)
 have HSG2:=Lib.hid (HSG.out.below HBW.out)
 clear hw2 hba HMz HB1 HR1 HSG HBW
 generalize w1.heap.size=b4 at*
 have HHD:=Lib.hid (header_any 1 1 w2 (HNB.out.below HB2.out))
 obtain⟨er,her⟩: ∃ y,y=hdrEnc 1 1:=⟨_,rfl⟩
 have HL:=Lib.hid (show er.1.length=22 by rw [her];exact first_len.1)
 rw [←her] at HHD
 clear her
 go_wp2_with fail
 refine HHD.out.mono ?_
 rintro e w3 ⟨v3,rfl,ho3,hb3⟩
 obtain⟨o3,cap3,rfl,_,_⟩:=own_shape ho3
 rw [HL.out]
 have HM3:=Lib.hid (HM2.out.below hb3)
 have HB3:=Lib.hid (Below.next HB2.out hb3)
 have HR3:=Lib.hid (HR2.out.below hb3)
 have HSG3:=Lib.hid (HSG2.out.below hb3)
 have HNB3:=Lib.hid (HNB.out.below HB3.out)
 clear ho3 hb3 HHD HM2 HB2 HR2 HSG2 HL
 go_upto_region 3 with fail
 go_cut [7] from 18 to 24 (fun p wx=> ∃ g rv,p= .pointer (some ⟨g,0,none⟩)∧Hid (PlBlk wx g (planS ss) (.slice osg firstM.segs.length scap) rv)∧Hid (wx.ownsRow w3.heap.size 9 1 rv ss.length (ss.map encStr))∧Hid (Below w3.heap.size w3 wx))
 case first=>
  refine wp_region_held_drew (S:=fun w'=>Below w3.heap.size w3 w') (by kernel_rfl) (show Below w3.heap.size w3 w3.drew from below_drewN' w3 1) (fun hHeld=> ?_)
  refine tkl 0 b4 0 [.int .i64 1,.int .i64 2,.int .i64 0,.int .i64 0,.int .i64 0,.slice osg firstM.segs.length scap] rfl rfl (fun w' h j v hv=>by rw [Nat.zero_add,(HM3.out.below h).cell];simpa [mnCs,firstM] using hv) Tryz.underlying31 rfl (by rw [mnInfo];rfl) ?_
  simp only [pA,pB,pC,pD]
  refine tq 1 rfl ?_
  refine tq 2 rfl ?_
  refine tq 3 rfl ?_
  refine tkl 4 b4 0 [.int .i64 1,.int .i64 2,.int .i64 0,.int .i64 0,.int .i64 0,.slice osg firstM.segs.length scap] rfl rfl (fun w' h j v hv=>by rw [Nat.zero_add,(HM3.out.below h).cell];simpa [mnCs,firstM] using hv) Tryz.underlying31 rfl (by rw [mnInfo];rfl) ?_
  simp only [pA,pB,pC,pD]
  generalize World.drew _=Wd at*
  refine wpAnyH_ready (rs:=[5,7]) (by kernel_rfl) (by simp) ?_
  refine AllReadyH.cons rfl (fun K hK=> ?_) (AllReadyH.cons rfl (fun K hK=> ?_) AllReadyH.nil)
  ·go_simp
   go_at_call 43
   refine(HSTR.out Wd (Below.next HB3.out hHeld) _).mono ?_
   rintro e w4 ⟨v4,rfl,ho4,hb4⟩
   have HO4:=Lib.hid (own_mono ho4 hHeld.size)
   obtain⟨o4,cap4,rfl,_,_⟩:=own_shape ho4
   have HB4:=Lib.hid (Below.next hHeld hb4)
   clear ho4 hb4 hHeld
   go_wp2_with fail
   refine hK.out _ _ HB4.out (fun hHeld=> ?_)
   clear hK K
   refine tq 6 rfl ?_
   have HBA:=Lib.hid (below_alloc w4 (.cells #[.bool false,.int .i64 0,.int .i64 0,.int .i64 0,.int .i64 0,.int .i64 0,.slice none 0 0,.slice none 0 0,.int .i64 0,.int .i64 0] 34))
   have HB5:=Lib.hid (Below.next HB4.out HBA.out)
   have HGZ:=Lib.hid (show PlBlk (w4.alloc (.cells #[.bool false,.int .i64 0,.int .i64 0,.int .i64 0,.int .i64 0,.int .i64 0,.slice none 0 0,.slice none 0 0,.int .i64 0,.int .i64 0] 34)) w4.heap.size planZ (.slice none 0 0) (.slice none 0 0) from plBlk_alloc w4 planZ (.slice none 0 0) (.slice none 0 0))
   have hgx:w3.heap.size≤w4.heap.size:=HB4.out.size
   refine wpAnyH_ready (rs:=[7]) (by kernel_rfl) (by simp) ?_
   refine AllReadyH.cons rfl (fun K hK=> ?_) AllReadyH.nil
   go_simp
   refine hK.out _ _ HB5.out (fun hHeld=> ?_)
   clear hK K HB4 hHeld
   refine wpAnyH_ready (rs:=[8]) (by kernel_rfl) (by simp) ?_
   refine AllReadyH.cons rfl (fun K hK=> ?_) AllReadyH.nil
   rw [if_pos (by kernel_rfl)]
   refine wp_store_row 34 (.tmp 7) (.tmp 24) rfl w4.heap.size (plCs (planS ss) (.slice osg firstM.segs.length scap) (.slice o4 ss.length cap4)) rfl rfl 34 (plCs planZ (.slice none 0 0) (.slice none 0 0)) HGZ.out plInfo rfl (plCs_all _ _ _ rfl rfl) ?_
   have HG6:=Lib.hid (show PlBlk ((w4.alloc (.cells #[.bool false,.int .i64 0,.int .i64 0,.int .i64 0,.int .i64 0,.int .i64 0,.slice none 0 0,.slice none 0 0,.int .i64 0,.int .i64 0] 34)).setRow w4.heap.size (plCs (planS ss) (.slice osg firstM.segs.length scap) (.slice o4 ss.length cap4))) w4.heap.size (planS ss) (.slice osg firstM.segs.length scap) (.slice o4 ss.length cap4) from HGZ.out.row)
   have HBR:=Lib.hid (show Below w4.heap.size w4 ((w4.alloc (.cells #[.bool false,.int .i64 0,.int .i64 0,.int .i64 0,.int .i64 0,.int .i64 0,.slice none 0 0,.slice none 0 0,.int .i64 0,.int .i64 0] 34)).setRow w4.heap.size (plCs (planS ss) (.slice osg firstM.segs.length scap) (.slice o4 ss.length cap4))) from below_row HBA.out (Nat.le_refl _) _)
   have HB6:=Lib.hid (show Below w3.heap.size w3 ((w4.alloc (.cells #[.bool false,.int .i64 0,.int .i64 0,.int .i64 0,.int .i64 0,.int .i64 0,.slice none 0 0,.slice none 0 0,.int .i64 0,.int .i64 0] 34)).setRow w4.heap.size (plCs (planS ss) (.slice osg firstM.segs.length scap) (.slice o4 ss.length cap4))) from below_row HB5.out hgx _)
   have HO6:=Lib.hid (own_later HO4.out HBR.out)
   refine hK.out _ _ HB6.out (fun hHeld=> ?_)
   clear hK K hHeld HGZ HB5
   refine wpAnyH_done (by kernel_rfl) ?_ _
   generalize (w4.alloc (.cells #[.bool false,.int .i64 0,.int .i64 0,.int .i64 0,.int .i64 0,.int .i64 0,.slice none 0 0,.slice none 0 0,.int .i64 0,.int .i64 0] 34)).setRow w4.heap.size (plCs (planS ss) (.slice osg firstM.segs.length scap) (.slice o4 ss.length cap4))=W6 at*
   go_wp2_with fail
   go_meet
   exact⟨_,_,rfl,HG6,HO6,HB6⟩
  ·have HBz:=Lib.hid (Below.next hHeld (below_alloc Wd (.cells #[.bool false,.int .i64 0,.int .i64 0,.int .i64 0,.int .i64 0,.int .i64 0,.slice none 0 0,.slice none 0 0,.int .i64 0,.int .i64 0] 34)))
   have HGZ:=Lib.hid (show PlBlk (Wd.alloc (.cells #[.bool false,.int .i64 0,.int .i64 0,.int .i64 0,.int .i64 0,.int .i64 0,.slice none 0 0,.slice none 0 0,.int .i64 0,.int .i64 0] 34)) Wd.heap.size planZ (.slice none 0 0) (.slice none 0 0) from plBlk_alloc Wd planZ (.slice none 0 0) (.slice none 0 0))
   have hgx:w3.heap.size≤Wd.heap.size:=hHeld.size
   have hgz:Wd.heap.size<(Wd.alloc (.cells #[.bool false,.int .i64 0,.int .i64 0,.int .i64 0,.int .i64 0,.int .i64 0,.slice none 0 0,.slice none 0 0,.int .i64 0,.int .i64 0] 34)).heap.size:=HGZ.out.lt
   go_simp
   refine hK.out _ _ HBz.out (fun hHeld=> ?_)
   clear hK K
   generalize Wd.heap.size=gx at*
   generalize Wd.alloc (.cells #[.bool false,.int .i64 0,.int .i64 0,.int .i64 0,.int .i64 0,.int .i64 0,.slice none 0 0,.slice none 0 0,.int .i64 0,.int .i64 0] 34)=Wz at*
   refine wpAnyH_ready (rs:=[5]) (by kernel_rfl) (by simp) ?_
   refine AllReadyH.cons rfl (fun K hK=> ?_) AllReadyH.nil
   go_simp
   go_at_call 43
   refine(HSTR.out Wz (Below.next HB3.out hHeld) _).mono ?_
   rintro e W5 ⟨v4,rfl,ho4,hb5⟩
   have HO4:=Lib.hid ho4
   obtain⟨o4,cap4,rfl,_,_⟩:=own_shape ho4
   have HB5:=Lib.hid (Below.next hHeld hb5)
   have HGZ:=Lib.hid (HGZ.out.below hb5)
   have hsz:=hHeld.size
   clear ho4 hb5 hHeld HBz
   go_wp2_with fail
   refine hK.out _ _ HB5.out (fun hHeld=> ?_)
   clear hK K
   refine tq 6 rfl ?_
   refine wpAnyH_ready (rs:=[8]) (by kernel_rfl) (by simp) ?_
   refine AllReadyH.cons rfl (fun K hK=> ?_) AllReadyH.nil
   rw [if_pos (by kernel_rfl)]
   refine wp_store_row 34 (.tmp 7) (.tmp 24) rfl gx (plCs (planS ss) (.slice osg firstM.segs.length scap) (.slice o4 ss.length cap4)) rfl rfl 34 (plCs planZ (.slice none 0 0) (.slice none 0 0)) HGZ.out plInfo rfl (plCs_all _ _ _ rfl rfl) ?_
   have HG6:=Lib.hid (show PlBlk (W5.setRow gx (plCs (planS ss) (.slice osg firstM.segs.length scap) (.slice o4 ss.length cap4))) gx (planS ss) (.slice osg firstM.segs.length scap) (.slice o4 ss.length cap4) from HGZ.out.row)
   have HB6:=Lib.hid (show Below w3.heap.size w3 (W5.setRow gx (plCs (planS ss) (.slice osg firstM.segs.length scap) (.slice o4 ss.length cap4))) from below_row HB5.out hgx _)
   have HO6:=Lib.hid (own_mono (own_setRow HO4.out hgz (plCs (planS ss) (.slice osg firstM.segs.length scap) (.slice o4 ss.length cap4))) hsz)
   refine hK.out _ _ HB6.out (fun hHeld=> ?_)
   clear hK K hHeld HGZ HB5
   generalize W5.setRow gx (plCs (planS ss) (.slice osg firstM.segs.length scap) (.slice o4 ss.length cap4))=W6 at*
   refine wpAnyH_done (by kernel_rfl) ?_ _
   go_wp2_with fail
   go_meet
   exact⟨_,_,rfl,HG6,HO6,HB6⟩
 case rest=>
  obtain⟨gx,rv,rfl,HG6,HO6,HB6⟩:=hcut
  obtain⟨orv,rcap,rfl,_,_⟩:=own_shape HO6.out
  have HBW:=Lib.hid (Below.next HB3.out HB6.out)
  have HFR:=Lib.hid (free_any wc f m d L (HRF.out wc HBW.out))
  rw [←HUU.out] at HFR
  go_wp2_with fail
  refine HFR.out.mono ?_
  rintro e w7 ⟨rfl,hb7⟩
  have HB7:=Lib.hid (Below.next HB6.out hb7)
  have HG7:=Lib.hid (HG6.out.below hb7)
  have HO7:=Lib.hid (own_later HO6.out hb7)
  have r7:=HG7.out.c7
  clear hb7 HFR HG6 HO6 HB6 HBW
  go_wp2
  go_loopw [8,30] (fun rmv iv wr=> ∃ k:Nat,k≤ss.length∧iv= .int .i64 (k:Int)∧rmv= .int .i64 (d.room - (U:Int)+(sizesN d (ss.take k):Int))∧Hid (Below w7.heap.size w7 wr)) (fun _ iv _=>ss.length - (intOf iv).toNat)
  case atStart=>exact⟨0,Nat.zero_le _,rfl,by simp [sizesN],Lib.hid (Below.refl _ _)⟩
  case round=>
   obtain⟨k,hk,rfl,rfl,HB⟩:=hrel
   by_cases hlt:k<ss.length
   ·obtain⟨x,hx,htk,hm⟩:=nth ss k hlt
    have q1:(k:Int)<(ss.length:Int):=by omega
    obtain⟨g7,cap7,e7,_,_,_,_,hcl⟩:=own_get HO7.out (by omega)
    simp only [Value.slice.injEq,true_and] at e7
    obtain⟨rfl,rfl⟩:=e7
    have k1:wr.cell? ⟨g7,k,none⟩=some (.string ⟨x.toArray⟩):=cell_later HB.out (hcl k _ (by rw [List.getElem?_map,hx];rfl))
    have HSI:=Lib.hid (size_any wr f m d L (HRF.out wr (Below.next HB3.out (Below.next HB7.out HB.out))) x)
    rw [(HSN.out x hm).2] at HSI
    generalize (doD d (opSize x)).2.2.2=ex at*
    have HTK:=Lib.hid (show sizesN d (ss.take (k+1))=sizesN d (ss.take k)+sizeN d x by rw [htk,sizesN_snoc])
    have hle:sizesN d (ss.take (k+1))≤U:=Nat.le_trans (sizesN_take d ss (k+1)) HSZ.out
    rw [HTK.out] at hle
    obtain⟨a,ha⟩: ∃ a,a=sizesN d (ss.take k):=⟨_,rfl⟩
    obtain⟨n,hn⟩: ∃ n,n=sizeN d x:=⟨_,rfl⟩
    rw [←ha,←hn] at hle HTK
    rw [←hn] at HSI
    rw [←ha]
    have hw1:IntKind.i64.wrap (d.room - (U:Int)+(a:Int)+(n:Int))=d.room - (U:Int)+((a+n:Nat):Int):=by rw [IntKind.wrap_i64];omega
    have hk1:IntKind.i64.wrap ((k:Int)+1)=(k:Int)+1:=by have:=HSL.out;rw [IntKind.wrap_i64];omega
    clear hx htk hm hcl ha hn hle
    go_wp2_with fail
    refine HSI.out.mono ?_
    rintro e w8 ⟨rfl,rfl⟩
    go_wp2
    go_roundw
    case rel=>exact⟨k+1,by omega,by go_num,by rw [HTK.out];congr 1,HB⟩
    case measure=>simp [intOf];omega
   ·obtain rfl:k=ss.length:=by omega
    rw [List.take_length]
    have HBC:=Lib.hid (Below.next HB7.out HB.out)
    have HG8:=Lib.hid (HG7.out.below HB.out)
    have HR8:=Lib.hid (HR3.out.below HBC.out)
    have HM8:=Lib.hid (HM3.out.below HBC.out)
    have HS8:=Lib.hid (HSG3.out.below HBC.out)
    have HO8:=Lib.hid (stIn_own (A:=fun k=>w3.heap.size≤k) (l:=ss) (own_later HO7.out HB.out) (fun _ h=>h))
    obtain⟨R,hR⟩: ∃ R,R=d.room - (U:Int)+(sizesN d ss:Int):=⟨_,rfl⟩
    rw [←hR] at HFD2
    rw [←hR]
    clear hR
    generalize ss.length=ns at*
    have hw51:IntKind.i64.wrap 51=51:=by decide
    go_wp2_with fail
    refine wp_region_held_drew (S:=fun w'=>Below wr.heap.size wr w') (by kernel_rfl) (show Below wr.heap.size wr wr.drew from below_drewN' wr 1) (fun hHeld=> ?_)
    refine tq 0 rfl ?_
    refine tq 1 rfl ?_
    refine tq 2 rfl ?_
    refine tkl 3 b4 0 [.int .i64 1,.int .i64 2,.int .i64 0,.int .i64 0,.int .i64 0,.slice osg firstM.segs.length scap] rfl rfl (fun w' h j v hv=>by rw [Nat.zero_add,(HM8.out.below h).cell];simpa [mnCs,firstM] using hv) Tryz.underlying31 rfl (by rw [mnInfo];rfl) ?_
    simp only [pA,pB,pC,pD]
    generalize World.drew _=We at*
    refine wpAnyH_ready (rs:=[4]) (by kernel_rfl) (by simp) ?_
    refine AllReadyH.cons rfl (fun K hK=> ?_) AllReadyH.nil
    go_simp
    go_at_call 77
    refine(manSize_any firstM (.slice osg firstM.segs.length scap) We (HS8.out.row.below hHeld) ((HNB3.out.below HBC.out).below hHeld)).mono ?_
    rw [first_len.2]
    rintro e w9 ⟨rfl,hb9⟩
    have HB9:=Lib.hid (Below.next hHeld hb9)
    clear hb9 hHeld
    go_wp2_with fail
    refine hK.out _ _ HB9.out (fun hHeld=> ?_)
    clear hK K
    rcases hr:decide (R<51) with _ | _
    ·have HR1:=Lib.hid (show 51≤R by simpa using hr)
     refine tq 5 rfl ?_
     refine tq 6 rfl ?_
     refine tq 7 rfl ?_
     have FX1:=Lib.hid (fun(wF:World) (hSw:(fun w'=>Below wr.heap.size wr w') wF)=>((HG8.out.below hSw).c7))
     refine tf FX1 8 rfl ?_
     refine tf FX1 11 rfl ?_
     refine tf FX1 12 rfl ?_
     refine tf FX1 13 rfl ?_
     clear FX1
     refine wpAnyH_ready (rs:=[9]) (by kernel_rfl) (by simp) ?_
     refine AllReadyH.cons rfl (fun K hK=> ?_) AllReadyH.nil
     go_simp
     go_at_call 78
     refine(list_any w9 f m d L (HRF.out w9 (Below.next HB3.out (Below.next HBC.out HB9.out))) HDN.out).mono ?_
     rintro e w10 ⟨vl,rfl,hol,hb10⟩
     obtain⟨ol,lcap,rfl,_,_⟩:=own_shape hol
     rw [HLL.out]
     have HB10:=Lib.hid (Below.next HB9.out hb10)
     have hnl:=HSL.out
     obtain⟨nf,hnf⟩: ∃ nf,nf=d.files.length:=⟨_,rfl⟩
     rw [←hnf] at hcn HFD2 hnl
     rw [←hnf]
     have hw1:IntKind.i64.wrap ((nf:Int) - (ns:Int))=(nf:Int) - (ns:Int):=by rw [IntKind.wrap_i64];omega
     have hw2:IntKind.i64.wrap ((nf:Int) - (ns:Int)+2)=(nf:Int) - (ns:Int)+2:=by rw [IntKind.wrap_i64];omega
     clear hol hb10 hHeld hnf hnl
     go_wp2_with fail
     refine hK.out _ _ HB10.out (fun hHeld=> ?_)
     clear hK K
     have HG9:=Lib.hid (HG8.out.below HB10.out)
     have HR9:=Lib.hid (HR8.out.below HB10.out)
     have HBE:=Lib.hid (Below.next HB3.out (Below.next HBC.out HB10.out))
     have HS9:=Lib.hid (HS8.out.below HB10.out)
     have HO9:=Lib.hid (HO8.out.below HB10.out)
     rcases h7:decide (700<(nf:Int) - (ns:Int)+2) with _ | _
     ·have HFE:=Lib.hid (show freshD d=(planS ss,0) by rw [HFD2.out,if_neg];rintro(h | h);exact absurd HR1.out (by omega);have:=of_decide_eq_false h7;exact this h)
      refine tq 10 rfl ?_
      refine tq 14 rfl ?_
      refine tq 15 rfl ?_
      refine tq 16 rfl ?_
      refine tq 17 rfl ?_
      refine wpAnyH_done (by kernel_rfl) ?_ _
      clear hHeld
      go_wp2_with (first | (with_reducible refine wpList_load_pl rfl (.tmp 7) rfl gx (planS ss) (.slice osg firstM.segs.length scap) (.slice orv ns rcap) rfl HG9.out ?_) | (with_reducible refine wpList_store_pl rfl (.tmp 2) (.tmp 63) rfl w.heap.size planZ (planS ss) (.slice none 0 0) (.slice none 0 0) (.slice osg firstM.segs.length scap) (.slice orv ns rcap) rfl rfl HR9.out rfl rfl ?_))
      intro w11 hw11
      have HT:=Lib.hid (show Turned (fun k=>k=w.heap.size) w10 w11 by rw [hw11.out];exact run_setRow_turned _ _ _)
      have HP:=Lib.hid (show PlBlk w11 w.heap.size (planS ss) (.slice osg firstM.segs.length scap) (.slice orv ns rcap) by rw [hw11.out];exact HR9.out.row)
      have HB11:=Lib.hid (show Below w.heap.size w w11 by rw [hw11.out];exact below_row HBE.out (Nat.le_refl _) _)
      have hsz3:=HB3.out.size
      have hwl:w.heap.size<w3.heap.size:=HR3.out.lt
      clear hw11
      go_wp2
      refine bodyPost_ret (v:= .tuple #[plV (planS ss) (.slice osg firstM.segs.length scap) (.slice orv ns rcap),.int .i64 0]) (results_pl2 rfl _ _ w.heap.size (planS ss) _ _ _ rfl rfl HP.out) rfl ?_
      rw [HFE.out]
      exact⟨_,_,rfl,(HS9.out.turned HT.out (fun k hk=>by omega)).mono (fun k hk=>by omega),(HO9.out.turned HT.out (fun k hk=>by omega)).mono (fun k hk=>by omega),rfl,rfl,HB11.out⟩
     ·have HFE:=Lib.hid (show freshD d=(planZ,54) by rw [HFD2.out,if_pos];exact .inr (of_decide_eq_true h7))
      refine tq 10 rfl ?_
      refine tq 14 rfl ?_
      refine tq 15 rfl ?_
      refine tq 16 rfl ?_
      refine tq 17 rfl ?_
      refine wpAnyH_done (by kernel_rfl) ?_ _
      clear hHeld
      go_wp2_with (with_reducible refine wpList_store_pl rfl (.tmp 2) (.tmp 62) rfl w.heap.size planZ planZ (.slice none 0 0) (.slice none 0 0) (.slice none 0 0) (.slice none 0 0) rfl rfl HR9.out rfl rfl ?_)
      intro w11 hw11
      have HP:=Lib.hid (show PlBlk w11 w.heap.size planZ (.slice none 0 0) (.slice none 0 0) by rw [hw11.out];exact HR9.out.row)
      have HB11:=Lib.hid (show Below w.heap.size w w11 by rw [hw11.out];exact below_row HBE.out (Nat.le_refl _) _)
      clear hw11
      go_wp2
      refine bodyPost_ret (v:= .tuple #[plV planZ (.slice none 0 0) (.slice none 0 0),.int .i64 54]) (results_pl2 rfl _ _ w.heap.size planZ _ _ _ rfl rfl HP.out) rfl ?_
      rw [HFE.out]
      exact⟨_,_,rfl,sgIn_nil _ _,stIn_nil _ _,rfl,rfl,HB11.out⟩
    ·have HFE:=Lib.hid (show freshD d=(planZ,54) by rw [HFD2.out,if_pos];exact .inl (of_decide_eq_true hr))
     refine tq 5 rfl ?_
     refine tq 6 rfl ?_
     refine tq 7 rfl ?_
     refine tkn 8 rfl ?_
     simp only [pA,pB,pC,pD]
     refine tkn 9 rfl ?_
     simp only [pA,pB,pC,pD]
     refine tkn 10 rfl ?_
     simp only [pA,pB,pC,pD]
     refine tkn 11 rfl ?_
     simp only [pA,pB,pC,pD]
     refine tkn 12 rfl ?_
     simp only [pA,pB,pC,pD]
     refine tkn 13 rfl ?_
     simp only [pA,pB,pC,pD]
     refine tkn 14 rfl ?_
     simp only [pA,pB,pC,pD]
     refine tkn 15 rfl ?_
     simp only [pA,pB,pC,pD]
     refine tkn 16 rfl ?_
     simp only [pA,pB,pC,pD]
     refine tq 17 rfl ?_
     refine wpAnyH_done (by kernel_rfl) ?_ _
     have HRE:=Lib.hid (HR8.out.below HB9.out)
     have HBE:=Lib.hid (Below.next HB3.out (Below.next HBC.out HB9.out))
     clear hHeld
     go_wp2_with (with_reducible refine wpList_store_pl rfl (.tmp 2) (.tmp 62) rfl w.heap.size planZ planZ (.slice none 0 0) (.slice none 0 0) (.slice none 0 0) (.slice none 0 0) rfl rfl HRE.out rfl rfl ?_)
     intro w11 hw11
     have HP:=Lib.hid (show PlBlk w11 w.heap.size planZ (.slice none 0 0) (.slice none 0 0) by rw [hw11.out];exact HRE.out.row)
     have HB11:=Lib.hid (show Below w.heap.size w w11 by rw [hw11.out];exact below_row HBE.out (Nat.le_refl _) _)
     clear hw11
     go_wp2
     refine bodyPost_ret (v:= .tuple #[plV planZ (.slice none 0 0) (.slice none 0 0),.int .i64 54]) (results_pl2 rfl _ _ w.heap.size planZ _ _ _ rfl rfl HP.out) rfl ?_
     rw [HFE.out]
     exact⟨_,_,rfl,sgIn_nil _ _,stIn_nil _ _,rfl,rfl,HB11.out⟩
end Go.Proofs.YtlobohpbgghleaaGreatDoor

namespace Go.Proofs.YtlobohpbgghleaaGreatDoor
open Go.RowKit
def BookLP (w:World) (f m:Nat) (d:Disk) (L:List Slot) (r:(Int×Nat×List St)×Nat) (e:Ending) (w':World):Prop:=
 ∃ v,e= .returned (.tuple #[.int .i64 (r.1.2.1:Int),v,.int .i64 r.1.1])∧StsIn (fun k=>w.heap.size≤k) w' v r.1.2.2∧FsAt w' f m (rdD d r.2) L∧Turned (fun i=>i=f) w w'
end Go.Proofs.YtlobohpbgghleaaGreatDoor

namespace Go.Proofs.YtlobohpbgghleaaGreatDoor
open Go.RowKit
set_option maxRecDepth 100000 in
set_option maxHeartbeats 4000000 in
theorem bookLoad_any (w:World) (f m:Nat) (d:Disk) (L:List Slot) (h:FsAt w f m d L) (hn:NibTab w) (num:Int):
  Calls Tryz.prog 40 #[.pointer (some ⟨f,0,none⟩),.int .i64 num] w (BookLP w f m d L (bookV d num)):=by
 have HF:=Lib.hid h
 have HN:=Lib.hid hn
 have HA:=Lib.hid (show bookV d num=match filD d (bookName num) with
  | none=>((openE d (bookName num),0,[]),0)
  | some x=>match decBook x.data with
   | none=>((81,0,[]),x.data.length)
   | some r=>if (r.1:Int)≠num then ((81,0,[]),x.data.length) else ((0,r.2.1,r.2.2),x.data.length) from rfl)
 obtain⟨nm,hnm⟩: ∃ nm,nm=bookName num:=⟨_,rfl⟩
 have HBN:=Lib.hid (fun W=>Book_any num W)
 rw [←hnm] at HBN HA
 clear h hn hnm
 go_enter Tryz.func40,Tryz.ntmps40
 go_wp2_with fail
 refine(HBN.out _).mono ?_
 rintro e w1 ⟨rfl,hb1⟩
 have HF1:=Lib.hid (HF.out.below hb1)
 have HN1:=Lib.hid (HN.out.below hb1)
 have HB1:=Lib.hid hb1
 have HSI:=Lib.hid (size_any w1 f m d L HF1.out nm)
 clear hb1 HBN HF HN
 by_cases he:openE d nm=0
 ·obtain⟨x,hx,hfx⟩:=filD_some he
  rw [sizeO he hx] at HSI
  have HLX:=Lib.hid (fil_len HF1.out hx)
  have HRD:=Lib.hid (show Calls Tryz.prog 73 #[.pointer (some ⟨f,0,none⟩),.string ⟨nm.toArray⟩,.int .i64 0,.int .i64 (x.data.length:Int)] w1 fun e w'=> ∃ v,e= .returned (.tuple #[v,.int .i64 0])∧OwnB w' w1.heap.size v x.data∧FsAt w' f m (rdD d x.data.length) L∧Turned (fun i=>i=f) w1 w' from by
   have:=read_any w1 f m d L HF1.out nm x he hx 0 x.data.length (by omega)
   rw [List.drop_zero,List.take_length] at this
   exact this)
  have HA2:=Lib.hid (show bookV d num=match decBook x.data with
   | none=>((81,0,[]),x.data.length)
   | some r=>if (r.1:Int)≠num then ((81,0,[]),x.data.length) else ((0,r.2.1,r.2.2),x.data.length) by rw [HA.out,hfx])
  clear HA he hx hfx
  go_wp2_with fail
  refine HSI.out.mono ?_
  rintro e w1' ⟨rfl,rfl⟩
  go_wp2_with fail
  refine HRD.out.mono ?_
  rintro e w2 ⟨v2,rfl,ho2,hf2,ht2⟩
  have HN2:=Lib.hid (HN1.out.turned ht2 (fs_nib HF1.out HN1.out) HN1.out.lt)
  have HT2:=Lib.hid (show Turned (fun i=>i=f) w w2 from(Turned.below HB1.out).trans ht2 fun i hi=> .inl hi)
  have HF2:=Lib.hid hf2
  have HBD:=Lib.hid (bookDec_any x.data v2 w2 ho2.brow HLX.out HN2.out)
  obtain⟨o2,cap2,hsh,_,_⟩:=own_shape ho2
  subst hsh
  obtain⟨r,hr⟩: ∃ r,r=decBook x.data:=⟨_,rfl⟩
  rw [←hr] at HBD HA2
  generalize x.data.length=nx at*
  clear hf2 ho2 ht2 hr HRD HSI HF1 HN1
  unfold BookP at HBD
  rcases r with _ | r
  ·dsimp only at HBD HA2
   go_wp2_with fail
   refine HBD.out.mono ?_
   rintro e w3 ⟨hb3,rfl⟩
   have HF3:=Lib.hid (HF2.out.below hb3)
   have HT3:=Lib.hid (show Turned (fun i=>i=f) w w3 from HT2.out.trans (Turned.below hb3) fun i hi=> .inl hi)
   clear hb3
   go_wp2
   refine bodyPost_ret (v:= .tuple #[.int .i64 0,.slice none 0 0,.int .i64 81]) (by simp [results,Tryz.results40,go_sem]) rfl ?_
   rw [HA2.out]
   exact⟨_,rfl,stsIn_nil _ _,HF3.out,HT3.out⟩
  ·obtain⟨n,sq,ss⟩:=r
   dsimp only at HBD HA2
   go_wp2_with fail
   refine HBD.out.mono ?_
   rintro e w3 ⟨hb3,bv,rfl,hss⟩
   have HF3:=Lib.hid (HF2.out.below hb3)
   have HT3:=Lib.hid (show Turned (fun i=>i=f) w w3 from HT2.out.trans (Turned.below hb3) fun i hi=> .inl hi)
   have HSS:=Lib.hid (hss.mono (A':=fun k=>w.heap.size≤k) (fun k hk=>Nat.le_trans HT2.out.size hk))
   clear hb3 hss
   rcases hq:((n:Int) != num) with _ | _
   ·have HE:=Lib.hid (show bookV d num=((0,sq,ss),nx) by rw [HA2.out,if_neg (by simpa using hq)])
    go_wp2
    refine bodyPost_ret (v:= .tuple #[.int .i64 (sq:Int),bv,.int .i64 0]) (by simp [results,Tryz.results40,go_sem]) rfl ?_
    rw [HE.out]
    exact⟨_,rfl,HSS.out,HF3.out,HT3.out⟩
   ·have HE:=Lib.hid (show bookV d num=((81,0,[]),nx) by rw [HA2.out,if_pos (by simpa using hq)])
    go_wp2
    refine bodyPost_ret (v:= .tuple #[.int .i64 0,.slice none 0 0,.int .i64 81]) (by simp [results,Tryz.results40,go_sem]) rfl ?_
    rw [HE.out]
    exact⟨_,rfl,stsIn_nil _ _,HF3.out,HT3.out⟩
 ·rw [sizeE he] at HSI
  have HE:=Lib.hid (show bookV d num=((openE d nm,0,[]),0) by rw [HA.out,filD_none he])
  have t1:(openE d nm != 0)=true:=by simpa using he
  generalize openE d nm=e0 at*
  clear he HA
  go_wp2_with fail
  refine HSI.out.mono ?_
  rintro e w1' ⟨rfl,rfl⟩
  go_wp2
  refine bodyPost_ret (v:= .tuple #[.int .i64 0,.slice none 0 0,.int .i64 e0]) (by simp [results,Tryz.results40,go_sem]) rfl ?_
  rw [HE.out]
  exact⟨_,rfl,stsIn_nil _ _,by rw [rdD_zero HF1.out.ok];exact HF1.out,Turned.below HB1.out⟩
end Go.Proofs.YtlobohpbgghleaaGreatDoor

namespace Go.Proofs.YtlobohpbgghleaaGreatDoor
open Go.RowKit
theorem run_cut_sg (oa:Option Addr) (len cap n:Nat) (h:n≤cap) (w:World):(Instr.slice 29 (.slice oa len cap) none (some (.int .i64 n)) none).run Tryz.prog w= .ok (.slice oa n cap) w:=by
 rw [run_slice_h (P:=Tryz.prog) w 29 oa len cap (by kernel_rfl) .i64 n (by omega) (by omega)]
 have:(sizeOf (Tryz.prog.elem 29)).run Tryz.prog w= .ok 4 w:=by kernel_rfl
 rw [this]
 show Result.ok (Value.slice (if cap=0 then oa else oa.map (·.add (0*4))) (n - 0) (cap - 0)) w=_
 have e:(if cap=0 then oa else oa.map (·.add (0*4)))=oa:=by
  split
  ·rfl
  ·cases oa with
   | none=>rfl
   | some a=>simp [Addr.add]
 rw [e,Nat.sub_zero,Nat.sub_zero]
theorem cut_sg (oa:Option Addr) (len cap n:Nat) (h:n≤cap) (w:World):(Instr.sliceAt 29 (.slice oa len cap) none (some (.int .i64 n)) none).run Tryz.prog w= .ok (.slice oa n cap) w:=by
 rw [run_sliceAt_slice _ _ _ _ _ _ (by kernel_rfl)]
 exact run_cut_sg oa len cap n h w
def PlanP (w:World) (f m:Nat) (d:Disk) (L:List Slot) (r:(Pl×Int)×Nat) (e:Ending) (w':World):Prop:=
 ∃ sv rv,e= .returned (.tuple #[plV r.1.1 sv rv,.int .i64 r.1.2])∧SgIn (fun k=>w.heap.size≤k) w' sv r.1.1.man.segs∧StIn (fun k=>w.heap.size≤k) w' rv r.1.1.remove∧sv.oneCell'=true∧rv.oneCell'=true∧FsAt w' f m (rdD d r.2) L∧Turned (fun i=>i=f) w w'
structure PlW (w:World) (f m:Nat) (d:Disk) (L:List Slot) (bm:Nat) (mn:Man) (sv:Value) (W:World):Prop where
 res:PlBlk W w.heap.size planZ (.slice none 0 0) (.slice none 0 0)
 man:MnBlk W bm mn sv
 seg:SgIn (fun k=>w.heap.size<k) W sv mn.segs
 fs:FsAt W f m d L
 nib:NibTab W
 top:Turned (fun i=>i=f) w W
 bmf:w.heap.size<bm
theorem PlW.next {w:World} {f m:Nat} {d d':Disk} {L:List Slot} {bm:Nat} {mn:Man} {sv:Value} {W W':World} (h:PlW w f m d L bm mn sv W) (hf:f<w.heap.size) (hF:FsAt W' f m d' L) (ht:Turned (fun i=>i=f) W W'):PlW w f m d' L bm mn sv W':=
 ⟨(ht.block _ h.res.lt (by omega)).trans h.res,(ht.block _ h.man.lt (by have:=h.bmf;omega)).trans h.man,h.seg.turned ht (fun k hk=>by omega),hF,h.nib.turned ht (fs_nib h.fs h.nib) h.nib.lt,h.top.trans ht (fun i hi=> .inl hi),h.bmf⟩
theorem PlW.below {w:World} {f m:Nat} {d:Disk} {L:List Slot} {bm:Nat} {mn:Man} {sv:Value} {W W':World} (h:PlW w f m d L bm mn sv W) (hf:f<w.heap.size) (hb:Below W.heap.size W W'):PlW w f m d L bm mn sv W':=
 h.next hf (h.fs.below hb) (Turned.below hb)
theorem PlW.answer {w:World} {f m:Nat} {d:Disk} {L:List Slot} {bm:Nat} {mn:Man} {sv:Value} {W:World} (h:PlW w f m d L bm mn sv W) (hF: ∀ k,foot f m L k→k<w.heap.size) (cs:Array Value):FsAt (W.setRow w.heap.size cs) f m d L∧Turned (fun i=>i=f) w (W.setRow w.heap.size cs):=by
 have ht:Turned (fun k=>k=w.heap.size) W (W.setRow w.heap.size cs):=run_setRow_turned _ _ _
 exact⟨h.fs.turned ht (fun k hk he=>by have:=hF k hk;omega),h.top.trans ht fun i hi=> .inr (by omega)⟩
theorem takeRun_sub {first most:Nat}: ∀ (xs:List (Nat×Frm)) (c:Nat),∀ _:Nat,∀ y∈takeRun first most c xs,y∈xs
 | [],_,_,_,h=>by simp [takeRun] at h
 | x::r,c,z,y,h=>by
  rw [takeRun] at h
  split at h
  ·cases h
  ·split at h
   ·simp at h;subst h;simp
   ·rcases List.mem_cons.1 h with rfl | h
    ·simp
    ·exact List.mem_cons_of_mem _ (takeRun_sub r (c+1) z y h)
theorem active_cnt (d:Disk) (g:Sg):(activeV d g).1.2.1≤512∧(activeV d g).1.1≤67108864∨ ¬ DiskOk d:=by
 by_cases hok:DiskOk d
 ·left
  unfold activeV
  rcases hf:filD d (segName g.num) with _ | x
  ·exact⟨Nat.zero_le _,Nat.zero_le _⟩
  ·dsimp only
   split
   ·exact⟨Nat.zero_le _,Nat.zero_le _⟩
   ·have h1:=takeRun_len (first:=(hdrOf x.data).2.1) (most:=512) (frs (x.data.drop (begV x.data g).1)) 0 (by decide)
    have h2:=len_le_used (at_name (filD_at hf)).2
    have h3:=hok.used
    have h4:=hok.room
    rename_i hb
    have h5:=hdr_pos (b:=x.data) (g:=g) (by simpa using hb)
    have h6:=lastEnd_le (b:=x.data.drop (begV x.data g).1) (takeRun (hdrOf x.data).2.1 512 0 (frs (x.data.drop (begV x.data g).1))) 0 (Nat.zero_le _) fun y hy=>(frs_mem (takeRun_sub _ _ 0 y hy)).1
    rw [List.length_drop] at h6
    simp only [scanRun,plcs,List.length_map]
    omega
 ·exact .inr hok
theorem planD_err {d:Disk} (h:(loadM d).1.2.2≠0):planD d=((planZ,if (loadM d).1.2.2=80 then 4 else (loadM d).1.2.2),(loadM d).2):=by unfold planD;rw [if_pos h]
theorem planD_new {d:Disk} (h:(loadM d).1.2.2=0) (h2:(loadM d).1.2.1=false):planD d=(freshD d,(loadM d).2):=by unfold planD;rw [if_neg (fun k=>k h),if_pos h2]
theorem planD_man {d:Disk} (h:(loadM d).1.2.2=0) (h2:(loadM d).1.2.1=true):planD d=((planM d (loadM d).1.1).1,(loadM d).2+(planM d (loadM d).1.1).2):=by unfold planD;rw [if_neg (fun k=>k h),if_neg (by rw [h2];decide)]
set_option maxRecDepth 100000 in
set_option maxHeartbeats 8000000 in
theorem plan_any (w:World) (f m:Nat) (d:Disk) (L:List Slot) (h:FsAt w f m d L) (hn:NibTab w):
  Calls Tryz.prog 12 #[.pointer (some ⟨f,0,none⟩)] w (PlanP w f m d L (planD d)):=by
 have hf:=h.hd.lt
 have HLT:=Lib.hid h.lt
 have HB0:=Lib.hid (below_alloc w (.cells (plCs planZ (.slice none 0 0) (.slice none 0 0)) 34))
 have HR0:=Lib.hid (plBlk_alloc w planZ (.slice none 0 0) (.slice none 0 0))
 have HLD:=Lib.hid (manLoad_any _ f m d L (h.below HB0.out) (hn.below HB0.out))
 have HN0:=Lib.hid (hn.below HB0.out)
 have HF0:=Lib.hid (h.below HB0.out)
 have HDR:=Lib.hid (show d.down=false∨(loadM d).1.2.2≠0 from by
  rcases hd:d.down
  ·exact .inl rfl
  ·right
   unfold loadM filD openE
   rw [hd]
   simp)
 have HP1:=Lib.hid (@planD_err d)
 have HP2:=Lib.hid (@planD_new d)
 have HP3:=Lib.hid (@planD_man d)
 have HMK:=Lib.hid (@load_ok d)
 have HLR:=Lib.hid (show (loadM d).2≤67108864 from by
  refine Nat.le_trans (load_read d) ?_
  unfold sizeN
  split
  ·exact Nat.zero_le _
  ·rename_i x hx;exact fil_len h hx)
 obtain⟨ld,hld⟩: ∃ ld,ld=loadM d:=⟨_,rfl⟩
 rw [←hld] at HLD HP1 HP2 HP3 HMK HDR HLR
 simp only [plCs,planZ,zeroM] at HB0 HR0 HLD HN0 HF0
 clear h hn hld
 obtain⟨⟨mn,th,e0⟩,nr⟩:=ld
 unfold LoadMP at HLD
 dsimp only at HLD HP1 HP2 HP3 HMK HDR HLR
 go_enter Tryz.func12,Tryz.ntmps12
 go_wp2_with fail
 refine HLD.out.mono ?_
 rintro e w1 ⟨sv,rfl,hsg,hone,hf1,ht1⟩
 have HSO:=Lib.hid hone
 have hsz0:w.heap.size<(w.alloc (.cells #[.bool false,.int .i64 0,.int .i64 0,.int .i64 0,.int .i64 0,.int .i64 0,.slice none 0 0,.slice none 0 0,.int .i64 0,.int .i64 0] 34)).heap.size:=HR0.out.lt
 have hsz1:=ht1.size
 have HW1:=Lib.hid (show PlBlk w1 w.heap.size planZ (.slice none 0 0) (.slice none 0 0)∧SgIn (fun k=>w.heap.size<k) w1 sv mn.segs∧FsAt w1 f m (rdD d nr) L∧NibTab w1∧Turned (fun i=>i=f) w w1 from
  ⟨(ht1.block _ HR0.out.lt (by omega)).trans HR0.out,hsg.mono (fun k hk=>by omega),hf1,HN0.out.turned ht1 (fs_nib HF0.out HN0.out) HN0.out.lt,(Turned.below HB0.out).trans ht1 fun i hi=> .inl hi⟩)
 have HMz:=Lib.hid (mnBlk_alloc w1 zeroM (.slice none 0 0))
 have hba:=below_alloc w1 (.cells (mnCs zeroM (.slice none 0 0)) 31)
 simp only [mnCs,zeroM] at HMz hba
 clear hsg hone hf1 ht1 HLD HB0 HR0 HN0 HF0
 go_wp2_with (with_reducible refine wpList_store_mn rfl (.tmp 4) (.tmp 20) rfl w1.heap.size ⟨0,0,0,0,0,[]⟩ mn (.slice none 0 0) sv rfl rfl HMz.out HSO.out ?_)
 intro w2 hw2
 have HW2:=Lib.hid (show PlW w f m (rdD d nr) L w1.heap.size mn sv w2 from by
  have hb:Below w1.heap.size w1 w2:=by rw [hw2.out];exact below_row hba (Nat.le_refl _) _
  obtain⟨h1,h2,h3,h4,h5⟩:=HW1.out
  exact⟨h1.below hb,by rw [hw2.out];exact HMz.out.row,h2.below hb,h3.below hb,h4.below hb,h5.trans (Turned.below hb) fun i hi=> .inl hi,by omega⟩)
 clear hw2 hba HMz HW1 hsz0 hsz1
 generalize w1.heap.size=bm at*
 rcases he8:(e0==80) with _ | _
 case true=>
  have HPE:=Lib.hid (show planD d=((planZ,4),nr) by rw [HP1.out (by simp at he8;omega),if_pos (by simpa using he8)])
  go_wp2_with (with_reducible refine wpList_store_pl rfl (.tmp 2) (.tmp 26) rfl w.heap.size planZ planZ (.slice none 0 0) (.slice none 0 0) (.slice none 0 0) (.slice none 0 0) rfl rfl HW2.out.res rfl rfl ?_)
  intro w3 hw3
  have HP:=Lib.hid (show PlBlk w3 w.heap.size planZ (.slice none 0 0) (.slice none 0 0) by rw [hw3.out];exact HW2.out.res.row)
  have HA:=Lib.hid (show FsAt w3 f m (rdD d nr) L∧Turned (fun i=>i=f) w w3 by rw [hw3.out];exact HW2.out.answer HLT.out _)
  clear hw3
  go_wp2
  refine bodyPost_ret (v:= .tuple #[plV planZ (.slice none 0 0) (.slice none 0 0),.int .i64 4]) (results_pl2 rfl _ _ w.heap.size planZ _ _ _ rfl rfl HP.out) rfl ?_
  rw [HPE.out]
  exact⟨_,_,rfl,sgIn_nil _ _,stIn_nil _ _,rfl,rfl,HA.out⟩
 rcases he:(e0 != 0) with _ | _
 case true=>
  have HPE:=Lib.hid (show planD d=((planZ,e0),nr) by rw [HP1.out (by simpa using he),if_neg (by simpa using he8)])
  go_wp2_with (with_reducible refine wpList_store_pl rfl (.tmp 2) (.tmp 30) rfl w.heap.size planZ planZ (.slice none 0 0) (.slice none 0 0) (.slice none 0 0) (.slice none 0 0) rfl rfl HW2.out.res rfl rfl ?_)
  intro w3 hw3
  have HP:=Lib.hid (show PlBlk w3 w.heap.size planZ (.slice none 0 0) (.slice none 0 0) by rw [hw3.out];exact HW2.out.res.row)
  have HA:=Lib.hid (show FsAt w3 f m (rdD d nr) L∧Turned (fun i=>i=f) w w3 by rw [hw3.out];exact HW2.out.answer HLT.out _)
  clear hw3
  go_wp2
  refine bodyPost_ret (v:= .tuple #[plV planZ (.slice none 0 0) (.slice none 0 0),.int .i64 e0]) (results_pl2 rfl _ _ w.heap.size planZ _ _ _ rfl rfl HP.out) rfl ?_
  rw [HPE.out]
  exact⟨_,_,rfl,sgIn_nil _ _,stIn_nil _ _,rfl,rfl,HA.out⟩
 have he0:e0=0:=by simpa using he
 have HDN:=Lib.hid (show d.down=false from by
  rcases HDR.out with h | h
  ·exact h
  ·exact absurd he0 h)
 cases th
 case false=>
  have HPE:=Lib.hid (show planD d=(freshD d,nr) from HP2.out he0 rfl)
  have HFR:=Lib.hid (show Calls Tryz.prog 39 #[.pointer (some ⟨f,0,none⟩)] w2 (FreshP w2 (freshD d)) from freshG_any w2 f m (rdD d nr) L HW2.out.fs HDN.out HW2.out.nib)
  obtain⟨fr,hfr⟩: ∃ fr,fr=freshD d:=⟨_,rfl⟩
  rw [←hfr] at HPE HFR
  obtain⟨fp,fe⟩:=fr
  unfold FreshP at HFR
  clear hfr he0 HP1 HP2 HP3 HMK
  go_wp2_with fail
  refine HFR.out.mono ?_
  rintro e w3 ⟨fsv,frv,rfl,hs3,hr3,ho3,hq3,hb3⟩
  have HW3:=Lib.hid (HW2.out.below hf hb3)
  have HS3:=Lib.hid hs3
  have HR3:=Lib.hid hr3
  have HO3:=Lib.hid ho3
  have HQ3:=Lib.hid hq3
  have hlo:w.heap.size<w2.heap.size:=HW2.out.res.lt
  clear hs3 hr3 ho3 hq3 hb3 HFR HW2
  go_wp2_with (with_reducible refine wpList_store_pl rfl (.tmp 2) (.tmp 37) rfl w.heap.size planZ fp (.slice none 0 0) (.slice none 0 0) fsv frv rfl rfl HW3.out.res HO3.out HQ3.out ?_)
  intro w4 hw4
  have HP:=Lib.hid (show PlBlk w4 w.heap.size fp fsv frv by rw [hw4.out];exact HW3.out.res.row)
  have HA:=Lib.hid (show FsAt w4 f m (rdD d nr) L∧Turned (fun i=>i=f) w w4 by rw [hw4.out];exact HW3.out.answer HLT.out _)
  have HT:=Lib.hid (show Turned (fun k=>k=w.heap.size) w3 w4 by rw [hw4.out];exact run_setRow_turned _ _ _)
  clear hw4
  go_wp2
  refine bodyPost_ret (v:= .tuple #[plV fp fsv frv,.int .i64 fe]) (results_pl2 rfl _ _ w.heap.size fp _ _ _ rfl rfl HP.out) rfl ?_
  rw [HPE.out]
  exact⟨_,_,rfl,(HS3.out.turned HT.out (fun k hk=>by omega)).mono (fun k hk=>by omega),(HR3.out.turned HT.out (fun k hk=>by omega)).mono (fun k hk=>by omega),HO3.out,HQ3.out,HA.out⟩
 case true=>
  have hmk:=(HMK.out rfl).1
  have HMF:=Lib.hid (manFine hmk)
  have HPE:=Lib.hid (show planD d=((planM d mn).1,nr+(planM d mn).2) from HP3.out he0 rfl)
  clear he0 HP1 HP2 HP3 HMK hmk
  have hlr:=HLR.out
  have s3:=HW2.out.man.c3
  go_upto_if 41 with fail
  go_cut [] from 39 to 58 (fun wx=>Hid (PlW w f m (rdD d (nr+(snapV d mn).2)) L bm mn sv wx)∧Hid ((snapV d mn).1=true)∧Hid ((snapV d mn).2≤67108864))
  case first=>
   rcases hsn:decide (0<mn.snap) with _ | _
   ·have HSV:=Lib.hid (show snapV d mn=(true,0) by unfold snapV;rw [if_neg (by simpa using hsn)])
    go_wp2_with fail
    go_meet
    exact⟨Lib.hid (by rw [HSV.out];exact HW2.out),Lib.hid (by rw [HSV.out]),Lib.hid (by rw [HSV.out];decide)⟩
   ·have HSV:=Lib.hid (show snapV d mn=(decide ((bookV d mn.snap).1.1=0)&&decide (((bookV d mn.snap).1.2.1:Int)=mn.snapSeq),(bookV d mn.snap).2) by unfold snapV;rw [if_pos (of_decide_eq_true hsn)])
    have HBK:=Lib.hid (show Calls Tryz.prog 40 #[.pointer (some ⟨f,0,none⟩),.int .i64 mn.snap] w2 (BookLP w2 f m (rdD d nr) L (bookV d mn.snap)) from bookLoad_any w2 f m (rdD d nr) L HW2.out.fs HW2.out.nib mn.snap)
    have HBR:=Lib.hid (show (bookV d mn.snap).2≤67108864 from by
     refine Nat.le_trans (book_read d mn.snap) ?_
     unfold sizeN
     split
     ·exact Nat.zero_le _
     ·rename_i x hx;exact fil_len HW2.out.fs hx)
    obtain⟨bk,hbk⟩: ∃ bk,bk=bookV d mn.snap:=⟨_,rfl⟩
    rw [←hbk] at HSV HBK HBR
    obtain⟨⟨e1,sq,ss⟩,n1⟩:=bk
    unfold BookLP at HBK
    dsimp only at HSV HBK HBR
    clear hbk
    go_wp2_with fail
    refine HBK.out.mono ?_
    rintro e w3 ⟨bv,rfl,_,hf3,ht3⟩
    have HW3:=Lib.hid (HW2.out.next hf (by rw [rdD_rdD] at hf3;exact hf3) ht3)
    have t4:=HW3.out.man.c4
    clear hf3 ht3 HBK HW2 s3
    rcases he1:(e1 != 0) with _ | _
    ·rcases hsq:((sq:Int) != mn.snapSeq) with _ | _
     ·have HSW:=Lib.hid (show snapV d mn=(true,n1) by rw [HSV.out,decide_eq_true (by simpa using he1),decide_eq_true (by simpa using hsq)];rfl)
      go_wp2_with fail
      go_meet
      exact⟨Lib.hid (by rw [HSW.out];exact HW3.out),Lib.hid (by rw [HSW.out]),Lib.hid (by rw [HSW.out];exact HBR.out)⟩
     ·have HSW:=Lib.hid (show snapV d mn=(false,n1) by rw [HSV.out,decide_eq_true (by simpa using he1),decide_eq_false (by simpa using hsq)];rfl)
      have HPE:=Lib.hid (show planD d=((planZ,4),nr+n1) by rw [HPE.out];unfold planM;rw [HSW.out,if_pos rfl])
      go_wp2_with (with_reducible refine wpList_store_pl rfl (.tmp 2) (.tmp 58) rfl w.heap.size planZ planZ (.slice none 0 0) (.slice none 0 0) (.slice none 0 0) (.slice none 0 0) rfl rfl HW3.out.res rfl rfl ?_)
      intro w9 hw9
      have HP:=Lib.hid (show PlBlk w9 w.heap.size planZ (.slice none 0 0) (.slice none 0 0) by rw [hw9.out];exact HW3.out.res.row)
      have HA:=Lib.hid (show FsAt w9 f m (rdD d (nr+n1)) L∧Turned (fun i=>i=f) w w9 by rw [hw9.out];exact HW3.out.answer HLT.out _)
      clear hw9
      go_wp2
      refine bodyPost_ret (v:= .tuple #[plV planZ (.slice none 0 0) (.slice none 0 0),.int .i64 4]) (results_pl2 rfl _ _ w.heap.size planZ _ _ _ rfl rfl HP.out) rfl ?_
      rw [HPE.out]
      exact⟨_,_,rfl,sgIn_nil _ _,stIn_nil _ _,rfl,rfl,HA.out⟩
    ·have HSW:=Lib.hid (show snapV d mn=(false,n1) by rw [HSV.out,decide_eq_false (by simpa using he1)];rfl)
     have HPE:=Lib.hid (show planD d=((planZ,4),nr+n1) by rw [HPE.out];unfold planM;rw [HSW.out,if_pos rfl])
     go_wp2_with (with_reducible refine wpList_store_pl rfl (.tmp 2) (.tmp 58) rfl w.heap.size planZ planZ (.slice none 0 0) (.slice none 0 0) (.slice none 0 0) (.slice none 0 0) rfl rfl HW3.out.res rfl rfl ?_)
     intro w9 hw9
     have HP:=Lib.hid (show PlBlk w9 w.heap.size planZ (.slice none 0 0) (.slice none 0 0) by rw [hw9.out];exact HW3.out.res.row)
     have HA:=Lib.hid (show FsAt w9 f m (rdD d (nr+n1)) L∧Turned (fun i=>i=f) w w9 by rw [hw9.out];exact HW3.out.answer HLT.out _)
     clear hw9
     go_wp2
     refine bodyPost_ret (v:= .tuple #[plV planZ (.slice none 0 0) (.slice none 0 0),.int .i64 4]) (results_pl2 rfl _ _ w.heap.size planZ _ _ _ rfl rfl HP.out) rfl ?_
     rw [HPE.out]
     exact⟨_,_,rfl,sgIn_nil _ _,stIn_nil _ _,rfl,rfl,HA.out⟩
  case rest=>
   obtain⟨HW3,HSV,HSR⟩:=hcut
   obtain⟨hlast,hlmem⟩:=last_segs HMF.out
   have HPM:=Lib.hid (show (planM d mn)=if (sealsV d mn.segs.dropLast).1=false then ((planZ,4),(snapV d mn).2+(sealsV d mn.segs.dropLast).2)
    else if (activeV d (lastSg mn)).1.2.2=false∨(lastSg mn).first - 1+((activeV d (lastSg mn)).1.2.1:Int)<mn.snapSeq then ((planZ,4),(snapV d mn).2+(sealsV d mn.segs.dropLast).2+(activeV d (lastSg mn)).2)
    else ((⟨false,mn,straysD d true mn,((activeV d (lastSg mn)).1.1:Int),(lastSg mn).first - 1+((activeV d (lastSg mn)).1.2.1:Int)⟩,0),(snapV d mn).2+(sealsV d mn.segs.dropLast).2+(activeV d (lastSg mn)).2) by unfold planM;rw [if_neg (by rw [HSV.out];decide)])
   obtain⟨ns,hns⟩: ∃ ns,ns=(snapV d mn).2:=⟨_,rfl⟩
   rw [←hns] at HW3 HSR HPM
   obtain⟨dl,hdl⟩: ∃ dl,dl=mn.segs.dropLast:=⟨_,rfl⟩
   obtain⟨lg,hlg⟩: ∃ lg,lg=lastSg mn:=⟨_,rfl⟩
   have HSG:=Lib.hid HMF.out.seg
   have hnx:=HMF.out.next
   have hlen:=HMF.out.len
   have hdk: ∀ (k:Nat) g,dl[k]? =some g→mn.segs[k]? =some g∧g∈mn.segs:=fun k g hg=>by
    have h1:mn.segs[k]? =some g:=by rw [hlast,←hdl,List.getElem?_append_left (getElem?_lt hg)];exact hg
    exact⟨h1,List.mem_of_getElem? h1⟩
   have hlk:mn.segs[dl.length]? =some lg:=by rw [hlast,←hdl,←hlg];simp
   have hll:mn.segs.length=dl.length+1:=by rw [hlast,←hdl];simp
   rw [←hdl,←hlg] at HPM
   rw [←hlg] at hlmem
   have HDK:=Lib.hid hdk
   have HLK:=Lib.hid hlk
   have HLM:=Lib.hid hlmem
   clear hlast hns hdl hlg hdk hlk hlmem HSV s3 HW2
   obtain⟨osg,scap,hsh,hl1,hl2,_⟩:=HW3.out.seg
   have s5:=HW3.out.man.c5
   rw [hsh] at s5
   rw [hll] at s5 hl1
   have hw1:IntKind.i64.wrap (((dl.length+1:Nat):Int) - 1)=(dl.length:Int):=by rw [IntKind.wrap_i64];omega
   have hcut:=cut_sg osg (dl.length+1) scap dl.length (by omega)
   have HHAT:=Lib.hid (fun(W:World) (hW:SgIn (fun k=>w.heap.size<k) W sv mn.segs) (i:Nat) g (hg:mn.segs[i]? =some g)=>(show ∃ b off,osg=some ⟨b,off,none⟩∧W.rangeAt b (off+i*4) (sgCs g).toList from by
    obtain⟨o1,c1,e1,_,_,h1⟩:=hW
    rw [hsh] at e1
    simp only [Value.slice.injEq,true_and] at e1
    obtain⟨rfl,rfl⟩:=e1
    obtain⟨b,off,e2,_,h2⟩:=h1 i g hg
    exact⟨b,off,e2,h2⟩))
   have HSH:=Lib.hid hsh
   have HLL:=Lib.hid hll
   have hdn:dl.length≤256:=by omega
   clear hsh hll
   go_wp2
   go_loopw [68] (fun iv wr=> ∃ (k n2:Nat),k≤dl.length∧iv= .int .i64 (k:Int)∧Hid (PlW w f m (rdD d (nr+(ns+n2))) L bm mn sv wr)∧Hid (sealsV d dl=((sealsV d (dl.drop k)).1,n2+(sealsV d (dl.drop k)).2))∧Hid (n2≤k*134217728)) (fun iv _=>dl.length - (intOf iv).toNat)
   case atStart=>exact⟨0,0,Nat.zero_le _,rfl,HW3,Lib.hid (by simp),Lib.hid (Nat.zero_le _)⟩
   case round=>
    obtain⟨k,n2,hk,rfl,HW,HSL,HNN⟩:=hrel
    clear HW3 s5
    have hnn:=HNN.out
    have hns:=HSR.out
    by_cases hlt:k<dl.length
    ·have hgk:dl[k]? =some dl[k]:=List.getElem?_eq_getElem hlt
     obtain⟨g,hg⟩: ∃ g,g=dl[k]:=⟨_,rfl⟩
     rw [←hg] at hgk
     have hdr:dl.drop k=g::dl.drop (k+1):=by rw [List.drop_eq_getElem_cons hlt,←hg]
     obtain⟨hgm,hgs⟩:=HDK.out k g hgk
     rw [hdr,sealsV] at HSL
     obtain⟨b,off,rfl,hce⟩:=HHAT.out wr HW.out.seg k g hgm
     have q1:(k:Int)<(dl.length:Int):=by omega
     have HCE:=Lib.hid hce
     have hft:=(HSG.out g hgs).2.2.2.2.2.2.1
     have HSBR:=Lib.hid (show (sealedV d g).2≤134217728 from by
      refine Nat.le_trans (sealed_read d g) ?_
      unfold sizeN
      split
      ·omega
      ·rename_i x hx;have:x.data.length≤67108864:=fil_len HW.out.fs hx;omega)
     have HBA:=Lib.hid (below_alloc wr (.cells (sgCs g) 46))
     have HBK:=Lib.hid (show SgBlk (wr.alloc (.cells (sgCs g) 46)) wr.heap.size g from heap_alloc_new wr _)
     have HWA:=Lib.hid (HW.out.below hf HBA.out)
     have HSE:=Lib.hid (show Calls Tryz.prog 41 #[.pointer (some ⟨f,0,none⟩),sgV g] (wr.alloc (.cells (sgCs g) 46)) fun e w'=>e= .returned (.bool (sealedV d g).1)∧FsAt w' f m (rdD (rdD d (nr+(ns+n2))) (sealedV d g).2) L∧Turned (fun i=>i=f) (wr.alloc (.cells (sgCs g) 46)) w' from
      sealed_any _ f m (rdD d (nr+(ns+n2))) L HWA.out.fs HWA.out.nib g hft)
     obtain⟨sr,hsr⟩: ∃ sr,sr=sealedV d g:=⟨_,rfl⟩
     rw [←hsr] at HSE HSBR HSL
     obtain⟨sb,sn⟩:=sr
     dsimp only at HSE HSBR HSL
     have hk1:IntKind.i64.wrap ((k:Int)+1)=(k:Int)+1:=by rw [IntKind.wrap_i64];omega
     clear hgk hg hdr hgm hgs hce hsr hft
     simp only [sgCs] at HBA HBK HWA HSE
     go_wp2_with (first | (with_reducible refine wpList_load_sg rfl (.tmp 70) rfl b (off+k*4) g rfl HCE.out ?_) | (with_reducible refine wpList_load_sg rfl (.tmp 12) rfl wr.heap.size 0 g rfl HBK.out.range ?_))
     refine HSE.out.mono ?_
     rintro e w5 ⟨rfl,hf5,ht5⟩
     have HW5:=Lib.hid (HWA.out.next hf (show FsAt w5 f m (rdD d (nr+(ns+(n2+sn)))) L by rw [rdD_rdD] at hf5;rw [show nr+(ns+(n2+sn))=nr+(ns+n2)+sn by omega];exact hf5) ht5)
     clear hf5 ht5 HSE HWA HBK HBA HCE HW
     cases sb
     ·have HSF:=Lib.hid (show sealsV d dl=(false,n2+sn) by rw [HSL.out,if_neg (by decide)])
      have HPE:=Lib.hid (show planD d=((planZ,4),nr+(ns+(n2+sn))) by rw [HPE.out,HPM.out,HSF.out,if_pos rfl])
      go_wp2_with (with_reducible refine wpList_store_pl rfl (.tmp 2) (.tmp 76) rfl w.heap.size planZ planZ (.slice none 0 0) (.slice none 0 0) (.slice none 0 0) (.slice none 0 0) rfl rfl HW5.out.res rfl rfl ?_)
      intro w9 hw9
      have HP:=Lib.hid (show PlBlk w9 w.heap.size planZ (.slice none 0 0) (.slice none 0 0) by rw [hw9.out];exact HW5.out.res.row)
      have HA:=Lib.hid (show FsAt w9 f m (rdD d (nr+(ns+(n2+sn)))) L∧Turned (fun i=>i=f) w w9 by rw [hw9.out];exact HW5.out.answer HLT.out _)
      clear hw9
      go_wp2
      refine bodyPost_ret (v:= .tuple #[plV planZ (.slice none 0 0) (.slice none 0 0),.int .i64 4]) (results_pl2 rfl _ _ w.heap.size planZ _ _ _ rfl rfl HP.out) rfl ?_
      rw [HPE.out]
      exact⟨_,_,rfl,sgIn_nil _ _,stIn_nil _ _,rfl,rfl,HA.out⟩
     ·have hsb:=HSBR.out
      go_wp2
      go_roundw
      case rel=>exact⟨k+1,n2+sn,by omega,by go_num,HW5,Lib.hid (by rw [HSL.out];simp [Nat.add_assoc]),Lib.hid (by omega)⟩
      case measure=>simp [intOf];omega
    ·obtain rfl:k=dl.length:=by omega
     have HSF:=Lib.hid (show sealsV d dl=(true,n2) by rw [HSL.out,List.drop_length];rfl)
     have HPM:=Lib.hid (show (planM d mn)=if (activeV d lg).1.2.2=false∨lg.first - 1+((activeV d lg).1.2.1:Int)<mn.snapSeq then ((planZ,4),ns+n2+(activeV d lg).2)
      else ((⟨false,mn,straysD d true mn,((activeV d lg).1.1:Int),lg.first - 1+((activeV d lg).1.2.1:Int)⟩,0),ns+n2+(activeV d lg).2) by rw [HPM.out,HSF.out,if_neg (by simp)])
     have HAC:=Lib.hid (show Calls Tryz.prog 42 #[.pointer (some ⟨f,0,none⟩),sgV lg] wr fun e w'=>e= .returned (.tuple #[.int .i64 ((activeV d lg).1.1:Int),.int .i64 ((activeV d lg).1.2.1:Int),.bool (activeV d lg).1.2.2])∧FsAt w' f m (rdD (rdD d (nr+(ns+n2))) (activeV d lg).2) L∧Turned (fun i=>i=f) wr w' from
      active_any wr f m (rdD d (nr+(ns+n2))) L HW.out.fs HW.out.nib lg)
     have HCN:=Lib.hid (show (activeV d lg).1.2.1≤512∧(activeV d lg).1.1≤67108864 from(active_cnt (rdD d (nr+(ns+n2))) lg).resolve_right fun h=>h HW.out.fs.ok)
     obtain⟨ar,har⟩: ∃ ar,ar=activeV d lg:=⟨_,rfl⟩
     rw [←har] at HPM HAC HCN
     obtain⟨⟨cu,cn,ok⟩,na⟩:=ar
     dsimp only at HPM HAC HCN
     obtain⟨b,off,rfl,hce⟩:=HHAT.out wr HW.out.seg dl.length lg HLK.out
     have HCE:=Lib.hid hce
     have s5:=HW.out.man.c5
     rw [HSH.out,HLL.out] at s5
     have q2:(dl.length:Int)<((dl.length+1:Nat):Int):=by omega
     clear har hce HSL HNN hnn hcut
     go_wp2_with (with_reducible refine wpList_load_sg rfl (.tmp 83) rfl b (off+dl.length*4) lg rfl HCE.out ?_)
     with_reducible refine HAC.out.mono ?_
     rintro e w6 ⟨rfl,hf6,ht6⟩
     have HW6:=Lib.hid (HW.out.next hf (show FsAt w6 f m (rdD d (nr+(ns+n2+na))) L by rw [rdD_rdD] at hf6;rw [show nr+(ns+n2+na)=nr+(ns+n2)+na by omega];exact hf6) ht6)
     obtain⟨b',off',e',hce⟩:=HHAT.out w6 HW6.out.seg dl.length lg HLK.out
     simp only [Option.some.injEq,Addr.mk.injEq,and_true] at e'
     obtain⟨rfl,rfl⟩:=e'
     have f1:w6.cell? ⟨b,off+dl.length*4+1,none⟩=some (.int .i64 lg.first):=hce 1 _ rfl
     have s6:=HW6.out.man.c5
     rw [HSH.out,HLL.out] at s6
     have s7:=HW6.out.man.c4
     have hlb:=HSG.out lg HLM.out
     have hcn:=HCN.out
     have hw2:IntKind.i64.wrap (lg.first - 1)=lg.first - 1:=by rw [IntKind.wrap_i64];omega
     have hw3:IntKind.i64.wrap (lg.first - 1+(cn:Int))=lg.first - 1+(cn:Int):=by rw [IntKind.wrap_i64];omega
     clear hf6 ht6 hce s5 HAC HW HCE hcn hlb
     cases ok
     ·have HPE:=Lib.hid (show planD d=((planZ,4),nr+(ns+n2+na)) by rw [HPE.out,HPM.out,if_pos (.inl rfl)])
      go_wp2_with (with_reducible refine wpList_store_pl rfl (.tmp 2) (.tmp 106) rfl w.heap.size planZ planZ (.slice none 0 0) (.slice none 0 0) (.slice none 0 0) (.slice none 0 0) rfl rfl HW6.out.res rfl rfl ?_)
      intro w9 hw9
      have HP:=Lib.hid (show PlBlk w9 w.heap.size planZ (.slice none 0 0) (.slice none 0 0) by rw [hw9.out];exact HW6.out.res.row)
      have HA:=Lib.hid (show FsAt w9 f m (rdD d (nr+(ns+n2+na))) L∧Turned (fun i=>i=f) w w9 by rw [hw9.out];exact HW6.out.answer HLT.out _)
      clear hw9
      go_wp2
      refine bodyPost_ret (v:= .tuple #[plV planZ (.slice none 0 0) (.slice none 0 0),.int .i64 4]) (results_pl2 rfl _ _ w.heap.size planZ _ _ _ rfl rfl HP.out) rfl ?_
      rw [HPE.out]
      exact⟨_,_,rfl,sgIn_nil _ _,stIn_nil _ _,rfl,rfl,HA.out⟩
     rcases hls:decide (lg.first - 1+(cn:Int)<mn.snapSeq) with _ | _
     case true=>
      have HPE:=Lib.hid (show planD d=((planZ,4),nr+(ns+n2+na)) by rw [HPE.out,HPM.out,if_pos (.inr (of_decide_eq_true hls))])
      go_wp2_with (with_reducible refine wpList_store_pl rfl (.tmp 2) (.tmp 106) rfl w.heap.size planZ planZ (.slice none 0 0) (.slice none 0 0) (.slice none 0 0) (.slice none 0 0) rfl rfl HW6.out.res rfl rfl ?_)
      intro w9 hw9
      have HP:=Lib.hid (show PlBlk w9 w.heap.size planZ (.slice none 0 0) (.slice none 0 0) by rw [hw9.out];exact HW6.out.res.row)
      have HA:=Lib.hid (show FsAt w9 f m (rdD d (nr+(ns+n2+na))) L∧Turned (fun i=>i=f) w w9 by rw [hw9.out];exact HW6.out.answer HLT.out _)
      clear hw9
      go_wp2
      refine bodyPost_ret (v:= .tuple #[plV planZ (.slice none 0 0) (.slice none 0 0),.int .i64 4]) (results_pl2 rfl _ _ w.heap.size planZ _ _ _ rfl rfl HP.out) rfl ?_
      rw [HPE.out]
      exact⟨_,_,rfl,sgIn_nil _ _,stIn_nil _ _,rfl,rfl,HA.out⟩
     have HPE:=Lib.hid (show planD d=((⟨false,mn,straysD d true mn,(cu:Int),lg.first - 1+(cn:Int)⟩,0),nr+(ns+n2+na)) by rw [HPE.out,HPM.out,if_neg];rintro(h | h);cases h;exact of_decide_eq_false hls h)
     have hbm:=HW6.out.bmf
     obtain rfl:=HSH.out
     go_wp2_with fail
     refine wp_region_held_drew (S:=fun w'=>Turned (fun k=>k=w.heap.size) w6 w') (by kernel_rfl) (Turned.below (below_drewN' w6 1)) (fun hHeld=> ?_)
     refine tkl 0 bm 0 [.int .i64 mn.gen,.int .i64 mn.next,.int .i64 mn.floor,.int .i64 mn.snap,.int .i64 mn.snapSeq,.slice (some ⟨b,off,none⟩) mn.segs.length scap] rfl rfl (fun w' h j v hv=>by rw [Nat.zero_add];exact h.cell (by rw [HW6.out.man.cell];simpa [mnCs] using hv) (by simp only;omega)) Tryz.underlying31 rfl (by rw [mnInfo];rfl) ?_
     simp only [pA,pB,pC,pD]
     refine tq 1 rfl ?_
     refine tkl 2 bm 0 [.int .i64 mn.gen,.int .i64 mn.next,.int .i64 mn.floor,.int .i64 mn.snap,.int .i64 mn.snapSeq,.slice (some ⟨b,off,none⟩) mn.segs.length scap] rfl rfl (fun w' h j v hv=>by rw [Nat.zero_add];exact h.cell (by rw [HW6.out.man.cell];simpa [mnCs] using hv) (by simp only;omega)) Tryz.underlying31 rfl (by rw [mnInfo];rfl) ?_
     simp only [pA,pB,pC,pD]
     refine tq 4 rfl ?_
     refine tq 5 rfl ?_
     have hbd:Below w6.heap.size w6 (World.drew w6):=below_drewN' w6 1
     have HPD:=Lib.hid (HW6.out.res.below hbd)
     clear hbd
     generalize World.drew w6=Wd at*
     refine wpAnyH_ready (rs:=[3]) (by kernel_rfl) (by simp) ?_
     refine AllReadyH.cons rfl (fun K hK=> ?_) AllReadyH.nil
     go_simp
     go_at_call 43
     refine(strays_there Wd f m (rdD d (nr+(ns+n2+na))) L (HW6.out.fs.turned hHeld (fun k hk he=>by have:=HLT.out k hk;omega)) HDN.out mn _ (HW6.out.seg.turned hHeld (fun k hk=>by omega)).row (fun g hg=>by have:=HSG.out g hg;omega) (by omega)).mono ?_
     rintro e w7 ⟨v7,rfl,ho7,hb7⟩
     have HT7:=Lib.hid (show Turned (fun k=>k=w.heap.size) w6 w7 from hHeld.trans (Turned.below hb7) fun i hi=> .inl hi)
     have HR7:=Lib.hid (stIn_own (A:=fun k=>w6.heap.size≤k) (l:=straysD d true mn) (own_mono ho7 hHeld.size) (fun _ h=>h))
     obtain⟨o7,cap7,rfl,_,_⟩:=own_shape ho7
     have HP7:=Lib.hid (HPD.out.below hb7)
     have hlo:w.heap.size<w6.heap.size:=HW6.out.res.lt
     clear ho7 hb7 hHeld HPD
     go_wp2_with fail
     refine hK.out _ _ HT7.out (fun hHeld=> ?_)
     clear hK K hHeld
     refine tq 6 rfl ?_
     refine wpAnyH_ready (rs:=[7]) (by kernel_rfl) (by simp) ?_
     refine AllReadyH.cons rfl (fun K hK=> ?_) AllReadyH.nil
     rw [if_pos (by kernel_rfl)]
     refine wp_store_row 34 (.tmp 2) (.tmp 113) rfl w.heap.size (plCs ⟨false,mn,straysD d true mn,(cu:Int),lg.first - 1+(cn:Int)⟩ (.slice (some ⟨b,off,none⟩) mn.segs.length scap) (.slice o7 (straysD d true mn).length cap7)) rfl rfl 34 (plCs planZ (.slice none 0 0) (.slice none 0 0)) HP7.out plInfo rfl (plCs_all _ _ _ rfl rfl) ?_
     have ht8:Turned (fun k=>k=w.heap.size) w7 (w7.setRow w.heap.size (plCs ⟨false,mn,straysD d true mn,(cu:Int),lg.first - 1+(cn:Int)⟩ (.slice (some ⟨b,off,none⟩) mn.segs.length scap) (.slice o7 (straysD d true mn).length cap7))):=run_setRow_turned _ _ _
     have HP8:=Lib.hid (show PlBlk (w7.setRow w.heap.size (plCs ⟨false,mn,straysD d true mn,(cu:Int),lg.first - 1+(cn:Int)⟩ (.slice (some ⟨b,off,none⟩) mn.segs.length scap) (.slice o7 (straysD d true mn).length cap7))) w.heap.size ⟨false,mn,straysD d true mn,(cu:Int),lg.first - 1+(cn:Int)⟩ (.slice (some ⟨b,off,none⟩) mn.segs.length scap) (.slice o7 (straysD d true mn).length cap7) from HP7.out.row)
     have HT8:=Lib.hid (show Turned (fun k=>k=w.heap.size) w6 (w7.setRow w.heap.size (plCs ⟨false,mn,straysD d true mn,(cu:Int),lg.first - 1+(cn:Int)⟩ (.slice (some ⟨b,off,none⟩) mn.segs.length scap) (.slice o7 (straysD d true mn).length cap7))) from HT7.out.trans ht8 fun i hi=> .inl hi)
     have HR8:=Lib.hid (HR7.out.turned ht8 fun k hk=>by omega)
     clear ht8 HR7 HT7 HP7
     generalize w7.setRow w.heap.size (plCs ⟨false,mn,straysD d true mn,(cu:Int),lg.first - 1+(cn:Int)⟩ (.slice (some ⟨b,off,none⟩) mn.segs.length scap) (.slice o7 (straysD d true mn).length cap7))=w8 at*
     refine hK.out _ _ HT8.out (fun hHeld=> ?_)
     clear hK K
     refine tk 8 rfl ?v_1 ?hy_1 ?r_1
     case hy_1=>intro w hSw;go_simp;try with_reducible rfl
     simp only [pA]
     refine wpAnyH_done (by kernel_rfl) ?_ _
     have HTE:=Lib.hid (show Turned (fun i=>i=f) w w8 from HW6.out.top.trans HT8.out fun i hi=> .inr (by omega))
     have HSE:=Lib.hid (show SgIn (fun k=>w.heap.size≤k) w8 (.slice (some ⟨b,off,none⟩) mn.segs.length scap) mn.segs from(HW6.out.seg.turned HT8.out (fun k hk=>by omega)).mono (fun k hk=>by omega))
     have HFE:=Lib.hid (show FsAt w8 f m (rdD d (nr+(ns+n2+na))) L from HW6.out.fs.turned HT8.out (fun k hk he=>by have:=HLT.out k hk;omega))
     clear hHeld
     go_wp2
     refine bodyPost_ret (v:= .tuple #[plV ⟨false,mn,straysD d true mn,(cu:Int),lg.first - 1+(cn:Int)⟩ (.slice (some ⟨b,off,none⟩) mn.segs.length scap) (.slice o7 (straysD d true mn).length cap7),.int .i64 0]) (results_pl2 rfl _ _ w.heap.size _ _ _ _ rfl rfl HP8.out) rfl ?_
     rw [HPE.out]
     exact⟨_,_,rfl,HSE.out,HR8.out.mono (fun k hk=>by omega),rfl,rfl,HFE.out,HTE.out⟩
end Go.Proofs.YtlobohpbgghleaaGreatDoor

namespace Go.Proofs.YtlobohpbgghleaaGreatDoor
open Go.RowKit
def datF (fs:List Fil) (n:List UInt8):Option (List UInt8):=(atF fs n).map (·.data)
theorem datF_at {fs:List Fil} {n:List UInt8} {x:Fil} (h:atF fs n=some x):datF fs n=some x.data:=by unfold datF;rw [h];rfl
theorem datF_none {fs:List Fil} {n:List UInt8} (h:atF fs n=none):datF fs n=none:=by unfold datF;rw [h];rfl
def stand (room:Int) (fs:List Fil):Disk:=⟨fs,room,0,false,0,0⟩
theorem filD_on {d:Disk} (hok:DiskOk d) (hd:d.down=false) (n:List UInt8):filD d n=atF d.files n:=by
 unfold filD openE
 rw [hd]
 rcases ha:atF d.files n with _ | x
 ·simp
 ·have:=hok.names x (at_name ha).2
  rw [(at_name ha).1] at this
  simp [this]
def snapB (o:Option (List UInt8)) (m:Man):Bool:=
 if 0<m.snap then match o with
  | none=>false
  | some b=>match decBook b with
   | none=>false
   | some r=>decide ((r.1:Int)=m.snap)&&decide ((r.2.1:Int)=m.snapSeq)
 else true
theorem bookV_off {d:Disk} {n:Int} (h:filD d (bookName n)=none):bookV d n=((openE d (bookName n),0,[]),0):=by unfold bookV;rw [h]
theorem bookV_bad {d:Disk} {n:Int} {x:Fil} (h:filD d (bookName n)=some x) (h2:decBook x.data=none):bookV d n=((81,0,[]),x.data.length):=by unfold bookV;rw [h];dsimp only;rw [h2]
theorem bookV_in {d:Disk} {n:Int} {x:Fil} {r:Nat×Nat×List St} (h:filD d (bookName n)=some x) (h2:decBook x.data=some r):bookV d n=if (r.1:Int)≠n then ((81,0,[]),x.data.length) else ((0,r.2.1,r.2.2),x.data.length):=by unfold bookV;rw [h];dsimp only;rw [h2]
theorem snapV_on {d:Disk} (hok:DiskOk d) (hd:d.down=false) (m:Man):(snapV d m).1=snapB (datF d.files (bookName m.snap)) m:=by
 unfold snapV snapB
 split
 ·rcases ha:atF d.files (bookName m.snap) with _ | x
  ·rw [datF_none ha]
   have:openE d (bookName m.snap)≠0:=fun e=>by
    obtain⟨_,_,y,hy⟩:=openE_zero e
    rw [ha] at hy;cases hy
   rw [bookV_off (by rw [filD_on hok hd];exact ha)]
   simp [this]
  ·rw [datF_at ha]
   have hf:filD d (bookName m.snap)=some x:=by rw [filD_on hok hd];exact ha
   dsimp only
   rcases hb:decBook x.data with _ | r
   ·rw [bookV_bad hf hb]
    simp
   ·rw [bookV_in hf hb]
    by_cases hr:(r.1:Int)=m.snap
    ·simp [hr]
    ·simp [hr]
 ·rfl
def sealB (o:Option (List UInt8)) (g:Sg):Bool:=
 match o with
 | none=>false
 | some b=>if (b.length:Int)≤g.foot then false
  else if (begV (b.take (min b.length 64)) g).2=false then false
  else match closingV (b.drop g.foot.toNat) g with
   | none=>false
   | some r=>match r.1 with
    | []=>false
    | k::_=>k.p==((begV (b.take (min b.length 64)) g).1:Int)
theorem sealedV_on {d:Disk} (hok:DiskOk d) (hd:d.down=false) (g:Sg):(sealedV d g).1=sealB (datF d.files (segName g.num)) g:=by
 unfold sealedV
 rw [filD_on hok hd]
 rcases ha:atF d.files (segName g.num) with _ | x
 ·rw [datF_none ha];rfl
 ·rw [datF_at ha]
  unfold sealB sealIn
  dsimp only
  split
  ·rfl
  ·split
   ·rfl
   ·rfl
def sealsB (fs:List Fil) (l:List Sg):Bool:=l.all fun g=>sealB (datF fs (segName g.num)) g
theorem sealsV_on {d:Disk} (hok:DiskOk d) (hd:d.down=false): ∀ l:List Sg,(sealsV d l).1=sealsB d.files l
 | []=>rfl
 | g::r=>by
  rw [sealsV]
  have ih:=sealsV_on hok hd r
  have h1:=sealedV_on hok hd g
  unfold sealsB at ih ⊢
  rw [List.all_cons,←ih,←h1]
  rcases (sealedV d g).1<;>simp
def actB (o:Option (List UInt8)) (g:Sg):Nat×Nat×Bool:=
 match o with
 | none=>(0,0,false)
 | some b=>if (begV b g).2=false then (0,0,false) else ((scanRun b (begV b g).1 (hdrOf b).2.1 512).2,(scanRun b (begV b g).1 (hdrOf b).2.1 512).1.length,true)
theorem activeV_on {d:Disk} (hok:DiskOk d) (hd:d.down=false) (g:Sg):(activeV d g).1=actB (datF d.files (segName g.num)) g:=by
 unfold activeV
 rw [filD_on hok hd]
 rcases ha:atF d.files (segName g.num) with _ | x
 ·rw [datF_none ha];rfl
 ·rw [datF_at ha]
  unfold actB
  dsimp only
  split<;>rfl
def manB (fs:List Fil) (m:Man):Pl×Int:=
 if snapB (datF fs (bookName m.snap)) m=false∨sealsB fs m.segs.dropLast=false then (planZ,4)
 else if (actB (datF fs (segN m)) (lastSg m)).2.2=false∨(lastSg m).first - 1+((actB (datF fs (segN m)) (lastSg m)).2.1:Int)<m.snapSeq then (planZ,4)
 else (⟨false,m,(fs.map (·.name)).filter (strayN true m),((actB (datF fs (segN m)) (lastSg m)).1:Int),(lastSg m).first - 1+((actB (datF fs (segN m)) (lastSg m)).2.1:Int)⟩,0)
theorem planM_on {d:Disk} (hok:DiskOk d) (hd:d.down=false) (m:Man):(planM d m).1=manB d.files m:=by
 unfold planM manB
 rw [snapV_on hok hd,sealsV_on hok hd,activeV_on hok hd]
 rw [show segName (lastSg m).num=segN m from rfl]
 rcases snapB (datF d.files (bookName m.snap)) m
 ·simp
 ·rcases sealsB d.files m.segs.dropLast
  ·simp
  ·simp only [Bool.true_eq_false,or_self,if_false,straysD]
   split<;>rfl
def alien (l:List UInt8):Bool:= !(strayN false zeroM l)
theorem strayN_false (m m':Man) (l:List UInt8):strayN false m l=strayN false m' l:=by
 unfold strayN
 simp
def aliens (fs:List Fil):List Fil:=fs.filter fun f=>alien f.name
def newB (room:Int) (fs:List Fil):Pl×Int:=
 if room - (usedF (aliens fs):Int)<51∨698<(aliens fs).length then (planZ,54) else (⟨true,firstM,(fs.map (·.name)).filter (strayN false firstM),22,0⟩,0)
theorem strays_alien (fs:List Fil) (m:Man):((fs.map (·.name)).filter (strayN false m)).length+(aliens fs).length=fs.length:=by
 induction fs with
 | nil=>rfl
 | cons f r ih=>
  unfold aliens at ih ⊢
  rw [List.map_cons,List.filter_cons,List.filter_cons]
  unfold alien at ih ⊢
  simp only [strayN_false zeroM m] at ih ⊢
  rcases strayN false m f.name<;>simp at ih ⊢ <;>omega
theorem strays_used: ∀ (fs:List Fil) (m:Man),Rise fs→(((fs.map (·.name)).filter (strayN false m)).map fun n=>match atF fs n with | none=>0 | some f=>f.data.length).sum+usedF (aliens fs)=usedF fs
 | [],_,_=>rfl
 | f::r,m,h=>by
  obtain⟨h1,h2⟩:=List.pairwise_cons.1 h
  have ih:=strays_used r m h2
  have e:(((r.map (·.name)).filter (strayN false m)).map fun n=>match atF (f::r) n with | none=>0 | some f=>f.data.length)=((r.map (·.name)).filter (strayN false m)).map fun n=>match atF r n with | none=>0 | some f=>f.data.length:=
   List.map_congr_left fun k hk=>by
    obtain⟨hk,_⟩:=List.mem_filter.1 hk
    obtain⟨y,hy,rfl⟩:=List.mem_map.1 hk
    have:=bytes_ne (h1 y hy)
    unfold atF
    rw [List.find?_cons,show (f.name==y.name)=false by simpa using this]
  have e0:atF (f::r) f.name=some f:=by unfold atF;rw [List.find?_cons];simp
  rw [List.map_cons,List.filter_cons]
  unfold aliens at ih ⊢
  rw [List.filter_cons]
  unfold alien at ih ⊢
  simp only [strayN_false zeroM m] at ih ⊢
  rcases hs:strayN false m f.name
  ·simp only [Bool.not_false,if_true,Bool.false_eq_true,if_false] at ih ⊢
   rw [e]
   simp only [usedF,List.map_cons,List.sum_cons] at ih ⊢
   omega
  ·simp only [Bool.not_true,if_true,Bool.false_eq_true,if_false] at ih ⊢
   rw [List.map_cons,List.sum_cons,e,e0]
   simp only [usedF,List.map_cons,List.sum_cons] at ih ⊢
   omega
theorem freshD_on {d:Disk} (hok:DiskOk d):freshD d=newB d.room d.files:=by
 unfold freshD newB
 have h1:=strays_alien d.files firstM
 have h2:sizesN d (straysD d false firstM)+usedF (aliens d.files)=usedF d.files:=strays_used d.files firstM hok.rise
 have h3:(straysD d false firstM).length+(aliens d.files).length=d.files.length:=h1
 by_cases hc:d.room - (usedF (aliens d.files):Int)<51∨698<(aliens d.files).length
 ·rw [if_pos hc,if_pos (by omega)]
 ·rw [if_neg hc,if_neg (by omega)]
  rfl
def findB (room:Int) (fs:List Fil):Pl×Int:=
 match datF fs manName with
 | none=>newB room fs
 | some b=>if (decMan b).2≠0 then (planZ,4) else manB fs (decMan b).1
theorem decMan_err (b:List UInt8):(decMan b).2=0∨(decMan b).2=80:=by
 unfold decMan
 repeat' split
 all_goals simp
theorem planD_on {d:Disk} (hok:DiskOk d) (hd:d.down=false):(planD d).1=findB d.room d.files:=by
 unfold planD findB loadM
 rw [filD_on hok hd]
 have hr:rightName manName=true:=by decide
 rcases ha:atF d.files manName with _ | x
 ·rw [datF_none ha]
  have:openE d manName=51:=by unfold openE;rw [hd,hr,ha];rfl
  simp only [this,if_true]
  simp [freshD_on hok]
 ·rw [datF_at ha]
  dsimp only
  rcases decMan_err x.data with h0 | h0
  ·simp only [h0,ne_eq,not_true_eq_false,if_false]
   simp [planM_on hok hd]
  ·simp [h0]
end Go.Proofs.YtlobohpbgghleaaGreatDoor

namespace Go.Proofs.YtlobohpbgghleaaGreatDoor
open Go.RowKit
theorem byteAt_take {b:List UInt8} {k i:Nat} (h:i<k):byteAt (b.take k) i=byteAt b i:=by
 unfold byteAt
 rw [List.getD_eq_getElem?_getD,List.getD_eq_getElem?_getD,List.getElem?_take_of_lt h]
theorem decF_take {b:List UInt8} {k:Nat} (h:(decF b).2.2=0) (hk:(decF b).2.1≤k):decF (b.take k)=decF b:=by
 have hf:=decF_fine h
 have hp:peekF (b.take k)=peekF b:=by
  unfold peekF
  rw [byteAt_take (by omega),byteAt_take (by omega),byteAt_take (by omega),byteAt_take (by omega),List.take_take,Nat.min_eq_left (by omega),
   List.drop_take,List.take_take,Nat.min_eq_left (by omega),List.length_take]
  by_cases hb:b.length<16
  ·rw [if_pos hb,if_pos (by omega)]
  ·rw [if_neg hb,if_neg (by omega)]
 have hs:(decF b).2.1=(peekF b).2.2.1:=by
  unfold decF at h ⊢
  split at h
  ·rename_i h1;exact absurd h h1
  ·rename_i h1
   rw [if_neg h1]
   split at h
   ·exact absurd h (by decide)
   ·rename_i h2
    rw [if_neg h2]
    split at h
    ·exact absurd h (by decide)
    ·rename_i h3
     rw [if_neg h3]
 rw [hs] at hk hf
 unfold decF
 rw [hp,List.take_take,Nat.min_eq_left hk,List.length_take]
 by_cases hb:b.length<(peekF b).2.2.1
 ·omega
 ·rw [if_neg hb,if_neg (by omega: ¬ min k b.length<(peekF b).2.2.1)]
theorem lastEnd_ge {b:List UInt8}: ∀ (n p:Nat) (first most c:Nat),p≤lastEnd p (takeRun first most c (frsGo n b p))
 | 0,p,_,_,_=>by rw [frsGo,takeRun,lastEnd];exact Nat.le_refl _
 | n+1,p,first,most,c=>by
  rw [frsGo]
  split
  ·rename_i hc
   have hf:=decF_fine hc.2
   rw [takeRun]
   split
   ·rw [lastEnd];exact Nat.le_refl _
   ·split
    ·rw [lastEnd,lastEnd];omega
    ·rw [lastEnd]
     have:=lastEnd_ge (b:=b) n (p+(decF (b.drop p)).2.1) first most (c+1)
     rw [show p+(decF (b.drop p)).1.body.length+20=p+(decF (b.drop p)).2.1 by omega]
     omega
  ·rw [takeRun,lastEnd];exact Nat.le_refl _
theorem takeRun_cut {b:List UInt8} {first most:Nat}: ∀ (n m p c K:Nat),lastEnd p (takeRun first most c (frsGo n b p))=K→b.length≤p+n→K≤p+m→takeRun first most c (frsGo m (b.take K) p)=takeRun first most c (frsGo n b p)
 | 0,m,p,c,K,h,_,_=>by
  rw [frsGo,takeRun] at h ⊢
  rw [lastEnd] at h
  rw [frsGo_end (by rw [List.length_take];omega),takeRun]
 | n+1,m,p,c,K,h,hn,hm=>by
  by_cases hc:p<b.length∧(decF (b.drop p)).2.2=0
  ·have hf:=decF_fine hc.2
   rw [List.length_drop] at hf
   rw [frsGo_step hc.1 hc.2] at h ⊢
   rw [takeRun] at h ⊢
   split at h
   ·rename_i h1
    rw [if_pos h1]
    rw [lastEnd] at h
    rw [frsGo_end (by rw [List.length_take];omega),takeRun]
   ·rename_i h1
    rw [if_neg h1]
    have hsz:p+(decF (b.drop p)).1.body.length+20=p+(decF (b.drop p)).2.1:=by omega
    have hge:p+(decF (b.drop p)).2.1≤K:=by
     split at h
     ·rw [lastEnd,lastEnd,hsz] at h;omega
     ·rw [lastEnd,hsz] at h
      have:=lastEnd_ge (b:=b) n (p+(decF (b.drop p)).2.1) first most (c+1)
      omega
    have hd:decF ((b.take K).drop p)=decF (b.drop p):=by
     rw [List.drop_take]
     exact decF_take hc.2 (by omega)
    obtain⟨m',rfl⟩: ∃ m',m=m'+1:=⟨m - 1,by omega⟩
    rw [frsGo_step (by rw [List.length_take];omega) (by rw [hd];exact hc.2),hd,takeRun,if_neg h1]
    split
    ·rfl
    ·rename_i h2
     rw [if_neg h2,lastEnd,hsz] at h
     rw [takeRun_cut n m' _ _ K h (by omega) (by omega)]
  ·have e:frsGo (n+1) b p=[]:=by rw [frsGo,if_neg hc]
   rw [e,takeRun] at h ⊢
   rw [lastEnd] at h
   rw [frsGo_end (by rw [List.length_take];omega),takeRun]
theorem scanRun_cut {b:List UInt8} {p first most:Nat} (_:p≤b.length):scanRun (b.take (scanRun b p first most).2) p first most=scanRun b p first most:=by
 have hk:(scanRun b p first most).2=p+lastEnd 0 (takeRun first most 0 (frs (b.drop p))):=rfl
 obtain⟨K,hK⟩: ∃ K,K=lastEnd 0 (takeRun first most 0 (frs (b.drop p))):=⟨_,rfl⟩
 have e:takeRun first most 0 (frs ((b.drop p).take K))=takeRun first most 0 (frs (b.drop p)):=by
  unfold frs at hK ⊢
  refine takeRun_cut _ _ 0 0 K hK.symm (by omega) ?_
  have hle:K≤(b.drop p).length:=by
   rw [hK]
   refine lastEnd_le _ 0 (Nat.zero_le _) fun x hx=> ?_
   have: ∀ (xs:List (Nat×Frm)) (c:Nat),∀ y∈takeRun first most c xs,y∈xs:=fun xs=>by
    induction xs with
    | nil=>intro c y h;simp [takeRun] at h
    | cons z r ih=>
     intro c y h
     rw [takeRun] at h
     split at h
     ·cases h
     ·split at h
      ·simp at h;subst h;simp
      ·rcases List.mem_cons.1 h with rfl | h
       ·simp
       ·exact List.mem_cons_of_mem _ (ih (c+1) y h)
   exact(frs_mem (this _ 0 x hx)).1
  rw [List.length_take];omega
 rw [hk,←hK]
 unfold scanRun
 rw [List.drop_take,Nat.add_sub_cancel_left,e]
theorem scanRun_bd {b:List UInt8} {p first most:Nat} (hp:p≤b.length):p≤(scanRun b p first most).2∧(scanRun b p first most).2≤b.length:=by
 have hle:lastEnd 0 (takeRun first most 0 (frs (b.drop p)))≤(b.drop p).length:=by
  refine lastEnd_le _ 0 (Nat.zero_le _) fun x hx=> ?_
  have: ∀ (xs:List (Nat×Frm)) (c:Nat),∀ y∈takeRun first most c xs,y∈xs:=fun xs=>by
   induction xs with
   | nil=>intro c y h;simp [takeRun] at h
   | cons z r ih=>
    intro c y h
    rw [takeRun] at h
    split at h
    ·cases h
    ·split at h
     ·simp at h;subst h;simp
     ·rcases List.mem_cons.1 h with rfl | h
      ·simp
      ·exact List.mem_cons_of_mem _ (ih (c+1) y h)
  exact(frs_mem (this _ 0 x hx)).1
 rw [List.length_drop] at hle
 show p≤p+_∧p+_≤_
 omega
theorem hdrOf_take {b:List UInt8} {k:Nat} (h:(hdrOf b).2.2.2=0) (hk:(hdrOf b).2.2.1≤k):hdrOf (b.take k)=hdrOf b:=by
 have h0:(decF b).2.2=0:=by
  unfold hdrOf at h
  split at h
  ·exact absurd h (by decide)
  ·rename_i hc
   rcases Decidable.em ((decF b).2.2=0) with h | h
   ·exact h
   ·exact absurd (.inl h) hc
 have hs:(hdrOf b).2.2.1=(decF b).2.1:=by
  unfold hdrOf at h ⊢
  split at h
  ·exact absurd h (by decide)
  ·rename_i hc
   rw [if_neg hc]
   split at h
   ·exact absurd h (by decide)
   ·unfold hdrIn at h ⊢
    split at h
    ·split at h
     ·exact absurd h (by decide)
     ·rename_i h3
      rw [if_neg h3]
    ·exact absurd h (by decide)
 have e:=decF_take (k:=k) h0 (by omega)
 unfold hdrOf
 rw [e]
theorem begV_take {b:List UInt8} {g:Sg} {k:Nat} (h:(begV b g).2=true) (hk:(begV b g).1≤k):begV (b.take k) g=begV b g:=by
 have h0:(hdrOf b).2.2.2=0:=by
  unfold begV at h
  simp only [Bool.and_eq_true,decide_eq_true_eq] at h
  exact h.1.1
 have e:=hdrOf_take h0 hk
 unfold begV
 rw [e]
theorem actB_cut {b:List UInt8} {g:Sg} (h:(actB (some b) g).2.2=true):actB (some (b.take (actB (some b) g).1)) g=actB (some b) g∧20≤(actB (some b) g).1∧(actB (some b) g).1≤b.length:=by
 unfold actB at h ⊢
 dsimp only at h ⊢
 rcases hb:(begV b g).2
 ·rw [hb] at h;simp at h
 ·rw [hb] at h
  simp only [Bool.true_eq_false,if_false] at h ⊢
  have hp:=hdr_pos hb
  have hbd:=scanRun_bd (b:=b) (p:=(begV b g).1) (first:=(hdrOf b).2.1) (most:=512) hp.2
  have e1:=begV_take (k:=(scanRun b (begV b g).1 (hdrOf b).2.1 512).2) hb hbd.1
  have h0:(hdrOf b).2.2.2=0:=by
   have hb2:=hb
   unfold begV at hb2
   simp only [Bool.and_eq_true,decide_eq_true_eq] at hb2
   exact hb2.1.1
  have e2:=hdrOf_take (k:=(scanRun b (begV b g).1 (hdrOf b).2.1 512).2) h0 (by exact hbd.1)
  rw [e1,e2,hb,scanRun_cut hp.2]
  simp only [Bool.true_eq_false,if_false]
  exact⟨trivial,by omega,hbd.2⟩
end Go.Proofs.YtlobohpbgghleaaGreatDoor

namespace Go.Proofs.YtlobohpbgghleaaGreatDoor
open Go.RowKit
def chgL (fs:List Fil) (o:DOp):List Fil:=(chgD (stand 0 fs) o).files
theorem chgD_eq (x:Disk) (o:DOp):chgD x o={x with files:=chgL x.files o}:=by
 unfold chgL chgD stand
 split
 ·rfl
 ·dsimp only
  rcases atF x.files o.name with _ | f
  ·rfl
  ·dsimp only
   split
   ·rfl
   ·split<;>rfl
structure Went (P Q:List Fil→Prop) (d:Disk) (r:Disk×Int):Prop where
 room:r.1.room=d.room
 ok:DiskOk r.1
 out:(r.2=0∧Q r.1.files∧r.1.down=false∧(d.fuse=0→r.1.fuse=0))∨(r.2=3∧d.fuse≠0∧r.1.down=true∧P r.1.files)
theorem went_nil {P Q:List Fil→Prop} {d:Disk} (hok:DiskOk d) (hd:d.down=false) (hq:Q d.files):Went P Q d (runD d []):=⟨rfl,hok,.inl ⟨rfl,hq,hd,fun h=>h⟩⟩
theorem went_step {P Q:List Fil→Prop} {d:Disk} {o:DOp} {ops:List DOp} (hok:DiskOk d) (hk:0≤o.k∧o.k≤5) (hn:o.n≤9223372036854775807) (hb:barD d o=0)
  (h1:P (if o.k=1 then chgL d.files o else d.files))
  (hr: ∀ d':Disk,d'.files=chgL d.files o→d'.room=d.room→d'.down=false→DiskOk d'→(d.fuse=0→d'.fuse=0)→Went P Q d' (runD d' ops)):Went P Q d (runD d (o::ops)):=by
 have hdn:=(bar_front hb).1
 have hdo:=doD_ok hok (o:=o) (by omega) hn
 by_cases hf:d.fuse=1
 ·have e:doD d o=(if o.k=1 then chgD (stepD d) o else stepD d,[],0,3):=by rw [doD_step hk hb,if_pos hf,if_pos hf]
  rw [e] at hdo
  rw [runD_stop (by rw [e];simp),e]
  have hst:(stepD d).down=true:=by unfold stepD;rw [if_pos hf]
  refine⟨?_,hdo,.inr ⟨rfl,by omega,?_,?_⟩⟩
  ·dsimp only
   split
   ·rw [chgD_eq];exact stepD_room d
   ·exact stepD_room d
  ·dsimp only
   split
   ·rw [chgD_eq];exact hst
   ·exact hst
  ·by_cases h:o.k=1
   ·rw [if_pos h] at h1
    simp only [if_pos h]
    rw [chgD_eq,stepD_files]
    exact h1
   ·rw [if_neg h] at h1
    simp only [if_neg h]
    rw [stepD_files]
    exact h1
 ·have e:doD d o=(chgD (stepD d) o,[],0,0):=by rw [doD_step hk hb,if_neg hf,if_neg hf]
  rw [e] at hdo
  rw [runD_go (by rw [e]),e]
  have hfu:d.fuse=0→(chgD (stepD d) o).fuse=0:=fun h=>by
   rw [chgD_eq]
   show (stepD d).fuse=0
   unfold stepD
   rw [if_neg hf]
   show (if 1<d.fuse then d.fuse - 1 else d.fuse)=0
   rw [if_neg (by omega)]
   exact h
  have hrm:(chgD (stepD d) o).room=d.room:=by rw [chgD_eq];exact stepD_room d
  have:=hr (chgD (stepD d) o) (by rw [chgD_eq,stepD_files]) hrm (by
   rw [chgD_eq]
   show (stepD d).down=false
   unfold stepD
   rw [if_neg hf]
   exact hdn) hdo hfu
  refine⟨this.room.trans hrm,this.ok,?_⟩
  rcases this.out with⟨a,b,c,e⟩ | ⟨a,b,c,e⟩
  ·exact .inl ⟨a,b,c,fun h=>e (hfu h)⟩
  ·exact .inr ⟨a,fun h=>b (hfu h),c,e⟩
theorem Went.mono {P Q P' Q':List Fil→Prop} {d:Disk} {r:Disk×Int} (h:Went P Q d r) (hp: ∀ fs,P fs→P' fs) (hq: ∀ fs,Q fs→Q' fs):Went P' Q' d r:=
 ⟨h.room,h.ok,h.out.imp (fun⟨a,b,c,e⟩=>⟨a,hq _ b,c,e⟩) fun⟨a,b,c,e⟩=>⟨a,b,c,hp _ e⟩⟩
theorem openE_on {d:Disk} (hok:DiskOk d) (hd:d.down=false) {n:List UInt8} {x:Fil} (ha:atF d.files n=some x):openE d n=0:=by
 have:=hok.names x (at_name ha).2
 rw [(at_name ha).1] at this
 unfold openE
 rw [hd,this,ha]
 rfl
theorem openE_off {d:Disk} (hd:d.down=false) {n:List UInt8} (hr:rightName n=true) (ha:atF d.files n=none):openE d n=51:=by
 unfold openE
 rw [hd,hr,ha]
 rfl
def takes:List (List UInt8)→List Fil→List Fil
 | [],fs=>fs
 | n::r,fs=>takes r (takeF n fs)
theorem takes_filter: ∀ (ns:List (List UInt8)) (fs:List Fil),takes ns fs=fs.filter fun f=> !(ns.contains f.name)
 | [],fs=>by
  rw [takes]
  exact(List.filter_eq_self.2 fun f _=>by simp).symm
 | n::r,fs=>by
  rw [takes,takes_filter r,takeF,List.filter_filter]
  refine List.filter_congr fun f _=> ?_
  rw [List.contains_cons]
  rcases (f.name==n)<;>simp
theorem takes_strays (s:List UInt8→Bool) (fs:List Fil):takes ((fs.map (·.name)).filter s) fs=fs.filter fun f=> !(s f.name):=by
 rw [takes_filter]
 refine List.filter_congr fun f hf=> ?_
 congr 1
 rw [Bool.eq_iff_iff,List.contains_iff_mem,List.mem_filter]
 exact⟨fun h=>h.2,fun h=>⟨List.mem_map_of_mem hf,h⟩⟩
theorem chg_remove {fs:List Fil} {n:List UInt8} {x:Fil} (ha:atF fs n=some x):chgL fs (opRemove n)=takeF n fs:=by
 unfold chgL chgD
 rw [if_neg (by simp [opRemove])]
 show (match atF fs n with | none=>stand 0 fs | some f=>_).files=_
 rw [ha]
 simp [opRemove,stand]
theorem went_removes {P Q I:List Fil→Prop} (hip: ∀ fs,I fs→P fs): ∀ (ns:List (List UInt8)) (d:Disk) (ops:List DOp),DiskOk d→d.down=false→ns.Nodup→(∀ n∈ns,∃ x,atF d.files n=some x)→I d.files→(∀ fs n,n∈ns→I fs→I (takeF n fs))→
  (∀ d':Disk,d'.files=takes ns d.files→d'.room=d.room→d'.down=false→DiskOk d'→(d.fuse=0→d'.fuse=0)→I d'.files→Went P Q d' (runD d' ops))→Went P Q d (runD d (ns.map opRemove++ops))
 | [],d,ops,hok,hd,_,_,hi,_,hr=>hr d rfl rfl hd hok (fun h=>h) hi
 | n::r,d,ops,hok,hd,hnd,hon,hi,hst,hr=>by
  obtain⟨hn1,hn2⟩:=List.nodup_cons.1 hnd
  obtain⟨x,hx⟩:=hon n (by simp)
  rw [List.map_cons,List.cons_append]
  refine went_step hok (by simp [opRemove]) (by simp [opRemove]) (by rw [bar_remove];exact openE_on hok hd hx) (hip _ hi) fun d' e1 e2 e3 e4 e5=> ?_
  rw [chg_remove hx] at e1
  have h1:I d'.files:=by rw [e1];exact hst _ _ (by simp) hi
  have:=went_removes (Q:=Q) hip r d' ops e4 e3 hn2 (fun k hk=>by
   obtain⟨y,hy⟩:=hon k (by simp [hk])
   exact⟨y,by rw [e1,at_take (by rintro rfl;exact hn1 hk)];exact hy⟩) h1 (fun fs k hk h=>hst fs k (by simp [hk]) h)
   (fun d2 g1 g2 g3 g4 g5 g6=>hr d2 (by rw [g1,e1];rfl) (g2.trans e2) g3 g4 (fun h=>g5 (e5 h)) g6)
  exact this
theorem at_put_same {f:Fil}: ∀ {fs:List Fil},(∀ x∈fs,x.name≠f.name)→atF (putF f fs) f.name=some f
 | [],_=>by simp [putF,atF]
 | y::r,h=>by
  have hy:=h y (by simp)
  have ih:=at_put_same (f:=f) (fs:=r) fun x hx=>h x (by simp [hx])
  unfold atF at ih ⊢
  unfold putF
  split
  ·rw [List.find?_cons];simp
  ·rw [List.find?_cons,show (y.name==f.name)=false by simpa using hy]
   exact ih
theorem at_put_other {f:Fil} {n:List UInt8} (hn:f.name≠n): ∀ {fs:List Fil},atF (putF f fs) n=atF fs n
 | []=>by simp [putF,atF,hn]
 | y::r=>by
  have ih:=at_put_other hn (fs:=r)
  unfold atF at ih ⊢
  unfold putF
  split
  ·rw [List.find?_cons,show (f.name==n)=false by simpa using hn]
  ·rw [List.find?_cons,List.find?_cons,ih]
theorem take_put {f:Fil} {fs:List Fil} (h: ∀ x∈fs,x.name≠f.name):takeF f.name (putF f fs)=fs:=by
 induction fs with
 | nil=>simp [putF,takeF]
 | cons y r ih=>
  have hy:=h y (by simp)
  have ih:=ih fun x hx=>h x (by simp [hx])
  have hr:takeF f.name (y::r)=y::r:=by
   unfold takeF
   rw [List.filter_eq_self]
   intro x hx
   simpa using h x hx
  unfold putF
  split
  ·unfold takeF at hr ⊢
   rw [List.filter_cons]
   simp only [beq_self_eq_true,Bool.not_true,Bool.false_eq_true,if_false]
   exact hr
  ·unfold takeF at ih ⊢
   rw [List.filter_cons,show (y.name==f.name)=false by simpa using hy]
   simp [ih]
theorem none_of {fs:List Fil} {n:List UInt8} (h: ∀ x∈fs,x.name≠n):atF fs n=none:=by
 unfold atF
 rw [List.find?_eq_none]
 intro x hx
 simpa using h x hx
theorem ne_of_none {fs:List Fil} {n:List UInt8} (h:atF fs n=none): ∀ x∈fs,x.name≠n:=fun x hx=>by
 have:=List.find?_eq_none.1 h x hx
 simpa using this
theorem aliens_put {f:Fil} (hf:alien f.name=false): ∀ fs:List Fil,aliens (putF f fs)=aliens fs
 | []=>by simp [putF,aliens,hf]
 | y::r=>by
  have ih:=aliens_put hf r
  unfold aliens at ih ⊢
  unfold putF
  split
  ·rw [List.filter_cons,hf];simp
  ·rw [List.filter_cons,List.filter_cons,ih]
theorem chg_create {fs:List Fil} {n:List UInt8}:chgL fs (opCreate n)=putF ⟨n,[],0⟩ fs:=by
 unfold chgL chgD
 rw [if_pos (by simp [opCreate])]
 rfl
theorem chg_put {fs:List Fil} {f:Fil} {o:DOp} (h: ∀ x∈fs,x.name≠f.name) (hn:o.name=f.name) (hk:o.k=1∨o.k=2∨o.k=5):chgL (putF f fs) o=putF (chgF o f) fs:=by
 unfold chgL chgD
 rw [if_neg (by omega)]
 show (match atF (putF f fs) o.name with | none=>stand 0 (putF f fs) | some f=>_).files=_
 rw [hn,at_put_same h]
 dsimp only
 rw [if_neg (by omega),if_neg (by omega)]
 show putF (chgF o f) (takeF f.name (putF f fs))=_
 rw [take_put h]
theorem chg_rename {fs:List Fil} {f:Fil} {t:List UInt8} (h: ∀ x∈fs,x.name≠f.name) (ht: ∀ x∈fs,x.name≠t):chgL (putF f fs) (opRename f.name t)=putF {f with name:=t} fs:=by
 unfold chgL chgD
 rw [if_neg (by simp [opRename])]
 show (match atF (putF f fs) f.name with | none=>stand 0 (putF f fs) | some f=>_).files=_
 rw [at_put_same h]
 dsimp only
 rw [if_neg (by simp [opRename]),if_pos (by simp [opRename])]
 show putF (chgF (opRename f.name t) f) (takeF t (takeF f.name (putF f fs)))=_
 rw [take_put h,take_none (none_of ht)]
 rfl
end Go.Proofs.YtlobohpbgghleaaGreatDoor

namespace Go.Proofs.YtlobohpbgghleaaGreatDoor
open Go.RowKit
def thereB (fs:List Fil):Bool:=(datF fs manName).isSome
def manF (fs:List Fil):Man:=match datF fs manName with | none=>zeroM | some b=>(decMan b).1
def SafeIn (fs:List Fil):Prop:= ∀ f∈fs,strayN (thereB fs) (manF fs) f.name=false→f.safe=(f.data.length:Int)
def Finds (room:Int) (r:Pl×Int) (fs:List Fil):Prop:=(findB room fs).2=r.2∧(findB room fs).1.man=r.1.man∧(findB room fs).1.cut=r.1.cut∧(findB room fs).1.last=r.1.last
def Stays (room:Int) (r:Pl×Int) (fs:List Fil):Prop:=Finds room r fs∧SafeIn fs
theorem find_new {room:Int} {fs:List Fil} (h:datF fs manName=none):findB room fs=newB room fs:=by unfold findB;rw [h]
theorem new_same {room:Int} {fs fs':List Fil} (h:aliens fs'=aliens fs):(newB room fs').2=(newB room fs).2∧(newB room fs').1.man=(newB room fs).1.man∧(newB room fs').1.cut=(newB room fs).1.cut∧(newB room fs').1.last=(newB room fs).1.last:=by
 unfold newB
 rw [h]
 split
 ·exact⟨rfl,rfl,rfl,rfl⟩
 ·exact⟨rfl,rfl,rfl,rfl⟩
theorem finds_new {room:Int} {fs fs':List Fil} (h:datF fs manName=none) (h':datF fs' manName=none) (ha:aliens fs'=aliens fs):Finds room (findB room fs) fs':=by
 unfold Finds
 rw [find_new h,find_new h']
 exact new_same ha
theorem safe_new {fs:List Fil} (h:datF fs manName=none) (ha: ∀ f∈aliens fs,f.safe=(f.data.length:Int)):SafeIn fs:=fun f hf hs=>by
 have e:thereB fs=false:=by unfold thereB;rw [h];rfl
 rw [e,strayN_false _ zeroM] at hs
 exact ha f (List.mem_filter.2 ⟨hf,by unfold alien;rw [hs];rfl⟩)
theorem new_safe {fs:List Fil} (h:datF fs manName=none) (hs:SafeIn fs): ∀ f∈aliens fs,f.safe=(f.data.length:Int):=fun f hf=>by
 obtain⟨h1,h2⟩:=List.mem_filter.1 hf
 refine hs f h1 ?_
 have e:thereB fs=false:=by unfold thereB;rw [h];rfl
 rw [e,strayN_false _ zeroM]
 unfold alien at h2
 simpa using h2
theorem decMan_ok {b:List UInt8} (h:(decMan b).2=0):manOk (decMan b).1=true:=by
 revert h
 unfold decMan
 repeat' split
 ·simp
 ·simp
 ·rename_i h;intro _;simpa using h
 ·simp
theorem ns_man (t:Bool) (m:Man):strayN t m manName=false:=by
 unfold strayN
 rw [show parseOf manName=(1,0) by decide]
 rfl
theorem ns_seg {m:Man} (hf:ManFine m) {g:Sg} (hg:g∈m.segs):strayN true m (segName g.num)=false:=by
 have h1:=hf.seg g hg
 have h2:=hf.next
 unfold strayN
 rw [parse_seg g.num (by omega)]
 simp only [if_true]
 have:segHas m g.num=true:=by unfold segHas;rw [List.any_eq_true];exact⟨g,hg,by simp⟩
 rw [this]
 rfl
theorem ns_book {m:Man} (hf:ManFine m) (h:0<m.snap):strayN true m (bookName m.snap)=false:=by
 have h1:=hf.snap
 have h2:=hf.next
 unfold strayN
 rw [parse_book m.snap (by omega)]
 simp
theorem last_mem {m:Man} (hf:ManFine m):lastSg m∈m.segs:=(last_segs hf).2
theorem manB_same {fs fs':List Fil} {m:Man} (hf:ManFine m) (h: ∀ n,strayN true m n=false→datF fs' n=datF fs n):
  (manB fs' m).2=(manB fs m).2∧(manB fs' m).1.man=(manB fs m).1.man∧(manB fs' m).1.cut=(manB fs m).1.cut∧(manB fs' m).1.last=(manB fs m).1.last:=by
 have h1:snapB (datF fs' (bookName m.snap)) m=snapB (datF fs (bookName m.snap)) m:=by
  by_cases h0:0<m.snap
  ·rw [h _ (ns_book hf h0)]
  ·unfold snapB;rw [if_neg h0,if_neg h0]
 have h2:sealsB fs' m.segs.dropLast=sealsB fs m.segs.dropLast:=by
  unfold sealsB
  rw [Bool.eq_iff_iff,List.all_eq_true,List.all_eq_true]
  refine forall_congr' fun g=>forall_congr' fun hg=> ?_
  rw [h _ (ns_seg hf ((List.dropLast_subset _) hg))]
 have h3:datF fs' (segN m)=datF fs (segN m):=h _ (ns_seg hf (last_mem hf))
 unfold manB
 rw [h1,h2,h3]
 split
 ·exact⟨rfl,rfl,rfl,rfl⟩
 ·split
  ·exact⟨rfl,rfl,rfl,rfl⟩
  ·exact⟨rfl,rfl,rfl,rfl⟩
theorem find_man {room:Int} {fs:List Fil} {b:List UInt8} (h:datF fs manName=some b) (h0:(decMan b).2=0):findB room fs=manB fs (decMan b).1:=by
 unfold findB
 rw [h]
 dsimp only
 rw [if_neg (fun k=>k h0)]
theorem finds_man {room:Int} {fs fs':List Fil} {b:List UInt8} (h:datF fs manName=some b) (h0:(decMan b).2=0) (hs: ∀ n,strayN true (decMan b).1 n=false→datF fs' n=datF fs n):Finds room (findB room fs) fs':=by
 have h':datF fs' manName=some b:=(hs _ (ns_man _ _)).trans h
 unfold Finds
 rw [find_man h h0,find_man h' h0]
 exact manB_same (manFine (decMan_ok h0)) hs
theorem man_there {fs:List Fil} {b:List UInt8} (h:datF fs manName=some b):thereB fs=true∧manF fs=(decMan b).1:=by
 unfold thereB manF
 rw [h]
 exact⟨rfl,rfl⟩
end Go.Proofs.YtlobohpbgghleaaGreatDoor

namespace Go.Proofs.YtlobohpbgghleaaGreatDoor
open Go.RowKit
def Done (room:Int) (p:Pl) (fs:List Fil):Prop:=
 findB room fs=(⟨false,p.man,[],p.cut,p.last⟩,0)∧ ∃ y,atF fs (segN p.man)=some y∧(y.data.length:Int)=p.cut∧y.safe=p.cut
theorem encV_lit {n:Nat} (h:n<128):encV n=[UInt8.ofNat n]:=by rw [encV,dif_pos h]
theorem first_nums:encAll (manNums firstM)=[8,2,0,0,0,1,1,0,0]:=by
 show encV 8++(encV 2++(encV 0++(encV 0++(encV 0++(encV 1++(encV 1++(encV 0++(encV 0++[]))))))))=_
 rw [encV_lit (show 8<128 by decide),encV_lit (show 2<128 by decide),encV_lit (show 1<128 by decide),encV_lit (show 0<128 by decide)]
 rfl
theorem first_bytes:(encMan firstM).1=frameOf 4 1 [8,2,0,0,0,1,1,0,0]:=by
 rw [encMan_ok firstM_ok,first_nums]
 rfl
theorem first_dec:decMan (encMan firstM).1=(firstM,0):=by
 rw [first_bytes]
 kernel_rfl
theorem hdr_bytes:(hdrEnc 1 1).1=frameOf 2 1 [1,1]:=by
 rw [hdrEnc_ok (by decide) (by decide) (by decide) (by decide)]
 show frameOf 2 1 (encV 1++encV 1)=_
 rw [encV_lit (show 1<128 by decide)]
 rfl
theorem hdr_act:actB (some (hdrEnc 1 1).1) ⟨1,1,0,0⟩=(22,0,true):=by
 rw [hdr_bytes]
 kernel_rfl
theorem alien_ns {l:List UInt8} (h:alien l=true) (t:Bool) (m:Man):strayN t m l=false:=by
 unfold alien strayN at h
 unfold strayN
 split at h
 ·simp at h
 ·split at h
  ·simp at h
  ·rename_i h1 h2
   rw [if_neg h1,if_neg h2]
   simpa using h
theorem aliens_take {n:List UInt8} (h:alien n=false) (fs:List Fil):aliens (takeF n fs)=aliens fs:=by
 unfold aliens takeF
 rw [List.filter_filter]
 refine List.filter_congr fun f _=> ?_
 rcases hf:(f.name==n)
 ·simp
 ·rw [eq_of_beq hf,h];rfl
theorem aliens_twice (fs:List Fil):aliens (aliens fs)=aliens fs:=by
 unfold aliens
 rw [List.filter_filter]
 simp
def NewP (A:List Fil) (fs:List Fil):Prop:=datF fs manName=none∧aliens fs=A
theorem newP_put {A fs:List Fil} {f:Fil} (h:NewP A fs) (ha:alien f.name=false) (hn:f.name≠manName):NewP A (putF f fs):=by
 refine⟨?_,by rw [aliens_put ha];exact h.2⟩
 have:=h.1
 unfold datF at this ⊢
 rw [at_put_other hn]
 exact this
def firstH:List UInt8:=(hdrEnc 1 1).1
def firstB:List UInt8:=(encMan firstM).1
def firstF (A:List Fil):List Fil:=putF ⟨manName,firstB,29⟩ (putF ⟨segName 1,firstH,22⟩ A)
theorem seg1:segName 1=[115,101,103,45,48,48,48,48,48,49]:=by decide
theorem begin_went {d:Disk} (hok:DiskOk d) (hd:d.down=false) (hm:datF d.files manName=none) (ha:aliens d.files=d.files) (hr:51≤d.room - (usedF d.files:Int)) (hl:d.files.length≤698):
  Went (NewP d.files) (fun fs=>fs=firstF d.files) d (runD d (beginOps (segN firstM) (lastSg firstM) firstM)):=by
 obtain⟨A,hA⟩: ∃ A,A=d.files:=⟨_,rfl⟩
 rw [←hA] at hm ha hr hl ⊢
 have hH:firstH.length=22:=first_len.1
 have hB:firstB.length=29:=first_len.2
 have ha1:alien (segName 1)=false:=by rw [seg1];decide
 have ha2:alien tmpN=false:=by decide
 have hn1:segName 1≠manName:=by rw [seg1];decide
 have hn2:tmpN≠manName:=by decide
 have hn3:segName 1≠tmpN:=by rw [seg1];decide
 have hr1:rightName (segName 1)=true:=by rw [seg1];decide
 have hr2:rightName tmpN=true:=by decide
 have hr3:rightName manN=true:=by decide
 have hal: ∀ x∈A,alien x.name=true:=fun x hx=>by rw [←ha] at hx;exact(List.mem_filter.1 hx).2
 have hx1: ∀ x∈A,x.name≠segName 1:=fun x hx e=>by have:=hal x hx;rw [e,ha1] at this;cases this
 have hx2: ∀ x∈A,x.name≠tmpN:=fun x hx e=>by have:=hal x hx;rw [e,ha2] at this;cases this
 have hx3: ∀ x∈A,x.name≠manName:=by
  rcases h:atF A manName with _ | y
  ·exact ne_of_none h
  ·rw [datF_at h] at hm;cases hm
 have P0:NewP A A:=⟨hm,ha⟩
 rw [show beginOps (segN firstM) (lastSg firstM) firstM=[opCreate (segName 1),opAppend (segName 1) firstH,opSync (segName 1),opCreate tmpN,opAppend tmpN firstB,opSync tmpN,opRename tmpN manN] from rfl]
 refine went_step hok (by simp [opCreate]) (by simp [opCreate]) ?_ (by rw [if_neg (by simp [opCreate]),←hA];exact P0) fun d1 e1 r1 n1 o1 f1=> ?_
 ·rw [bar_create,openE_off hd hr1 (none_of (by rw [←hA];exact hx1))]
  rw [if_neg (by decide),if_neg (by decide),←hA,show decide (700≤A.length)=false by simp;omega]
  rfl
 rw [chg_create,←hA] at e1
 have P1:=newP_put (f:=⟨segName 1,[],0⟩) P0 ha1 hn1
 have P2:=newP_put (f:=⟨segName 1,firstH,0⟩) P0 ha1 hn1
 have P3:=newP_put (f:=⟨segName 1,firstH,22⟩) P0 ha1 hn1
 have c2:chgL d1.files (opAppend (segName 1) firstH)=putF ⟨segName 1,firstH,0⟩ A:=by
  rw [e1,chg_put (f:=⟨segName 1,[],0⟩) hx1 rfl (.inl rfl)]
  simp [chgF,opAppend]
 refine went_step o1 (by simp [opAppend]) (by simp [opAppend]) ?_ (by rw [if_pos (by simp [opAppend]),c2];exact P2) fun d2 e2 r2 n2 o2 f2=> ?_
 ·rw [bar_append,openE_on o1 n1 (x:=⟨segName 1,[],0⟩) (by rw [e1];exact at_put_same hx1),if_neg (by decide),e1,usedF_put,r1,hH]
  rw [show decide (d.room - (((([]:List UInt8)).length+usedF A:Nat):Int)<((22:Nat):Int))=false by simp;omega]
  rfl
 rw [c2] at e2
 have c3:chgL d2.files (opSync (segName 1))=putF ⟨segName 1,firstH,22⟩ A:=by
  rw [e2,chg_put (f:=⟨segName 1,firstH,0⟩) hx1 rfl (.inr (.inl rfl))]
  simp [chgF,opSync,hH]
 refine went_step o2 (by simp [opSync]) (by simp [opSync]) ?_ (by rw [if_neg (by simp [opSync]),e2];exact P2) fun d3 e3 r3 n3 o3 f3=> ?_
 ·rw [bar_sync]
  exact openE_on o2 n2 (x:=⟨segName 1,firstH,0⟩) (by rw [e2];exact at_put_same hx1)
 rw [c3] at e3
 obtain⟨S,hS⟩: ∃ S,S=putF ⟨segName 1,firstH,22⟩ A:=⟨_,rfl⟩
 rw [←hS] at e3 P3
 have hu:usedF S=22+usedF A:=by rw [hS,usedF_put];simp only [hH]
 have hln:S.length=A.length+1:=by rw [hS,putF_length]
 have hs2: ∀ x∈S,x.name≠tmpN:=fun x hx=>by
  rw [hS] at hx
  rcases mem_putF.1 hx with rfl | hx
  ·exact hn3
  ·exact hx2 x hx
 have hs3: ∀ x∈S,x.name≠manN:=fun x hx=>by
  rw [hS] at hx
  rcases mem_putF.1 hx with rfl | hx
  ·exact hn1
  ·exact hx3 x hx
 refine went_step o3 (by simp [opCreate]) (by simp [opCreate]) ?_ (by rw [if_neg (by simp [opCreate]),e3];exact P3) fun d4 e4 r4 n4 o4 f4=> ?_
 ·rw [bar_create,openE_off n3 hr2 (by rw [e3];exact none_of hs2)]
  rw [if_neg (by decide),if_neg (by decide),e3,hln,show decide (700≤A.length+1)=false by simp;omega]
  rfl
 rw [chg_create,e3] at e4
 have P4:=newP_put (f:=⟨tmpN,[],0⟩) P3 ha2 hn2
 have P5:=newP_put (f:=⟨tmpN,firstB,0⟩) P3 ha2 hn2
 have P6:=newP_put (f:=⟨tmpN,firstB,29⟩) P3 ha2 hn2
 have c5:chgL d4.files (opAppend tmpN firstB)=putF ⟨tmpN,firstB,0⟩ S:=by
  rw [e4,chg_put (f:=⟨tmpN,[],0⟩) hs2 rfl (.inl rfl)]
  simp [chgF,opAppend]
 refine went_step o4 (by simp [opAppend]) (by simp [opAppend]) ?_ (by rw [if_pos (by simp [opAppend]),c5];exact P5) fun d5 e5 r5 n5 o5 f5=> ?_
 ·rw [bar_append,openE_on o4 n4 (x:=⟨tmpN,[],0⟩) (by rw [e4];exact at_put_same hs2),if_neg (by decide),e4,usedF_put,r4,r3,r2,r1,hu,hB]
  rw [show decide (d.room - (((([]:List UInt8)).length+(22+usedF A):Nat):Int)<((29:Nat):Int))=false by simp;omega]
  rfl
 rw [c5] at e5
 have c6:chgL d5.files (opSync tmpN)=putF ⟨tmpN,firstB,29⟩ S:=by
  rw [e5,chg_put (f:=⟨tmpN,firstB,0⟩) hs2 rfl (.inr (.inl rfl))]
  simp [chgF,opSync,hB]
 refine went_step o5 (by simp [opSync]) (by simp [opSync]) ?_ (by rw [if_neg (by simp [opSync]),e5];exact P5) fun d6 e6 r6 n6 o6 f6=> ?_
 ·rw [bar_sync]
  exact openE_on o5 n5 (x:=⟨tmpN,firstB,0⟩) (by rw [e5];exact at_put_same hs2)
 rw [c6] at e6
 have c7:chgL d6.files (opRename tmpN manN)=firstF A:=by
  rw [e6,chg_rename (f:=⟨tmpN,firstB,29⟩) hs2 hs3,hS]
  rfl
 refine went_step o6 (by simp [opRename]) (by simp [opRename]) ?_ (by rw [if_neg (by simp [opRename]),e6];exact P6) fun d7 e7 r7 n7 o7 f7=> ?_
 ·rw [bar_rename,openE_on o6 n6 (x:=⟨tmpN,firstB,29⟩) (by rw [e6];exact at_put_same hs2),hr3]
  simp
 rw [c7] at e7
 exact went_nil o7 n7 e7
theorem first_done {room:Int} {A:List Fil} (hx1: ∀ x∈A,x.name≠segName 1) (hx3: ∀ x∈A,x.name≠manName) (hal: ∀ x∈A,alien x.name=true) (r:List (List UInt8)):Done room ⟨true,firstM,r,22,0⟩ (firstF A):=by
 have hn1:segName 1≠manName:=by rw [seg1];decide
 have hs3: ∀ x∈putF ⟨segName 1,firstH,22⟩ A,x.name≠manName:=fun x hx=>by
  rcases mem_putF.1 hx with rfl | hx
  ·exact hn1
  ·exact hx3 x hx
 have hm:atF (firstF A) manName=some ⟨manName,firstB,29⟩:=at_put_same (f:=⟨manName,firstB,29⟩) hs3
 have hg:atF (firstF A) (segName 1)=some ⟨segName 1,firstH,22⟩:=by
  unfold firstF
  rw [at_put_other (f:=⟨manName,firstB,29⟩) hn1.symm]
  exact at_put_same (f:=⟨segName 1,firstH,22⟩) hx1
 have h0:decMan firstB=(firstM,0):=first_dec
 have ha:actB (datF (firstF A) (segN firstM)) (lastSg firstM)=(22,0,true):=by
  show actB (datF (firstF A) (segName 1)) ⟨1,1,0,0⟩=_
  rw [datF_at hg]
  exact hdr_act
 have hst:((firstF A).map (·.name)).filter (strayN true firstM)=[]:=by
  rw [List.filter_eq_nil_iff]
  intro n hn
  obtain⟨f,hf,rfl⟩:=List.mem_map.1 hn
  have:strayN true firstM f.name=false:=by
   rcases mem_putF.1 hf with rfl | hf
   ·exact ns_man _ _
   ·rcases mem_putF.1 hf with rfl | hf
    ·exact ns_seg (g:=⟨1,1,0,0⟩) (manFine firstM_ok) (by simp [firstM])
    ·exact alien_ns (hal f hf) _ _
  rw [this]
  simp
 refine⟨?_,⟨segName 1,firstH,22⟩,hg,by rw [show firstH.length=22 from first_len.1];rfl,rfl⟩
 rw [find_man (datF_at hm) (by rw [h0]),h0]
 unfold manB
 rw [ha,hst]
 have e1:snapB (datF (firstF A) (bookName firstM.snap)) firstM=true:=by unfold snapB;rw [if_neg (by decide)]
 have e2:sealsB (firstF A) firstM.segs.dropLast=true:=rfl
 rw [e1,e2]
 rfl
theorem fresh_went {d:Disk} (hok:DiskOk d) (hd:d.down=false) (hm:datF d.files manName=none) {p:Pl} (hp:newB d.room d.files=(p,0)):
  Went (fun fs=>SafeIn d.files→Stays d.room (p,0) fs) (fun fs=>Done d.room p fs∧(SafeIn d.files→Stays d.room (p,0) fs)) d (applyD d p):=by
 have hpe:p=⟨true,firstM,(d.files.map (·.name)).filter (strayN false firstM),22,0⟩∧ ¬ (d.room - (usedF (aliens d.files):Int)<51∨698<(aliens d.files).length):=by
  unfold newB at hp
  split at hp
  ·simp at hp
  ·rename_i h
   simp only [Prod.mk.injEq,and_true] at hp
   exact⟨hp.symm,h⟩
 obtain⟨hpe,hfit⟩:=hpe
 have hfd:findB d.room d.files=(p,0):=by rw [find_new hm];exact hp
 have hdm: ∀ x∈d.files,x.name≠manName:=by
  rcases h:atF d.files manName with _ | y
  ·exact ne_of_none h
  ·rw [datF_at h] at hm;cases hm
 obtain⟨A,hA⟩: ∃ A,A=aliens d.files:=⟨_,rfl⟩
 rw [←hA] at hfit
 have hal: ∀ x∈A,alien x.name=true:=fun x hx=>by rw [hA] at hx;exact(List.mem_filter.1 hx).2
 have hAm: ∀ x∈A,x.name≠manName:=fun x hx=>by rw [hA] at hx;exact hdm x (List.mem_filter.1 hx).1
 have ha1:alien (segName 1)=false:=by rw [seg1];decide
 have hx1: ∀ x∈A,x.name≠segName 1:=fun x hx e=>by have:=hal x hx;rw [e,ha1] at this;cases this
 have hPS: ∀ fs,NewP A fs→(SafeIn d.files→Stays d.room (p,0) fs):=fun fs h hs=>by
  refine⟨?_,safe_new h.1 (by rw [h.2,hA];exact new_safe hm hs)⟩
  have:=finds_new (room:=d.room) hm h.1 (h.2.trans hA)
  rwa [hfd] at this
 have hP0:NewP A d.files:=⟨hm,hA.symm⟩
 have hap:applyD d p=runD d ((p.remove.map opRemove)++beginOps (segN firstM) (lastSg firstM) firstM):=by
  rw [hpe]
  unfold applyD refOps
  rw [show (⟨true,firstM,(d.files.map (·.name)).filter (strayN false firstM),22,0⟩:Pl).man=firstM from rfl,firstM_ok]
  rfl
 rw [hap]
 have hrm:p.remove=straysD d false firstM:=by rw [hpe];rfl
 rw [hrm]
 refine went_removes (I:=NewP A) hPS _ d _ hok hd (strays_nodup hok.rise _ _) (strays_sub d false firstM hok.rise).2 hP0 (fun fs n hn h=> ?_) fun d1 e1 r1 n1 o1 f1 _=> ?_
 ·have hs:strayN false firstM n=true:=(List.mem_filter.1 hn).2
  have hna:alien n=false:=by unfold alien;rw [strayN_false zeroM firstM,hs];rfl
  refine⟨?_,(aliens_take hna fs).trans h.2⟩
  have h1:=h.1
  unfold datF at h1 ⊢
  rw [at_take]
  ·exact h1
  ·rintro rfl
   rw [ns_man] at hs;cases hs
 ·have e1':d1.files=A:=by
   rw [e1,hA]
   show takes ((d.files.map (·.name)).filter (strayN false firstM)) d.files=_
   rw [takes_strays]
   unfold aliens alien
   refine List.filter_congr fun f _=> ?_
   rw [strayN_false zeroM firstM]
  have hdA:datF A manName=none:=datF_none (none_of hAm)
  have hw:=begin_went (d:=d1) o1 n1 (by rw [e1'];exact hdA) (by rw [e1',hA];exact aliens_twice _) (by rw [e1',r1];omega) (by rw [e1'];omega)
  rw [e1'] at hw
  refine hw.mono hPS fun fs hfs=> ?_
  subst hfs
  have hdone:Done d.room p (firstF A):=by rw [hpe];exact first_done hx1 hAm hal _
  refine⟨hdone,fun hs=>⟨?_,?_⟩⟩
  ·unfold Finds
   rw [hdone.1]
   exact⟨rfl,rfl,rfl,rfl⟩
  ·intro f hf _
   rcases mem_putF.1 hf with rfl | hf
   ·show (29:Int)=(firstB.length:Int)
    rw [show firstB.length=29 from first_len.2];rfl
   ·rcases mem_putF.1 hf with rfl | hf
    ·show (22:Int)=(firstH.length:Int)
     rw [show firstH.length=22 from first_len.1];rfl
    ·exact new_safe hm hs f (by rw [←hA];exact hf)
end Go.Proofs.YtlobohpbgghleaaGreatDoor

namespace Go.Proofs.YtlobohpbgghleaaGreatDoor
open Go.RowKit
theorem seg_ne_book {m:Man} (hf:ManFine m) (h0:0<m.snap) {g:Sg} (_:g∈m.segs):bookName m.snap≠segName g.num:=fun e=>by
 have h1:=hf.snap
 have h2:=hf.next
 have:=seg_book m.snap g.num (by omega)
 rw [e] at this
 simp at this
theorem seg_ne_last {m:Man} (hf:ManFine m) {g:Sg} (hg:g∈m.segs.dropLast):segName g.num≠segN m:=fun e=>by
 have hp:=(chain_nums _ _ _ _ hf.chain).1
 rw [(last_segs hf).1,List.pairwise_append] at hp
 have hlt:=hp.2.2 g hg (lastSg m) (by simp)
 have h1:=hf.seg g ((List.dropLast_subset _) hg)
 have h2:=hf.next
 have h3:=hf.seg (lastSg m) (last_mem hf)
 have:=seg_same (lastSg m).num g.num (by omega)
 rw [show segName (lastSg m).num=segN m from rfl,e] at this
 simp at this
 omega
theorem manB_cut {fs fs':List Fil} {m:Man} (hf:ManFine m) (h: ∀ n,strayN true m n=false→n≠segN m→datF fs' n=datF fs n) (ha:actB (datF fs' (segN m)) (lastSg m)=actB (datF fs (segN m)) (lastSg m)):
  (manB fs' m).2=(manB fs m).2∧(manB fs' m).1.man=(manB fs m).1.man∧(manB fs' m).1.cut=(manB fs m).1.cut∧(manB fs' m).1.last=(manB fs m).1.last:=by
 have h1:snapB (datF fs' (bookName m.snap)) m=snapB (datF fs (bookName m.snap)) m:=by
  by_cases h0:0<m.snap
  ·rw [h _ (ns_book hf h0) (seg_ne_book hf h0 (last_mem hf))]
  ·unfold snapB;rw [if_neg h0,if_neg h0]
 have h2:sealsB fs' m.segs.dropLast=sealsB fs m.segs.dropLast:=by
  unfold sealsB
  rw [Bool.eq_iff_iff,List.all_eq_true,List.all_eq_true]
  refine forall_congr' fun g=>forall_congr' fun hg=> ?_
  rw [h _ (ns_seg hf ((List.dropLast_subset _) hg)) (seg_ne_last hf hg)]
 unfold manB
 rw [h1,h2,ha]
 split
 ·exact⟨rfl,rfl,rfl,rfl⟩
 ·split
  ·exact⟨rfl,rfl,rfl,rfl⟩
  ·exact⟨rfl,rfl,rfl,rfl⟩
theorem manB_inv {fs:List Fil} {m:Man} {p:Pl} (h:manB fs m=(p,0)):p=⟨false,m,(fs.map (·.name)).filter (strayN true m),((actB (datF fs (segN m)) (lastSg m)).1:Int),p.last⟩∧(actB (datF fs (segN m)) (lastSg m)).2.2=true:=by
 unfold manB at h
 split at h
 ·simp at h
 ·split at h
  ·simp at h
  ·rename_i h2
   simp only [Prod.mk.injEq,and_true] at h
   rw [←h]
   refine⟨rfl,?_⟩
   rcases hx:(actB (datF fs (segN m)) (lastSg m)).2.2
   ·exact absurd (.inl hx) h2
   ·rfl
theorem chgL_set {fs:List Fil} {o:DOp} {x:Fil} (hr:Rise fs) (ha:atF fs o.name=some x) (h0:o.k≠0) (h3:o.k≠3) (h4:o.k≠4):chgL fs o=setF o.name (fun _=>chgF o x) fs:=by
 unfold chgL
 rw [chg_set (d:=stand 0 fs) (x:=x) hr ha h0 h3 h4]
 rfl
theorem at_set_same {n:List UInt8} {x y:Fil} {fs:List Fil} (ha:atF fs n=some x) (hy:y.name=n):atF (setF n (fun _=>y) fs) n=some y:=by
 induction fs with
 | nil=>cases ha
 | cons z r ih=>
  unfold atF setF at*
  rw [List.find?_cons] at ha
  rw [List.map_cons,List.find?_cons]
  by_cases hz:z.name=n
  ·rw [if_pos (by simpa using hz),show (y.name==n)=true by simpa using hy]
  ·rw [if_neg (by simpa using hz),show (z.name==n)=false by simpa using hz]
   rw [show (z.name==n)=false by simpa using hz] at ha
   exact ih ha
theorem at_set_other {n k:List UInt8} {y:Fil} (hy:y.name=n) (hk:k≠n): ∀ {fs:List Fil},atF (setF n (fun _=>y) fs) k=atF fs k
 | []=>rfl
 | z::r=>by
  have ih:=at_set_other hy hk (fs:=r)
  unfold atF setF at*
  rw [List.map_cons,List.find?_cons,List.find?_cons,ih]
  by_cases hz:z.name=n
  ·rw [if_pos (by simpa using hz),show (y.name==k)=false by rw [hy];simpa using hk.symm,show (z.name==k)=false by rw [hz];simpa using hk.symm]
  ·rw [if_neg (by simpa using hz)]
structure LastAt (fs0:List Fil) (m:Man) (cut:Nat) (x y:Fil) (fs:List Fil):Prop where
 rise:Rise fs
 at_:atF fs (segN m)=some y
 oth: ∀ k,strayN true m k=false→k≠segN m→atF fs k=atF fs0 k
 all: ∀ f∈fs,f=y∨f∈fs0
 ns: ∀ f∈fs,strayN true m f.name=false
 dat:actB (some y.data) (lastSg m)=actB (some x.data) (lastSg m)
 len:cut≤y.data.length
 saf:SafeIn fs0→y.safe=(y.data.length:Int)
theorem LastAt.name {fs0:List Fil} {m:Man} {cut:Nat} {x y:Fil} {fs:List Fil} (h:LastAt fs0 m cut x y fs):y.name=segN m:=(at_name h.at_).1
theorem LastAt.finds {room:Int} {fs0:List Fil} {m:Man} {cut:Nat} {x y:Fil} {fs:List Fil} {b:List UInt8} (h:LastAt fs0 m cut x y fs) (hm:datF fs0 manName=some b) (h0:decMan b=(m,0)) (hx:atF fs0 (segN m)=some x):Finds room (findB room fs0) fs:=by
 have hf:ManFine m:=by have:=manFine (decMan_ok (b:=b) (by rw [h0]));rwa [h0] at this
 have hmn:manName≠segN m:=fun e=>by
  have h1:=hf.seg _ (last_mem hf)
  have h2:=hf.next
  rw [show segN m=segName (lastSg m).num from rfl,segName_eq _ (by omega)] at e
  simp [manName,segPre] at e
 have h':datF fs manName=some b:=by
  have:=h.oth _ (ns_man _ _) hmn
  unfold datF at hm ⊢
  rw [this];exact hm
 unfold Finds
 rw [find_man hm (by rw [h0]),find_man h' (by rw [h0]),h0]
 refine manB_cut hf (fun n h1 h2=>by unfold datF;rw [h.oth n h1 h2]) ?_
 rw [datF_at h.at_,datF_at hx]
 exact h.dat
theorem LastAt.man {fs0:List Fil} {m:Man} {cut:Nat} {x y:Fil} {fs:List Fil} {b:List UInt8} (h:LastAt fs0 m cut x y fs) (hm:datF fs0 manName=some b) (h0:decMan b=(m,0)):datF fs manName=some b:=by
 have hf:ManFine m:=by have:=manFine (decMan_ok (b:=b) (by rw [h0]));rwa [h0] at this
 have hmn:manName≠segN m:=fun e=>by
  have h1:=hf.seg _ (last_mem hf)
  have h2:=hf.next
  rw [show segN m=segName (lastSg m).num from rfl,segName_eq _ (by omega)] at e
  simp [manName,segPre] at e
 have:=h.oth _ (ns_man _ _) hmn
 unfold datF at hm ⊢
 rw [this];exact hm
theorem LastAt.stays {room:Int} {p:Pl} {fs0:List Fil} {m:Man} {cut:Nat} {x y:Fil} {fs:List Fil} {b:List UInt8} (h:LastAt fs0 m cut x y fs) (hm:datF fs0 manName=some b) (h0:decMan b=(m,0)) (hx:atF fs0 (segN m)=some x) (hp:findB room fs0=(p,0)) (hs:SafeIn fs0):Stays room (p,0) fs:=by
 refine⟨by have:=h.finds (room:=room) hm h0 hx;rwa [hp] at this,fun f hf _=> ?_⟩
 rcases h.all f hf with rfl | h1
 ·exact h.saf hs
 ·obtain⟨e1,e2⟩:=man_there hm
  refine hs f h1 ?_
  rw [e1,e2,h0]
  exact h.ns f hf
theorem LastAt.set {fs0:List Fil} {m:Man} {cut:Nat} {x y z:Fil} {fs:List Fil} (hf:ManFine m) (h:LastAt fs0 m cut x y fs) (hz:z.name=segN m) (hd:actB (some z.data) (lastSg m)=actB (some x.data) (lastSg m)) (hl:cut≤z.data.length) (hs:SafeIn fs0→z.safe=(z.data.length:Int)):
  LastAt fs0 m cut x z (setF (segN m) (fun _=>z) fs):=by
 refine⟨rise_set' h.rise fun f _ e=>by rw [hz,e],at_set_same h.at_ hz,fun k h1 h2=>(at_set_other hz h2).trans (h.oth k h1 h2),fun f hfm=> ?_,fun f hfm=> ?_,hd,hl,hs⟩
 ·obtain⟨u,hu,e⟩:=List.mem_map.1 hfm
  by_cases hn:u.name=segN m
  ·rw [if_pos (by simpa using hn)] at e
   exact .inl e.symm
  ·rw [if_neg (by simpa using hn)] at e
   subst e
   rcases h.all u hu with rfl | h1
   ·exact absurd h.name hn
   ·exact .inr h1
 ·rcases mem_setF hfm with rfl | h1
  ·rw [hz];exact ns_seg hf (last_mem hf)
  ·exact h.ns f h1
theorem LastAt.done {room:Int} {p:Pl} {fs0:List Fil} {m:Man} {cut:Nat} {x y:Fil} {fs:List Fil} {b:List UInt8} (h:LastAt fs0 m cut x y fs) (hm:datF fs0 manName=some b) (h0:decMan b=(m,0)) (hx:atF fs0 (segN m)=some x) (hp:findB room fs0=(p,0)) (hpm:p.man=m)
  (h1:(y.data.length:Int)=p.cut) (h2:y.safe=p.cut):Done room p fs:=by
 refine⟨?_,y,by rw [hpm];exact h.at_,h1,h2⟩
 have hfi:=h.finds (room:=room) hm h0 hx
 have hm':=h.man hm h0
 rw [hp] at hfi
 unfold Finds at hfi
 rw [find_man hm' (by rw [h0]),h0] at hfi ⊢
 obtain⟨g1,g2,g3,g4⟩:=hfi
 have hst:(fs.map (·.name)).filter (strayN true m)=[]:=by
  rw [List.filter_eq_nil_iff]
  intro n hn
  obtain⟨f,hf,rfl⟩:=List.mem_map.1 hn
  rw [h.ns f hf]
  simp
 obtain⟨q,hq⟩: ∃ q,q=(manB fs m).1:=⟨_,rfl⟩
 have he:manB fs m=(q,0):=by rw [hq];exact Prod.ext rfl g1
 obtain⟨i1,_⟩:=manB_inv he
 rw [hst] at i1
 rw [←hq] at g2 g3 g4
 rw [he]
 congr 1
 obtain⟨a1,a2,a3,a4,a5⟩:=q
 simp only [Pl.mk.injEq] at i1
 simp only at g2 g3 g4
 obtain⟨j1,j2,j3,j4,_⟩:=i1
 subst g2 g3 g4 j1 j3
 rfl
theorem man_went {d:Disk} (hok:DiskOk d) (hd:d.down=false) {b:List UInt8} (hm:datF d.files manName=some b) (h0:(decMan b).2=0) {p:Pl} (hp:manB d.files (decMan b).1=(p,0)):
  Went (fun fs=>SafeIn d.files→Stays d.room (p,0) fs) (fun fs=>Done d.room p fs∧(SafeIn d.files→Stays d.room (p,0) fs)) d (applyD d p):=by
 obtain⟨m,hmm⟩: ∃ m,m=(decMan b).1:=⟨_,rfl⟩
 have hdm:decMan b=(m,0):=by rw [hmm];exact Prod.ext rfl h0
 rw [←hmm] at hp
 have hmo:manOk m=true:=by rw [hmm];exact decMan_ok h0
 have hf:=manFine hmo
 have hfd:findB d.room d.files=(p,0):=by rw [find_man hm h0,←hmm];exact hp
 obtain⟨hpe,hact⟩:=manB_inv hp
 obtain⟨fs0,hfs⟩: ∃ fs0,fs0=d.files:=⟨_,rfl⟩
 have hok0:=hok
 obtain⟨x,hx⟩: ∃ x,atF d.files (segN m)=some x:=by
  rcases h:atF d.files (segN m) with _ | x
  ·rw [datF_none h] at hact;cases hact
  ·exact⟨x,rfl⟩
 rw [datF_at hx] at hact hpe
 obtain⟨hcut,hc20,hcl⟩:=actB_cut hact
 obtain⟨cut,hcu⟩: ∃ c,c=(actB (some x.data) (lastSg m)).1:=⟨_,rfl⟩
 rw [←hcu] at hcut hc20 hcl hpe
 have hns:strayN true m (segN m)=false:=ns_seg hf (last_mem hf)
 have hpm:p.man=m:=by rw [hpe]
 have hpc:p.cut=(cut:Int):=by rw [hpe]
 have hpr:p.remove=straysD d true m:=by rw [hpe];rfl
 have hpf:p.fresh=false:=by rw [hpe]
 have hlen:x.data.length≤67108864:=by
  have h1:=len_le_used (at_name hx).2
  have h2:=hok.used
  have h3:=hok.room
  omega
 have hap:applyD d p=runD d ((straysD d true m).map opRemove++(opSize (segN m)::((if (cut:Int)<(x.data.length:Int) then [opCut (segN m) cut] else [])++[opSync (segN m)]))):=by
  unfold applyD refOps remOps
  rw [hpm,hmo,hpf,hpr,hpc]
  have:(straysD d true m).any (fun y=>y==segN m)=false:=by
   rw [List.any_eq_false]
   intro y hy e
   have h1:strayN true m y=true:=(List.mem_filter.1 hy).2
   rw [eq_of_beq e,hns] at h1
   cases h1
  rw [this]
  simp only [Bool.false_eq_true,if_false,if_true]
  rw [hx]
  rfl
 rw [hap]
 have hsafe0:SafeIn d.files→x.safe=(x.data.length:Int):=fun hs=>by
  obtain⟨g1,g2⟩:=at_name hx
  obtain⟨e1,e2⟩:=man_there hm
  refine hs x g2 ?_
  rw [e1,e2,hdm,g1]
  exact hns
 have hIP: ∀ fs,((∀ k,strayN true m k=false→atF fs k=atF d.files k)∧ ∀ f∈fs,f∈d.files)→(SafeIn d.files→Stays d.room (p,0) fs):=fun fs h hs=>by
  have hm':datF fs manName=some b:=by
   unfold datF at hm ⊢
   rw [h.1 _ (ns_man _ _)];exact hm
  refine⟨?_,fun f hf h2=> ?_⟩
  ·have:=finds_man (room:=d.room) hm h0 (fs':=fs) fun n hn=>by unfold datF;rw [h.1 n (by rw [hmm];exact hn)]
   rwa [hfd] at this
  ·obtain⟨e1,e2⟩:=man_there hm
   obtain⟨e3,e4⟩:=man_there hm'
   refine hs f (h.2 f hf) ?_
   rw [e3,e4] at h2
   rw [e1,e2]
   exact h2
 refine went_removes (I:=fun fs=>(∀ k,strayN true m k=false→atF fs k=atF d.files k)∧ ∀ f∈fs,f∈d.files) hIP _ d _ hok hd (strays_nodup hok.rise _ _) (strays_sub d true m hok.rise).2 ⟨fun _ _=>rfl,fun _ h=>h⟩ (fun fs n hn h=> ?_) fun d1 e1 r1 n1 o1 f1 hI=> ?_
 ·have hs:strayN true m n=true:=(List.mem_filter.1 hn).2
  refine⟨fun k hk=> ?_,fun f hfm=>h.2 f (List.mem_filter.1 hfm).1⟩
  rw [at_take]
  ·exact h.1 k hk
  ·rintro rfl
   rw [hk] at hs;cases hs
 ·have e1':d1.files=d.files.filter fun f=> !(strayN true m f.name):=by
   rw [e1]
   exact takes_strays _ _
  have hx1:atF d1.files (segN m)=some x:=(hI.1 _ hns).trans hx
  have hns1: ∀ f∈d1.files,strayN true m f.name=false:=fun f hfm=>by
   rw [e1'] at hfm
   have hns2:=(List.mem_filter.1 hfm).2
   simpa using hns2
  have L1:LastAt d.files m cut x x d1.files:=⟨o1.rise,hx1,fun k hk _=>hI.1 k hk,fun f hfm=> .inr (hI.2 f hfm),fun f hfm=>hns1 f hfm,rfl,hcl,hsafe0⟩
  rw [runD_go (by rw [sizeO (openE_on o1 n1 hx1) hx1]),sizeO (openE_on o1 n1 hx1) hx1]
  show Went _ _ d1 (runD d1 _)
  have hsync: ∀ (d2:Disk) (y:Fil),DiskOk d2→d2.down=false→d2.room=d.room→LastAt d.files m cut x y d2.files→y.data.length=cut→Went (fun fs=>SafeIn d.files→Stays d.room (p,0) fs) (fun fs=>Done d.room p fs∧(SafeIn d.files→Stays d.room (p,0) fs)) d2 (runD d2 [opSync (segN m)]):=fun d2 y o2 n2 r2 L2 hyl=>by
   refine went_step o2 (by simp [opSync]) (by simp [opSync]) (by rw [bar_sync];exact openE_on o2 n2 L2.at_) (by rw [if_neg (by simp [opSync])];exact fun hs=>L2.stays hm hdm hx hfd hs) fun d3 e3 r3 n3 o3 f3=> ?_
   have c3:chgL d2.files (opSync (segN m))=setF (segN m) (fun _=>{y with safe:=(y.data.length:Int)}) d2.files:=by
    rw [chgL_set (x:=y) o2.rise L2.at_ (by simp [opSync]) (by simp [opSync]) (by simp [opSync])]
    simp [chgF,opSync]
   rw [c3] at e3
   have L3:=L2.set hf (z:={y with safe:=(y.data.length:Int)}) L2.name L2.dat L2.len (fun _=>rfl)
   rw [←e3] at L3
   exact went_nil o3 n3 ⟨L3.done hm hdm hx hfd hpm (by show (y.data.length:Int)=_;rw [hpc,hyl]) (by show (y.data.length:Int)=_;rw [hpc,hyl]),fun hs=>L3.stays hm hdm hx hfd hs⟩
  by_cases hlt:(cut:Int)<(x.data.length:Int)
  ·rw [if_pos hlt]
   show Went _ _ d1 (runD d1 (opCut (segN m) cut::[opSync (segN m)]))
   refine went_step o1 (by simp [opCut]) (by simp [opCut];omega) ?_ (by rw [if_neg (by simp [opCut])];exact fun hs=>L1.stays hm hdm hx hfd hs) fun d2 e2 r2 n2 o2 f2=> ?_
   ·rw [bar_cut,openE_on o1 n1 hx1,hx1,if_neg (by decide)]
    dsimp only
    rw [if_neg]
    simp
    omega
   ·have c2:chgL d1.files (opCut (segN m) cut)=setF (segN m) (fun _=>{x with data:=x.data.take cut,safe:=if (cut:Int)<x.safe then (cut:Int) else x.safe}) d1.files:=by
     rw [chgL_set (x:=x) o1.rise hx1 (by simp [opCut]) (by simp [opCut]) (by simp [opCut])]
     simp [chgF,opCut]
     rfl
    rw [c2] at e2
    have hl2:(x.data.take cut).length=cut:=by rw [List.length_take];omega
    have L2:=L1.set hf (z:={x with data:=x.data.take cut,safe:=if (cut:Int)<x.safe then (cut:Int) else x.safe}) L1.name hcut (by show cut≤(x.data.take cut).length;omega) (fun hs=>by
     show (if (cut:Int)<x.safe then (cut:Int) else x.safe)=((x.data.take cut).length:Int)
     rw [hl2,if_pos (by rw [hsafe0 hs];exact hlt)])
    rw [←e2] at L2
    exact hsync d2 _ o2 n2 (r2.trans r1) L2 hl2
  ·rw [if_neg hlt]
   exact hsync d1 x o1 n1 r1 L1 (by omega)
theorem apply_went {d:Disk} (hok:DiskOk d) (hd:d.down=false) {p:Pl} (hp:findB d.room d.files=(p,0)):
  Went (fun fs=>SafeIn d.files→Stays d.room (p,0) fs) (fun fs=>Done d.room p fs∧(SafeIn d.files→Stays d.room (p,0) fs)) d (applyD d p):=by
 rcases hm:datF d.files manName with _ | b
 ·rw [find_new hm] at hp
  exact fresh_went hok hd hm hp
 ·have h0:(decMan b).2=0:=by
   unfold findB at hp
   rw [hm] at hp
   dsimp only at hp
   by_cases h0:(decMan b).2=0
   ·exact h0
   ·rw [if_pos h0] at hp
    simp at hp
  rw [find_man hm h0] at hp
  exact man_went hok hd hm h0 hp
theorem apply_again {d:Disk} (hok:DiskOk d) (hd:d.down=false) (hfu:d.fuse=0) {p:Pl} (h:Done d.room p d.files):applyD d ⟨false,p.man,[],p.cut,p.last⟩=({d with steps:=d.steps+1},0):=by
 obtain⟨h1,y,h2,h3,h4⟩:=h
 have hmo:manOk p.man=true:=by
  unfold findB at h1
  split at h1
  ·unfold newB at h1
   split at h1
   ·simp at h1
   ·simp at h1
  ·split at h1
   ·simp at h1
   ·rename_i b _ h0
    have hb:=decMan_ok (b:=b) (by simpa using h0)
    have:=(manB_inv h1).1
    simp only [Pl.mk.injEq] at this
    rw [this.2.1]
    exact hb
 unfold applyD
 rw [show (⟨false,p.man,[],p.cut,p.last⟩:Pl).man=p.man from rfl,hmo]
 simp only [if_true]
 have e:refOps d ⟨false,p.man,[],p.cut,p.last⟩=[opSize (segN p.man),opSync (segN p.man)]:=by
  unfold refOps remOps
  simp only [List.map_nil,List.nil_append,Bool.false_eq_true,if_false,List.any_nil]
  rw [h2]
  unfold cutOps
  dsimp only
  rw [if_neg (by omega)]
  rfl
 have ho:=openE_on hok hd h2
 rw [e,runD_go (by rw [sizeO ho h2]),sizeO ho h2]
 have hb:barD d (opSync (segN p.man))=0:=by rw [bar_sync];exact ho
 have e2:doD d (opSync (segN p.man))=(chgD (stepD d) (opSync (segN p.man)),[],0,0):=by
  rw [doD_step (by simp [opSync]) hb,if_neg (by omega),if_neg (by omega)]
 show runD d [opSync (segN p.man)]=_
 rw [runD_go (by rw [e2]),e2]
 have e3:chgL d.files (opSync (segN p.man))=d.files:=by
  rw [chgL_set (x:=y) hok.rise h2 (by simp [opSync]) (by simp [opSync]) (by simp [opSync])]
  have:chgF (opSync (segN p.man)) y=y:=by
   obtain⟨a,c,s⟩:=y
   simp only at h3 h4
   simp [chgF,opSync,h3,h4]
  rw [this]
  exact setF_same hok.rise h2
 show runD (chgD (stepD d) (opSync (segN p.man))) []=_
 rw [runD,chgD_eq,stepD_files,e3]
 unfold stepD
 rw [if_neg (by omega),if_neg (by omega)]
end Go.Proofs.YtlobohpbgghleaaGreatDoor

namespace Go.Proofs.YtlobohpbgghleaaGreatDoor
open Go.RowKit
def runR (d:Disk):(Pl×Int)×Disk:=
 if (planD d).1.2≠0 then ((planZ,(planD d).1.2),rdD d (planD d).2)
 else if (applyD (rdD d (planD d).2) (planD d).1.1).2≠0 then ((planZ,(applyD (rdD d (planD d).2) (planD d).1.1).2),(applyD (rdD d (planD d).2) (planD d).1.1).1)
 else ((planD d).1,(applyD (rdD d (planD d).2) (planD d).1.1).1)
theorem runR_bad {d:Disk} (h:(planD d).1.2≠0):runR d=((planZ,(planD d).1.2),rdD d (planD d).2):=by unfold runR;rw [if_pos h]
theorem runR_off {d:Disk} (h:(planD d).1.2=0) (h2:(applyD (rdD d (planD d).2) (planD d).1.1).2≠0):runR d=((planZ,(applyD (rdD d (planD d).2) (planD d).1.1).2),(applyD (rdD d (planD d).2) (planD d).1.1).1):=by unfold runR;rw [if_neg (fun k=>k h),if_pos h2]
theorem runR_good {d:Disk} (h:(planD d).1.2=0) (h2:(applyD (rdD d (planD d).2) (planD d).1.1).2=0):runR d=((planD d).1,(applyD (rdD d (planD d).2) (planD d).1.1).1):=by unfold runR;rw [if_neg (fun k=>k h),if_neg (fun k=>k h2)]
theorem plan_manOk {d:Disk} (h:(planD d).1.2=0):manOk (planD d).1.1.man=true:=by
 unfold planD at h ⊢
 split at h
 ·rename_i h1
  exfalso
  simp only at h
  split at h
  ·cases h
  ·exact h1 h
 ·rename_i h1
  rw [if_neg h1]
  split at h
  ·rename_i h2
   rw [if_pos h2]
   unfold freshD at h ⊢
   split at h
   ·cases h
   ·rename_i h3
    simp only [if_neg h3]
    exact firstM_ok
  ·rename_i h2
   rw [if_neg h2]
   have hlo:=load_ok (d:=d) (by simpa using h2)
   simp only at h ⊢
   unfold planM at h ⊢
   split at h
   ·cases h
   ·rename_i h3
    rw [if_neg h3]
    split at h
    ·cases h
    ·rename_i h4
     rw [if_neg h4]
     split at h
     ·cases h
     ·rename_i h5
      rw [if_neg h5]
      exact hlo.1
theorem plan_rems {d:Disk} (hc:d.files.length≤700) (h:(planD d).1.2=0):(planD d).1.1.remove.length≤700:=by
 obtain⟨_,_,t,m,e⟩:=plan_good h
 rw [e]
 exact Nat.le_trans (strays_len d t m) hc
theorem StIn.low {A:Nat→Prop} {w:World} {v:Value} {l:List (List UInt8)} (h:StIn A w v l):StIn (fun k=>A k∧k<w.heap.size) w v l:=by
 obtain⟨oa,cap,h1,h2,h3,h4⟩:=h
 exact⟨oa,cap,h1,h2,h3,fun i x hx=>by obtain⟨b,off,e,ha,hc⟩:=h4 i x hx;exact⟨b,off,e,⟨ha,World.block_lt_of_cell? w _ hc⟩,hc⟩⟩
def RunQ (w:World) (f m:Nat) (L:List Slot) (r:(Pl×Int)×Disk) (e:Ending) (w':World):Prop:=
 ∃ sv rv L',e= .returned (.tuple #[plV r.1.1 sv rv,.int .i64 r.1.2])∧SgIn (fun k=>w.heap.size≤k∧ ¬ foot f m L' k) w' sv r.1.1.man.segs∧StIn (fun k=>w.heap.size≤k∧ ¬ foot f m L' k) w' rv r.1.1.remove∧sv.oneCell'=true∧rv.oneCell'=true∧
  FsAt w' f m r.2 L'∧Turned (foot f m L) w w'∧ ∀ k,foot f m L' k→foot f m L k∨w.heap.size≤k
set_option maxRecDepth 100000 in
set_option maxHeartbeats 8000000 in
theorem run_any (w:World) (f m:Nat) (d:Disk) (L:List Slot) (h:FsAt w f m d L) (hn:NibTab w) (hg: ¬ foot f m L 0) (hst:d.steps≤1152921504606846976):
  Calls Tryz.prog 17 #[.pointer (some ⟨f,0,none⟩)] w (RunQ w f m L (runR d)):=by
 have hff:foot f m L f:= .inl rfl
 have HLT:=Lib.hid h.lt
 have HB0:=Lib.hid (below_alloc w (.cells (plCs planZ (.slice none 0 0) (.slice none 0 0)) 34))
 have HR0:=Lib.hid (plBlk_alloc w planZ (.slice none 0 0) (.slice none 0 0))
 have HPL:=Lib.hid (plan_any _ f m d L (h.below HB0.out) (hn.below HB0.out))
 have HE1:=Lib.hid (@runR_bad d)
 have HE2:=Lib.hid (@runR_off d)
 have HE3:=Lib.hid (@runR_good d)
 have HMO:=Lib.hid (@plan_manOk d)
 have HRM:=Lib.hid (@plan_rems d h.ok.count)
 have HBAD:=Lib.hid (@plan_bad d)
 have HNB:=Lib.hid hn
 have HNL:=Lib.hid hn.lt
 have HNG:=Lib.hid hg
 have HST:=Lib.hid hst
 have hfl:=h.hd.lt
 have HF:=Lib.hid (show f<w.heap.size from hfl)
 have HFO:=Lib.hid hff
 simp only [plCs,planZ,zeroM] at HB0 HR0 HPL
 obtain⟨r,hr⟩: ∃ r,r=planD d:=⟨_,rfl⟩
 rw [←hr] at HPL HE1 HE2 HE3 HMO HRM HBAD
 clear h hn hg hst hr hfl hff
 obtain⟨⟨p,e0⟩,nr⟩:=r
 unfold PlanP at HPL
 dsimp only at HPL HE1 HE2 HE3 HMO HRM HBAD
 go_enter Tryz.func17,Tryz.ntmps17
 go_wp2_with fail
 refine HPL.out.mono ?_
 rintro e w1 ⟨sv,rv,rfl,hsg,hsr,hone,hrone,hf1,ht1⟩
 have HONE:=Lib.hid hone
 have HRONE:=Lib.hid hrone
 have HF1:=Lib.hid hf1
 have hsz0:w.heap.size<(w.alloc (.cells #[.bool false,.int .i64 0,.int .i64 0,.int .i64 0,.int .i64 0,.int .i64 0,.slice none 0 0,.slice none 0 0,.int .i64 0,.int .i64 0] 34)).heap.size:=HR0.out.lt
 have hsz1:=ht1.size
 have HSG1:=Lib.hid ((hsg.mono (A':=fun k=>w.heap.size<k) (fun k hk=>by omega)))
 have HSR1:=Lib.hid ((hsr.mono (A':=fun k=>w.heap.size<k) (fun k hk=>by omega)))
 have HR1:=Lib.hid (HR0.out.kept (ht1.block _ HR0.out.lt (fun hc=>by have:=HF.out;omega)))
 have HT1:=Lib.hid (show Turned (fun i=>i=f) w w1 from(Turned.below HB0.out).trans ht1 fun i hi=> .inl hi)
 have HPz:=Lib.hid (plBlk_alloc w1 planZ (.slice none 0 0) (.slice none 0 0))
 have hba:=below_alloc w1 (.cells (plCs planZ (.slice none 0 0) (.slice none 0 0)) 34)
 simp only [plCs,planZ,zeroM] at HPz hba
 clear hone hrone hsg hsr hf1 ht1 HPL HR0 HB0
 go_wp2_with (with_reducible refine wpList_store_pl rfl (.tmp 4) (.tmp 10) rfl w1.heap.size ⟨false,⟨0,0,0,0,0,[]⟩,[],0,0⟩ p (.slice none 0 0) (.slice none 0 0) sv rv rfl rfl HPz.out HONE.out HRONE.out ?_)
 intro w2 hw2
 have hb2:Below w1.heap.size w1 w2:=by rw [hw2.out];exact below_row hba (Nat.le_refl _) _
 have HP2:=Lib.hid (show PlBlk w2 w1.heap.size p sv rv by rw [hw2.out];exact HPz.out.row)
 have HF2:=Lib.hid (HF1.out.below hb2)
 have HSG2:=Lib.hid (HSG1.out.below hb2)
 have HSR2:=Lib.hid (HSR1.out.below hb2)
 have HR2:=Lib.hid (HR1.out.below hb2)
 have HT2:=Lib.hid (HT1.out.trans (Turned.below (S:=fun i=>i=f) hb2) fun i hi=> .inl hi)
 have HNB2:=Lib.hid (show NibTab w2 from HNB.out.turned HT2.out (fun e=>HNG.out (by rw [e];exact HFO.out)) HNL.out)
 have hbb:w.heap.size<w1.heap.size:=HR1.out.lt
 clear hw2 hb2 hba HPz HF1 HSG1 HSR1 HR1 HT1 HNB
 generalize hb1e:w1.heap.size=b1 at*
 rcases he:(e0 != 0) with _ | _
 case true=>
  have hne:e0≠0:=by simpa using he
  have HE:=Lib.hid (HE1.out hne)
  clear hne hb1e
  go_wp2_with (with_reducible refine wpList_store_pl rfl (.tmp 2) (.tmp 14) rfl w.heap.size ⟨false,⟨0,0,0,0,0,[]⟩,[],0,0⟩ ⟨false,⟨0,0,0,0,0,[]⟩,[],0,0⟩ (.slice none 0 0) (.slice none 0 0) (.slice none 0 0) (.slice none 0 0) rfl rfl HR2.out rfl rfl ?_)
  intro w3 hw3
  have HR3:=Lib.hid (show PlBlk w3 w.heap.size planZ (.slice none 0 0) (.slice none 0 0) by rw [hw3.out];exact HR2.out.row)
  have ht3:Turned (fun k=>k=w.heap.size) w2 w3:=by rw [hw3.out];exact run_setRow_turned _ _ _
  have HF3:=Lib.hid (HF2.out.turned ht3 (fun k hk e=>by have:=HLT.out k hk;omega))
  have HT3:=Lib.hid (show Turned (foot f m L) w w3 from(HT2.out.trans ht3 fun i hi=> .inr (by omega)).mono fun i hi=>by subst hi;exact HFO.out)
  clear hw3 ht3
  go_wp2
  refine bodyPost_ret (v:= .tuple #[plV planZ (.slice none 0 0) (.slice none 0 0),.int .i64 e0]) (results_pl2 rfl _ _ w.heap.size planZ (.slice none 0 0) (.slice none 0 0) _ rfl rfl HR3.out) rfl ?_
  rw [HE.out]
  exact⟨_,_,L,rfl,⟨none,0,rfl,Nat.le_refl _,by decide,fun i x hx=>by simp [planZ,zeroM] at hx⟩,⟨none,0,rfl,Nat.le_refl _,by decide,fun i x hx=>by simp [planZ] at hx⟩,rfl,rfl,HF3.out,HT3.out,fun k hk=> .inl hk⟩
 case false=>
  have h0:e0=0:=by simpa using he
  subst h0
  clear HE1 HBAD he
  have HMO':=Lib.hid (HMO.out rfl)
  have HRM':=Lib.hid (HRM.out rfl)
  have HE2':=Lib.hid (HE2.out rfl)
  have HE3':=Lib.hid (HE3.out rfl)
  have hnf: ∀ k,w.heap.size<k→ ¬ foot f m L k:=fun k hk hc=>by have:=HLT.out k hc;omega
  have HRA:=Lib.hid (recApply_good w2 f m (rdD d nr) L HF2.out p sv rv (HSG2.out.mono hnf) (HSR2.out.mono hnf) HNB2.out HNG.out (by show d.steps+(p.remove.length:Int)+16<_;have:=HST.out;have:=HRM'.out;omega) HMO'.out)
  have HNF:=Lib.hid hnf
  clear HE2 HE3 HMO HRM hnf
  obtain⟨a,ha⟩: ∃ a,a=applyD (rdD d nr) p:=⟨_,rfl⟩
  rw [←ha] at HRA HE2' HE3'
  clear ha
  obtain⟨d',ea⟩:=a
  unfold RunPost at HRA
  dsimp only at HRA HE2' HE3'
  go_wp2_with (with_reducible refine wpList_load_pl rfl (.tmp 4) rfl b1 p sv rv rfl HP2.out ?_)
  refine HRA.out.mono ?_
  rintro e w3 ⟨rfl,hp⟩
  have HP3:=Lib.hid (HP2.out.kept (hp.block HP2.out.lt (HNF.out _ hbb)))
  have HR3:=Lib.hid (HR2.out.kept (hp.block HR2.out.lt (fun hc=>by have:=HLT.out _ hc;omega)))
  obtain⟨L',hf3,ht3,hl3⟩:=hp
  have hw12:=HT2.out.size
  have HF3:=Lib.hid hf3
  have HSG3:=Lib.hid (HSG2.out.low.turned ht3 (fun k hk=>HNF.out k hk.1))
  have HSR3:=Lib.hid (HSR2.out.low.turned ht3 (fun k hk=>HNF.out k hk.1))
  have HT3:=Lib.hid (show Turned (foot f m L) w w3 from(HT2.out.mono fun i hi=>by subst hi;exact HFO.out).trans ht3 fun i hi=> .inl hi)
  have HL3:=Lib.hid (show ∀ k,foot f m L' k→foot f m L k∨w2.heap.size≤k from hl3)
  have hlt2:b1<w2.heap.size:=HP2.out.lt
  clear hf3 ht3 hl3 HRA HP2 HR2 HF2 HSG2 HSR2 HT2 HNB2 hb1e
  rcases he:(ea != 0) with _ | _
  case true=>
   have hne:ea≠0:=by simpa using he
   have HE:=Lib.hid (HE2'.out hne)
   clear hne
   go_wp2_with (with_reducible refine wpList_store_pl rfl (.tmp 2) (.tmp 21) rfl w.heap.size ⟨false,⟨0,0,0,0,0,[]⟩,[],0,0⟩ ⟨false,⟨0,0,0,0,0,[]⟩,[],0,0⟩ (.slice none 0 0) (.slice none 0 0) (.slice none 0 0) (.slice none 0 0) rfl rfl HR3.out rfl rfl ?_)
   intro w4 hw4
   have HR4:=Lib.hid (show PlBlk w4 w.heap.size planZ (.slice none 0 0) (.slice none 0 0) by rw [hw4.out];exact HR3.out.row)
   have ht4:Turned (fun k=>k=w.heap.size) w3 w4:=by rw [hw4.out];exact run_setRow_turned _ _ _
   have HF4:=Lib.hid (HF3.out.turned ht4 (fun k hk e=>by
    subst e
    rcases HL3.out _ hk with h | h
    ·have:=HLT.out _ h;omega
    ·omega))
   have HT4:=Lib.hid (show Turned (foot f m L) w w4 from(HT3.out.trans ht4 fun i hi=> .inr (by omega)))
   clear hw4 ht4
   go_wp2
   refine bodyPost_ret (v:= .tuple #[plV planZ (.slice none 0 0) (.slice none 0 0),.int .i64 ea]) (results_pl2 rfl _ _ w.heap.size planZ (.slice none 0 0) (.slice none 0 0) _ rfl rfl HR4.out) rfl ?_
   rw [HE.out]
   exact⟨_,_,L',rfl,⟨none,0,rfl,Nat.le_refl _,by decide,fun i x hx=>by simp [planZ,zeroM] at hx⟩,⟨none,0,rfl,Nat.le_refl _,by decide,fun i x hx=>by simp [planZ] at hx⟩,rfl,rfl,HF4.out,HT4.out,fun k hk=>(HL3.out k hk).imp id (fun h=>by omega)⟩
  case false=>
   have h0:ea=0:=by simpa using he
   subst h0
   have HE:=Lib.hid (HE3'.out rfl)
   go_wp2_with (first | (with_reducible refine wpList_load_pl rfl (.tmp 4) rfl b1 p sv rv rfl HP3.out ?_) | (with_reducible refine wpList_store_pl rfl (.tmp 2) (.tmp 23) rfl w.heap.size ⟨false,⟨0,0,0,0,0,[]⟩,[],0,0⟩ p (.slice none 0 0) (.slice none 0 0) sv rv rfl rfl HR3.out HONE.out HRONE.out ?_))
   intro w4 hw4
   have HR4:=Lib.hid (show PlBlk w4 w.heap.size p sv rv by rw [hw4.out];exact HR3.out.row)
   have ht4:Turned (fun k=>k=w.heap.size) w3 w4:=by rw [hw4.out];exact run_setRow_turned _ _ _
   have HF4:=Lib.hid (HF3.out.turned ht4 (fun k hk e=>by
    subst e
    rcases HL3.out _ hk with h | h
    ·have:=HLT.out _ h;omega
    ·omega))
   have HT4:=Lib.hid (show Turned (foot f m L) w w4 from(HT3.out.trans ht4 fun i hi=> .inr (by omega)))
   have hA: ∀ k,w.heap.size<k∧k<w2.heap.size→w.heap.size≤k∧ ¬ foot f m L' k:=fun k hk=>⟨by omega,fun hc=>by
    rcases HL3.out _ hc with h | h
    ·have:=HLT.out _ h;omega
    ·omega⟩
   have HSG4:=Lib.hid ((HSG3.out.turned ht4 (fun k hk=>by omega)).mono hA)
   have HSR4:=Lib.hid ((HSR3.out.turned ht4 (fun k hk=>by omega)).mono hA)
   clear hw4 ht4 hA
   go_wp2
   refine bodyPost_ret (v:= .tuple #[plV p sv rv,.int .i64 0]) (results_pl2 rfl _ _ w.heap.size p sv rv _ rfl rfl HR4.out) rfl ?_
   rw [HE.out]
   exact⟨_,_,L',rfl,HSG4.out,HSR4.out,HONE.out,HRONE.out,HF4.out,HT4.out,fun k hk=>(HL3.out k hk).imp id (fun h=>by omega)⟩
end Go.Proofs.YtlobohpbgghleaaGreatDoor

namespace Go.Proofs.YtlobohpbgghleaaGreatDoor
open Go.RowKit
theorem doD_reads {d:Disk} {o:DOp} (h6:o.k≠6):(doD d o).1.reads=d.reads:=by
 have hc: ∀ x:Disk,(chgD x o).reads=x.reads:=fun x=>by rw [chgD_eq]
 unfold doD
 repeat' split
 all_goals first
  | rfl
  | (exfalso;omega)
  | (simp only [hc])
theorem runD_bounds: ∀ (ops:List DOp) (d:Disk),(∀ o∈ops,o.k≠6)→(runD d ops).1.reads=d.reads∧d.steps≤(runD d ops).1.steps∧(runD d ops).1.steps≤d.steps+(ops.length:Int)
 | [],d,_=>⟨rfl,Int.le_refl _,by simp [runD]⟩
 | o::r,d,h=>by
  have h1:=doD_steps d o
  have h2:=doD_reads (d:=d) (h o (by simp))
  by_cases h0:(doD d o).2.2.2=0
  ·rw [runD_go h0]
   have:=runD_bounds r (doD d o).1 fun x hx=>h x (by simp [hx])
   rw [List.length_cons]
   refine⟨this.1.trans h2,?_,?_⟩
   ·omega
   ·push_cast;omega
  ·rw [runD_stop h0,List.length_cons]
   refine⟨h2,h1.2,?_⟩
   push_cast
   omega
theorem apply_bounds (d:Disk) (p:Pl):(applyD d p).1.reads=d.reads∧d.steps≤(applyD d p).1.steps∧(applyD d p).1.steps≤d.steps+(p.remove.length:Int)+8:=by
 unfold applyD
 split
 ·have hk: ∀ o∈refOps d p,o.k≠6:=by
   intro o ho
   unfold refOps remOps beginOps cutOps at ho
   rcases List.mem_append.1 ho with ho | ho
   ·obtain⟨n,_,rfl⟩:=List.mem_map.1 ho
    simp [opRemove]
   ·split at ho
    ·simp only [List.mem_cons,List.not_mem_nil,or_false] at ho
     rcases ho with rfl | rfl | rfl | rfl | rfl | rfl | rfl<;>simp [opCreate,opAppend,opSync,opRename]
    ·rcases List.mem_cons.1 ho with rfl | ho
     ·simp [opSize]
     ·rcases List.mem_append.1 ho with ho | ho
      ·split at ho
       ·cases ho
       ·split at ho
        ·simp only [List.mem_cons,List.not_mem_nil,or_false] at ho
         subst ho
         simp [opCut]
        ·cases ho
      ·simp only [List.mem_cons,List.not_mem_nil,or_false] at ho
       subst ho
       simp [opSync]
  have hl:(refOps d p).length≤p.remove.length+7:=by
   unfold refOps remOps beginOps cutOps
   rw [List.length_append,List.length_map]
   split
   ·simp
   ·simp only [List.length_cons,List.length_append,List.length_nil]
    split
    ·simp
    ·split<;>simp
  have:=runD_bounds (refOps d p) d hk
  omega
 ·exact⟨rfl,by simp,by simp;omega⟩
theorem rdD_ok {d:Disk} (h:DiskOk d) (n:Nat):DiskOk (rdD d n):=⟨h.rise,h.names,h.safe,h.count,h.room,h.used,h.fuse,h.steps,by show -9223372036854775808≤IntKind.i64.wrap (d.reads+(n:Int))∧IntKind.i64.wrap (d.reads+(n:Int))≤9223372036854775807;rw [IntKind.wrap_i64];omega⟩
theorem done_segs {room:Int} {p:Pl} {fs:List Fil} (h:Done room p fs):manOk p.man=true:=by
 obtain⟨h1,_⟩:=h
 unfold findB at h1
 split at h1
 ·unfold newB at h1
  split at h1
  ·simp at h1
  ·simp at h1
 ·split at h1
  ·simp at h1
  ·rename_i b _ h0
   have hb:=decMan_ok (b:=b) (by simpa using h0)
   have:=(manB_inv h1).1
   simp only [Pl.mk.injEq] at this
   rw [this.2.1]
   exact hb
structure TwiceP (d:Disk) (r:(Pl×Int)×Disk):Prop where
 bad:r.1.2≠0→r.2.files=d.files
 ok:r.1.2=0→DiskOk r.2
 segs:r.1.2=0→manOk r.1.1.man=true
 steps:r.1.2=0→r.2.steps≤1152921504606846976
 again:r.1.2=0→ ∃ d2,runR r.2=((⟨false,r.1.1.man,[],r.1.1.cut,r.1.1.last⟩,0),d2)∧d2.files=r.2.files
 last:r.1.2=0→ ∃ y,atF r.2.files (segN r.1.1.man)=some y∧(y.data.length:Int)=r.1.1.cut∧y.safe=r.1.1.cut
theorem twice_plain {d:Disk} (hok:DiskOk d) (hd:d.down=false) (hf:d.fuse=0) (hs:d.steps=0):TwiceP d (runR d):=by
 have hrd:(planD d).2≤2*usedF d.files:=plan_read hok.rise
 have hu:=hok.used
 have hrm:=hok.room
 by_cases h0:(planD d).1.2=0
 ·have hfd:=planD_on hok hd
  obtain⟨d0,hd0⟩: ∃ d0,d0=rdD d (planD d).2:=⟨_,rfl⟩
  have hok0:DiskOk d0:=by rw [hd0];exact rdD_ok hok _
  have hdn0:d0.down=false:=by rw [hd0];exact hd
  have hfu0:d0.fuse=0:=by rw [hd0];exact hf
  have hfi0:d0.files=d.files:=by rw [hd0];rfl
  have hro0:d0.room=d.room:=by rw [hd0];rfl
  have hst0:d0.steps=0:=by rw [hd0];exact hs
  have hp0:findB d0.room d0.files=((planD d).1.1,0):=by rw [hfi0,hro0,←hfd];exact Prod.ext rfl h0
  have hw:=apply_went hok0 hdn0 hp0
  have hb:=apply_bounds d0 (planD d).1.1
  have hrl:=plan_rems hok.count h0
  rcases hw.out with⟨e1,⟨e2,_⟩,e3,e4⟩ | ⟨_,e2,_⟩
  ·have hg:=runR_good h0 (by rw [←hd0];exact e1)
   rw [←hd0] at hg
   obtain⟨d1,hd1⟩: ∃ d1,d1=(applyD d0 (planD d).1.1).1:=⟨_,rfl⟩
   rw [←hd1] at hg e2 e3 e4 hb
   have hok1:DiskOk d1:=by rw [hd1];exact hw.ok
   have hro1:d1.room=d.room:=by rw [hd1,hw.room,hro0]
   have hfu1:=e4 hfu0
   have hfd1:=planD_on hok1 e3
   rw [hro1,show d.room=d0.room from hro0.symm,e2.1] at hfd1
   have hrd1:(planD d1).2≤2*usedF d1.files:=plan_read hok1.rise
   have hu1:=hok1.used
   have hrm1:=hok1.room
   have hag:=apply_again (d:=rdD d1 (planD d1).2) (p:=(planD d).1.1) (rdD_ok hok1 _) e3 hfu1 (by rw [show (rdD d1 (planD d1).2).room=d0.room by show d1.room=_;rw [hro1,hro0]];exact e2)
   have hg2:=runR_good (d:=d1) (by rw [hfd1]) (by rw [hfd1,hag])
   rw [hfd1] at hg2
   rw [hg]
   refine⟨fun h=>absurd h0 h,fun _=>hok1,fun _=>done_segs e2,fun _=>by show d1.steps≤_;omega,fun _=>⟨_,hg2,?_⟩,fun _=>e2.2⟩
   rw [hag]
   rfl
  ·exact absurd hfu0 e2
 ·rw [runR_bad h0]
  exact⟨fun _=>rfl,fun h=>absurd h h0,fun h=>absurd h h0,fun h=>absurd h h0,fun h=>absurd h h0,fun h=>absurd h h0⟩
end Go.Proofs.YtlobohpbgghleaaGreatDoor

namespace Go.Proofs.YtlobohpbgghleaaGreatDoor
open Go.RowKit
set_option maxHeartbeats 1000000 in
theorem run_sgEqual (a:Sg) (w:World):(Op.equalIn 10000 46 (sgV a) (sgV a)).run Tryz.prog w= .ok true w:=by
 have hS:Tryz.prog.underlying 46=some (.struct (Tryz.prog.fieldsOf 46)):=by kernel_rfl
 have hp:Tryz.prog.stoodInHeld 46=false:=by kernel_rfl
 unfold sgV
 rw [show (10000:Nat)=9999+1 from rfl,run_equalIn_agg w 9999 46 _ _ hS hp]
 simp only [Program.fieldsOf,Tryz.underlying46]
 go_simp
theorem run_sgNeq (a:Sg) (w:World):(binOp .neq 46 (.agg #[.int .i64 a.num,.int .i64 a.first,.int .i64 a.count,.int .i64 a.foot]) (.agg #[.int .i64 a.num,.int .i64 a.first,.int .i64 a.count,.int .i64 a.foot])).run Tryz.prog w= .ok (.bool false) w:=by
 rw [run_neq_struct];have:=run_sgEqual a w;unfold sgV at this;rw [this];rfl
set_option maxRecDepth 100000 in
set_option maxHeartbeats 4000000 in
theorem sameMan_any (m:Man) (sv1 sv2:Value) (w:World) (h1:SgRow w sv1 m.segs) (h2:SgRow w sv2 m.segs):
  Calls Tryz.prog 19 #[mnV m sv1,mnV m sv2] w fun e w'=>e= .returned (.bool true)∧Below w.heap.size w w':=by
 obtain⟨oa,cap,rfl,hl1,hl2,hcs⟩:=h1
 obtain⟨ob,cap',rfl,hl3,hl4,hct⟩:=h2
 have HC:=Lib.hid hcs
 have HD:=Lib.hid hct
 obtain⟨wa,hwa⟩: ∃ wa,wa=(w.alloc (.cells (mnCs m (.slice oa m.segs.length cap)) 31)).alloc (.cells (mnCs m (.slice ob m.segs.length cap')) 31):=⟨_,rfl⟩
 have HBA:=Lib.hid (show Below w.heap.size w wa by rw [hwa];exact(below_alloc w _).trans ((below_alloc _ _).mono (by rw [World.size_alloc];omega)))
 have HM1:=Lib.hid (show MnBlk wa w.heap.size m (.slice oa m.segs.length cap) by rw [hwa];exact(mnBlk_alloc w m _).below (below_alloc _ _))
 have HM2:=Lib.hid (show MnBlk wa (w.heap.size+1) m (.slice ob m.segs.length cap') by
  rw [hwa]
  have:=mnBlk_alloc (w.alloc (.cells (mnCs m (.slice oa m.segs.length cap)) 31)) m (.slice ob m.segs.length cap')
  rwa [World.size_alloc] at this)
 have t0:(m.gen != m.gen)=false:=by simp
 have t1:(m.next != m.next)=false:=by simp
 have t2:(m.floor != m.floor)=false:=by simp
 have t3:(m.snap != m.snap)=false:=by simp
 have t4:(m.snapSeq != m.snapSeq)=false:=by simp
 have t5:((m.segs.length:Int) != (m.segs.length:Int))=false:=by simp
 have c0:wa.cell? ⟨w.heap.size,0,none⟩=some (.int .i64 m.gen):=HM1.out.cell 0
 have c1:wa.cell? ⟨w.heap.size,1,none⟩=some (.int .i64 m.next):=HM1.out.cell 1
 have c2:wa.cell? ⟨w.heap.size,2,none⟩=some (.int .i64 m.floor):=HM1.out.cell 2
 have c3:wa.cell? ⟨w.heap.size,3,none⟩=some (.int .i64 m.snap):=HM1.out.cell 3
 have c4:wa.cell? ⟨w.heap.size,4,none⟩=some (.int .i64 m.snapSeq):=HM1.out.cell 4
 have c5:wa.cell? ⟨w.heap.size,5,none⟩=some (.slice oa m.segs.length cap):=HM1.out.cell 5
 have d0:wa.cell? ⟨w.heap.size+1,0,none⟩=some (.int .i64 m.gen):=HM2.out.cell 0
 have d1:wa.cell? ⟨w.heap.size+1,1,none⟩=some (.int .i64 m.next):=HM2.out.cell 1
 have d2:wa.cell? ⟨w.heap.size+1,2,none⟩=some (.int .i64 m.floor):=HM2.out.cell 2
 have d3:wa.cell? ⟨w.heap.size+1,3,none⟩=some (.int .i64 m.snap):=HM2.out.cell 3
 have d4:wa.cell? ⟨w.heap.size+1,4,none⟩=some (.int .i64 m.snapSeq):=HM2.out.cell 4
 have d5:wa.cell? ⟨w.heap.size+1,5,none⟩=some (.slice ob m.segs.length cap'):=HM2.out.cell 5
 simp only [mnCs] at hwa
 have HWA:=Lib.hid hwa
 clear hwa hcs hct
 go_enter Tryz.func19,Tryz.ntmps19
 go_wp2_with (simp only [←HWA.out])
 clear c0 c1 c2 c3 c4 d0 d1 d2 d3 d4 c5 d5
 go_loopw [5,51] (fun _ iv wr=> ∃ (k:Nat),k≤m.segs.length∧iv= .int .i64 k∧Hid (Below wa.heap.size wa wr)) (fun _ iv _=>m.segs.length - (intOf iv).toNat)
 case atStart=>exact⟨0,Nat.zero_le _,rfl,Lib.hid (by first | exact Below.refl _ _ | (rw [←HWA.out];exact Below.refl _ _))⟩
 case round=>
  obtain⟨k,hk,rfl,HB⟩:=hrel
  have HBW:=Lib.hid (Below.next HBA.out HB.out)
  by_cases hlt:k<m.segs.length
  ·obtain⟨g,hg,_,_⟩:=nth m.segs k hlt
   have q1:(k:Int)<(m.segs.length:Int):=by omega
   obtain⟨b,off,rfl,hrg⟩:=HC.out k g hg
   obtain⟨b',off',rfl,hrg'⟩:=HD.out k g hg
   have HR1:=Lib.hid (range_later hrg HBW.out)
   have HR2:=Lib.hid (range_later hrg' HBW.out)
   have HM1r:=Lib.hid (HM1.out.below HB.out)
   have HM2r:=Lib.hid (HM2.out.below HB.out)
   have heq:=fun w=>run_sgNeq g w
   clear hg hrg hrg'
   go_wp2_with fail
   refine wp_region_held_drew (S:=fun w'=>Below wr.heap.size wr w') (by kernel_rfl) (below_drewN' wr 1) (fun hHeld=> ?_)
   generalize World.drew _=We at*
   have FX1:=Lib.hid (fun(wF:World) (hSw:(fun w'=>Below wr.heap.size wr w') wF)=>((HM1r.out.below hSw).c5))
   refine tf FX1 0 rfl ?_
   refine tf FX1 1 rfl ?_
   refine tf FX1 2 rfl ?_
   refine tf FX1 3 rfl ?_
   clear FX1
   refine tkl 4 b (off+k*4) [.int .i64 g.num,.int .i64 g.first,.int .i64 g.count,.int .i64 g.foot] rfl rfl (fun w' h=>range_later HR1.out h) Tryz.underlying46 rfl (by rw [sgInfo];rfl) ?_
   simp only [pA,pB,pC,pD]
   have FX2:=Lib.hid (fun(wF:World) (hSw:(fun w'=>Below wr.heap.size wr w') wF)=>((HM2r.out.below hSw).c5))
   refine tf FX2 5 rfl ?_
   refine tf FX2 6 rfl ?_
   refine tf FX2 7 rfl ?_
   refine tf FX2 8 rfl ?_
   clear FX2
   refine tkl 9 b' (off'+k*4) [.int .i64 g.num,.int .i64 g.first,.int .i64 g.count,.int .i64 g.foot] rfl rfl (fun w' h=>range_later HR2.out h) Tryz.underlying46 rfl (by rw [sgInfo];rfl) ?_
   simp only [pA,pB,pC,pD]
   refine tq 10 rfl ?_
   refine wpAnyH_done (by kernel_rfl) ?_ _
   have HBE:=Lib.hid (Below.next HB.out hHeld)
   clear hHeld
   go_wp2
   go_roundw
   case rel=>exact⟨k+1,by omega,by go_num,HBE⟩
   case measure=>simp [intOf];omega
  ·obtain rfl:k=m.segs.length:=by omega
   go_wp2
   go_ret
   exact⟨rfl,HBW.out⟩
end Go.Proofs.YtlobohpbgghleaaGreatDoor

namespace Go.Proofs.YtlobohpbgghleaaGreatDoor
open Go.RowKit Go.ChangeShapes Go.WideShapes
theorem bRow_ofF {w:World} {v:Value} {zs:List Int} (h:Row 1 1 (RInt .u8) w v zs):BRow w v (zs.map fun z=>UInt8.ofNat z.toNat)∧zs.length≤140737488355328:=by
 obtain⟨oa,cap,rfl,h1,h2,hr,h3⟩:=h
 have hw: ∀ z∈zs,(Lit.int .u8 z).wf=true:=fun z hzm=>by
  obtain⟨i,hi,he⟩:=List.getElem_of_mem hzm
  obtain⟨b,off,_,h5⟩:=h3 (by rintro rfl;simp at hi)
  obtain⟨cs,_,_,hR⟩:=h5 i z (by rw [List.getElem?_eq_getElem hi,he])
  exact hR.2
 refine⟨⟨oa,cap,by rw [List.length_map],by simpa using h1,fun hn=> ?_⟩,by unfold reachBytes at hr;omega⟩
 obtain⟨b,off,h4,h5⟩:=h3 (by rintro rfl;exact hn rfl)
 refine⟨b,off,h4,fun i x hx=> ?_⟩
 rw [List.getElem?_map] at hx
 obtain⟨z,hz1,rfl⟩:=Option.map_eq_some_iff.1 hx
 obtain⟨cs,_,hcs,hR⟩:=h5 i z hz1
 have:=hcs 0 (.int .u8 z) (by rw [hR.1];rfl)
 rw [u8_of (hw z (List.mem_of_getElem? hz1))]
 simpa using this
def RFlF (w:World) (cs:List Value) (f:Fil):Prop:= ∃ dv,cs=(flCs f dv).toList∧BRow w dv f.data∧f.data.length≤140737488355328
theorem opensF_File:Opens Tryz.prog 49 3 RFlF:=by
 intro H enc W fuel cs x hx hz
 have ho:Opens Tryz.prog 49 3 (RCons 1 RStr (RCons 1 (RRow 1 1 (RInt .u8)) (RCons 1 (RInt .i64) RNil))):=
  opens_struct Tryz.underlying49 (by kernel_rfl) (opens_cons rfl (by kernel_rfl) (opens_str Tryz.underlying9) (opens_cons rfl (by kernel_rfl) (opens_slice Tryz.underlying47 (by kernel_rfl) (by kernel_rfl) (by decide) (opens_int (k:= .u8) Tryz.underlying5))
   (opens_cons rfl (by kernel_rfl) (opens_int Tryz.underlying3) opens_nil)))
 obtain⟨hl,⟨n,zs,s,_⟩,h0,h1,h2,_⟩:=ho enc W fuel cs x hx hz
 obtain⟨dv,e1,r1⟩:=h1
 obtain⟨a1,a2⟩:=bRow_ofF r1
 refine⟨hl,⟨n,zs.map fun z=>UInt8.ofNat z.toNat,s⟩,dv,?_,a1,by rw [List.length_map];exact a2⟩
 match cs,hl with
 | [c0,c1,c2],_=>
  have e0:=h0.1
  have e2:=h2.1
  simp at e0 e1 e2
  simp [flCs,e0,e1,e2]
structure RdFilesF (w:World) (v:Value) (fs:List Fil):Prop where
 row:FilesIn (fun _=>True) w v fs
 len:fs.length≤2932031007401
 dat: ∀ f∈fs,f.data.length≤140737488355328
set_option maxRecDepth 100000 in
theorem open_sl_api_File {H:Type} {enc:TypeId×Value→H} {W:World} {base:Nat} {v:Value} {d:DataW H} {p:List MemPlace}
  (hok:Value.okWide Tryz.prog W .any base 22 v) (h:DataW.Trod enc Tryz.prog W 0 (fun _=>true) true 22 v d p) (hz:(d.weights Tryz.prog 22).all (· ≤reachBytes)=true):
  ∃ a,RdFilesF W v a:=by
 obtain⟨rs,oa,cap,rfl,h1,h2,hr,h3⟩:=open_slice_by (P:=Tryz.prog) (opens_slice (bytes:=48) Tryz.underlying22 (by kernel_rfl) (by kernel_rfl) (by decide) opensF_File) Tryz.underlying22 hok h hz
 refine⟨rs,⟨oa,cap,rfl,h1,h2,fun hn=> ?_⟩,?_,fun f hf=> ?_⟩
 ·obtain⟨b,off,h4,h5⟩:=h3 hn
  refine⟨b,off,h4,trivial,fun i r hi=> ?_⟩
  obtain⟨cs,_,hc,dv,hR,hB,_⟩:=h5 i r hi
  exact⟨dv,fun j u hj=>hc j u (by rw [hR];exact hj),browIn_true hB⟩
 ·unfold reachBytes at hr
  omega
 ·obtain⟨i,hi,he⟩:=List.getElem_of_mem hf
  obtain⟨b,off,h4,h5⟩:=h3 (by rintro rfl;simp at hi)
  obtain⟨cs,_,_,dv,_,_,hd⟩:=h5 i f (by rw [List.getElem?_eq_getElem hi,he])
  exact hd
end Go.Proofs.YtlobohpbgghleaaGreatDoor

namespace Go.Proofs.YtlobohpbgghleaaGreatDoor
open Go.RowKit
theorem mountD_start {room:Int} {fs:List Fil} (h:(mountD room fs).2=0):(mountD room fs).1.reads=0∧(mountD room fs).1.fuse=0∧(mountD room fs).1.down=false∧(mountD room fs).1.steps=0:=by
 have key: ∀ (fs:List Fil) (d:Disk),(mountGo d fs).2=0→(mountGo d fs).1.reads=d.reads∧(mountGo d fs).1.fuse=d.fuse:=fun fs=>by
  induction fs with
  | nil=>intro d _;exact⟨rfl,rfl⟩
  | cons f r ih=>
   intro d he
   rw [mountGo] at he ⊢
   by_cases h0:mountE d f=0
   ·rw [if_pos h0] at he ⊢
    exact ih _ he
   ·rw [if_neg h0] at he
    exact absurd he h0
 have h2:=(mountD_ok h).2
 unfold mountD at h h2 ⊢
 split at h
 ·cases h
 ·rename_i hc
  rw [if_neg hc] at h2 ⊢
  exact⟨(key _ _ h).1,(key _ _ h).2,h2.2,h2.1⟩
theorem FsAt.lens {w:World} {f m:Nat} {d:Disk} {L:List Slot} (h:FsAt w f m d L): ∀ x∈d.files,x.data.length≤140737488355328:=fun x hx=>by
 have h1:=h.ok.used
 have h2:=h.ok.room
 have h3:=len_le_used hx
 omega
theorem SgIn.last {A:Nat→Prop} {w:World} {v:Value} {m:Man} (h:SgIn A w v m.segs) (hf:ManFine m): ∃ b off cap,v= .slice (some ⟨b,off,none⟩) m.segs.length cap∧0<m.segs.length∧w.cell? ⟨b,off+(m.segs.length - 1)*4,none⟩=some (.int .i64 (lastSg m).num):=by
 obtain⟨oa,cap,rfl,h1,h2,h3⟩:=h
 have hne:m.segs≠ []:=by
  have:=(last_segs hf).2
  rintro e
  rw [e] at this
  cases this
 have hpos:0<m.segs.length:=List.length_pos_iff.2 hne
 have hl:m.segs[m.segs.length - 1]? =some (lastSg m):=by
  rw [←List.getLast?_eq_getElem?]
  unfold lastSg
  rw [List.getLast?_eq_some_getLast hne]
  rfl
 obtain⟨b,off,rfl,_,hr⟩:=h3 _ _ hl
 exact⟨b,off,cap,rfl,hpos,hr 0 _ rfl⟩
set_option maxRecDepth 100000 in
set_option maxHeartbeats 8000000 in
theorem recoveryTwice_walk0 (room:Int) (fs:List Fil) (fv:Value) (w:World) (hf:FilesIn (fun _=>True) w fv fs) (hl: ∀ f∈fs,f.data.length≤140737488355328) (hlen:fs.length≤2932031007401) (hn:NibTab w):
  Calls Tryz.prog 4 #[.int .i64 room,fv] w fun e w'=>e= .returned (.bool true)∧Below w.heap.size w w':=by
 have HF:=Lib.hid hf
 have HL:=Lib.hid hl
 have HLEN:=Lib.hid hlen
 have HNB:=Lib.hid hn
 have HNL:=Lib.hid hn.lt
 obtain⟨rd,hrd⟩: ∃ r,r=mountD room fs:=⟨_,rfl⟩
 have HMO:=Lib.hid (show rd.2=0→rd.1.reads=0∧rd.1.fuse=0∧rd.1.down=false∧rd.1.steps=0 from fun h=>by rw [hrd] at h ⊢;exact mountD_start h)
 have HPF:=Lib.hid (fun(W:World) (A:Nat→Prop) (v:Value) (h:FilesIn A W v fs)=>fsMount_any room fs v W h hl)
 rw [←hrd] at HPF
 clear hrd
 obtain⟨d,er⟩:=rd
 obtain⟨ov,fc,rfl,_⟩:=hf
 clear hl hlen hn
 go_enter Tryz.func4,Tryz.ntmps4
 go_wp2_with fail
 refine(head18_any _ HNB.out).mono ?_
 rintro e w1 ⟨rfl,hb1⟩
 have HB1:=Lib.hid hb1
 clear hb1
 go_wp2_with fail
 refine(refCopyF_any (A:=fun _=>True) fs _ w1 (HF.out.below HB1.out) HLEN.out HL.out).mono ?_
 rintro e w2 ⟨v2,rfl,hf2,hb2⟩
 have HB2:=Lib.hid (Below.next HB1.out hb2)
 have HC2:=Lib.hid (HPF.out w2 _ v2 hf2)
 clear hf2 hb2 HB1 HPF
 go_wp2_with fail
 refine HC2.out.mono ?_
 rintro e w3 ⟨hc3,hb3⟩
 have HB3:=Lib.hid (Below.next HB2.out hb3)
 rcases hc3 with⟨hne,rfl⟩ | ⟨hz,f,m,L,rfl,hat3,hlow⟩
 ·have hq:(er != 0)=true:=by simpa using hne
  clear hne hb3 HMO HC2
  go_wp2
  go_ret
  exact⟨rfl,HB3.out⟩
 ·simp only at hz
  subst hz
  obtain⟨hr0,hfu0,hd0,hs0⟩:=HMO.out rfl
  have HTP:=Lib.hid (twice_plain hat3.ok hd0 hfu0 hs0)
  have HLOW:=Lib.hid hlow
  have HLT:=Lib.hid hat3.lt
  have HAT3:=Lib.hid hat3
  have HLN:=Lib.hid hat3.lens
  have HNB3:=Lib.hid (HNB.out.below HB3.out)
  have HBD:=Lib.hid (show d.steps≤1152921504606846976 by rw [hs0];decide)
  have hwz:=HB2.out.size
  have hlo: ∀ k,foot f m L k→w.heap.size≤k:=fun k hk=>by have:=hlow k hk;omega
  have HLO:=Lib.hid hlo
  clear hb3 hat3 hlow hr0 hfu0 hd0 hs0 HMO HC2 hlo hwz
  obtain⟨r,hr⟩: ∃ r,r=runR d:=⟨_,rfl⟩
  rw [←hr] at HTP
  have HR:=Lib.hid hr
  clear hr
  go_wp2_with fail
  refine(fsImage_any w3 f m d L HAT3.out).mono ?_
  rintro e w4 ⟨v4,rfl,hf4,hb4⟩
  have HB4:=Lib.hid (Below.next HB3.out hb4)
  have HF4:=Lib.hid hf4
  have HAT4:=Lib.hid (HAT3.out.below hb4)
  have HNB4:=Lib.hid (HNB3.out.below hb4)
  have hs34:=hb4.size
  have HNG:=Lib.hid (show ¬ foot f m L 0 from fun hc=>by have:=HLO.out _ hc;have:=HNL.out;omega)
  have HRU:=Lib.hid (run_any w4 f m d L HAT4.out HNB4.out HNG.out HBD.out)
  rw [←HR.out] at HRU
  clear hf4 hb4 HB3 HAT3 HNB3
  obtain⟨⟨p,e0⟩,d1⟩:=r
  unfold RunQ at HRU
  dsimp only at HRU
  go_wp2_with fail
  refine HRU.out.mono ?_
  rintro e w5 ⟨sv,rv,L1,rfl,hsg,hsr,hone,hrone,hat5,ht5,hl5⟩
  have HONE:=Lib.hid hone
  have HRONE:=Lib.hid hrone
  have HPz:=Lib.hid (plBlk_alloc w5 planZ (.slice none 0 0) (.slice none 0 0))
  have hba:=below_alloc w5 (.cells (plCs planZ (.slice none 0 0) (.slice none 0 0)) 34)
  simp only [plCs,planZ,zeroM] at HPz hba
  have hs45:=ht5.size
  have HF5:=Lib.hid (HF4.out.low.turned ht5 (fun k hk hc=>by have:=HLT.out k hc;omega))
  have HB5:=Lib.hid (turned_below HB4.out ht5 (fun k hk=>HLO.out k hk) HB4.out.size)
  have HAT5:=Lib.hid hat5
  have HSG5:=Lib.hid hsg.low
  have HL5:=Lib.hid (show ∀ k,foot f m L1 k→w3.heap.size≤k∨foot f m L k from fun k hk=>(hl5 k hk).elim .inr (fun h=> .inl (by omega)))
  have HLT5:=Lib.hid hat5.lt
  have HLO5:=Lib.hid (show ∀ k,foot f m L1 k→w.heap.size≤k from fun k hk=>(hl5 k hk).elim (fun h=>HLO.out k h) (fun h=>by have:=HB4.out.size;omega))
  have HX5:=Lib.hid (show ∀ k,foot f m L1 k→ ¬ ((w3.heap.size≤k)∧k<w4.heap.size) from fun k hk hc=>(hl5 k hk).elim (fun h=>by have:=HLT.out k h;omega) (fun h=>by omega))
  clear hone hrone hsg hsr hat5 ht5 hl5 HRU HB4 HF4 HAT4 HNB4
  go_wp2_with (with_reducible refine wpList_store_pl rfl (.tmp 8) (.tmp 32) rfl w5.heap.size ⟨false,⟨0,0,0,0,0,[]⟩,[],0,0⟩ p (.slice none 0 0) (.slice none 0 0) sv rv rfl rfl HPz.out HONE.out HRONE.out ?_)
  intro w6 hw6
  have hb6:Below w5.heap.size w5 w6:=by rw [hw6.out];exact below_row hba (Nat.le_refl _) _
  have HP6:=Lib.hid (show PlBlk w6 w5.heap.size p sv rv by rw [hw6.out];exact HPz.out.row)
  have HF6:=Lib.hid (HF5.out.below hb6)
  have HAT6:=Lib.hid (HAT5.out.below hb6)
  have HSG6:=Lib.hid (HSG5.out.below hb6)
  have HB6:=Lib.hid (Below.next HB5.out hb6)
  have hs56:=hb6.size
  have h5lt:w5.heap.size<w6.heap.size:=HP6.out.lt
  clear hw6 hb6 hba HPz HF5 HAT5 HSG5 HB5
  generalize w5.heap.size=g8 at*
  rcases he:(e0 != 0) with _ | _
  case true=>
   have hfe:d1.files=d.files:=HTP.out.bad (by simpa using he)
   have HFE:=Lib.hid hfe
   clear hfe
   go_wp2_with fail
   refine(fsImage_any w6 f m d1 L1 HAT6.out).mono ?_
   rintro e w7 ⟨v7,rfl,hf7,hb7⟩
   rw [HFE.out] at hf7
   have HF7:=Lib.hid hf7
   have HFA:=Lib.hid (HF6.out.below hb7)
   have HB7:=Lib.hid (Below.next HB6.out hb7)
   clear hf7 hb7
   go_wp2_with fail
   refine(refSameF_any d.files v7 v4 w7 HF7.out HFA.out HLN.out).mono ?_
   rintro e w8 ⟨rfl,hb8⟩
   have HB8:=Lib.hid (Below.next HB7.out hb8)
   clear hb8
   go_wp2
   go_ret
   exact⟨rfl,HB8.out⟩
  case false=>
   have h0:e0=0:=by simpa using he
   subst h0
   clear he
   have HMF:=Lib.hid (manFine (HTP.out.segs rfl))
   obtain⟨d2,hd2,hd2f⟩:=HTP.out.again rfl
   obtain⟨y,hy1,hy2,hy3⟩:=HTP.out.last rfl
   simp only at hd2 hd2f hy1 hy2 hy3
   have HD2:=Lib.hid hd2
   have HD2F:=Lib.hid hd2f
   have HY1:=Lib.hid hy1
   have HY2:=Lib.hid hy2
   have HY3:=Lib.hid hy3
   have HBD1:=Lib.hid (show d1.steps≤1152921504606846976 from HTP.out.steps rfl)
   have HLN1:=Lib.hid HAT6.out.lens
   have HNB6:=Lib.hid (HNB.out.below HB6.out)
   have HNG6:=Lib.hid (show ¬ foot f m L1 0 from fun hc=>by have:=HLO5.out _ hc;have:=HNL.out;omega)
   have HTR:=Lib.hid (HTP.out.ok rfl)
   clear hd2 hd2f hy1 hy2 hy3 HTP
   go_wp2_with fail
   refine(fsImage_any w6 f m d1 L1 HAT6.out).mono ?_
   rintro e w7 ⟨v7,rfl,hf7,hb7⟩
   have HB7:=Lib.hid (Below.next HB6.out hb7)
   have HF7:=Lib.hid hf7
   have HAT7:=Lib.hid (HAT6.out.below hb7)
   have HP7:=Lib.hid (HP6.out.below hb7)
   have HSG7:=Lib.hid (HSG6.out.below hb7)
   have hs67:=hb7.size
   have HRU2:=Lib.hid (run_any w7 f m d1 L1 HAT7.out (HNB6.out.below hb7) HNG6.out HBD1.out)
   rw [HD2.out] at HRU2
   clear hf7 hb7 HAT6 HB6 HP6 HSG6 HF6
   unfold RunQ at HRU2
   dsimp only at HRU2
   go_wp2_with fail
   refine HRU2.out.mono ?_
   rintro e w8 ⟨sv2,rv2,L2,rfl,hsg2,hsr2,hone2,hrone2,hat8,ht8,hl8⟩
   have HONE2:=Lib.hid hone2
   have HRONE2:=Lib.hid hrone2
   have hs78:=ht8.size
   have HP8:=Lib.hid (HP7.out.kept (ht8.block _ HP7.out.lt (fun hc=>by have:=HLT5.out _ hc;omega)))
   have HSG8:=Lib.hid (HSG7.out.turned ht8 (fun k hk=>hk.1.2))
   have HF8:=Lib.hid (HF7.out.low.turned ht8 (fun k hk hc=>by have:=HLT5.out k hc;omega))
   have HB8:=Lib.hid (turned_below HB7.out ht8 (fun k hk=>HLO5.out k hk) HB7.out.size)
   have HAT8:=Lib.hid hat8
   have HSGB:=Lib.hid hsg2
   have HSRB:=Lib.hid hsr2
   have HPz:=Lib.hid (plBlk_alloc w8 planZ (.slice none 0 0) (.slice none 0 0))
   have hba:=below_alloc w8 (.cells (plCs planZ (.slice none 0 0) (.slice none 0 0)) 34)
   simp only [plCs,planZ,zeroM] at HPz hba
   clear hone2 hrone2 hsg2 hsr2 hat8 ht8 hl8 HRU2 HP7 HSG7 HF7 HB7 HAT7
   go_wp2_with (with_reducible refine wpList_store_pl rfl (.tmp 11) (.tmp 45) rfl w8.heap.size ⟨false,⟨0,0,0,0,0,[]⟩,[],0,0⟩ ⟨false,p.man,[],p.cut,p.last⟩ (.slice none 0 0) (.slice none 0 0) sv2 rv2 rfl rfl HPz.out HONE2.out HRONE2.out ?_)
   intro w9 hw9
   have hb9:Below w8.heap.size w8 w9:=by rw [hw9.out];exact below_row hba (Nat.le_refl _) _
   have HQ9:=Lib.hid (show PlBlk w9 w8.heap.size ⟨false,p.man,[],p.cut,p.last⟩ sv2 rv2 by rw [hw9.out];exact HPz.out.row)
   have HP9:=Lib.hid (HP8.out.below hb9)
   have HF9:=Lib.hid (HF8.out.below hb9)
   have HAT9:=Lib.hid (HAT8.out.below hb9)
   have HSG9:=Lib.hid (HSG8.out.below hb9)
   have HSB9:=Lib.hid (HSGB.out.below hb9)
   have HSR9:=Lib.hid (HSRB.out.below hb9)
   have HB9:=Lib.hid (Below.next HB8.out hb9)
   clear hw9 hb9 hba HPz HP8 HF8 HAT8 HSG8 HSGB HSRB HB8
   generalize w8.heap.size=g11 at*
   obtain⟨b,off,cap,hsv,hpos,hlast⟩:=HSG9.out.last HMF.out
   obtain⟨b2,off2,cap2,hsv2,_,_⟩:=HSB9.out.last HMF.out
   obtain⟨oz,cz,hrv2,_⟩:=HSR9.out
   subst hsv hsv2 hrv2
   have HLAST:=Lib.hid hlast
   have HMAN:=Lib.hid (sameMan_any p.man (.slice (some ⟨b2,off2,none⟩) p.man.segs.length cap2) (.slice (some ⟨b,off,none⟩) p.man.segs.length cap) w9 HSB9.out.row HSG9.out.row)
   clear hlast
   have c0:=HQ9.out.c0
   have c1:w9.cell? ⟨g11,1,none⟩=some (.int .i64 p.man.gen):=HQ9.out.cell 1
   have c2:w9.cell? ⟨g11,2,none⟩=some (.int .i64 p.man.next):=HQ9.out.cell 2
   have c3:w9.cell? ⟨g11,3,none⟩=some (.int .i64 p.man.floor):=HQ9.out.cell 3
   have c4:w9.cell? ⟨g11,4,none⟩=some (.int .i64 p.man.snap):=HQ9.out.cell 4
   have c5:w9.cell? ⟨g11,5,none⟩=some (.int .i64 p.man.snapSeq):=HQ9.out.cell 5
   have c6:=HQ9.out.c6
   have c7:=HQ9.out.c7
   have c8:=HQ9.out.c8
   have c9:w9.cell? ⟨g11,9,none⟩=some (.int .i64 p.last):=HQ9.out.cell 9
   have e1:w9.cell? ⟨g8,1,none⟩=some (.int .i64 p.man.gen):=HP9.out.cell 1
   have e2:w9.cell? ⟨g8,2,none⟩=some (.int .i64 p.man.next):=HP9.out.cell 2
   have e3:w9.cell? ⟨g8,3,none⟩=some (.int .i64 p.man.floor):=HP9.out.cell 3
   have e4:w9.cell? ⟨g8,4,none⟩=some (.int .i64 p.man.snap):=HP9.out.cell 4
   have e5:w9.cell? ⟨g8,5,none⟩=some (.int .i64 p.man.snapSeq):=HP9.out.cell 5
   have e6:=HP9.out.c6
   have e8:=HP9.out.c8
   have e9:w9.cell? ⟨g8,9,none⟩=some (.int .i64 p.last):=HP9.out.cell 9
   have t0:((p.man.segs.length:Int)==0)=false:=by
    have:(p.man.segs.length:Int)≠0:=by omega
    simpa using this
   have t1:(p.cut != p.cut)=false:=by simp
   have t2:(p.last != p.last)=false:=by simp
   go_wp2_with fail
   refine HMAN.out.mono ?_
   rintro e w10 ⟨rfl,hb10⟩
   have HB10:=Lib.hid (Below.next HB9.out hb10)
   have HP10:=Lib.hid (HP9.out.below hb10)
   have HF10:=Lib.hid (HF9.out.below hb10)
   have HAT10:=Lib.hid (HAT9.out.below hb10)
   have HLA10:=Lib.hid (cell_later hb10 HLAST.out)
   clear hb10 HB9 HQ9 HP9 HF9 HAT9 HSG9 HSB9 HSR9 HMAN HLAST c0 c1 c2 c3 c4 c5 c6 c7 c8 c9 e1 e2 e3 e4 e5 e6 e8 e9
   go_wp2_with fail
   refine(fsImage_any w10 f m d2 L2 HAT10.out).mono ?_
   rintro e w11 ⟨v11,rfl,hf11,hb11⟩
   rw [HD2F.out] at hf11
   have HB11:=Lib.hid (Below.next HB10.out hb11)
   have HP11:=Lib.hid (HP10.out.below hb11)
   have HF11:=Lib.hid (HF10.out.below hb11)
   have HG11:=Lib.hid hf11
   have HLA11:=Lib.hid (cell_later hb11 HLA10.out)
   clear hf11 hb11 HB10 HP10 HF10 HAT10 HLA10
   go_wp2_with fail
   refine(refSameF_any d1.files v11 v7 w11 HG11.out HF11.out HLN1.out).mono ?_
   rintro e w12 ⟨rfl,hb12⟩
   have HB12:=Lib.hid (Below.next HB11.out hb12)
   have HP12:=Lib.hid (HP11.out.below hb12)
   have HF12:=Lib.hid (HF11.out.below hb12)
   have k1:=cell_later hb12 HLA11.out
   clear hb12 HB11 HP11 HF11 HG11 HLA11
   obtain⟨oa,fcap,rfl,hq1,hq2,hcc⟩:=HF12.out.shape
   have HCC:=Lib.hid hcc
   have HOK1:=Lib.hid HTR.out
   have c6:=HP12.out.c6
   have hix:IntKind.i64.wrap ((p.man.segs.length:Int) - 1)=((p.man.segs.length - 1:Nat):Int):=by have:=HMF.out.len;rw [IntKind.wrap_i64];omega
   have q1:((p.man.segs.length - 1:Nat):Int)<(p.man.segs.length:Int):=by omega
   clear hcc
   go_wp2_with fail
   refine(refSegment_any (lastSg p.man).num w12).mono ?_
   rintro e w13 ⟨rfl,hb13⟩
   have HB13:=Lib.hid (Below.next HB12.out hb13)
   have HP13:=Lib.hid (HP12.out.below hb13)
   have HB123:=Lib.hid hb13
   have hln:d1.files.length≤700:=HOK1.out.count
   clear hb13 HB12 HP12 HF12 k1 c6
   go_wp2
   go_loopw [13,107] (fun _ iv wr=> ∃ (k:Nat),k≤d1.files.length∧iv= .int .i64 k∧Hid (Below w13.heap.size w13 wr)) (fun _ iv _=>d1.files.length - (intOf iv).toNat)
   case atStart=>exact⟨0,Nat.zero_le _,rfl,Lib.hid (Below.refl _ _)⟩
   case round=>
    obtain⟨k,hk,rfl,HB⟩:=hrel
    by_cases hlt:k<d1.files.length
    ·obtain⟨x,hx,_,hxm⟩:=nth d1.files k hlt
     have r1:(k:Int)<(d1.files.length:Int):=by omega
     obtain⟨bb,boff,rfl,_,dv,hr,hdv⟩:=HCC.out k x hx
     obtain⟨od,dc,rfl,_⟩:=hdv.brow
     have HSL:=Lib.hid (range_later (range_later hr HB123.out) HB.out)
     have HPR:=Lib.hid (HP13.out.below HB.out)
     have HXM:=Lib.hid hxm
     clear hx hr hdv hxm
     rcases hnm:(x.name==segName (lastSg p.man).num) with _ | _
     ·go_wp2_with fail
      refine wp_region_held_drew (S:=fun w'=>Below wr.heap.size wr w') (by kernel_rfl) (below_drewN' wr 1) (fun hHeld=> ?_)
      generalize World.drew _=We at*
      have FX1:=Lib.hid (fun(wF:World) (hSw:(fun w'=>Below wr.heap.size wr w') wF)=>(show wF.cell? ⟨bb,boff+k*3,none⟩=some (.string ⟨x.name.toArray⟩) from(range_later HSL.out hSw) 0 _ rfl))
      refine tf FX1 0 rfl ?_
      refine tf FX1 1 rfl ?_
      refine tf FX1 2 rfl ?_
      refine tf FX1 3 rfl ?_
      refine tf FX1 4 rfl ?_
      refine tf FX1 5 rfl ?_
      refine tf FX1 6 rfl ?_
      refine tf FX1 7 rfl ?_
      clear FX1
      refine tkn 8 rfl ?_
      simp only [pA,pB,pC,pD]
      refine tkn 9 rfl ?_
      simp only [pA,pB,pC,pD]
      refine tkn 10 rfl ?_
      simp only [pA,pB,pC,pD]
      refine tkn 11 rfl ?_
      simp only [pA,pB,pC,pD]
      refine tkn 12 rfl ?_
      simp only [pA,pB,pC,pD]
      refine tkn 13 rfl ?_
      simp only [pA,pB,pC,pD]
      refine tkn 14 rfl ?_
      simp only [pA,pB,pC,pD]
      refine tkn 15 rfl ?_
      simp only [pA,pB,pC,pD]
      refine tkn 16 rfl ?_
      simp only [pA,pB,pC,pD]
      refine tkn 17 rfl ?_
      simp only [pA,pB,pC,pD]
      refine tkn 18 rfl ?_
      simp only [pA,pB,pC,pD]
      refine tkn 19 rfl ?_
      simp only [pA,pB,pC,pD]
      refine tkn 20 rfl ?_
      simp only [pA,pB,pC,pD]
      refine tkn 21 rfl ?_
      simp only [pA,pB,pC,pD]
      refine tkn 22 rfl ?_
      simp only [pA,pB,pC,pD]
      refine tkn 23 rfl ?_
      simp only [pA,pB,pC,pD]
      refine tkn 24 rfl ?_
      simp only [pA,pB,pC,pD]
      refine tkn 25 rfl ?_
      simp only [pA,pB,pC,pD]
      refine tkn 26 rfl ?_
      simp only [pA,pB,pC,pD]
      refine tq 27 rfl ?_
      refine wpAnyH_done (by kernel_rfl) ?_ _
      have HBE:=Lib.hid (Below.next HB.out hHeld)
      clear hHeld
      go_wp2
      go_roundw
      case rel=>exact⟨k+1,by omega,by go_num,HBE⟩
      case measure=>simp [intOf];omega
     ·have hxy:x=y:=rise_one HOK1.out.rise HY1.out HXM.out (by simpa [segN] using hnm)
      have HXY2:=Lib.hid (show (x.data.length:Int)=p.cut by rw [hxy];exact HY2.out)
      have HXY3:=Lib.hid (show x.safe=p.cut by rw [hxy];exact HY3.out)
      have s1:(x.safe != p.cut)=false:=by simpa using HXY3.out
      have s2:((x.data.length:Int) != p.cut)=false:=by simpa using HXY2.out
      clear hxy
      go_wp2_with fail
      refine wp_region_held_drew (S:=fun w'=>Below wr.heap.size wr w') (by kernel_rfl) (below_drewN' wr 1) (fun hHeld=> ?_)
      generalize World.drew _=We at*
      have FX2:=Lib.hid (fun(wF:World) (hSw:(fun w'=>Below wr.heap.size wr w') wF)=>And.intro ((show wF.cell? ⟨bb,boff+k*3,none⟩=some (.string ⟨x.name.toArray⟩) from(range_later HSL.out hSw) 0 _ rfl)) (And.intro (((range_later HSL.out hSw) 1 _ rfl)) (And.intro (((range_later HSL.out hSw) 2 _ rfl)) (((HPR.out.below hSw).c8)))))
      refine tf FX2 0 rfl ?_
      refine tf FX2 1 rfl ?_
      refine tf FX2 2 rfl ?_
      refine tf FX2 3 rfl ?_
      refine tf FX2 4 rfl ?_
      refine tf FX2 5 rfl ?_
      refine tf FX2 6 rfl ?_
      refine tf FX2 7 rfl ?_
      refine tf FX2 8 rfl ?_
      refine tf FX2 9 rfl ?_
      refine tf FX2 10 rfl ?_
      refine tf FX2 11 rfl ?_
      refine tf FX2 12 rfl ?_
      refine tf FX2 13 rfl ?_
      refine tf FX2 14 rfl ?_
      refine tf FX2 15 rfl ?_
      refine tf FX2 16 rfl ?_
      refine tf FX2 17 rfl ?_
      refine tf FX2 18 rfl ?_
      refine tf FX2 19 rfl ?_
      refine tf FX2 20 rfl ?_
      refine tf FX2 21 rfl ?_
      refine tf FX2 22 rfl ?_
      refine tf FX2 23 rfl ?_
      refine tf FX2 24 rfl ?_
      refine tf FX2 25 rfl ?_
      refine tf FX2 26 rfl ?_
      refine tf FX2 27 rfl ?_
      clear FX2
      refine wpAnyH_done (by kernel_rfl) ?_ _
      have HBE:=Lib.hid (Below.next HB.out hHeld)
      clear hHeld
      go_wp2
      go_roundw
      case rel=>exact⟨k+1,by omega,by go_num,HBE⟩
      case measure=>simp [intOf];omega
    ·obtain rfl:k=d1.files.length:=by omega
     go_wp2
     go_ret
     exact⟨rfl,Below.next HB13.out HB.out⟩
theorem recoveryTwice_walk (a0:Int) (v1:Value) (a1:List Fil) (w:World) (_:(Lit.int .i64 a0).wf=true) (h1:RdFilesF w v1 a1) (hL:laidMetH Tryz.prog Rows.recoveryTwiceRow.laid w) (_:w.ShapedOpen Tryz.prog):
  Calls Tryz.prog 4 #[.int .i64 a0,v1] w fun e w'=>e= .returned (.bool true)∧Below w.heap.size w w':=by
 have hL0:laidMet Tryz.prog Rows.recoveryTwiceRow.laid w:=hL
 exact recoveryTwice_walk0 a0 a1 v1 w h1.row h1.dat h1.len (nib_of rfl hL0)
end Go.Proofs.YtlobohpbgghleaaGreatDoor
