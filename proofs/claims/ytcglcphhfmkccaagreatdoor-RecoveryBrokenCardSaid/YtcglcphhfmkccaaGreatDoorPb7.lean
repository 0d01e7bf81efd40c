import Derived.Deep.CutRange
import Derived.StillTailTactics
import Derived.Laws.StructEq
import Derived.Laws.AppendOwnNone
import Derived.Test.YtcglcphhfmkccaaGreatDoorPb6
namespace Go.Proofs.YtcglcphhfmkccaaGreatDoor
open Go.RowKit
def Done (room:Int) (p:Pl) (fs:List Fil):Prop:=
 findB room fs=(⟨false,p.man,[],p.cut,p.last⟩,0)∧ ∃ y,atF fs (segN p.man)=some y∧(y.data.length:Int)=p.cut∧y.safe=p.cut
theorem encV_lit {n:Nat} (h:n<128):encV n=[UInt8.ofNat n]:=by rw [encV,dif_pos h]
theorem first_nums:encAll (manNums firstM)=[8,2,0,0,0,1,1,0,0]:=by
 show encV 8++(encV 2++(encV 0++(encV 0++(encV 0++(encV 1++(encV 1++(encV 0++(encV 0++[]))))))))=_
 rw [encV_lit (show 8<128 by decide),encV_lit (show 2<128 by decide),encV_lit (show 1<128 by decide),encV_lit (show 0<128 by decide)]
 rfl
theorem first_bytes:(encMan firstM).1=frameOf 4 1 [8,2,0,0,0,1,1,0,0]:=by
 rw [encMan_ok firstM_ok,first_nums]
 rfl
theorem first_dec:decMan (encMan firstM).1=(firstM,0):=by
 rw [first_bytes]
 kernel_rfl
theorem hdr_bytes:(hdrEnc 1 1).1=frameOf 2 1 [1,1]:=by
 rw [hdrEnc_ok (by decide) (by decide) (by decide) (by decide)]
 show frameOf 2 1 (encV 1++encV 1)=_
 rw [encV_lit (show 1<128 by decide)]
 rfl
theorem hdr_act:actB (some (hdrEnc 1 1).1) ⟨1,1,0,0⟩=(22,0,true):=by
 rw [hdr_bytes]
 kernel_rfl
theorem alien_ns {l:List UInt8} (h:alien l=true) (t:Bool) (m:Man):strayN t m l=false:=by
 unfold alien strayN at h
 unfold strayN
 split at h
 ·simp at h
 ·split at h
  ·simp at h
  ·rename_i h1 h2
   rw [if_neg h1,if_neg h2]
   simpa using h
theorem aliens_take {n:List UInt8} (h:alien n=false) (fs:List Fil):aliens (takeF n fs)=aliens fs:=by
 unfold aliens takeF
 rw [List.filter_filter]
 refine List.filter_congr fun f _=> ?_
 rcases hf:(f.name==n)
 ·simp
 ·rw [eq_of_beq hf,h];rfl
theorem aliens_twice (fs:List Fil):aliens (aliens fs)=aliens fs:=by
 unfold aliens
 rw [List.filter_filter]
 simp
def NewP (A:List Fil) (fs:List Fil):Prop:=datF fs manName=none∧aliens fs=A
theorem newP_put {A fs:List Fil} {f:Fil} (h:NewP A fs) (ha:alien f.name=false) (hn:f.name≠manName):NewP A (putF f fs):=by
 refine⟨?_,by rw [aliens_put ha];exact h.2⟩
 have:=h.1
 unfold datF at this ⊢
 rw [at_put_other hn]
 exact this
def firstH:List UInt8:=(hdrEnc 1 1).1
def firstB:List UInt8:=(encMan firstM).1
def firstF (A:List Fil):List Fil:=putF ⟨manName,firstB,29⟩ (putF ⟨segName 1,firstH,22⟩ A)
theorem seg1:segName 1=[115,101,103,45,48,48,48,48,48,49]:=by decide
theorem begin_went {d:Disk} (hok:DiskOk d) (hd:d.down=false) (hm:datF d.files manName=none) (ha:aliens d.files=d.files) (hr:51≤d.room - (usedF d.files:Int)) (hl:d.files.length≤698):
  Went (NewP d.files) (fun fs=>fs=firstF d.files) d (runD d (beginOps (segN firstM) (lastSg firstM) firstM)):=by
 obtain⟨A,hA⟩: ∃ A,A=d.files:=⟨_,rfl⟩
 rw [←hA] at hm ha hr hl ⊢
 have hH:firstH.length=22:=first_len.1
 have hB:firstB.length=29:=first_len.2
 have ha1:alien (segName 1)=false:=by rw [seg1];decide
 have ha2:alien tmpN=false:=by decide
 have hn1:segName 1≠manName:=by rw [seg1];decide
 have hn2:tmpN≠manName:=by decide
 have hn3:segName 1≠tmpN:=by rw [seg1];decide
 have hr1:rightName (segName 1)=true:=by rw [seg1];decide
 have hr2:rightName tmpN=true:=by decide
 have hr3:rightName manN=true:=by decide
 have hal: ∀ x∈A,alien x.name=true:=fun x hx=>by rw [←ha] at hx;exact(List.mem_filter.1 hx).2
 have hx1: ∀ x∈A,x.name≠segName 1:=fun x hx e=>by have:=hal x hx;rw [e,ha1] at this;cases this
 have hx2: ∀ x∈A,x.name≠tmpN:=fun x hx e=>by have:=hal x hx;rw [e,ha2] at this;cases this
 have hx3: ∀ x∈A,x.name≠manName:=by
  rcases h:atF A manName with _ | y
  ·exact ne_of_none h
  ·rw [datF_at h] at hm;cases hm
 have P0:NewP A A:=⟨hm,ha⟩
 rw [show beginOps (segN firstM) (lastSg firstM) firstM=[opCreate (segName 1),opAppend (segName 1) firstH,opSync (segName 1),opCreate tmpN,opAppend tmpN firstB,opSync tmpN,opRename tmpN manN] from rfl]
 refine went_step hok (by simp [opCreate]) (by simp [opCreate]) ?_ (by rw [if_neg (by simp [opCreate]),←hA];exact P0) fun d1 e1 r1 n1 o1 f1=> ?_
 ·rw [bar_create,openE_off hd hr1 (none_of (by rw [←hA];exact hx1))]
  rw [if_neg (by decide),if_neg (by decide),←hA,show decide (700≤A.length)=false by simp;omega]
  rfl
 rw [chg_create,←hA] at e1
 have P1:=newP_put (f:=⟨segName 1,[],0⟩) P0 ha1 hn1
 have P2:=newP_put (f:=⟨segName 1,firstH,0⟩) P0 ha1 hn1
 have P3:=newP_put (f:=⟨segName 1,firstH,22⟩) P0 ha1 hn1
 have c2:chgL d1.files (opAppend (segName 1) firstH)=putF ⟨segName 1,firstH,0⟩ A:=by
  rw [e1,chg_put (f:=⟨segName 1,[],0⟩) hx1 rfl (.inl rfl)]
  simp [chgF,opAppend]
 refine went_step o1 (by simp [opAppend]) (by simp [opAppend]) ?_ (by rw [if_pos (by simp [opAppend]),c2];exact P2) fun d2 e2 r2 n2 o2 f2=> ?_
 ·rw [bar_append,openE_on o1 n1 (x:=⟨segName 1,[],0⟩) (by rw [e1];exact at_put_same hx1),if_neg (by decide),e1,usedF_put,r1,hH]
  rw [show decide (d.room - (((([]:List UInt8)).length+usedF A:Nat):Int)<((22:Nat):Int))=false by simp;omega]
  rfl
 rw [c2] at e2
 have c3:chgL d2.files (opSync (segName 1))=putF ⟨segName 1,firstH,22⟩ A:=by
  rw [e2,chg_put (f:=⟨segName 1,firstH,0⟩) hx1 rfl (.inr (.inl rfl))]
  simp [chgF,opSync,hH]
 refine went_step o2 (by simp [opSync]) (by simp [opSync]) ?_ (by rw [if_neg (by simp [opSync]),e2];exact P2) fun d3 e3 r3 n3 o3 f3=> ?_
 ·rw [bar_sync]
  exact openE_on o2 n2 (x:=⟨segName 1,firstH,0⟩) (by rw [e2];exact at_put_same hx1)
 rw [c3] at e3
 obtain⟨S,hS⟩: ∃ S,S=putF ⟨segName 1,firstH,22⟩ A:=⟨_,rfl⟩
 rw [←hS] at e3 P3
 have hu:usedF S=22+usedF A:=by rw [hS,usedF_put];simp only [hH]
 have hln:S.length=A.length+1:=by rw [hS,putF_length]
 have hs2: ∀ x∈S,x.name≠tmpN:=fun x hx=>by
  rw [hS] at hx
  rcases mem_putF.1 hx with rfl | hx
  ·exact hn3
  ·exact hx2 x hx
 have hs3: ∀ x∈S,x.name≠manN:=fun x hx=>by
  rw [hS] at hx
  rcases mem_putF.1 hx with rfl | hx
  ·exact hn1
  ·exact hx3 x hx
 refine went_step o3 (by simp [opCreate]) (by simp [opCreate]) ?_ (by rw [if_neg (by simp [opCreate]),e3];exact P3) fun d4 e4 r4 n4 o4 f4=> ?_
 ·rw [bar_create,openE_off n3 hr2 (by rw [e3];exact none_of hs2)]
  rw [if_neg (by decide),if_neg (by decide),e3,hln,show decide (700≤A.length+1)=false by simp;omega]
  rfl
 rw [chg_create,e3] at e4
 have P4:=newP_put (f:=⟨tmpN,[],0⟩) P3 ha2 hn2
 have P5:=newP_put (f:=⟨tmpN,firstB,0⟩) P3 ha2 hn2
 have P6:=newP_put (f:=⟨tmpN,firstB,29⟩) P3 ha2 hn2
 have c5:chgL d4.files (opAppend tmpN firstB)=putF ⟨tmpN,firstB,0⟩ S:=by
  rw [e4,chg_put (f:=⟨tmpN,[],0⟩) hs2 rfl (.inl rfl)]
  simp [chgF,opAppend]
 refine went_step o4 (by simp [opAppend]) (by simp [opAppend]) ?_ (by rw [if_pos (by simp [opAppend]),c5];exact P5) fun d5 e5 r5 n5 o5 f5=> ?_
 ·rw [bar_append,openE_on o4 n4 (x:=⟨tmpN,[],0⟩) (by rw [e4];exact at_put_same hs2),if_neg (by decide),e4,usedF_put,r4,r3,r2,r1,hu,hB]
  rw [show decide (d.room - (((([]:List UInt8)).length+(22+usedF A):Nat):Int)<((29:Nat):Int))=false by simp;omega]
  rfl
 rw [c5] at e5
 have c6:chgL d5.files (opSync tmpN)=putF ⟨tmpN,firstB,29⟩ S:=by
  rw [e5,chg_put (f:=⟨tmpN,firstB,0⟩) hs2 rfl (.inr (.inl rfl))]
  simp [chgF,opSync,hB]
 refine went_step o5 (by simp [opSync]) (by simp [opSync]) ?_ (by rw [if_neg (by simp [opSync]),e5];exact P5) fun d6 e6 r6 n6 o6 f6=> ?_
 ·rw [bar_sync]
  exact openE_on o5 n5 (x:=⟨tmpN,firstB,0⟩) (by rw [e5];exact at_put_same hs2)
 rw [c6] at e6
 have c7:chgL d6.files (opRename tmpN manN)=firstF A:=by
  rw [e6,chg_rename (f:=⟨tmpN,firstB,29⟩) hs2 hs3,hS]
  rfl
 refine went_step o6 (by simp [opRename]) (by simp [opRename]) ?_ (by rw [if_neg (by simp [opRename]),e6];exact P6) fun d7 e7 r7 n7 o7 f7=> ?_
 ·rw [bar_rename,openE_on o6 n6 (x:=⟨tmpN,firstB,29⟩) (by rw [e6];exact at_put_same hs2),hr3]
  simp
 rw [c7] at e7
 exact went_nil o7 n7 e7
theorem first_done {room:Int} {A:List Fil} (hx1: ∀ x∈A,x.name≠segName 1) (hx3: ∀ x∈A,x.name≠manName) (hal: ∀ x∈A,alien x.name=true) (r:List (List UInt8)):Done room ⟨true,firstM,r,22,0⟩ (firstF A):=by
 have hn1:segName 1≠manName:=by rw [seg1];decide
 have hs3: ∀ x∈putF ⟨segName 1,firstH,22⟩ A,x.name≠manName:=fun x hx=>by
  rcases mem_putF.1 hx with rfl | hx
  ·exact hn1
  ·exact hx3 x hx
 have hm:atF (firstF A) manName=some ⟨manName,firstB,29⟩:=at_put_same (f:=⟨manName,firstB,29⟩) hs3
 have hg:atF (firstF A) (segName 1)=some ⟨segName 1,firstH,22⟩:=by
  unfold firstF
  rw [at_put_other (f:=⟨manName,firstB,29⟩) hn1.symm]
  exact at_put_same (f:=⟨segName 1,firstH,22⟩) hx1
 have h0:decMan firstB=(firstM,0):=first_dec
 have ha:actB (datF (firstF A) (segN firstM)) (lastSg firstM)=(22,0,true):=by
  show actB (datF (firstF A) (segName 1)) ⟨1,1,0,0⟩=_
  rw [datF_at hg]
  exact hdr_act
 have hst:((firstF A).map (·.name)).filter (strayN true firstM)=[]:=by
  rw [List.filter_eq_nil_iff]
  intro n hn
  obtain⟨f,hf,rfl⟩:=List.mem_map.1 hn
  have:strayN true firstM f.name=false:=by
   rcases mem_putF.1 hf with rfl | hf
   ·exact ns_man _ _
   ·rcases mem_putF.1 hf with rfl | hf
    ·exact ns_seg (g:=⟨1,1,0,0⟩) (manFine firstM_ok) (by simp [firstM])
    ·exact alien_ns (hal f hf) _ _
  rw [this]
  simp
 refine⟨?_,⟨segName 1,firstH,22⟩,hg,by rw [show firstH.length=22 from first_len.1];rfl,rfl⟩
 rw [find_man (datF_at hm) (by rw [h0]),h0]
 unfold manB
 rw [ha,hst]
 have e1:snapB (datF (firstF A) (bookName firstM.snap)) firstM=true:=by unfold snapB;rw [if_neg (by decide)]
 have e2:sealsB (firstF A) firstM.segs.dropLast=true:=rfl
 rw [e1,e2]
 rfl
theorem fresh_went {d:Disk} (hok:DiskOk d) (hd:d.down=false) (hm:datF d.files manName=none) {p:Pl} (hp:newB d.room d.files=(p,0)):
  Went (fun fs=>SafeIn d.files→Stays d.room (p,0) fs) (fun fs=>Done d.room p fs∧(SafeIn d.files→Stays d.room (p,0) fs)) d (applyD d p):=by
 have hpe:p=⟨true,firstM,(d.files.map (·.name)).filter (strayN false firstM),22,0⟩∧ ¬ (d.room - (usedF (aliens d.files):Int)<51∨698<(aliens d.files).length):=by
  unfold newB at hp
  split at hp
  ·simp at hp
  ·rename_i h
   simp only [Prod.mk.injEq,and_true] at hp
   exact⟨hp.symm,h⟩
 obtain⟨hpe,hfit⟩:=hpe
 have hfd:findB d.room d.files=(p,0):=by rw [find_new hm];exact hp
 have hdm: ∀ x∈d.files,x.name≠manName:=by
  rcases h:atF d.files manName with _ | y
  ·exact ne_of_none h
  ·rw [datF_at h] at hm;cases hm
 obtain⟨A,hA⟩: ∃ A,A=aliens d.files:=⟨_,rfl⟩
 rw [←hA] at hfit
 have hal: ∀ x∈A,alien x.name=true:=fun x hx=>by rw [hA] at hx;exact(List.mem_filter.1 hx).2
 have hAm: ∀ x∈A,x.name≠manName:=fun x hx=>by rw [hA] at hx;exact hdm x (List.mem_filter.1 hx).1
 have ha1:alien (segName 1)=false:=by rw [seg1];decide
 have hx1: ∀ x∈A,x.name≠segName 1:=fun x hx e=>by have:=hal x hx;rw [e,ha1] at this;cases this
 have hPS: ∀ fs,NewP A fs→(SafeIn d.files→Stays d.room (p,0) fs):=fun fs h hs=>by
  refine⟨?_,safe_new h.1 (by rw [h.2,hA];exact new_safe hm hs)⟩
  have:=finds_new (room:=d.room) hm h.1 (h.2.trans hA)
  rwa [hfd] at this
 have hP0:NewP A d.files:=⟨hm,hA.symm⟩
 have hap:applyD d p=runD d ((p.remove.map opRemove)++beginOps (segN firstM) (lastSg firstM) firstM):=by
  rw [hpe]
  unfold applyD refOps
  rw [show (⟨true,firstM,(d.files.map (·.name)).filter (strayN false firstM),22,0⟩:Pl).man=firstM from rfl,firstM_ok]
  rfl
 rw [hap]
 have hrm:p.remove=straysD d false firstM:=by rw [hpe];rfl
 rw [hrm]
 refine went_removes (I:=NewP A) hPS _ d _ hok hd (strays_nodup hok.rise _ _) (strays_sub d false firstM hok.rise).2 hP0 (fun fs n hn h=> ?_) fun d1 e1 r1 n1 o1 f1 _=> ?_
 ·have hs:strayN false firstM n=true:=(List.mem_filter.1 hn).2
  have hna:alien n=false:=by unfold alien;rw [strayN_false zeroM firstM,hs];rfl
  refine⟨?_,(aliens_take hna fs).trans h.2⟩
  have h1:=h.1
  unfold datF at h1 ⊢
  rw [at_take]
  ·exact h1
  ·rintro rfl
   rw [ns_man] at hs;cases hs
 ·have e1':d1.files=A:=by
   rw [e1,hA]
   show takes ((d.files.map (·.name)).filter (strayN false firstM)) d.files=_
   rw [takes_strays]
   unfold aliens alien
   refine List.filter_congr fun f _=> ?_
   rw [strayN_false zeroM firstM]
  have hdA:datF A manName=none:=datF_none (none_of hAm)
  have hw:=begin_went (d:=d1) o1 n1 (by rw [e1'];exact hdA) (by rw [e1',hA];exact aliens_twice _) (by rw [e1',r1];omega) (by rw [e1'];omega)
  rw [e1'] at hw
  refine hw.mono hPS fun fs hfs=> ?_
  subst hfs
  have hdone:Done d.room p (firstF A):=by rw [hpe];exact first_done hx1 hAm hal _
  refine⟨hdone,fun hs=>⟨?_,?_⟩⟩
  ·unfold Finds
   rw [hdone.1]
   exact⟨rfl,rfl,rfl,rfl⟩
  ·intro f hf _
   rcases mem_putF.1 hf with rfl | hf
   ·show (29:Int)=(firstB.length:Int)
    rw [show firstB.length=29 from first_len.2];rfl
   ·rcases mem_putF.1 hf with rfl | hf
    ·show (22:Int)=(firstH.length:Int)
     rw [show firstH.length=22 from first_len.1];rfl
    ·exact new_safe hm hs f (by rw [←hA];exact hf)
end Go.Proofs.YtcglcphhfmkccaaGreatDoor

namespace Go.Proofs.YtcglcphhfmkccaaGreatDoor
open Go.RowKit
theorem seg_ne_book {m:Man} (hf:ManFine m) (h0:0<m.snap) {g:Sg} (_:g∈m.segs):bookName m.snap≠segName g.num:=fun e=>by
 have h1:=hf.snap
 have h2:=hf.next
 have:=seg_book m.snap g.num (by omega)
 rw [e] at this
 simp at this
theorem seg_ne_last {m:Man} (hf:ManFine m) {g:Sg} (hg:g∈m.segs.dropLast):segName g.num≠segN m:=fun e=>by
 have hp:=(chain_nums _ _ _ _ hf.chain).1
 rw [(last_segs hf).1,List.pairwise_append] at hp
 have hlt:=hp.2.2 g hg (lastSg m) (by simp)
 have h1:=hf.seg g ((List.dropLast_subset _) hg)
 have h2:=hf.next
 have h3:=hf.seg (lastSg m) (last_mem hf)
 have:=seg_same (lastSg m).num g.num (by omega)
 rw [show segName (lastSg m).num=segN m from rfl,e] at this
 simp at this
 omega
theorem manB_cut {fs fs':List Fil} {m:Man} (hf:ManFine m) (h: ∀ n,strayN true m n=false→n≠segN m→datF fs' n=datF fs n) (ha:actB (datF fs' (segN m)) (lastSg m)=actB (datF fs (segN m)) (lastSg m)):
  (manB fs' m).2=(manB fs m).2∧(manB fs' m).1.man=(manB fs m).1.man∧(manB fs' m).1.cut=(manB fs m).1.cut∧(manB fs' m).1.last=(manB fs m).1.last:=by
 have h1:snapB (datF fs' (bookName m.snap)) m=snapB (datF fs (bookName m.snap)) m:=by
  by_cases h0:0<m.snap
  ·rw [h _ (ns_book hf h0) (seg_ne_book hf h0 (last_mem hf))]
  ·unfold snapB;rw [if_neg h0,if_neg h0]
 have h2:sealsB fs' m.segs.dropLast=sealsB fs m.segs.dropLast:=by
  unfold sealsB
  rw [Bool.eq_iff_iff,List.all_eq_true,List.all_eq_true]
  refine forall_congr' fun g=>forall_congr' fun hg=> ?_
  rw [h _ (ns_seg hf ((List.dropLast_subset _) hg)) (seg_ne_last hf hg)]
 unfold manB
 rw [h1,h2,ha]
 split
 ·exact⟨rfl,rfl,rfl,rfl⟩
 ·split
  ·exact⟨rfl,rfl,rfl,rfl⟩
  ·exact⟨rfl,rfl,rfl,rfl⟩
theorem manB_inv {fs:List Fil} {m:Man} {p:Pl} (h:manB fs m=(p,0)):p=⟨false,m,(fs.map (·.name)).filter (strayN true m),((actB (datF fs (segN m)) (lastSg m)).1:Int),p.last⟩∧(actB (datF fs (segN m)) (lastSg m)).2.2=true:=by
 unfold manB at h
 split at h
 ·simp at h
 ·split at h
  ·simp at h
  ·rename_i h2
   simp only [Prod.mk.injEq,and_true] at h
   rw [←h]
   refine⟨rfl,?_⟩
   rcases hx:(actB (datF fs (segN m)) (lastSg m)).2.2
   ·exact absurd (.inl hx) h2
   ·rfl
theorem chgL_set {fs:List Fil} {o:DOp} {x:Fil} (hr:Rise fs) (ha:atF fs o.name=some x) (h0:o.k≠0) (h3:o.k≠3) (h4:o.k≠4):chgL fs o=setF o.name (fun _=>chgF o x) fs:=by
 unfold chgL
 rw [chg_set (d:=stand 0 fs) (x:=x) hr ha h0 h3 h4]
 rfl
theorem at_set_same {n:List UInt8} {x y:Fil} {fs:List Fil} (ha:atF fs n=some x) (hy:y.name=n):atF (setF n (fun _=>y) fs) n=some y:=by
 induction fs with
 | nil=>cases ha
 | cons z r ih=>
  unfold atF setF at*
  rw [List.find?_cons] at ha
  rw [List.map_cons,List.find?_cons]
  by_cases hz:z.name=n
  ·rw [if_pos (by simpa using hz),show (y.name==n)=true by simpa using hy]
  ·rw [if_neg (by simpa using hz),show (z.name==n)=false by simpa using hz]
   rw [show (z.name==n)=false by simpa using hz] at ha
   exact ih ha
theorem at_set_other {n k:List UInt8} {y:Fil} (hy:y.name=n) (hk:k≠n): ∀ {fs:List Fil},atF (setF n (fun _=>y) fs) k=atF fs k
 | []=>rfl
 | z::r=>by
  have ih:=at_set_other hy hk (fs:=r)
  unfold atF setF at*
  rw [List.map_cons,List.find?_cons,List.find?_cons,ih]
  by_cases hz:z.name=n
  ·rw [if_pos (by simpa using hz),show (y.name==k)=false by rw [hy];simpa using hk.symm,show (z.name==k)=false by rw [hz];simpa using hk.symm]
  ·rw [if_neg (by simpa using hz)]
structure LastAt (fs0:List Fil) (m:Man) (cut:Nat) (x y:Fil) (fs:List Fil):Prop where
 rise:Rise fs
 at_:atF fs (segN m)=some y
 oth: ∀ k,strayN true m k=false→k≠segN m→atF fs k=atF fs0 k
 all: ∀ f∈fs,f=y∨f∈fs0
 ns: ∀ f∈fs,strayN true m f.name=false
 dat:actB (some y.data) (lastSg m)=actB (some x.data) (lastSg m)
 len:cut≤y.data.length
 saf:SafeIn fs0→y.safe=(y.data.length:Int)
theorem LastAt.name {fs0:List Fil} {m:Man} {cut:Nat} {x y:Fil} {fs:List Fil} (h:LastAt fs0 m cut x y fs):y.name=segN m:=(at_name h.at_).1
theorem LastAt.finds {room:Int} {fs0:List Fil} {m:Man} {cut:Nat} {x y:Fil} {fs:List Fil} {b:List UInt8} (h:LastAt fs0 m cut x y fs) (hm:datF fs0 manName=some b) (h0:decMan b=(m,0)) (hx:atF fs0 (segN m)=some x):Finds room (findB room fs0) fs:=by
 have hf:ManFine m:=by have:=manFine (decMan_ok (b:=b) (by rw [h0]));rwa [h0] at this
 have hmn:manName≠segN m:=fun e=>by
  have h1:=hf.seg _ (last_mem hf)
  have h2:=hf.next
  rw [show segN m=segName (lastSg m).num from rfl,segName_eq _ (by omega)] at e
  simp [manName,segPre] at e
 have h':datF fs manName=some b:=by
  have:=h.oth _ (ns_man _ _) hmn
  unfold datF at hm ⊢
  rw [this];exact hm
 unfold Finds
 rw [find_man hm (by rw [h0]),find_man h' (by rw [h0]),h0]
 refine manB_cut hf (fun n h1 h2=>by unfold datF;rw [h.oth n h1 h2]) ?_
 rw [datF_at h.at_,datF_at hx]
 exact h.dat
theorem LastAt.man {fs0:List Fil} {m:Man} {cut:Nat} {x y:Fil} {fs:List Fil} {b:List UInt8} (h:LastAt fs0 m cut x y fs) (hm:datF fs0 manName=some b) (h0:decMan b=(m,0)):datF fs manName=some b:=by
 have hf:ManFine m:=by have:=manFine (decMan_ok (b:=b) (by rw [h0]));rwa [h0] at this
 have hmn:manName≠segN m:=fun e=>by
  have h1:=hf.seg _ (last_mem hf)
  have h2:=hf.next
  rw [show segN m=segName (lastSg m).num from rfl,segName_eq _ (by omega)] at e
  simp [manName,segPre] at e
 have:=h.oth _ (ns_man _ _) hmn
 unfold datF at hm ⊢
 rw [this];exact hm
theorem LastAt.stays {room:Int} {p:Pl} {fs0:List Fil} {m:Man} {cut:Nat} {x y:Fil} {fs:List Fil} {b:List UInt8} (h:LastAt fs0 m cut x y fs) (hm:datF fs0 manName=some b) (h0:decMan b=(m,0)) (hx:atF fs0 (segN m)=some x) (hp:findB room fs0=(p,0)) (hs:SafeIn fs0):Stays room (p,0) fs:=by
 refine⟨by have:=h.finds (room:=room) hm h0 hx;rwa [hp] at this,fun f hf _=> ?_⟩
 rcases h.all f hf with rfl | h1
 ·exact h.saf hs
 ·obtain⟨e1,e2⟩:=man_there hm
  refine hs f h1 ?_
  rw [e1,e2,h0]
  exact h.ns f hf
theorem LastAt.set {fs0:List Fil} {m:Man} {cut:Nat} {x y z:Fil} {fs:List Fil} (hf:ManFine m) (h:LastAt fs0 m cut x y fs) (hz:z.name=segN m) (hd:actB (some z.data) (lastSg m)=actB (some x.data) (lastSg m)) (hl:cut≤z.data.length) (hs:SafeIn fs0→z.safe=(z.data.length:Int)):
  LastAt fs0 m cut x z (setF (segN m) (fun _=>z) fs):=by
 refine⟨rise_set' h.rise fun f _ e=>by rw [hz,e],at_set_same h.at_ hz,fun k h1 h2=>(at_set_other hz h2).trans (h.oth k h1 h2),fun f hfm=> ?_,fun f hfm=> ?_,hd,hl,hs⟩
 ·obtain⟨u,hu,e⟩:=List.mem_map.1 hfm
  by_cases hn:u.name=segN m
  ·rw [if_pos (by simpa using hn)] at e
   exact .inl e.symm
  ·rw [if_neg (by simpa using hn)] at e
   subst e
   rcases h.all u hu with rfl | h1
   ·exact absurd h.name hn
   ·exact .inr h1
 ·rcases mem_setF hfm with rfl | h1
  ·rw [hz];exact ns_seg hf (last_mem hf)
  ·exact h.ns f h1
theorem LastAt.done {room:Int} {p:Pl} {fs0:List Fil} {m:Man} {cut:Nat} {x y:Fil} {fs:List Fil} {b:List UInt8} (h:LastAt fs0 m cut x y fs) (hm:datF fs0 manName=some b) (h0:decMan b=(m,0)) (hx:atF fs0 (segN m)=some x) (hp:findB room fs0=(p,0)) (hpm:p.man=m)
  (h1:(y.data.length:Int)=p.cut) (h2:y.safe=p.cut):Done room p fs:=by
 refine⟨?_,y,by rw [hpm];exact h.at_,h1,h2⟩
 have hfi:=h.finds (room:=room) hm h0 hx
 have hm':=h.man hm h0
 rw [hp] at hfi
 unfold Finds at hfi
 rw [find_man hm' (by rw [h0]),h0] at hfi ⊢
 obtain⟨g1,g2,g3,g4⟩:=hfi
 have hst:(fs.map (·.name)).filter (strayN true m)=[]:=by
  rw [List.filter_eq_nil_iff]
  intro n hn
  obtain⟨f,hf,rfl⟩:=List.mem_map.1 hn
  rw [h.ns f hf]
  simp
 obtain⟨q,hq⟩: ∃ q,q=(manB fs m).1:=⟨_,rfl⟩
 have he:manB fs m=(q,0):=by rw [hq];exact Prod.ext rfl g1
 obtain⟨i1,_⟩:=manB_inv he
 rw [hst] at i1
 rw [←hq] at g2 g3 g4
 rw [he]
 congr 1
 obtain⟨a1,a2,a3,a4,a5⟩:=q
 simp only [Pl.mk.injEq] at i1
 simp only at g2 g3 g4
 obtain⟨j1,j2,j3,j4,_⟩:=i1
 subst g2 g3 g4 j1 j3
 rfl
theorem man_went {d:Disk} (hok:DiskOk d) (hd:d.down=false) {b:List UInt8} (hm:datF d.files manName=some b) (h0:(decMan b).2=0) {p:Pl} (hp:manB d.files (decMan b).1=(p,0)):
  Went (fun fs=>SafeIn d.files→Stays d.room (p,0) fs) (fun fs=>Done d.room p fs∧(SafeIn d.files→Stays d.room (p,0) fs)) d (applyD d p):=by
 obtain⟨m,hmm⟩: ∃ m,m=(decMan b).1:=⟨_,rfl⟩
 have hdm:decMan b=(m,0):=by rw [hmm];exact Prod.ext rfl h0
 rw [←hmm] at hp
 have hmo:manOk m=true:=by rw [hmm];exact decMan_ok h0
 have hf:=manFine hmo
 have hfd:findB d.room d.files=(p,0):=by rw [find_man hm h0,←hmm];exact hp
 obtain⟨hpe,hact⟩:=manB_inv hp
 obtain⟨fs0,hfs⟩: ∃ fs0,fs0=d.files:=⟨_,rfl⟩
 have hok0:=hok
 obtain⟨x,hx⟩: ∃ x,atF d.files (segN m)=some x:=by
  rcases h:atF d.files (segN m) with _ | x
  ·rw [datF_none h] at hact;cases hact
  ·exact⟨x,rfl⟩
 rw [datF_at hx] at hact hpe
 obtain⟨hcut,hc20,hcl⟩:=actB_cut hact
 obtain⟨cut,hcu⟩: ∃ c,c=(actB (some x.data) (lastSg m)).1:=⟨_,rfl⟩
 rw [←hcu] at hcut hc20 hcl hpe
 have hns:strayN true m (segN m)=false:=ns_seg hf (last_mem hf)
 have hpm:p.man=m:=by rw [hpe]
 have hpc:p.cut=(cut:Int):=by rw [hpe]
 have hpr:p.remove=straysD d true m:=by rw [hpe];rfl
 have hpf:p.fresh=false:=by rw [hpe]
 have hlen:x.data.length≤67108864:=by
  have h1:=len_le_used (at_name hx).2
  have h2:=hok.used
  have h3:=hok.room
  omega
 have hap:applyD d p=runD d ((straysD d true m).map opRemove++(opSize (segN m)::((if (cut:Int)<(x.data.length:Int) then [opCut (segN m) cut] else [])++[opSync (segN m)]))):=by
  unfold applyD refOps remOps
  rw [hpm,hmo,hpf,hpr,hpc]
  have:(straysD d true m).any (fun y=>y==segN m)=false:=by
   rw [List.any_eq_false]
   intro y hy e
   have h1:strayN true m y=true:=(List.mem_filter.1 hy).2
   rw [eq_of_beq e,hns] at h1
   cases h1
  rw [this]
  simp only [Bool.false_eq_true,if_false,if_true]
  rw [hx]
  rfl
 rw [hap]
 have hsafe0:SafeIn d.files→x.safe=(x.data.length:Int):=fun hs=>by
  obtain⟨g1,g2⟩:=at_name hx
  obtain⟨e1,e2⟩:=man_there hm
  refine hs x g2 ?_
  rw [e1,e2,hdm,g1]
  exact hns
 have hIP: ∀ fs,((∀ k,strayN true m k=false→atF fs k=atF d.files k)∧ ∀ f∈fs,f∈d.files)→(SafeIn d.files→Stays d.room (p,0) fs):=fun fs h hs=>by
  have hm':datF fs manName=some b:=by
   unfold datF at hm ⊢
   rw [h.1 _ (ns_man _ _)];exact hm
  refine⟨?_,fun f hf h2=> ?_⟩
  ·have:=finds_man (room:=d.room) hm h0 (fs':=fs) fun n hn=>by unfold datF;rw [h.1 n (by rw [hmm];exact hn)]
   rwa [hfd] at this
  ·obtain⟨e1,e2⟩:=man_there hm
   obtain⟨e3,e4⟩:=man_there hm'
   refine hs f (h.2 f hf) ?_
   rw [e3,e4] at h2
   rw [e1,e2]
   exact h2
 refine went_removes (I:=fun fs=>(∀ k,strayN true m k=false→atF fs k=atF d.files k)∧ ∀ f∈fs,f∈d.files) hIP _ d _ hok hd (strays_nodup hok.rise _ _) (strays_sub d true m hok.rise).2 ⟨fun _ _=>rfl,fun _ h=>h⟩ (fun fs n hn h=> ?_) fun d1 e1 r1 n1 o1 f1 hI=> ?_
 ·have hs:strayN true m n=true:=(List.mem_filter.1 hn).2
  refine⟨fun k hk=> ?_,fun f hfm=>h.2 f (List.mem_filter.1 hfm).1⟩
  rw [at_take]
  ·exact h.1 k hk
  ·rintro rfl
   rw [hk] at hs;cases hs
 ·have e1':d1.files=d.files.filter fun f=> !(strayN true m f.name):=by
   rw [e1]
   exact takes_strays _ _
  have hx1:atF d1.files (segN m)=some x:=(hI.1 _ hns).trans hx
  have hns1: ∀ f∈d1.files,strayN true m f.name=false:=fun f hfm=>by
   rw [e1'] at hfm
   have hns2:=(List.mem_filter.1 hfm).2
   simpa using hns2
  have L1:LastAt d.files m cut x x d1.files:=⟨o1.rise,hx1,fun k hk _=>hI.1 k hk,fun f hfm=> .inr (hI.2 f hfm),fun f hfm=>hns1 f hfm,rfl,hcl,hsafe0⟩
  rw [runD_go (by rw [sizeO (openE_on o1 n1 hx1) hx1]),sizeO (openE_on o1 n1 hx1) hx1]
  show Went _ _ d1 (runD d1 _)
  have hsync: ∀ (d2:Disk) (y:Fil),DiskOk d2→d2.down=false→d2.room=d.room→LastAt d.files m cut x y d2.files→y.data.length=cut→Went (fun fs=>SafeIn d.files→Stays d.room (p,0) fs) (fun fs=>Done d.room p fs∧(SafeIn d.files→Stays d.room (p,0) fs)) d2 (runD d2 [opSync (segN m)]):=fun d2 y o2 n2 r2 L2 hyl=>by
   refine went_step o2 (by simp [opSync]) (by simp [opSync]) (by rw [bar_sync];exact openE_on o2 n2 L2.at_) (by rw [if_neg (by simp [opSync])];exact fun hs=>L2.stays hm hdm hx hfd hs) fun d3 e3 r3 n3 o3 f3=> ?_
   have c3:chgL d2.files (opSync (segN m))=setF (segN m) (fun _=>{y with safe:=(y.data.length:Int)}) d2.files:=by
    rw [chgL_set (x:=y) o2.rise L2.at_ (by simp [opSync]) (by simp [opSync]) (by simp [opSync])]
    simp [chgF,opSync]
   rw [c3] at e3
   have L3:=L2.set hf (z:={y with safe:=(y.data.length:Int)}) L2.name L2.dat L2.len (fun _=>rfl)
   rw [←e3] at L3
   exact went_nil o3 n3 ⟨L3.done hm hdm hx hfd hpm (by show (y.data.length:Int)=_;rw [hpc,hyl]) (by show (y.data.length:Int)=_;rw [hpc,hyl]),fun hs=>L3.stays hm hdm hx hfd hs⟩
  by_cases hlt:(cut:Int)<(x.data.length:Int)
  ·rw [if_pos hlt]
   show Went _ _ d1 (runD d1 (opCut (segN m) cut::[opSync (segN m)]))
   refine went_step o1 (by simp [opCut]) (by simp [opCut];omega) ?_ (by rw [if_neg (by simp [opCut])];exact fun hs=>L1.stays hm hdm hx hfd hs) fun d2 e2 r2 n2 o2 f2=> ?_
   ·rw [bar_cut,openE_on o1 n1 hx1,hx1,if_neg (by decide)]
    dsimp only
    rw [if_neg]
    simp
    omega
   ·have c2:chgL d1.files (opCut (segN m) cut)=setF (segN m) (fun _=>{x with data:=x.data.take cut,safe:=if (cut:Int)<x.safe then (cut:Int) else x.safe}) d1.files:=by
     rw [chgL_set (x:=x) o1.rise hx1 (by simp [opCut]) (by simp [opCut]) (by simp [opCut])]
     simp [chgF,opCut]
     rfl
    rw [c2] at e2
    have hl2:(x.data.take cut).length=cut:=by rw [List.length_take];omega
    have L2:=L1.set hf (z:={x with data:=x.data.take cut,safe:=if (cut:Int)<x.safe then (cut:Int) else x.safe}) L1.name hcut (by show cut≤(x.data.take cut).length;omega) (fun hs=>by
     show (if (cut:Int)<x.safe then (cut:Int) else x.safe)=((x.data.take cut).length:Int)
     rw [hl2,if_pos (by rw [hsafe0 hs];exact hlt)])
    rw [←e2] at L2
    exact hsync d2 _ o2 n2 (r2.trans r1) L2 hl2
  ·rw [if_neg hlt]
   exact hsync d1 x o1 n1 r1 L1 (by omega)
theorem apply_went {d:Disk} (hok:DiskOk d) (hd:d.down=false) {p:Pl} (hp:findB d.room d.files=(p,0)):
  Went (fun fs=>SafeIn d.files→Stays d.room (p,0) fs) (fun fs=>Done d.room p fs∧(SafeIn d.files→Stays d.room (p,0) fs)) d (applyD d p):=by
 rcases hm:datF d.files manName with _ | b
 ·rw [find_new hm] at hp
  exact fresh_went hok hd hm hp
 ·have h0:(decMan b).2=0:=by
   unfold findB at hp
   rw [hm] at hp
   dsimp only at hp
   by_cases h0:(decMan b).2=0
   ·exact h0
   ·rw [if_pos h0] at hp
    simp at hp
  rw [find_man hm h0] at hp
  exact man_went hok hd hm h0 hp
end Go.Proofs.YtcglcphhfmkccaaGreatDoor

namespace Go.Proofs.YtcglcphhfmkccaaGreatDoor
open Go.RowKit
def runR (d:Disk):(Pl×Int)×Disk:=
 if (planD d).1.2≠0 then ((planZ,(planD d).1.2),rdD d (planD d).2)
 else if (applyD (rdD d (planD d).2) (planD d).1.1).2≠0 then ((planZ,(applyD (rdD d (planD d).2) (planD d).1.1).2),(applyD (rdD d (planD d).2) (planD d).1.1).1)
 else ((planD d).1,(applyD (rdD d (planD d).2) (planD d).1.1).1)
theorem runR_bad {d:Disk} (h:(planD d).1.2≠0):runR d=((planZ,(planD d).1.2),rdD d (planD d).2):=by unfold runR;rw [if_pos h]
theorem runR_off {d:Disk} (h:(planD d).1.2=0) (h2:(applyD (rdD d (planD d).2) (planD d).1.1).2≠0):runR d=((planZ,(applyD (rdD d (planD d).2) (planD d).1.1).2),(applyD (rdD d (planD d).2) (planD d).1.1).1):=by unfold runR;rw [if_neg (fun k=>k h),if_pos h2]
theorem runR_good {d:Disk} (h:(planD d).1.2=0) (h2:(applyD (rdD d (planD d).2) (planD d).1.1).2=0):runR d=((planD d).1,(applyD (rdD d (planD d).2) (planD d).1.1).1):=by unfold runR;rw [if_neg (fun k=>k h),if_neg (fun k=>k h2)]
theorem plan_manOk {d:Disk} (h:(planD d).1.2=0):manOk (planD d).1.1.man=true:=by
 unfold planD at h ⊢
 split at h
 ·rename_i h1
  exfalso
  simp only at h
  split at h
  ·cases h
  ·exact h1 h
 ·rename_i h1
  rw [if_neg h1]
  split at h
  ·rename_i h2
   rw [if_pos h2]
   unfold freshD at h ⊢
   split at h
   ·cases h
   ·rename_i h3
    simp only [if_neg h3]
    exact firstM_ok
  ·rename_i h2
   rw [if_neg h2]
   have hlo:=load_ok (d:=d) (by simpa using h2)
   simp only at h ⊢
   unfold planM at h ⊢
   split at h
   ·cases h
   ·rename_i h3
    rw [if_neg h3]
    split at h
    ·cases h
    ·rename_i h4
     rw [if_neg h4]
     split at h
     ·cases h
     ·rename_i h5
      rw [if_neg h5]
      exact hlo.1
theorem plan_rems {d:Disk} (hc:d.files.length≤700) (h:(planD d).1.2=0):(planD d).1.1.remove.length≤700:=by
 obtain⟨_,_,t,m,e⟩:=plan_good h
 rw [e]
 exact Nat.le_trans (strays_len d t m) hc
theorem StIn.low {A:Nat→Prop} {w:World} {v:Value} {l:List (List UInt8)} (h:StIn A w v l):StIn (fun k=>A k∧k<w.heap.size) w v l:=by
 obtain⟨oa,cap,h1,h2,h3,h4⟩:=h
 exact⟨oa,cap,h1,h2,h3,fun i x hx=>by obtain⟨b,off,e,ha,hc⟩:=h4 i x hx;exact⟨b,off,e,⟨ha,World.block_lt_of_cell? w _ hc⟩,hc⟩⟩
def RunQ (w:World) (f m:Nat) (L:List Slot) (r:(Pl×Int)×Disk) (e:Ending) (w':World):Prop:=
 ∃ sv rv L',e= .returned (.tuple #[plV r.1.1 sv rv,.int .i64 r.1.2])∧SgIn (fun k=>w.heap.size≤k∧ ¬ foot f m L' k) w' sv r.1.1.man.segs∧StIn (fun k=>w.heap.size≤k∧ ¬ foot f m L' k) w' rv r.1.1.remove∧sv.oneCell'=true∧rv.oneCell'=true∧
  FsAt w' f m r.2 L'∧Turned (foot f m L) w w'∧ ∀ k,foot f m L' k→foot f m L k∨w.heap.size≤k
set_option maxRecDepth 100000 in
set_option maxHeartbeats 8000000 in
theorem run_any (w:World) (f m:Nat) (d:Disk) (L:List Slot) (h:FsAt w f m d L) (hn:NibTab w) (hg: ¬ foot f m L 0) (hst:d.steps≤1152921504606846976):
  Calls Tryz.prog 10 #[.pointer (some ⟨f,0,none⟩)] w (RunQ w f m L (runR d)):=by
 have hff:foot f m L f:= .inl rfl
 have HLT:=Lib.hid h.lt
 have HB0:=Lib.hid (below_alloc w (.cells (plCs planZ (.slice none 0 0) (.slice none 0 0)) 37))
 have HR0:=Lib.hid (plBlk_alloc w planZ (.slice none 0 0) (.slice none 0 0))
 have HPL:=Lib.hid (plan_any _ f m d L (h.below HB0.out) (hn.below HB0.out))
 have HE1:=Lib.hid (@runR_bad d)
 have HE2:=Lib.hid (@runR_off d)
 have HE3:=Lib.hid (@runR_good d)
 have HMO:=Lib.hid (@plan_manOk d)
 have HRM:=Lib.hid (@plan_rems d h.ok.count)
 have HBAD:=Lib.hid (@plan_bad d)
 have HNB:=Lib.hid hn
 have HNL:=Lib.hid hn.lt
 have HNG:=Lib.hid hg
 have HST:=Lib.hid hst
 have hfl:=h.hd.lt
 have HF:=Lib.hid (show f<w.heap.size from hfl)
 have HFO:=Lib.hid hff
 simp only [plCs,planZ,zeroM] at HB0 HR0 HPL
 obtain⟨r,hr⟩: ∃ r,r=planD d:=⟨_,rfl⟩
 rw [←hr] at HPL HE1 HE2 HE3 HMO HRM HBAD
 clear h hn hg hst hr hfl hff
 obtain⟨⟨p,e0⟩,nr⟩:=r
 unfold PlanP at HPL
 dsimp only at HPL HE1 HE2 HE3 HMO HRM HBAD
 go_enter Tryz.func10,Tryz.ntmps10
 go_wp2_with fail
 refine HPL.out.mono ?_
 rintro e w1 ⟨sv,rv,rfl,hsg,hsr,hone,hrone,hf1,ht1⟩
 have HONE:=Lib.hid hone
 have HRONE:=Lib.hid hrone
 have HF1:=Lib.hid hf1
 have hsz0:w.heap.size<(w.alloc (.cells #[.bool false,.int .i64 0,.int .i64 0,.int .i64 0,.int .i64 0,.int .i64 0,.slice none 0 0,.slice none 0 0,.int .i64 0,.int .i64 0] 37)).heap.size:=HR0.out.lt
 have hsz1:=ht1.size
 have HSG1:=Lib.hid ((hsg.mono (A':=fun k=>w.heap.size<k) (fun k hk=>by omega)))
 have HSR1:=Lib.hid ((hsr.mono (A':=fun k=>w.heap.size<k) (fun k hk=>by omega)))
 have HR1:=Lib.hid (HR0.out.kept (ht1.block _ HR0.out.lt (fun hc=>by have:=HF.out;omega)))
 have HT1:=Lib.hid (show Turned (fun i=>i=f) w w1 from(Turned.below HB0.out).trans ht1 fun i hi=> .inl hi)
 have HPz:=Lib.hid (plBlk_alloc w1 planZ (.slice none 0 0) (.slice none 0 0))
 have hba:=below_alloc w1 (.cells (plCs planZ (.slice none 0 0) (.slice none 0 0)) 37)
 simp only [plCs,planZ,zeroM] at HPz hba
 clear hone hrone hsg hsr hf1 ht1 HPL HR0 HB0
 go_wp2_with (with_reducible refine wpList_store_pl rfl (.tmp 4) (.tmp 10) rfl w1.heap.size ⟨false,⟨0,0,0,0,0,[]⟩,[],0,0⟩ p (.slice none 0 0) (.slice none 0 0) sv rv rfl rfl HPz.out HONE.out HRONE.out ?_)
 intro w2 hw2
 have hb2:Below w1.heap.size w1 w2:=by rw [hw2.out];exact below_row hba (Nat.le_refl _) _
 have HP2:=Lib.hid (show PlBlk w2 w1.heap.size p sv rv by rw [hw2.out];exact HPz.out.row)
 have HF2:=Lib.hid (HF1.out.below hb2)
 have HSG2:=Lib.hid (HSG1.out.below hb2)
 have HSR2:=Lib.hid (HSR1.out.below hb2)
 have HR2:=Lib.hid (HR1.out.below hb2)
 have HT2:=Lib.hid (HT1.out.trans (Turned.below (S:=fun i=>i=f) hb2) fun i hi=> .inl hi)
 have HNB2:=Lib.hid (show NibTab w2 from HNB.out.turned HT2.out (fun e=>HNG.out (by rw [e];exact HFO.out)) HNL.out)
 have hbb:w.heap.size<w1.heap.size:=HR1.out.lt
 clear hw2 hb2 hba HPz HF1 HSG1 HSR1 HR1 HT1 HNB
 generalize hb1e:w1.heap.size=b1 at*
 rcases he:(e0 != 0) with _ | _
 case true=>
  have hne:e0≠0:=by simpa using he
  have HE:=Lib.hid (HE1.out hne)
  clear hne hb1e
  go_wp2_with (with_reducible refine wpList_store_pl rfl (.tmp 2) (.tmp 14) rfl w.heap.size ⟨false,⟨0,0,0,0,0,[]⟩,[],0,0⟩ ⟨false,⟨0,0,0,0,0,[]⟩,[],0,0⟩ (.slice none 0 0) (.slice none 0 0) (.slice none 0 0) (.slice none 0 0) rfl rfl HR2.out rfl rfl ?_)
  intro w3 hw3
  have HR3:=Lib.hid (show PlBlk w3 w.heap.size planZ (.slice none 0 0) (.slice none 0 0) by rw [hw3.out];exact HR2.out.row)
  have ht3:Turned (fun k=>k=w.heap.size) w2 w3:=by rw [hw3.out];exact run_setRow_turned _ _ _
  have HF3:=Lib.hid (HF2.out.turned ht3 (fun k hk e=>by have:=HLT.out k hk;omega))
  have HT3:=Lib.hid (show Turned (foot f m L) w w3 from(HT2.out.trans ht3 fun i hi=> .inr (by omega)).mono fun i hi=>by subst hi;exact HFO.out)
  clear hw3 ht3
  go_wp2
  refine bodyPost_ret (v:= .tuple #[plV planZ (.slice none 0 0) (.slice none 0 0),.int .i64 e0]) (results_pl2 rfl _ _ w.heap.size planZ (.slice none 0 0) (.slice none 0 0) _ rfl rfl HR3.out) rfl ?_
  rw [HE.out]
  exact⟨_,_,L,rfl,⟨none,0,rfl,Nat.le_refl _,by decide,fun i x hx=>by simp [planZ,zeroM] at hx⟩,⟨none,0,rfl,Nat.le_refl _,by decide,fun i x hx=>by simp [planZ] at hx⟩,rfl,rfl,HF3.out,HT3.out,fun k hk=> .inl hk⟩
 case false=>
  have h0:e0=0:=by simpa using he
  subst h0
  clear HE1 HBAD he
  have HMO':=Lib.hid (HMO.out rfl)
  have HRM':=Lib.hid (HRM.out rfl)
  have HE2':=Lib.hid (HE2.out rfl)
  have HE3':=Lib.hid (HE3.out rfl)
  have hnf: ∀ k,w.heap.size<k→ ¬ foot f m L k:=fun k hk hc=>by have:=HLT.out k hc;omega
  have HRA:=Lib.hid (recApply_good w2 f m (rdD d nr) L HF2.out p sv rv (HSG2.out.mono hnf) (HSR2.out.mono hnf) HNB2.out HNG.out (by show d.steps+(p.remove.length:Int)+16<_;have:=HST.out;have:=HRM'.out;omega) HMO'.out)
  have HNF:=Lib.hid hnf
  clear HE2 HE3 HMO HRM hnf
  obtain⟨a,ha⟩: ∃ a,a=applyD (rdD d nr) p:=⟨_,rfl⟩
  rw [←ha] at HRA HE2' HE3'
  clear ha
  obtain⟨d',ea⟩:=a
  unfold RunPost at HRA
  dsimp only at HRA HE2' HE3'
  go_wp2_with (with_reducible refine wpList_load_pl rfl (.tmp 4) rfl b1 p sv rv rfl HP2.out ?_)
  refine HRA.out.mono ?_
  rintro e w3 ⟨rfl,hp⟩
  have HP3:=Lib.hid (HP2.out.kept (hp.block HP2.out.lt (HNF.out _ hbb)))
  have HR3:=Lib.hid (HR2.out.kept (hp.block HR2.out.lt (fun hc=>by have:=HLT.out _ hc;omega)))
  obtain⟨L',hf3,ht3,hl3⟩:=hp
  have hw12:=HT2.out.size
  have HF3:=Lib.hid hf3
  have HSG3:=Lib.hid (HSG2.out.low.turned ht3 (fun k hk=>HNF.out k hk.1))
  have HSR3:=Lib.hid (HSR2.out.low.turned ht3 (fun k hk=>HNF.out k hk.1))
  have HT3:=Lib.hid (show Turned (foot f m L) w w3 from(HT2.out.mono fun i hi=>by subst hi;exact HFO.out).trans ht3 fun i hi=> .inl hi)
  have HL3:=Lib.hid (show ∀ k,foot f m L' k→foot f m L k∨w2.heap.size≤k from hl3)
  have hlt2:b1<w2.heap.size:=HP2.out.lt
  clear hf3 ht3 hl3 HRA HP2 HR2 HF2 HSG2 HSR2 HT2 HNB2 hb1e
  rcases he:(ea != 0) with _ | _
  case true=>
   have hne:ea≠0:=by simpa using he
   have HE:=Lib.hid (HE2'.out hne)
   clear hne
   go_wp2_with (with_reducible refine wpList_store_pl rfl (.tmp 2) (.tmp 21) rfl w.heap.size ⟨false,⟨0,0,0,0,0,[]⟩,[],0,0⟩ ⟨false,⟨0,0,0,0,0,[]⟩,[],0,0⟩ (.slice none 0 0) (.slice none 0 0) (.slice none 0 0) (.slice none 0 0) rfl rfl HR3.out rfl rfl ?_)
   intro w4 hw4
   have HR4:=Lib.hid (show PlBlk w4 w.heap.size planZ (.slice none 0 0) (.slice none 0 0) by rw [hw4.out];exact HR3.out.row)
   have ht4:Turned (fun k=>k=w.heap.size) w3 w4:=by rw [hw4.out];exact run_setRow_turned _ _ _
   have HF4:=Lib.hid (HF3.out.turned ht4 (fun k hk e=>by
    subst e
    rcases HL3.out _ hk with h | h
    ·have:=HLT.out _ h;omega
    ·omega))
   have HT4:=Lib.hid (show Turned (foot f m L) w w4 from(HT3.out.trans ht4 fun i hi=> .inr (by omega)))
   clear hw4 ht4
   go_wp2
   refine bodyPost_ret (v:= .tuple #[plV planZ (.slice none 0 0) (.slice none 0 0),.int .i64 ea]) (results_pl2 rfl _ _ w.heap.size planZ (.slice none 0 0) (.slice none 0 0) _ rfl rfl HR4.out) rfl ?_
   rw [HE.out]
   exact⟨_,_,L',rfl,⟨none,0,rfl,Nat.le_refl _,by decide,fun i x hx=>by simp [planZ,zeroM] at hx⟩,⟨none,0,rfl,Nat.le_refl _,by decide,fun i x hx=>by simp [planZ] at hx⟩,rfl,rfl,HF4.out,HT4.out,fun k hk=>(HL3.out k hk).imp id (fun h=>by omega)⟩
  case false=>
   have h0:ea=0:=by simpa using he
   subst h0
   have HE:=Lib.hid (HE3'.out rfl)
   go_wp2_with (first | (with_reducible refine wpList_load_pl rfl (.tmp 4) rfl b1 p sv rv rfl HP3.out ?_) | (with_reducible refine wpList_store_pl rfl (.tmp 2) (.tmp 23) rfl w.heap.size ⟨false,⟨0,0,0,0,0,[]⟩,[],0,0⟩ p (.slice none 0 0) (.slice none 0 0) sv rv rfl rfl HR3.out HONE.out HRONE.out ?_))
   intro w4 hw4
   have HR4:=Lib.hid (show PlBlk w4 w.heap.size p sv rv by rw [hw4.out];exact HR3.out.row)
   have ht4:Turned (fun k=>k=w.heap.size) w3 w4:=by rw [hw4.out];exact run_setRow_turned _ _ _
   have HF4:=Lib.hid (HF3.out.turned ht4 (fun k hk e=>by
    subst e
    rcases HL3.out _ hk with h | h
    ·have:=HLT.out _ h;omega
    ·omega))
   have HT4:=Lib.hid (show Turned (foot f m L) w w4 from(HT3.out.trans ht4 fun i hi=> .inr (by omega)))
   have hA: ∀ k,w.heap.size<k∧k<w2.heap.size→w.heap.size≤k∧ ¬ foot f m L' k:=fun k hk=>⟨by omega,fun hc=>by
    rcases HL3.out _ hc with h | h
    ·have:=HLT.out _ h;omega
    ·omega⟩
   have HSG4:=Lib.hid ((HSG3.out.turned ht4 (fun k hk=>by omega)).mono hA)
   have HSR4:=Lib.hid ((HSR3.out.turned ht4 (fun k hk=>by omega)).mono hA)
   clear hw4 ht4 hA
   go_wp2
   refine bodyPost_ret (v:= .tuple #[plV p sv rv,.int .i64 0]) (results_pl2 rfl _ _ w.heap.size p sv rv _ rfl rfl HR4.out) rfl ?_
   rw [HE.out]
   exact⟨_,_,L',rfl,HSG4.out,HSR4.out,HONE.out,HRONE.out,HF4.out,HT4.out,fun k hk=>(HL3.out k hk).imp id (fun h=>by omega)⟩
end Go.Proofs.YtcglcphhfmkccaaGreatDoor

namespace Go.Proofs.YtcglcphhfmkccaaGreatDoor
open Go.RowKit
theorem doD_reads {d:Disk} {o:DOp} (h6:o.k≠6):(doD d o).1.reads=d.reads:=by
 have hc: ∀ x:Disk,(chgD x o).reads=x.reads:=fun x=>by rw [chgD_eq]
 unfold doD
 repeat' split
 all_goals first
  | rfl
  | (exfalso;omega)
  | (simp only [hc])
theorem runD_bounds: ∀ (ops:List DOp) (d:Disk),(∀ o∈ops,o.k≠6)→(runD d ops).1.reads=d.reads∧d.steps≤(runD d ops).1.steps∧(runD d ops).1.steps≤d.steps+(ops.length:Int)
 | [],d,_=>⟨rfl,Int.le_refl _,by simp [runD]⟩
 | o::r,d,h=>by
  have h1:=doD_steps d o
  have h2:=doD_reads (d:=d) (h o (by simp))
  by_cases h0:(doD d o).2.2.2=0
  ·rw [runD_go h0]
   have:=runD_bounds r (doD d o).1 fun x hx=>h x (by simp [hx])
   rw [List.length_cons]
   refine⟨this.1.trans h2,?_,?_⟩
   ·omega
   ·push_cast;omega
  ·rw [runD_stop h0,List.length_cons]
   refine⟨h2,h1.2,?_⟩
   push_cast
   omega
theorem apply_bounds (d:Disk) (p:Pl):(applyD d p).1.reads=d.reads∧d.steps≤(applyD d p).1.steps∧(applyD d p).1.steps≤d.steps+(p.remove.length:Int)+8:=by
 unfold applyD
 split
 ·have hk: ∀ o∈refOps d p,o.k≠6:=by
   intro o ho
   unfold refOps remOps beginOps cutOps at ho
   rcases List.mem_append.1 ho with ho | ho
   ·obtain⟨n,_,rfl⟩:=List.mem_map.1 ho
    simp [opRemove]
   ·split at ho
    ·simp only [List.mem_cons,List.not_mem_nil,or_false] at ho
     rcases ho with rfl | rfl | rfl | rfl | rfl | rfl | rfl<;>simp [opCreate,opAppend,opSync,opRename]
    ·rcases List.mem_cons.1 ho with rfl | ho
     ·simp [opSize]
     ·rcases List.mem_append.1 ho with ho | ho
      ·split at ho
       ·cases ho
       ·split at ho
        ·simp only [List.mem_cons,List.not_mem_nil,or_false] at ho
         subst ho
         simp [opCut]
        ·cases ho
      ·simp only [List.mem_cons,List.not_mem_nil,or_false] at ho
       subst ho
       simp [opSync]
  have hl:(refOps d p).length≤p.remove.length+7:=by
   unfold refOps remOps beginOps cutOps
   rw [List.length_append,List.length_map]
   split
   ·simp
   ·simp only [List.length_cons,List.length_append,List.length_nil]
    split
    ·simp
    ·split<;>simp
  have:=runD_bounds (refOps d p) d hk
  omega
 ·exact⟨rfl,by simp,by simp;omega⟩
theorem rdD_ok {d:Disk} (h:DiskOk d) (n:Nat):DiskOk (rdD d n):=⟨h.rise,h.names,h.safe,h.count,h.room,h.used,h.fuse,h.steps,by show -9223372036854775808≤IntKind.i64.wrap (d.reads+(n:Int))∧IntKind.i64.wrap (d.reads+(n:Int))≤9223372036854775807;rw [IntKind.wrap_i64];omega⟩
end Go.Proofs.YtcglcphhfmkccaaGreatDoor

namespace Go.Proofs.YtcglcphhfmkccaaGreatDoor
open Go.RowKit
def opRestart (ks:List Int):DOp:=⟨8,[],[],[],0,0,ks⟩
theorem doD_restart (d:Disk) (ks:List Int):doD d (opRestart ks)=({d with files:=restF d.files ks,down:=false,fuse:=0},[],0,0):=rfl
theorem rest_all: ∀ (fs:List Fil) (ks:List Int),(∀ f∈fs,f.safe=(f.data.length:Int))→restF fs ks=fs
 | [],_,_=>rfl
 | f::r,ks,h=>by rw [restF,rest_same (h f (by simp)),rest_all r ks.tail fun x hx=>h x (by simp [hx])]
theorem find_errs {d:Disk} (hok:DiskOk d) (hd:d.down=false):(findB d.room d.files).2≠3:=by
 have:=plan_errs hd
 rw [planD_on hok hd] at this
 omega
structure BrkE (room:Int) (fs1:List Fil) (d:Disk):Prop where
 ok:DiskOk d
 rm:d.room=room
 j:((findB room fs1).2≠0∧d.files=fs1)∨((findB room fs1).2=0∧Stays room (findB room fs1) d.files)
theorem BrkE.restart {room:Int} {fs1:List Fil} {d:Disk} (h:BrkE room fs1 d) (hs: ∀ f∈fs1,f.safe=(f.data.length:Int)) (ks:List Int):BrkE room fs1 (doD d (opRestart ks)).1∧(doD d (opRestart ks)).1.down=false∧(doD d (opRestart ks)).1.fuse=0∧(doD d (opRestart ks)).1.steps=d.steps:=by
 rw [doD_restart]
 refine⟨⟨rest_ok h.ok ks,h.rm,?_⟩,rfl,rfl,rfl⟩
 rcases h.j with⟨h1,h2⟩ | ⟨h1,h2⟩
 ·exact .inl ⟨h1,by show restF d.files ks=fs1;rw [h2];exact rest_all fs1 ks hs⟩
 ·exact .inr ⟨h1,stays_rest h.ok.safe h2 h1 ks⟩
theorem BrkE.fuse {room:Int} {fs1:List Fil} {d:Disk} (h:BrkE room fs1 d) (n:Int) (hn:n≤9223372036854775807):BrkE room fs1 (doD d (opFuse n)).1∧(doD d (opFuse n)).1.down=d.down∧(doD d (opFuse n)).1.steps=d.steps:=by
 have hk:=doD_ok (o:=opFuse n) h.ok (by simp [opFuse]) hn
 rw [doD_fuse] at hk ⊢
 exact⟨⟨hk,h.rm,h.j⟩,rfl,rfl⟩
theorem Stays.via {room:Int} {r:Pl×Int} {p:Pl} {fs fs':List Fil} (h:Stays room r fs) (hp:findB room fs=(p,0)) (h':Stays room (p,0) fs'):Stays room r fs':=by
 obtain⟨⟨a1,a2,a3,a4⟩,_⟩:=h
 obtain⟨⟨b1,b2,b3,b4⟩,b5⟩:=h'
 rw [hp] at a1 a2 a3 a4
 exact⟨⟨b1.trans a1,b2.trans a2,b3.trans a3,b4.trans a4⟩,b5⟩
structure BrkR (room:Int) (fs1:List Fil) (d:Disk) (q:(Pl×Int)×Disk):Prop where
 e:BrkE room fs1 q.2
 st:q.2.steps≤d.steps+1000
 out:(q.1.2=(findB room fs1).2∧q.1.2≠3∧(q.1.2=0→q.1.1.man=(findB room fs1).1.man∧q.1.1.cut=(findB room fs1).1.cut∧q.1.1.last=(findB room fs1).1.last))∨(q.1.2=3∧d.fuse≠0)
theorem brk_run {room:Int} {fs1:List Fil} {d:Disk} (h:BrkE room fs1 d) (hd:d.down=false):BrkR room fs1 d (runR d):=by
 have hpl:=planD_on h.ok hd
 have hne:=find_errs h.ok hd
 rw [h.rm] at hpl hne
 have hrk:=rdD_ok h.ok (planD d).2
 rcases h.j with⟨h1,h2⟩ | ⟨h1,h2⟩
 ·rw [h2] at hpl hne
  have hb:(planD d).1.2≠0:=by rw [hpl];exact h1
  rw [runR_bad hb]
  refine⟨⟨hrk,h.rm,.inl ⟨h1,h2⟩⟩,?_,.inl ⟨by rw [hpl],by rw [hpl];exact hne,fun h0=>absurd h0 hb⟩⟩
  show d.steps≤d.steps+1000
  omega
 ·have h0:(planD d).1.2=0:=by rw [hpl,h2.1.1,h1]
  obtain⟨p,hp⟩: ∃ p,p=(planD d).1.1:=⟨_,rfl⟩
  have hfp:findB room d.files=(p,0):=by rw [←hpl,hp];exact Prod.ext rfl h0
  have hw:=apply_went (d:=rdD d (planD d).2) hrk hd (p:=p) (by show findB d.room d.files=_;rw [h.rm];exact hfp)
  have hb:=apply_bounds (rdD d (planD d).2) p
  have hrl:=plan_rems h.ok.count h0
  rw [←hp] at hrl
  have hst:(rdD d (planD d).2).steps=d.steps:=rfl
  have hS:SafeIn (rdD d (planD d).2).files:=h2.2
  have hrm:(rdD d (planD d).2).room=room:=h.rm
  have hpm:p.man=(findB room fs1).1.man∧p.cut=(findB room fs1).1.cut∧p.last=(findB room fs1).1.last:=by
   obtain⟨⟨_,a2,a3,a4⟩,_⟩:=h2
   rw [hfp] at a2 a3 a4
   exact⟨a2,a3,a4⟩
  rcases hw.out with⟨e1,⟨_,e2⟩,_,_⟩ | ⟨e1,e2,_,e4⟩
  ·have hg:=runR_good h0 (by rw [←hp];exact e1)
   rw [←hp] at hg
   rw [hg]
   have hst2:=e2 hS
   rw [hrm] at hst2
   refine⟨⟨hw.ok,hw.room.trans h.rm,.inr ⟨h1,h2.via hfp hst2⟩⟩,?_,.inl ⟨by rw [h0,h1],by rw [h0];decide,fun _=>by rw [←hp];exact hpm⟩⟩
   show (applyD (rdD d (planD d).2) p).1.steps≤_
   omega
  ·have hg:=runR_off h0 (by rw [←hp,e1];decide)
   rw [←hp,e1] at hg
   rw [hg]
   have hst2:=e4 hS
   rw [hrm] at hst2
   refine⟨⟨hw.ok,hw.room.trans h.rm,.inr ⟨h1,h2.via hfp hst2⟩⟩,?_,.inr ⟨rfl,e2⟩⟩
   show (applyD (rdD d (planD d).2) p).1.steps≤_
   omega
theorem brk_start {d:Disk} (hok:DiskOk d):BrkE d.room (restF d.files []) (doD d (opRestart [])).1∧(∀ f∈restF d.files [],f.safe=(f.data.length:Int)):=by
 have hs: ∀ f∈restF d.files [],f.safe=(f.data.length:Int):=fun f hf=>(rest_safe d.files [] hok.safe f hf).1
 rw [doD_restart]
 refine⟨⟨rest_ok hok [],rfl,?_⟩,hs⟩
 by_cases h:(findB d.room (restF d.files [])).2=0
 ·exact .inr ⟨h,finds_self _ _,fun f hf _=>hs f hf⟩
 ·exact .inl ⟨h,rfl⟩
end Go.Proofs.YtcglcphhfmkccaaGreatDoor

namespace Go.Proofs.YtcglcphhfmkccaaGreatDoor
open Go.RowKit
def restOne (f:Fil) (k:Int):Fil:=⟨f.name,f.data.take (keptN f k).toNat,keptN f k⟩
theorem restF_snoc: ∀ (l:List Fil) (x:Fil) (ks:List Int),restF (l++[x]) ks=restF l ks++[restOne x (ks.getD l.length 0)]
 | [],x,ks=>by
  cases ks<;>rfl
 | y::l,x,ks=>by
  rw [List.cons_append,restF,restF,restF_snoc l x ks.tail,List.cons_append]
  congr 3
  cases ks with
  | nil=>simp
  | cons a r=>simp
def restI (d:Disk) (i:Nat) (ks:List Int):Disk:={d with files:=restF (d.files.take i) ks++d.files.drop i}
theorem restI_zero (d:Disk) (ks:List Int):restI d 0 ks=d:=by unfold restI;simp [restF]
theorem restI_all (d:Disk) (ks:List Int):restI d d.files.length ks={d with files:=restF d.files ks}:=by unfold restI;simp
theorem setF_none {n:List UInt8} {g:Fil→Fil} {fs:List Fil} (h: ∀ x∈fs,x.name≠n):setF n g fs=fs:=by
 unfold setF
 rw [List.map_congr_left (g:=id) fun x hx=>by
  have:=h x hx
  simp [this]]
 simp
theorem restI_parts {d:Disk} (hr:Rise d.files) {i:Nat} {x:Fil} (hx:d.files[i]? =some x) (ks:List Int):
  (∀ y∈restF (d.files.take i) ks,y.name≠x.name)∧d.files.drop i=x::d.files.drop (i+1)∧ ∀ y∈d.files.drop (i+1),y.name≠x.name:=by
 have hd:d.files.drop i=x::d.files.drop (i+1):=by
  obtain⟨h1,h2⟩:=List.getElem?_eq_some_iff.1 hx
  rw [←h2]
  exact List.drop_eq_getElem_cons h1
 have hp:=hr
 rw [←List.take_append_drop i d.files,hd] at hp
 obtain⟨p1,p2,p3⟩:=List.pairwise_append.1 hp
 refine⟨fun y hy=> ?_,hd,fun y hy=> ?_⟩
 ·have:y.name∈(restF (d.files.take i) ks).map (·.name):=List.mem_map_of_mem hy
  rw [rest_names] at this
  obtain⟨z,hz,e⟩:=List.mem_map.1 this
  rw [←e]
  exact bytes_ne (p3 z hz x (by simp))
 ·exact(bytes_ne ((List.pairwise_cons.1 p2).1 y hy)).symm
theorem restI_at {d:Disk} (hr:Rise d.files) {i:Nat} {x:Fil} (hx:d.files[i]? =some x) (ks:List Int):atF (restI d i ks).files x.name=some x:=by
 obtain⟨h1,h2,_⟩:=restI_parts hr hx ks
 unfold restI atF
 dsimp only
 rw [h2,List.find?_append,List.find?_eq_none.2 (fun y hy=>by simpa using h1 y hy),Option.none_or,List.find?_cons]
 simp
theorem restI_set {d:Disk} (hr:Rise d.files) {i:Nat} {x:Fil} (hx:d.files[i]? =some x) (ks:List Int):(restI d (i+1) ks).files=setF x.name (fun _=>restOne x (ks.getD i 0)) (restI d i ks).files:=by
 obtain⟨h1,h2,h3⟩:=restI_parts hr hx ks
 have hl:(d.files.take i).length=i:=by
  have:=(List.getElem?_eq_some_iff.1 hx).1
  rw [List.length_take];omega
 have ht:d.files.take (i+1)=d.files.take i++[x]:=by rw [List.take_add_one,hx];rfl
 unfold restI
 dsimp only
 rw [ht,restF_snoc,hl,h2]
 unfold setF
 rw [List.map_append,List.map_cons]
 have e1:=setF_none (g:=fun _=>restOne x (ks.getD i 0)) h1
 have e3:=setF_none (g:=fun _=>restOne x (ks.getD i 0)) h3
 unfold setF at e1 e3
 rw [e1,e3,if_pos (by simp),List.append_assoc]
 rfl
theorem restI_ok {d:Disk} (h:DiskOk d) (ks:List Int): ∀ i,i≤d.files.length→DiskOk (restI d i ks)
 | 0,_=>by rw [restI_zero];exact h
 | i+1,hi=>by
  obtain⟨x,hx⟩: ∃ x,d.files[i]? =some x:=⟨_,List.getElem?_eq_getElem (by omega)⟩
  have ih:=restI_ok h ks i (by omega)
  have ha:=restI_at h.rise hx ks
  have hs:=h.safe x (List.mem_of_getElem? hx)
  have hk:=keptN_bd hs (ks.getD i 0)
  have hl:(restOne x (ks.getD i 0)).data.length=(keptN x (ks.getD i 0)).toNat:=by unfold restOne;rw [List.length_take];omega
  have:=DiskOk.setFile ih (f':=restOne x (ks.getD i 0)) ha rfl (by rw [hl];show 0≤keptN x _∧keptN x _≤_;omega) (by rw [hl];have:=ih.used;omega)
  rw [←restI_set h.rise hx ks] at this
  exact this
def KpIn (A:Nat→Prop) (w:World) (v:Value) (l:List Int):Prop:=
 ∃ oa cap,v= .slice oa l.length cap∧l.length≤cap∧cap≤9223372036854775807∧ ∀ (i:Nat) x,l[i]? =some x→ ∃ b off,oa=some ⟨b,off,none⟩∧A b∧w.cell? ⟨b,off+i,none⟩=some (.int .i64 x)
theorem kpIn_nil (A:Nat→Prop) (w:World):KpIn A w (.slice none 0 0) []:=⟨none,0,rfl,Nat.le_refl _,by decide,fun i x hx=>by simp at hx⟩
theorem slotAt_of {w:World} {f m:Nat} {d:Disk} {L:List Slot} (h:FsAt w f m d L) {n:List UInt8} {x:Fil} (hx:atF d.files n=some x): ∃ s,slotAt L n=some s∧s.fil=x∧s∈L:=by
 have hat:=fils_at n L
 rw [h.fil,hx] at hat
 rcases hs:slotAt L n with _ | s
 ·rw [hs] at hat;cases hat
 ·rw [hs] at hat
  simp only [Option.map_some,Option.some.injEq] at hat
  exact⟨s,rfl,hat.symm,(slotAt_mem hs).1⟩
set_option maxRecDepth 100000 in
set_option maxHeartbeats 4000000 in
theorem restart_any (w:World) (f m:Nat) (d:Disk) (L:List Slot) (h:FsAt w f m d L) (ks:List Int) (kv:Value) (hk:KpIn (fun k=> ¬ foot f m L k) w kv ks):
  Calls Tryz.prog 7 #[.pointer (some ⟨f,0,none⟩),kv] w fun e w'=>e= .returned (.tuple #[])∧FsPost w f m L (doD d (opRestart ks)).1 w':=by
 obtain⟨ko,kc,rfl,hkl,hkc,hkr⟩:=hk
 have HKR:=Lib.hid hkr
 have hL:L.length≤700:=by have:=h.ok.count;rw [←h.fil] at this;simpa [fils] using this
 have HN:=Lib.hid (fsNames_any w f m d L h (by omega))
 have HFI:=Lib.hid h.fil
 have HLT:=Lib.hid h.lt
 have hfw:=h.hd.lt
 have HFW:=Lib.hid hfw
 have HLN:=Lib.hid (show d.files.length=L.length by rw [←h.fil];simp [fils])
 have HH:=Lib.hid h
 clear h hkr hfw
 go_enter Tryz.func7,Tryz.ntmps7
 go_wp2_with fail
 go_at_call 17
 refine HN.out.mono ?_
 rintro e w1 ⟨v1,rfl,hrow,hb1⟩
 obtain⟨oa,cap,rfl,hl1,hl2⟩:=own_shape hrow
 have HROW:=Lib.hid hrow
 have HB1:=Lib.hid hb1
 have HP0:=Lib.hid (show FsPost w1 f m L (restI d 0 ks) w1 by rw [restI_zero];exact FsPost.same (HH.out.below hb1))
 have hsz1:=hb1.size
 clear hrow hb1 HN
 go_wp2
 go_loopw [4,5,6,7,13] (fun _ _ _ _ iv wr=> ∃ (k:Nat),k≤L.length∧iv= .int .i64 (k:Int)∧Hid (FsPost w1 f m L (restI d k ks) wr)) (fun _ _ _ _ iv _=>L.length - (intOf iv).toNat)
 case atStart=>exact⟨0,Nat.zero_le _,rfl,HP0⟩
 case round=>
  obtain⟨k,hk,rfl,HP⟩:=hrel
  obtain⟨Li,hat,ht,hli⟩:=HP.out
  have HAT:=Lib.hid hat
  have HT:=Lib.hid ht
  have HLI:=Lib.hid hli
  by_cases hlt:k<L.length
  ·have hkd:k<d.files.length:=by have:=HLN.out;omega
   obtain⟨x,hx⟩: ∃ x,d.files[k]? =some x:=⟨_,List.getElem?_eq_getElem hkd⟩
   have q1:(k:Int)<(L.length:Int):=by omega
   have hrise:=HH.out.ok.rise
   obtain⟨g,cap',e1,hgB,hgl,_,_,hcell⟩:=own_get HROW.out (by omega)
   simp only [Value.slice.injEq] at e1
   obtain⟨rfl,_,rfl⟩:=e1
   have hnk:(namesL L)[k]? =some x.name:=by
    have:(fils L)[k]? =some x:=by rw [HFI.out];exact hx
    unfold fils at this
    unfold namesL
    rw [List.getElem?_map] at this ⊢
    obtain⟨t,ht1,ht2⟩:=Option.map_eq_some_iff.1 this
    rw [ht1,←ht2]
    rfl
   have cn1:w1.cell? ⟨g,k,none⟩=some (.string ⟨x.name.toArray⟩):=hcell k _ (by rw [List.getElem?_map,hnk];rfl)
   have cn:wr.cell? ⟨g,k,none⟩=some (.string ⟨x.name.toArray⟩):=HT.out.cell cn1 (fun hc=>by have:=HLT.out g hc;omega)
   have c0:=HAT.out.hd.c0
   have hrn:=HH.out.ok.names x (List.mem_of_getElem? hx)
   have hlook:=HAT.out.body.look (n:=x.name) (right_len hrn)
   obtain⟨s,hsa,hsx,hsm⟩:=slotAt_of HAT.out (restI_at hrise hx ks)
   rw [hsa] at hlook
   simp only at hlook
   subst hsx
   have hsl:=HAT.out.body.slot s hsm
   obtain⟨ao,dcap,hsh,hlc,_⟩:=hsl.2.shape
   have hsf:=HH.out.ok.safe s.fil (List.mem_of_getElem? hx)
   have hkb:=keptN_bd hsf (ks.getD k 0)
   have hld:s.fil.data.length≤67108864:=by
    have h1:=len_le_used (List.mem_of_getElem? hx)
    have h2:=HH.out.ok.used
    have h3:=HH.out.ok.room
    omega
   obtain⟨q,hq⟩:=Int.eq_ofNat_of_zero_le (show 0≤keptN s.fil (ks.getD k 0) by omega)
   rw [hq] at hkb
   have HQ:=Lib.hid hq
   have HSL:=Lib.hid (show slotAt Li s.fil.name=some s∧s∈Li∧s.sl= .slice ao s.fil.data.length dcap from⟨hsa,hsm,hsh⟩)
   have HX:=Lib.hid hx
   have HI:=Lib.hid (show restOne s.fil (ks.getD k 0)=⟨s.fil.name,s.fil.data.take q,(q:Int)⟩ by unfold restOne;rw [hq];rfl)
   have HOK:=Lib.hid (restI_ok HH.out.ok ks (k+1) (by have:=HLN.out;omega))
   have hus:=HAT.out.ok.used
   have hrm:=HAT.out.ok.room
   have hu:=usedF_set (f':=⟨s.fil.name,s.fil.data.take q,(q:Int)⟩) HAT.out.ok.rise (restI_at hrise hx ks) rfl
   rw [←HI.out,←restI_set hrise hx ks,HI.out] at hu
   have hlq:(s.fil.data.take q).length=q:=by rw [List.length_take];omega
   have HU:=Lib.hid (show (usedF (restI d (k+1) ks).files:Int)=(usedF (restI d k ks).files:Int) - ((s.fil.data.length:Int) - s.fil.safe - ((q:Int) - s.fil.safe)) by simp only [hlq] at hu;omega)
   have a1:IntKind.i64.wrap ((s.fil.data.length:Int) - s.fil.safe)=(s.fil.data.length:Int) - s.fil.safe:=by rw [IntKind.wrap_i64];omega
   have a2:IntKind.i64.wrap ((s.fil.data.length:Int) - s.fil.safe - ((q:Int) - s.fil.safe))=(s.fil.data.length:Int) - s.fil.safe - ((q:Int) - s.fil.safe):=by rw [IntKind.wrap_i64];omega
   have a3:IntKind.i64.wrap ((usedF (restI d k ks).files:Int) - ((s.fil.data.length:Int) - s.fil.safe - ((q:Int) - s.fil.safe)))=(usedF (restI d k ks).files:Int) - ((s.fil.data.length:Int) - s.fil.safe - ((q:Int) - s.fil.safe)):=by rw [IntKind.wrap_i64];omega
   have a4:IntKind.i64.wrap (s.fil.safe+((q:Int) - s.fil.safe))=(q:Int):=by rw [IntKind.wrap_i64];omega
   have HQL:=Lib.hid (show q≤s.fil.data.length by omega)
   have HSF:=Lib.hid (show 0≤s.fil.safe∧s.fil.safe≤(s.fil.data.length:Int) from hsf)
   have k0:wr.cell? ⟨s.blk,0,none⟩=some (.slice ao s.fil.data.length dcap):=by rw [←hsh];exact hsl.c0
   have k1:=hsl.c1
   have K0:=Lib.hid k0
   have K1:=Lib.hid k1
   have HLC:=Lib.hid hlc
   have HB1':=HB1
   have HKX:=Lib.hid (fun kk (hkk:ks[k]? =some kk)=>show ∃ b off,ko=some ⟨b,off,none⟩∧wr.cell? ⟨b,off+k,none⟩=some (.int .i64 kk) from by
    obtain⟨b,off,h1,h2,h3⟩:=HKR.out k kk hkk
    exact⟨b,off,h1,HT.out.cell (cell_later HB1.out h3) h2⟩)
   clear hat ht hli hcell hnk cn1 hrn hsa hsm hsl hsh hsf hx hld hus hrm hu hlq hq hrise
   go_upto_if 27 with fail
   go_cut [7] from 24 to 43 (fun v wx=>v= .int .i64 ((q:Int) - s.fil.safe)∧Hid (Below wr.heap.size wr wx))
   case first=>
    by_cases hik:k<ks.length
    ·obtain⟨kk,hkk⟩: ∃ kk,ks[k]? =some kk:=⟨_,List.getElem?_eq_getElem hik⟩
     obtain⟨b,off,rfl,hc⟩:=HKX.out kk hkk
     have q3:(k:Int)<(ks.length:Int):=by omega
     have HV:=Lib.hid (show min (max 0 kk) ((s.fil.data.length:Int) - s.fil.safe)=(q:Int) - s.fil.safe by
      have h1:=HQ.out
      rw [List.getD_eq_getElem?_getD,hkk,Option.getD_some] at h1
      have h2:=HSF.out
      unfold keptN at h1
      split at h1
      ·split at h1<;>omega
      ·omega)
     clear hkk c0 cn hlook
     go_wp2_with fail
     go_quiet (fail)
     go_wp2_with fail
     go_meet
     exact⟨by rw [HV.out],Lib.hid (below_drewN' _ _)⟩
    ·have q3: ¬ (k:Int)<(ks.length:Int):=by omega
     have HV:=Lib.hid (show (0:Int)=(q:Int) - s.fil.safe by
      have h1:=HQ.out
      rw [List.getD_eq_getElem?_getD,List.getElem?_eq_none (by omega),Option.getD_none] at h1
      unfold keptN at h1
      rw [if_neg (by decide)] at h1
      omega)
     clear c0 cn hlook k0 k1
     go_wp2_with fail
     go_meet
     exact⟨by rw [←HV.out],Lib.hid (Below.refl _ _)⟩
   case rest=>
    obtain⟨rfl,HBX⟩:=hcut
    have HAX:=Lib.hid (HAT.out.below HBX.out)
    have HBD:=Lib.hid (show Below wr.heap.size wr wc.drew from Below.next HBX.out (below_drewN' wc 1))
    have HAD:=Lib.hid (HAT.out.below HBD.out)
    have HSX:=Lib.hid (HAX.out.body.slot s HSL.out.2.1)
    have HSD:=Lib.hid (HAD.out.body.slot s HSL.out.2.1)
    have HAP:=Lib.hid (HAD.out.body.apart.2.1 s HSL.out.2.1)
    have k0:=cell_later HBX.out K0.out
    have k1:=cell_later HBX.out K1.out
    have c2:wc.cell? ⟨f,2,none⟩=some (.int .i64 (usedF (restI d k ks).files:Int)):=HAX.out.hd.c2
    have f2:=HAX.out.hd.free 2
    clear c0 cn hlook
    go_wp2_with fail
    go_still_tail 19,(by kernel_rfl)
    refine wpList_store_cellV rfl 3 (.tmp 62) (.tmp 60) rfl f 2 (.int .i64 ((usedF (restI d k ks).files:Int) - ((s.fil.data.length:Int) - s.fil.safe - ((q:Int) - s.fil.safe)))) (.int .i64 (usedF (restI d k ks).files:Int)) (by kernel_rfl) rfl rfl rfl c2 f2 ?_
    intro w2 hw2
    have HW2:=Lib.hid (show HdAt w2 f m (hdOf (restI d (k+1) ks))∧SlotAt w2 s∧Turned (fun i=>i=f) wc.drew w2 by
     rw [hw2.out]
     refine⟨?_,?_,Turned.setCell _ _ _ rfl⟩
     ·have:=HAD.out.hd.set 2 (.int .i64 ((usedF (restI d k ks).files:Int) - ((s.fil.data.length:Int) - s.fil.safe - ((q:Int) - s.fil.safe)))) (h':=hdOf (restI d (k+1) ks)) (by rw [←HU.out];rfl)
      exact this
     ·have hb:=(Body.setHd HAD.out.body 2 (.int .i64 ((usedF (restI d k ks).files:Int) - ((s.fil.data.length:Int) - s.fil.safe - ((q:Int) - s.fil.safe)))))
      exact hb.slot s HSL.out.2.1)
    clear hw2 c2 f2 k0 k1
    have k1:=HW2.out.2.1.c1
    have g1:=HW2.out.2.1.free 1
    go_wp2_with (with_reducible refine wpList_store_cellV rfl 3 (.tmp 70) (.tmp 68) rfl s.blk 1 (.int .i64 (q:Int)) (.int .i64 s.fil.safe) (by kernel_rfl) rfl rfl rfl k1 g1 ?_)
    intro w3 hw3
    have hdn:datBlk s.sl≠some s.blk:=HAP.out.2.2.2.2
    have HW3:=Lib.hid (show SlotAt w3 ⟨{s.fil with safe:=(q:Int)},s.blk,s.sl⟩ by rw [hw3.out];exact HW2.out.2.1.putSafe (q:Int) hdn)
    have HH3:=Lib.hid (show HdAt w3 f m (hdOf (restI d (k+1) ks)) by rw [hw3.out];exact HW2.out.1.otherCell HAP.out.1.symm 1 _)
    have HT3:=Lib.hid (show Turned (fun i=>i=f∨i=s.blk∨datBlk s.sl=some i) wc w3.drew by
     have t1:Turned (fun i=>i=f∨i=s.blk∨datBlk s.sl=some i) wc w2:=(Turned.below (below_drewN' wc 1)).trans (HW2.out.2.2.mono fun _ h=> .inl h) fun i h=> .inl h
     have t2:Turned (fun i=>i=s.blk) w2 w3:=by rw [hw3.out];exact Turned.setCell _ _ _ rfl
     exact(t1.trans t2 fun i h=> .inl (.inr (.inl h))).trans (Turned.below (S:=fun i=>i=s.blk) (below_drewN' w3 1)) fun i h=> .inl (.inr (.inl h)))
    clear hw3 k1 g1
    have HD3:=Lib.hid (show Below w3.heap.size w3 w3.drew from below_drewN' w3 1)
    have HSD3:=Lib.hid (HW3.out.kept (HD3.out.block _ HW3.out.lt) fun g hg=>HD3.out.block g (HW3.out.2.lt hg))
    have k0:w3.cell? ⟨s.blk,0,none⟩=some (.slice ao s.fil.data.length dcap):=by rw [←HSL.out.2.2];exact HW3.out.c0
    have k1:w3.cell? ⟨s.blk,1,none⟩=some (.int .i64 (q:Int)):=HW3.out.c1
    have g0:=HW3.out.free 0
    have q1:(q:Int)≤(s.fil.data.length:Int):=by have:=HQL.out;omega
    have q2:(s.fil.data.length:Int)≤(dcap:Int):=by have:=HLC.out;omega
    have q3:(q:Int)≤(dcap:Int):=by omega
    go_wp2_with fail
    go_still_tail 16,(by kernel_rfl)
    refine wpList_store_cellV rfl 45 (.tmp 86) (.tmp 84) rfl s.blk 0 (.slice ao q q) (.slice ao s.fil.data.length dcap) (by kernel_rfl) rfl rfl rfl k0 g0 ?_
    intro w5 hw5
    obtain⟨ao',cap',hsh',hdc,hdb⟩:=datAt_cut HSD3.out.2 q HQL.out
    have hao:ao'=ao:=by have:=HSL.out.2.2;simp only at hsh';rw [this] at hsh';cases hsh';rfl
    subst hao
    have hdn2:datBlk (.slice ao' q q)≠some s.blk:=fun e=>hdn (hdb _ e)
    have HP2:=Lib.hid (show FsPost wc f m Li (restI d (k+1) ks) w5 from by
     refine FsPost.setFile (x:=⟨⟨s.fil.name,s.fil.data.take q,(q:Int)⟩,s.blk,.slice ao' q q⟩) HAX.out (Turned.refl _ _) HSL.out.1 rfl rfl ?_ (SlotAt.putData HSD3.out.1 hdc hdn2 hw5.out) (fun g hg=> .inl (hdb g hg)) ?_ ?_ HOK.out
     ·rw [hw5.out]
      exact HT3.out.trans (Turned.setCell (S:=fun i=>i=s.blk) _ ⟨s.blk,0,none⟩ _ rfl) fun i h=> .inl (.inr (.inl h))
     ·rw [hw5.out]
      exact(HH3.out.below HD3.out).otherCell HAP.out.1.symm 0 _
     ·rw [restI_set HH.out.ok.rise HX.out ks,HI.out])
    have HPE:=Lib.hid (show FsPost w1 f m L (restI d (k+1) ks) w5 from HP2.out.then (HT.out.trans (Turned.below (S:=foot f m L) HBX.out) fun i h=> .inl h) HLI.out)
    clear hw5 k0 k1 g0 hdc hdb hdn hdn2 hsh'
    go_wp2
    go_roundw
    case rel=>exact⟨k+1,by omega,by go_num,HPE⟩
    case measure=>simp [intOf];omega
  ·obtain rfl:k=L.length:=by omega
   have HE:=Lib.hid (show (doD d (opRestart ks)).1={restI d L.length ks with down:=false,fuse:=0} by rw [doD_restart,←HLN.out,restI_all])
   have c5:=HAT.out.hd.c5
   have c6:=HAT.out.hd.c6
   have f5:=HAT.out.hd.free 5
   have f6:=HAT.out.hd.free 6
   clear hat ht hli
   go_wp2
   go_end0
   rw [HE.out]
   refine⟨rfl,FsPost.then (w1:=w1) (L1:=L) ?_ (Turned.below HB1.out) (fun _ h=> .inl h)⟩
   refine⟨Li,⟨?_,(HAT.out.body.setHd 5 _).setHd 6 _,HAT.out.fil,?_⟩,(HT.out.trans (Turned.setCell (S:=foot f m L) _ _ _ foot_f) fun i h=> .inl h).trans (Turned.setCell (S:=foot f m L) _ _ _ foot_f) fun i h=> .inl h,HLI.out⟩
   ·exact(HAT.out.hd.set 5 (.int .i64 0) (h':={hdOf (restI d L.length ks) with fuse:=0}) rfl).set 6 (.bool false) (h':={hdOf (restI d L.length ks) with fuse:=0,down:=false}) rfl
   ·have hk:=HAT.out.ok
    exact⟨hk.rise,hk.names,hk.safe,hk.count,hk.room,hk.used,⟨Int.le_refl 0,by simp⟩,hk.steps,hk.reads⟩
end Go.Proofs.YtcglcphhfmkccaaGreatDoor

namespace Go.Proofs.YtcglcphhfmkccaaGreatDoor
open Go.RowKit
set_option maxHeartbeats 1000000 in
theorem run_sgEqual (a:Sg) (w:World):(Op.equalIn 10000 63 (sgV a) (sgV a)).run Tryz.prog w= .ok true w:=by
 have hS:Tryz.prog.underlying 63=some (.struct (Tryz.prog.fieldsOf 63)):=by kernel_rfl
 have hp:Tryz.prog.stoodInHeld 63=false:=by kernel_rfl
 unfold sgV
 rw [show (10000:Nat)=9999+1 from rfl,run_equalIn_agg w 9999 63 _ _ hS hp]
 simp only [Program.fieldsOf,Tryz.underlying63]
 go_simp
theorem run_sgNeq (a:Sg) (w:World):(binOp .neq 63 (.agg #[.int .i64 a.num,.int .i64 a.first,.int .i64 a.count,.int .i64 a.foot]) (.agg #[.int .i64 a.num,.int .i64 a.first,.int .i64 a.count,.int .i64 a.foot])).run Tryz.prog w= .ok (.bool false) w:=by
 rw [run_neq_struct];have:=run_sgEqual a w;unfold sgV at this;rw [this];rfl
set_option maxRecDepth 100000 in
set_option maxHeartbeats 4000000 in
theorem sameMan_any (m:Man) (sv1 sv2:Value) (w:World) (h1:SgRow w sv1 m.segs) (h2:SgRow w sv2 m.segs):
  Calls Tryz.prog 11 #[mnV m sv1,mnV m sv2] w fun e w'=>e= .returned (.bool true)∧Below w.heap.size w w':=by
 obtain⟨oa,cap,rfl,hl1,hl2,hcs⟩:=h1
 obtain⟨ob,cap',rfl,hl3,hl4,hct⟩:=h2
 have HC:=Lib.hid hcs
 have HD:=Lib.hid hct
 obtain⟨wa,hwa⟩: ∃ wa,wa=(w.alloc (.cells (mnCs m (.slice oa m.segs.length cap)) 34)).alloc (.cells (mnCs m (.slice ob m.segs.length cap')) 34):=⟨_,rfl⟩
 have HBA:=Lib.hid (show Below w.heap.size w wa by rw [hwa];exact(below_alloc w _).trans ((below_alloc _ _).mono (by rw [World.size_alloc];omega)))
 have HM1:=Lib.hid (show MnBlk wa w.heap.size m (.slice oa m.segs.length cap) by rw [hwa];exact(mnBlk_alloc w m _).below (below_alloc _ _))
 have HM2:=Lib.hid (show MnBlk wa (w.heap.size+1) m (.slice ob m.segs.length cap') by
  rw [hwa]
  have:=mnBlk_alloc (w.alloc (.cells (mnCs m (.slice oa m.segs.length cap)) 34)) m (.slice ob m.segs.length cap')
  rwa [World.size_alloc] at this)
 have t0:(m.gen != m.gen)=false:=by simp
 have t1:(m.next != m.next)=false:=by simp
 have t2:(m.floor != m.floor)=false:=by simp
 have t3:(m.snap != m.snap)=false:=by simp
 have t4:(m.snapSeq != m.snapSeq)=false:=by simp
 have t5:((m.segs.length:Int) != (m.segs.length:Int))=false:=by simp
 have c0:wa.cell? ⟨w.heap.size,0,none⟩=some (.int .i64 m.gen):=HM1.out.cell 0
 have c1:wa.cell? ⟨w.heap.size,1,none⟩=some (.int .i64 m.next):=HM1.out.cell 1
 have c2:wa.cell? ⟨w.heap.size,2,none⟩=some (.int .i64 m.floor):=HM1.out.cell 2
 have c3:wa.cell? ⟨w.heap.size,3,none⟩=some (.int .i64 m.snap):=HM1.out.cell 3
 have c4:wa.cell? ⟨w.heap.size,4,none⟩=some (.int .i64 m.snapSeq):=HM1.out.cell 4
 have c5:wa.cell? ⟨w.heap.size,5,none⟩=some (.slice oa m.segs.length cap):=HM1.out.cell 5
 have d0:wa.cell? ⟨w.heap.size+1,0,none⟩=some (.int .i64 m.gen):=HM2.out.cell 0
 have d1:wa.cell? ⟨w.heap.size+1,1,none⟩=some (.int .i64 m.next):=HM2.out.cell 1
 have d2:wa.cell? ⟨w.heap.size+1,2,none⟩=some (.int .i64 m.floor):=HM2.out.cell 2
 have d3:wa.cell? ⟨w.heap.size+1,3,none⟩=some (.int .i64 m.snap):=HM2.out.cell 3
 have d4:wa.cell? ⟨w.heap.size+1,4,none⟩=some (.int .i64 m.snapSeq):=HM2.out.cell 4
 have d5:wa.cell? ⟨w.heap.size+1,5,none⟩=some (.slice ob m.segs.length cap'):=HM2.out.cell 5
 simp only [mnCs] at hwa
 have HWA:=Lib.hid hwa
 clear hwa hcs hct
 go_enter Tryz.func11,Tryz.ntmps11
 go_wp2_with (simp only [←HWA.out])
 clear c0 c1 c2 c3 c4 d0 d1 d2 d3 d4 c5 d5
 go_loopw [5,51] (fun _ iv wr=> ∃ (k:Nat),k≤m.segs.length∧iv= .int .i64 k∧Hid (Below wa.heap.size wa wr)) (fun _ iv _=>m.segs.length - (intOf iv).toNat)
 case atStart=>exact⟨0,Nat.zero_le _,rfl,Lib.hid (by first | exact Below.refl _ _ | (rw [←HWA.out];exact Below.refl _ _))⟩
 case round=>
  obtain⟨k,hk,rfl,HB⟩:=hrel
  have HBW:=Lib.hid (Below.next HBA.out HB.out)
  by_cases hlt:k<m.segs.length
  ·obtain⟨g,hg,_,_⟩:=nth m.segs k hlt
   have q1:(k:Int)<(m.segs.length:Int):=by omega
   obtain⟨b,off,rfl,hrg⟩:=HC.out k g hg
   obtain⟨b',off',rfl,hrg'⟩:=HD.out k g hg
   have HR1:=Lib.hid (range_later hrg HBW.out)
   have HR2:=Lib.hid (range_later hrg' HBW.out)
   have HM1r:=Lib.hid (HM1.out.below HB.out)
   have HM2r:=Lib.hid (HM2.out.below HB.out)
   have heq:=fun w=>run_sgNeq g w
   clear hg hrg hrg'
   go_wp2_with fail
   refine wp_region_held_drew (S:=fun w'=>Below wr.heap.size wr w') (by kernel_rfl) (below_drewN' wr 1) (fun hHeld=> ?_)
   generalize World.drew _=We at*
   have FX1:=Lib.hid (fun(wF:World) (hSw:(fun w'=>Below wr.heap.size wr w') wF)=>((HM1r.out.below hSw).c5))
   refine tf FX1 0 rfl ?_
   refine tf FX1 1 rfl ?_
   refine tf FX1 2 rfl ?_
   refine tf FX1 3 rfl ?_
   clear FX1
   refine tkl 4 b (off+k*4) [.int .i64 g.num,.int .i64 g.first,.int .i64 g.count,.int .i64 g.foot] rfl rfl (fun w' h=>range_later HR1.out h) Tryz.underlying63 rfl (by rw [sgInfo];rfl) ?_
   simp only [pA,pB,pC,pD]
   have FX2:=Lib.hid (fun(wF:World) (hSw:(fun w'=>Below wr.heap.size wr w') wF)=>((HM2r.out.below hSw).c5))
   refine tf FX2 5 rfl ?_
   refine tf FX2 6 rfl ?_
   refine tf FX2 7 rfl ?_
   refine tf FX2 8 rfl ?_
   clear FX2
   refine tkl 9 b' (off'+k*4) [.int .i64 g.num,.int .i64 g.first,.int .i64 g.count,.int .i64 g.foot] rfl rfl (fun w' h=>range_later HR2.out h) Tryz.underlying63 rfl (by rw [sgInfo];rfl) ?_
   simp only [pA,pB,pC,pD]
   refine tq 10 rfl ?_
   refine wpAnyH_done (by kernel_rfl) ?_ _
   have HBE:=Lib.hid (Below.next HB.out hHeld)
   clear hHeld
   go_wp2
   go_roundw
   case rel=>exact⟨k+1,by omega,by go_num,HBE⟩
   case measure=>simp [intOf];omega
  ·obtain rfl:k=m.segs.length:=by omega
   go_wp2
   go_ret
   exact⟨rfl,HBW.out⟩
end Go.Proofs.YtcglcphhfmkccaaGreatDoor

namespace Go.Proofs.YtcglcphhfmkccaaGreatDoor
open Go.RowKit Go.ChangeShapes Go.WideShapes
theorem bRow_ofF {w:World} {v:Value} {zs:List Int} (h:Row 1 1 (RInt .u8) w v zs):BRow w v (zs.map fun z=>UInt8.ofNat z.toNat)∧zs.length≤140737488355328:=by
 obtain⟨oa,cap,rfl,h1,h2,hr,h3⟩:=h
 have hw: ∀ z∈zs,(Lit.int .u8 z).wf=true:=fun z hzm=>by
  obtain⟨i,hi,he⟩:=List.getElem_of_mem hzm
  obtain⟨b,off,_,h5⟩:=h3 (by rintro rfl;simp at hi)
  obtain⟨cs,_,_,hR⟩:=h5 i z (by rw [List.getElem?_eq_getElem hi,he])
  exact hR.2
 refine⟨⟨oa,cap,by rw [List.length_map],by simpa using h1,fun hn=> ?_⟩,by unfold reachBytes at hr;omega⟩
 obtain⟨b,off,h4,h5⟩:=h3 (by rintro rfl;exact hn rfl)
 refine⟨b,off,h4,fun i x hx=> ?_⟩
 rw [List.getElem?_map] at hx
 obtain⟨z,hz1,rfl⟩:=Option.map_eq_some_iff.1 hx
 obtain⟨cs,_,hcs,hR⟩:=h5 i z hz1
 have:=hcs 0 (.int .u8 z) (by rw [hR.1];rfl)
 rw [u8_of (hw z (List.mem_of_getElem? hz1))]
 simpa using this
def RFlF (w:World) (cs:List Value) (f:Fil):Prop:= ∃ dv,cs=(flCs f dv).toList∧BRow w dv f.data∧f.data.length≤140737488355328
theorem opensF_File:Opens Tryz.prog 47 3 RFlF:=by
 intro H enc W fuel cs x hx hz
 have ho:Opens Tryz.prog 47 3 (RCons 1 RStr (RCons 1 (RRow 1 1 (RInt .u8)) (RCons 1 (RInt .i64) RNil))):=
  opens_struct Tryz.underlying47 (by kernel_rfl) (opens_cons rfl (by kernel_rfl) (opens_str Tryz.underlying9) (opens_cons rfl (by kernel_rfl) (opens_slice Tryz.underlying45 (by kernel_rfl) (by kernel_rfl) (by decide) (opens_int (k:= .u8) Tryz.underlying5))
   (opens_cons rfl (by kernel_rfl) (opens_int Tryz.underlying3) opens_nil)))
 obtain⟨hl,⟨n,zs,s,_⟩,h0,h1,h2,_⟩:=ho enc W fuel cs x hx hz
 obtain⟨dv,e1,r1⟩:=h1
 obtain⟨a1,a2⟩:=bRow_ofF r1
 refine⟨hl,⟨n,zs.map fun z=>UInt8.ofNat z.toNat,s⟩,dv,?_,a1,by rw [List.length_map];exact a2⟩
 match cs,hl with
 | [c0,c1,c2],_=>
  have e0:=h0.1
  have e2:=h2.1
  simp at e0 e1 e2
  simp [flCs,e0,e1,e2]
structure RdFilesF (w:World) (v:Value) (fs:List Fil):Prop where
 row:FilesIn (fun _=>True) w v fs
 len:fs.length≤2932031007401
 dat: ∀ f∈fs,f.data.length≤140737488355328
set_option maxRecDepth 100000 in
theorem open_sl_api_File {H:Type} {enc:TypeId×Value→H} {W:World} {base:Nat} {v:Value} {d:DataW H} {p:List MemPlace}
  (hok:Value.okWide Tryz.prog W .any base 22 v) (h:DataW.Trod enc Tryz.prog W 0 (fun _=>true) true 22 v d p) (hz:(d.weights Tryz.prog 22).all (· ≤reachBytes)=true):
  ∃ a,RdFilesF W v a:=by
 obtain⟨rs,oa,cap,rfl,h1,h2,hr,h3⟩:=open_slice_by (P:=Tryz.prog) (opens_slice (bytes:=48) Tryz.underlying22 (by kernel_rfl) (by kernel_rfl) (by decide) opensF_File) Tryz.underlying22 hok h hz
 refine⟨rs,⟨oa,cap,rfl,h1,h2,fun hn=> ?_⟩,?_,fun f hf=> ?_⟩
 ·obtain⟨b,off,h4,h5⟩:=h3 hn
  refine⟨b,off,h4,trivial,fun i r hi=> ?_⟩
  obtain⟨cs,_,hc,dv,hR,hB,_⟩:=h5 i r hi
  exact⟨dv,fun j u hj=>hc j u (by rw [hR];exact hj),browIn_true hB⟩
 ·unfold reachBytes at hr
  omega
 ·obtain⟨i,hi,he⟩:=List.getElem_of_mem hf
  obtain⟨b,off,h4,h5⟩:=h3 (by rintro rfl;simp at hi)
  obtain⟨cs,_,_,dv,_,_,hd⟩:=h5 i f (by rw [List.getElem?_eq_getElem hi,he])
  exact hd
end Go.Proofs.YtcglcphhfmkccaaGreatDoor

namespace Go.Proofs.YtcglcphhfmkccaaGreatDoor
open Go.RowKit
theorem mountD_start {room:Int} {fs:List Fil} (h:(mountD room fs).2=0):(mountD room fs).1.reads=0∧(mountD room fs).1.fuse=0∧(mountD room fs).1.down=false∧(mountD room fs).1.steps=0:=by
 have key: ∀ (fs:List Fil) (d:Disk),(mountGo d fs).2=0→(mountGo d fs).1.reads=d.reads∧(mountGo d fs).1.fuse=d.fuse:=fun fs=>by
  induction fs with
  | nil=>intro d _;exact⟨rfl,rfl⟩
  | cons f r ih=>
   intro d he
   rw [mountGo] at he ⊢
   by_cases h0:mountE d f=0
   ·rw [if_pos h0] at he ⊢
    exact ih _ he
   ·rw [if_neg h0] at he
    exact absurd he h0
 have h2:=(mountD_ok h).2
 unfold mountD at h h2 ⊢
 split at h
 ·cases h
 ·rename_i hc
  rw [if_neg hc] at h2 ⊢
  exact⟨(key _ _ h).1,(key _ _ h).2,h2.2,h2.1⟩
end Go.Proofs.YtcglcphhfmkccaaGreatDoor

namespace Go.Proofs.YtcglcphhfmkccaaGreatDoor
open Go.RowKit Go.ChangeShapes Go.WideShapes
def KpV (w:World) (v:Value) (zs:List Int):Prop:=
 zs.length≤17592186044416∧((v= .slice none 0 0∧zs=[])∨ ∃ (a:Addr) (cap:Nat),v= .slice (some a) zs.length cap∧ ∀ (i:Nat) x,zs[i]? =some x→w.cell? (a.add i)=some (.int .i64 x))
theorem KpV.below {w w':World} {v:Value} {zs:List Int} (h:KpV w v zs) (hb:Below w.heap.size w w'):KpV w' v zs:=by
 refine⟨h.1,?_⟩
 rcases h.2 with h | ⟨a,cap,h1,h3⟩
 ·exact .inl h
 ·exact .inr ⟨a,cap,h1,fun i x hx=>cell_later hb (h3 i x hx)⟩
def RKp (w:World) (cs:List Value) (zs:List Int):Prop:= ∃ v,cs=[v]∧KpV w v zs
set_option maxRecDepth 100000 in
theorem opens_kp:Opens Tryz.prog 23 1 RKp:=by
 intro H enc W fuel cs x hx hz
 obtain⟨hl,zs,v,hv,oa,cap,rfl,h1,h2,hr,h3⟩:=opens_slice (bytes:=8) Tryz.underlying23 (by kernel_rfl) (by kernel_rfl) (by decide) (opens_int (k:= .i64) Tryz.underlying3) enc W fuel cs x hx hz
 refine⟨hl,zs,_,hv,by unfold reachBytes at hr;omega,?_⟩
 rcases DataW.trod_slice Tryz.underlying23 hx with⟨e1,_⟩ | ⟨a,len,cap',_,_,_,_,e1,_⟩
 ·left
  rw [hv] at e1
  simp only [List.cons.injEq,Value.slice.injEq,and_true] at e1
  obtain⟨rfl,e2,rfl⟩:=e1
  have:zs=[]:=List.length_eq_zero_iff.1 e2
  subst this
  exact⟨rfl,rfl⟩
 ·right
  rw [hv] at e1
  simp only [List.cons.injEq,Value.slice.injEq,and_true] at e1
  obtain⟨rfl,_,_⟩:=e1
  refine⟨a,cap,rfl,fun i y hy=> ?_⟩
  obtain⟨b,off,e,hc⟩:=h3 (by rintro rfl;simp at hy)
  simp only [Option.some.injEq] at e
  subst e
  obtain⟨cs',_,hcs,hR⟩:=hc i y hy
  have:=hcs 0 (.int .i64 y) (by rw [hR.1];rfl)
  rw [Addr.add]
  split
  ·rename_i h
   subst h
   simpa using this
  ·simpa using this
def FzRow (w:World) (v:Value) (zs:List Int):Prop:=
 ∃ oa cap,v= .slice oa zs.length cap∧zs.length≤17592186044416∧ ∀ (i:Nat) x,zs[i]? =some x→x≤9223372036854775807∧ ∃ b off,oa=some ⟨b,off,none⟩∧w.cell? ⟨b,off+i,none⟩=some (.int .i64 x)
def KzRow (w:World) (v:Value) (zs:List (List Int)):Prop:=
 ∃ oa cap,v= .slice oa zs.length cap∧ ∀ (i:Nat) z,zs[i]? =some z→ ∃ b off vi,oa=some ⟨b,off,none⟩∧w.cell? ⟨b,off+i,none⟩=some vi∧KpV w vi z
set_option maxRecDepth 100000 in
theorem open_sl_ints {H:Type} {enc:TypeId×Value→H} {W:World} {base:Nat} {v:Value} {d:DataW H} {p:List MemPlace}
  (hok:Value.okWide Tryz.prog W .any base 23 v) (h:DataW.Trod enc Tryz.prog W 0 (fun _=>true) true 23 v d p) (hz:(d.weights Tryz.prog 23).all (· ≤reachBytes)=true): ∃ a,FzRow W v a:=by
 obtain⟨zs,oa,cap,rfl,h1,h2,hr,h3⟩:=open_slice_by (P:=Tryz.prog) (opens_slice (bytes:=8) Tryz.underlying23 (by kernel_rfl) (by kernel_rfl) (by decide) (opens_int (k:= .i64) Tryz.underlying3)) Tryz.underlying23 hok h hz
 refine⟨zs,oa,cap,rfl,by unfold reachBytes at hr;omega,fun i x hx=> ?_⟩
 obtain⟨b,off,e,hc⟩:=h3 (by rintro rfl;simp at hx)
 obtain⟨cs',_,hcs,hR⟩:=hc i x hx
 refine⟨by have:=hR.2;simp [Lit.wf,show IntKind.i64.max=9223372036854775807 from by decide] at this;omega,b,off,e,?_⟩
 have:=hcs 0 (.int .i64 x) (by rw [hR.1];rfl)
 simpa using this
set_option maxRecDepth 100000 in
theorem open_sl__int {H:Type} {enc:TypeId×Value→H} {W:World} {base:Nat} {v:Value} {d:DataW H} {p:List MemPlace}
  (hok:Value.okWide Tryz.prog W .any base 24 v) (h:DataW.Trod enc Tryz.prog W 0 (fun _=>true) true 24 v d p) (hz:(d.weights Tryz.prog 24).all (· ≤reachBytes)=true): ∃ a,KzRow W v a:=by
 obtain⟨zs,oa,cap,rfl,h1,h2,hr,h3⟩:=open_slice_by (P:=Tryz.prog) (opens_slice (bytes:=24) Tryz.underlying24 (by kernel_rfl) (by kernel_rfl) (by decide) opens_kp) Tryz.underlying24 hok h hz
 refine⟨zs,oa,cap,rfl,fun i z hx=> ?_⟩
 obtain⟨b,off,e,hc⟩:=h3 (by rintro rfl;simp at hx)
 obtain⟨cs',_,hcs,vi,hv,hK⟩:=hc i z hx
 refine⟨b,off,vi,e,?_,hK⟩
 have:=hcs 0 vi (by rw [hv];rfl)
 simpa using this
structure BrW (w:World) (lo a c f m:Nat) (d:Disk) (L:List Slot) (g:Nat) (p:Pl) (sv rv:Value) (W:World):Prop where
 fs:FsAt W f m d L
 ft: ∀ b,foot f m L b→lo≤b∧(b<a∨c≤b)
 pl:PlBlk W g p sv rv
 sg:SgIn (fun b=>a≤b∧b<c) W sv p.man.segs
 bl:Below w.heap.size w W
 hi:c≤W.heap.size
 gb:a≤g∧g<c
 lo':w.heap.size≤lo∧lo≤a∧a≤c
section
variable {w : World} {lo a c f m : Nat} {d : Disk} {L : List Slot} {g : Nat} {p : Pl} {sv rv : Value} {W W' : World}
theorem BrW.post (h:BrW w lo a c f m d L g p sv rv W) {d':Disk} (hp:FsPost W f m L d' W'): ∃ L',BrW w lo a c f m d' L' g p sv rv W':=by
 obtain⟨L',h1,h2,h3⟩:=hp
 have h4:=h.hi
 have h5:=h.lo'
 have h6:=h.gb
 refine⟨L',h1,fun b hb=> ?_,h.pl.kept (h2.block _ h.pl.lt fun hc=>by have:=h.ft _ hc;omega),h.sg.turned h2 fun k hk hc=>by have:=h.ft _ hc;omega,
  turned_below h.bl h2 (fun k hk=>by have:=h.ft k hk;omega) h.bl.size,Nat.le_trans h4 h2.size,h6,h5⟩
 rcases h3 b hb with h7 | h7
 ·exact h.ft b h7
 ·exact⟨by omega,.inr (by omega)⟩
theorem BrW.below (h:BrW w lo a c f m d L g p sv rv W) (hb:Below W.heap.size W W'):BrW w lo a c f m d L g p sv rv W':=
 ⟨h.fs.below hb,h.ft,h.pl.below hb,h.sg.below hb,Below.next h.bl hb,Nat.le_trans h.hi hb.size,h.gb,h.lo'⟩
theorem BrW.nib (h:BrW w lo a c f m d L g p sv rv W) (hn:NibTab w):NibTab W∧ ¬ foot f m L 0:=
 ⟨hn.below h.bl,fun hc=>by have:=h.ft _ hc;have:=hn.lt;have:=h.lo';omega⟩
end
theorem RunQ.post {w:World} {f m:Nat} {L:List Slot} {r:(Pl×Int)×Disk} {e:Ending} {w':World} (h:RunQ w f m L r e w'): ∃ sv rv,e= .returned (.tuple #[plV r.1.1 sv rv,.int .i64 r.1.2])∧sv.oneCell'=true∧rv.oneCell'=true∧SgRow w' sv r.1.1.man.segs∧FsPost w f m L r.2 w':=by
 obtain⟨sv,rv,L',h1,h2,_,h3,h4,h5,h6,h7⟩:=h
 exact⟨sv,rv,h1,h3,h4,h2.row,L',h5,h6,h7⟩
theorem kpIn_own {A:Nat→Prop} {w:World} {B:Nat} {v:Value} {zs:List Int} (h:w.ownsRow B 3 1 v zs.length (zs.map fun z=>Value.int .i64 z)) (hA: ∀ b,B≤b→A b):KpIn A w v zs:=by
 obtain⟨oa,cap,rfl,h1,h2⟩:=own_shape h
 refine⟨oa,cap,rfl,h1,by unfold maxLen at h2;omega,fun i x hx=> ?_⟩
 obtain⟨g,cap',e,hB,_,_,_,hc⟩:=own_get h (by have:=(List.getElem?_eq_some_iff.1 hx).1;omega)
 simp only [Value.slice.injEq] at e
 obtain⟨rfl,_,_⟩:=e
 exact⟨g,0,rfl,hA g hB,by rw [Nat.zero_add];exact hc i _ (by rw [List.getElem?_map,hx];rfl)⟩
theorem BrkE.rd {room:Int} {fs1:List Fil} {d:Disk} (h:BrkE room fs1 d) (n:Nat):BrkE room fs1 (rdD d n):=⟨rdD_ok h.ok n,h.rm,h.j⟩
set_option maxRecDepth 100000 in
set_option maxHeartbeats 8000000 in
theorem recoveryBroken_walk0 (room:Int) (fs:List Fil) (fv:Value) (fz:List Int) (v2:Value) (kz:List (List Int)) (v3:Value) (w:World) (hf:FilesIn (fun _=>True) w fv fs) (hl: ∀ f∈fs,f.data.length≤140737488355328) (hlen:fs.length≤2932031007401)
  (h2:FzRow w v2 fz) (h3:KzRow w v3 kz) (hn:NibTab w):
  Calls Tryz.prog 3 #[.int .i64 room,fv,v2,v3] w fun e w'=>e= .returned (.bool true)∧Below w.heap.size w w':=by
 obtain⟨i0,hi,hz0,hz1,hz2⟩:=info_parts (show (Tryz.prog.info? 3).map (fun i=>(i.zero,i.size,i.bytes))=some (some (.int .i64 0),1,8) by kernel_rfl)
 obtain⟨zo,zc,rfl,hzl,hzr⟩:=h2
 obtain⟨ko,kc,rfl,hkr⟩:=h3
 have HZR:=Lib.hid hzr
 have HKR:=Lib.hid hkr
 have HZL:=Lib.hid hzl
 have HF:=Lib.hid hf
 have HL:=Lib.hid hl
 have HLEN:=Lib.hid hlen
 have HNB:=Lib.hid hn
 obtain⟨rd,hrd⟩: ∃ r,r=mountD room fs:=⟨_,rfl⟩
 have HMO:=Lib.hid (show rd.2=0→rd.1.reads=0∧rd.1.fuse=0∧rd.1.down=false∧rd.1.steps=0 from fun h=>by rw [hrd] at h ⊢;exact mountD_start h)
 have HPF:=Lib.hid (fun(W:World) (A:Nat→Prop) (v:Value) (h:FilesIn A W v fs)=>fsMount_any room fs v W h hl)
 rw [←hrd] at HPF
 clear hrd
 obtain⟨d,er⟩:=rd
 obtain⟨ov,fc,rfl,_⟩:=hf
 clear hl hlen hn hzr hkr hzl
 go_enter Tryz.func3,Tryz.ntmps3
 go_wp2_with fail
 refine(head18_any _ HNB.out).mono ?_
 rintro e w1 ⟨rfl,hb1⟩
 have HB1:=Lib.hid hb1
 clear hb1
 go_wp2_with fail
 refine(refCopyF_any (A:=fun _=>True) fs _ w1 (HF.out.below HB1.out) HLEN.out HL.out).mono ?_
 rintro e w2 ⟨vc,rfl,hf2,hb2⟩
 have HB2:=Lib.hid (Below.next HB1.out hb2)
 have HC2:=Lib.hid (HPF.out w2 _ vc hf2)
 clear hf2 hb2 HB1 HPF
 go_wp2_with fail
 refine HC2.out.mono ?_
 rintro e w3 ⟨hc3,hb3⟩
 have HB3:=Lib.hid (Below.next HB2.out hb3)
 rcases hc3 with⟨hne,rfl⟩ | ⟨hz,f,m,L,rfl,hat3,hlow⟩
 ·have hq:(er != 0)=true:=by simpa using hne
  clear hne hb3 HMO HC2
  go_wp2
  go_ret
  exact⟨rfl,HB3.out⟩
 ·simp only at hz
  subst hz
  obtain⟨_,_,_,hs0⟩:=HMO.out rfl
  have HBS:=Lib.hid (brk_start hat3.ok)
  obtain⟨rm,hrm⟩: ∃ rm,rm=d.room:=⟨_,rfl⟩
  obtain⟨fs1,hfs1⟩: ∃ x,x=restF d.files []:=⟨_,rfl⟩
  rw [←hrm,←hfs1] at HBS
  obtain⟨d1,hd1⟩: ∃ x,x=(doD d (opRestart [])).1:=⟨_,rfl⟩
  have HD1:=Lib.hid (show d1.down=false∧d1.steps=0∧d1.files=fs1∧d1.room=rm by rw [hd1,doD_restart,hfs1,hrm];exact⟨rfl,hs0,rfl,rfl⟩)
  have HRS:=Lib.hid (restart_any w3 f m d L hat3 [] (.slice none 0 0) (kpIn_nil _ _))
  rw [←hd1] at HBS HRS
  have HLT:=Lib.hid hat3.lt
  have HLOW:=Lib.hid hlow
  have hwz:=HB2.out.size
  have hwz3:=hb3.size
  clear hb3 hat3 hlow hs0 HMO HC2 hrm hfs1 hd1
  go_wp2_with fail
  refine HRS.out.mono ?_
  rintro e w5 ⟨rfl,hp5⟩
  obtain⟨L1,hat5,ht5,hl5⟩:=hp5
  have HB5:=Lib.hid (turned_below HB3.out ht5 (fun k hk=>by have:=HLOW.out k hk;omega) HB3.out.size)
  have HFT5:=Lib.hid (show ∀ b,foot f m L1 b→w2.heap.size≤b∧b<w5.heap.size from fun b hb=>⟨(hl5 b hb).elim (fun h=>HLOW.out b h) (fun h=>by omega),hat5.lt b hb⟩)
  have HAT5:=Lib.hid hat5
  have hwz5:=ht5.size
  have HPL:=Lib.hid (plan_any w5 f m d1 L1 hat5 (HNB.out.below HB5.out))
  have HPD:=Lib.hid (planD_on HBS.out.1.ok HD1.out.1)
  rw [HD1.out.2.2.2,HD1.out.2.2.1] at HPD
  obtain⟨r,hr⟩: ∃ r,r=planD d1:=⟨_,rfl⟩
  rw [←hr] at HPL HPD
  clear hat5 ht5 hl5 HRS hr HLOW HLT
  obtain⟨⟨p,e0⟩,nr⟩:=r
  unfold PlanP at HPL
  dsimp only at HPL HPD
  have HBE:=Lib.hid (HBS.out.1.rd nr)
  have HSAF:=Lib.hid HBS.out.2
  have HON:=Lib.hid (show (rdD d1 nr).down=false∧(rdD d1 nr).steps=0 from⟨HD1.out.1,HD1.out.2.1⟩)
  clear HBS HD1
  go_wp2_with fail
  refine HPL.out.mono ?_
  rintro e w6 ⟨sv,rv,rfl,hsg,hsr,hone,hrone,hf6,ht6⟩
  have HONE:=Lib.hid hone
  have HRONE:=Lib.hid hrone
  have HPz:=Lib.hid (plBlk_alloc w6 planZ (.slice none 0 0) (.slice none 0 0))
  have hba:=below_alloc w6 (.cells (plCs planZ (.slice none 0 0) (.slice none 0 0)) 37)
  simp only [plCs,planZ,zeroM] at HPz hba
  have hwz6:=ht6.size
  have HF6:=Lib.hid hf6
  have HSG6:=Lib.hid hsg.low
  have HB6:=Lib.hid (turned_below HB5.out ht6 (fun k hk=>by have:=(HFT5.out k (by rw [hk];exact foot_f)).1;omega) HB5.out.size)
  clear hone hrone hsg hsr hf6 ht6 HPL
  go_wp2_with (with_reducible refine wpList_store_pl rfl (.tmp 11) (.tmp 38) rfl w6.heap.size ⟨false,⟨0,0,0,0,0,[]⟩,[],0,0⟩ p (.slice none 0 0) (.slice none 0 0) sv rv rfl rfl HPz.out HONE.out HRONE.out ?_)
  intro w7 hw7
  have hb7:Below w6.heap.size w6 w7:=by rw [hw7.out];exact below_row hba (Nat.le_refl _) _
  have HW7:=Lib.hid (show BrW w w2.heap.size w5.heap.size w7.heap.size f m (rdD d1 nr) L1 w6.heap.size p sv rv w7 from by
   have hpb:PlBlk w7 w6.heap.size p sv rv:=by rw [hw7.out];exact HPz.out.row
   have h1:=hpb.lt
   have h2:=hb7.size
   exact⟨HF6.out.below hb7,fun b hb=>by have:=HFT5.out b hb;omega,hpb,(HSG6.out.below hb7).mono (fun k hk=>by omega),Below.next HB6.out hb7,Nat.le_refl _,by omega,by omega⟩)
  clear hw7 hb7 hba HPz HF6 HSG6 HB6 HAT5 HFT5 HB5 hwz5 hwz6 hwz3 hwz
  generalize w6.heap.size=g11 at*
  generalize w5.heap.size=na at*
  generalize w7.heap.size=nc at*
  generalize rdD d1 nr=dp at*
  have HFB:=Lib.hid (show findB rm fs1=(p,e0) from HPD.out.symm)
  clear HPD
  go_wp2
  go_loopw [13,14,15,16,17,42] (fun _ _ _ _ _ iv wr=> ∃ (k:Nat) (dk:Disk) (Lk:List Slot),k≤fz.length∧iv= .int .i64 (k:Int)∧Hid (BrkE rm fs1 dk∧dk.down=false∧dk.steps≤1000*(k:Int))∧Hid (BrW w w2.heap.size na nc f m dk Lk g11 p sv rv wr)) (fun _ _ _ _ _ iv _=>fz.length - (intOf iv).toNat)
  case atStart=>exact⟨0,dp,L1,Nat.zero_le _,rfl,Lib.hid ⟨HBE.out,HON.out.1,by rw [HON.out.2];simp⟩,HW7⟩
  case round=>
   obtain⟨k,dk,Lk,hk,rfl,HE,HW⟩:=hrel
   clear HW7 HBE HON
   by_cases hlt:k<fz.length
   ·obtain⟨n,hnk⟩: ∃ n,fz[k]? =some n:=⟨_,List.getElem?_eq_getElem hlt⟩
    have q1:(k:Int)<(fz.length:Int):=by omega
    have hw1:IntKind.i64.wrap ((k:Int)+1)=(k:Int)+1:=by have:=HZL.out;rw [IntKind.wrap_i64];omega
    obtain⟨hnm,zb,zoff,rfl,hzc⟩:=HZR.out k n hnk
    have cz:=cell_later HW.out.bl hzc
    have HFU:=Lib.hid (fuse_any wr f m dk Lk HW.out.fs n hnm)
    obtain⟨hE1,hE2,hE3⟩:=HE.out.1.fuse n hnm
    obtain⟨dF,hdF⟩: ∃ x,x=(doD dk (opFuse n)).1:=⟨_,rfl⟩
    rw [←hdF] at hE1 hE2 hE3 HFU
    have HBR:=Lib.hid (brk_run hE1 (hE2.trans HE.out.2.1))
    have HSF:=Lib.hid (show dF.steps≤1000*(k:Int) by rw [hE3];exact HE.out.2.2)
    clear hE1 hE2 hE3 hdF hnk hzc hnm HE
    go_wp2_with fail
    refine HFU.out.mono ?_
    rintro e w8 ⟨rfl,hp8⟩
    obtain⟨LF,hW8⟩:=HW.out.post hp8
    have HW8:=Lib.hid hW8
    have HRU:=Lib.hid (run_any w8 f m dF LF HW8.out.fs (HW8.out.nib HNB.out).1 (HW8.out.nib HNB.out).2 (by have:=HSF.out;have:=HZL.out;omega))
    clear hp8 hW8 HW HFU cz
    obtain⟨q,hq⟩: ∃ q,q=runR dF:=⟨_,rfl⟩
    rw [←hq] at HBR HRU
    clear hq
    obtain⟨⟨pq,ge⟩,dq⟩:=q
    go_wp2_with fail
    refine HRU.out.mono ?_
    intro e w9 hq
    obtain⟨sv2,rv2,rfl,ho2,hr2,_,hp9⟩:=hq.post
    obtain⟨LR,hW9⟩:=HW8.out.post hp9
    have HW9:=Lib.hid hW9
    have HO2:=Lib.hid ho2
    have HR2:=Lib.hid hr2
    have HPz:=Lib.hid (plBlk_alloc w9 planZ (.slice none 0 0) (.slice none 0 0))
    have hba:=below_alloc w9 (.cells (plCs planZ (.slice none 0 0) (.slice none 0 0)) 37)
    simp only [plCs,planZ,zeroM] at HPz hba
    clear hq hp9 hW9 ho2 hr2 HRU HW8
    go_wp2_with (with_reducible refine wpList_store_pl rfl (.tmp 15) (.tmp 53) rfl w9.heap.size ⟨false,⟨0,0,0,0,0,[]⟩,[],0,0⟩ pq (.slice none 0 0) (.slice none 0 0) sv2 rv2 rfl rfl HPz.out HO2.out HR2.out ?_)
    intro w10 hw10
    have hb10:Below w9.heap.size w9 w10:=by rw [hw10.out];exact below_row hba (Nat.le_refl _) _
    have HW10:=Lib.hid (HW9.out.below hb10)
    have HEQ:=Lib.hid HBR.out.e
    have HSQ:=Lib.hid (show dq.steps≤1000*(k:Int)+1000 by have h1:=HBR.out.st;have h2:=HSF.out;simp only at h1;omega)
    clear hw10 hb10 hba HPz HW9 HO2 HR2
    rcases HBR.out.out with⟨hge,hg3,_⟩ | ⟨hge,_⟩
    ·rw [HFB.out] at hge
     simp only at hge hg3
     subst hge
     have t1:(ge != 3)=true:=by simpa using hg3
     have t2:(ge != ge)=false:=by simp
     clear hg3 HBR
     go_wp2_with fail
     refine(restart_any w10 f m dq LR HW10.out.fs [] (.slice none 0 0) (kpIn_nil _ _)).mono ?_
     rintro e wt1 ⟨rfl,hpt⟩
     obtain⟨LT,hWT⟩:=HW10.out.post hpt
     have HWT:=Lib.hid hWT
     obtain⟨hE1,hE2,hE3,hE4⟩:=HEQ.out.restart HSAF.out []
     obtain⟨dT,hdT⟩: ∃ x,x=(doD dq (opRestart [])).1:=⟨_,rfl⟩
     rw [←hdT] at hE1 hE2 hE3 hE4 HWT
     have HBR:=Lib.hid (brk_run hE1 hE2)
     have HRU:=Lib.hid (run_any wt1 f m dT LT HWT.out.fs (HWT.out.nib HNB.out).1 (HWT.out.nib HNB.out).2 (by have:=HSQ.out;have:=HZL.out;omega))
     have HFT:=Lib.hid hE3
     clear hpt hWT hE1 hE2 hE3 hE4 hdT
     obtain⟨q,hq⟩: ∃ q,q=runR dT:=⟨_,rfl⟩
     rw [←hq] at HBR HRU
     clear hq
     obtain⟨⟨pq,eq⟩,dq⟩:=q
     go_wp2_with fail
     refine HRU.out.mono ?_
     intro e wt2 hq
     obtain⟨svt,rvt,rfl,hot,hrt,hst,hpt2⟩:=hq.post
     obtain⟨LQ,hWQ⟩:=HWT.out.post hpt2
     have HWQ:=Lib.hid hWQ
     have HOT:=Lib.hid hot
     have HRT:=Lib.hid hrt
     have HST:=Lib.hid hst
     have HPz:=Lib.hid (plBlk_alloc wt2 planZ (.slice none 0 0) (.slice none 0 0))
     have hba:=below_alloc wt2 (.cells (plCs planZ (.slice none 0 0) (.slice none 0 0)) 37)
     simp only [plCs,planZ,zeroM] at HPz hba
     clear hq hpt2 hWQ hot hrt hst HRU HWT
     go_wp2_with (with_reducible refine wpList_store_pl rfl (.tmp 18) (.tmp 84) rfl wt2.heap.size ⟨false,⟨0,0,0,0,0,[]⟩,[],0,0⟩ pq (.slice none 0 0) (.slice none 0 0) svt rvt rfl rfl HPz.out HOT.out HRT.out ?_)
     intro wt3 hwt3
     have hbt3:Below wt2.heap.size wt2 wt3:=by rw [hwt3.out];exact below_row hba (Nat.le_refl _) _
     have HPT:=Lib.hid (show PlBlk wt3 wt2.heap.size pq svt rvt by rw [hwt3.out];exact HPz.out.row)
     have HWE:=Lib.hid (HWQ.out.below hbt3)
     have HSE:=Lib.hid (HST.out.below hbt3)
     clear hwt3 hbt3 hba HPz HWQ HST
     obtain⟨hge,hgn,hgs⟩:=HBR.out.out.resolve_right fun h=>h.2 HFT.out
     rw [HFB.out] at hge hgs
     simp only at hge hgs
     subst hge
     have t1:(eq != eq)=false:=by simp
     rcases hez:(eq != 0) with _ | _
     case true=>
      clear hgs hgn
      go_wp2
      go_ret
      exact⟨rfl,HWE.out.bl⟩
     case false=>
      have h0:eq=0:=by simpa using hez
      subst h0
      obtain⟨hm1,hm2,hm3⟩:=hgs rfl
      obtain⟨fr,mn,rem,cut,last⟩:=pq
      simp only at hm1 hm2 hm3
      subst hm1 hm2 hm3
      have HMAN:=Lib.hid (sameMan_any p.man svt sv wt3 HSE.out HWE.out.sg.row)
      have c1:wt3.cell? ⟨wt2.heap.size,1,none⟩=some (.int .i64 p.man.gen):=HPT.out.cell 1
      have c2:wt3.cell? ⟨wt2.heap.size,2,none⟩=some (.int .i64 p.man.next):=HPT.out.cell 2
      have c3:wt3.cell? ⟨wt2.heap.size,3,none⟩=some (.int .i64 p.man.floor):=HPT.out.cell 3
      have c4:wt3.cell? ⟨wt2.heap.size,4,none⟩=some (.int .i64 p.man.snap):=HPT.out.cell 4
      have c5:wt3.cell? ⟨wt2.heap.size,5,none⟩=some (.int .i64 p.man.snapSeq):=HPT.out.cell 5
      have c6:=HPT.out.c6
      have c8:=HPT.out.c8
      have c9:wt3.cell? ⟨wt2.heap.size,9,none⟩=some (.int .i64 p.last):=HPT.out.cell 9
      have e1:wt3.cell? ⟨g11,1,none⟩=some (.int .i64 p.man.gen):=HWE.out.pl.cell 1
      have e2:wt3.cell? ⟨g11,2,none⟩=some (.int .i64 p.man.next):=HWE.out.pl.cell 2
      have e3:wt3.cell? ⟨g11,3,none⟩=some (.int .i64 p.man.floor):=HWE.out.pl.cell 3
      have e4:wt3.cell? ⟨g11,4,none⟩=some (.int .i64 p.man.snap):=HWE.out.pl.cell 4
      have e5:wt3.cell? ⟨g11,5,none⟩=some (.int .i64 p.man.snapSeq):=HWE.out.pl.cell 5
      have e6:=HWE.out.pl.c6
      have e8:=HWE.out.pl.c8
      have e9:wt3.cell? ⟨g11,9,none⟩=some (.int .i64 p.last):=HWE.out.pl.cell 9
      obtain⟨xo,xc,hxv,_⟩:=HSE.out
      obtain⟨yo,yc,hyv,_⟩:=HWE.out.sg
      subst hxv hyv
      have t2:(p.last==p.last)=true:=by simp
      have t3:(p.cut==p.cut)=true:=by simp
      go_wp2_with fail
      refine HMAN.out.mono ?_
      rintro e wt4 ⟨rfl,hbt4⟩
      have HBZ:=Lib.hid (Below.next HWE.out.bl hbt4)
      clear hbt4
      go_wp2
      go_ret
      exact⟨rfl,HBZ.out⟩
    ·simp only at hge
     subst hge
     clear HBR
     have HOW:=Lib.hid (own_fresh w10 3 1 w10.heap.size (Nat.le_refl _))
     have HWA:=Lib.hid (HW10.out.below (below_alloc w10 (.cells #[] 3)))
     have hsz10:w10.heap.size≤(w10.alloc (.cells #[] 3)).heap.size:=by rw [World.size_alloc];omega
     have hft10: ∀ b,w10.heap.size≤b→ ¬ foot f m LR b:=fun b hb hc=>by have:=HW10.out.fs.lt b hc;omega
     have HFX:=Lib.hid hft10
     clear hft10
     by_cases hki:k<kz.length
     ·obtain⟨z,hz⟩: ∃ z,kz[k]? =some z:=⟨_,List.getElem?_eq_getElem hki⟩
      have q2:(k:Int)<(kz.length:Int):=by omega
      obtain⟨kb,koff,vi,rfl,hkc,hkp⟩:=HKR.out k z hz
      have ck:=cell_later HWA.out.bl hkc
      have HKP:=Lib.hid (hkp.below HWA.out.bl)
      clear hz hkc hkp
      obtain⟨hzl2,hnil | ⟨ad,cap,rfl,hcells⟩⟩:=HKP.out
      ·obtain⟨rfl,rfl⟩:=hnil
       have HRE:=Lib.hid (restart_any (w10.alloc (.cells #[] 3)) f m dq LR HWA.out.fs [] _ (kpIn_own (zs:=[]) HOW.out HFX.out))
       go_wp2_with (at_builtin;refine wpList_append_own_none rfl (.tmp 69) (.tmp 73) 23 rfl w10.heap.size 3 _ 1 Tryz.underlying23 rfl _ 0 [] rfl HOW.out rfl ?_)
       clear HOW
       go_wp2_with fail
       refine HRE.out.mono ?_
       rintro e w12 ⟨rfl,hp12⟩
       obtain⟨LZ,hW12⟩:=HWA.out.post hp12
       have HW12:=Lib.hid hW12
       obtain⟨hE1,hE2,_,hE4⟩:=HEQ.out.restart HSAF.out []
       have HEE:=Lib.hid (show BrkE rm fs1 (doD dq (opRestart [])).1∧(doD dq (opRestart [])).1.down=false∧(doD dq (opRestart [])).1.steps≤1000*((k+1:Nat):Int) from⟨hE1,hE2,by rw [hE4];have:=HSQ.out;push_cast;omega⟩)
       clear hp12 hW12 hE1 hE2 hE4 HWA HW10 HEQ HSQ
       go_wp2
       go_roundw
       case rel=>exact⟨k+1,_,LZ,by omega,by go_num,HEE,HW12⟩
       case measure=>simp [intOf];omega
      ·have HAP:=Lib.hid HW10.out
       clear HWA
       go_wp2_with (at_builtin;refine wpList_append_own _ rfl (.tmp 69) (.tmp 73) 23 rfl w10.heap.size 3 i0 (.int .i64 0) 1 8 Tryz.underlying23 hi hz0 hz1 hz2 rfl (by decide) _ 0 [] rfl HOW.out ad z.length cap (z.map fun x=>Value.int .i64 x) rfl (by simp) (fun j u hj=> ?c1) (fun u hu=> ?c2) (by unfold maxLen;omega) (by omega) hsz10 ?c3)
       case c1=>
        rw [List.getElem?_map] at hj
        obtain⟨y,hy,rfl⟩:=Option.map_eq_some_iff.1 hj
        exact hcells j y hy
       case c2=>
        obtain⟨y,_,rfl⟩:=List.mem_map.1 hu
        rfl
       intro v' wa hown hgrow _
       have hba:=(below_alloc w10 (.cells #[] 3)).trans (below_of_grown HOW.out hsz10 hgrow)
       have HWA:=Lib.hid (HAP.out.below hba)
       have HRE:=Lib.hid (restart_any wa f m dq LR HWA.out.fs z v' (kpIn_own hown HFX.out))
       clear HOW hown hgrow hba HAP hcells hzl2 HKP ck
       go_wp2_with fail
       refine HRE.out.mono ?_
       rintro e w12 ⟨rfl,hp12⟩
       obtain⟨LZ,hW12⟩:=HWA.out.post hp12
       have HW12:=Lib.hid hW12
       obtain⟨hE1,hE2,_,hE4⟩:=HEQ.out.restart HSAF.out z
       have HEE:=Lib.hid (show BrkE rm fs1 (doD dq (opRestart z)).1∧(doD dq (opRestart z)).1.down=false∧(doD dq (opRestart z)).1.steps≤1000*((k+1:Nat):Int) from⟨hE1,hE2,by rw [hE4];have:=HSQ.out;push_cast;omega⟩)
       clear hp12 hW12 hE1 hE2 hE4 HWA HW10 HEQ HSQ
       go_wp2
       go_roundw
       case rel=>exact⟨k+1,_,LZ,by omega,by go_num,HEE,HW12⟩
       case measure=>simp [intOf];omega
     ·have q2: ¬ (k:Int)<(kz.length:Int):=by omega
      have HRE:=Lib.hid (restart_any (w10.alloc (.cells #[] 3)) f m dq LR HWA.out.fs [] _ (kpIn_own (zs:=[]) HOW.out HFX.out))
      clear HOW
      go_wp2_with fail
      refine HRE.out.mono ?_
      rintro e w12 ⟨rfl,hp12⟩
      obtain⟨LZ,hW12⟩:=HWA.out.post hp12
      have HW12:=Lib.hid hW12
      obtain⟨hE1,hE2,_,hE4⟩:=HEQ.out.restart HSAF.out []
      have HEE:=Lib.hid (show BrkE rm fs1 (doD dq (opRestart [])).1∧(doD dq (opRestart [])).1.down=false∧(doD dq (opRestart [])).1.steps≤1000*((k+1:Nat):Int) from⟨hE1,hE2,by rw [hE4];have:=HSQ.out;push_cast;omega⟩)
      clear hp12 hW12 hE1 hE2 hE4 HWA HW10 HEQ HSQ
      go_wp2
      go_roundw
      case rel=>exact⟨k+1,_,LZ,by omega,by go_num,HEE,HW12⟩
      case measure=>simp [intOf];omega
   ·obtain rfl:k=fz.length:=by omega
    have HEK:=Lib.hid HE.out.1
    have HSK:=Lib.hid (show dk.steps≤1000*(fz.length:Int)+1000 by have:=HE.out.2.2;omega)
    clear HE
    go_wp2_with fail
    refine(restart_any wr f m dk Lk HW.out.fs [] (.slice none 0 0) (kpIn_nil _ _)).mono ?_
    rintro e wt1 ⟨rfl,hpt⟩
    obtain⟨LT,hWT⟩:=HW.out.post hpt
    have HWT:=Lib.hid hWT
    obtain⟨hE1,hE2,hE3,hE4⟩:=HEK.out.restart HSAF.out []
    obtain⟨dT,hdT⟩: ∃ x,x=(doD dk (opRestart [])).1:=⟨_,rfl⟩
    rw [←hdT] at hE1 hE2 hE3 hE4 HWT
    have HBR:=Lib.hid (brk_run hE1 hE2)
    have HRU:=Lib.hid (run_any wt1 f m dT LT HWT.out.fs (HWT.out.nib HNB.out).1 (HWT.out.nib HNB.out).2 (by have:=HSK.out;have:=HZL.out;omega))
    have HFT:=Lib.hid hE3
    clear hpt hWT hE1 hE2 hE3 hE4 hdT
    obtain⟨q,hq⟩: ∃ q,q=runR dT:=⟨_,rfl⟩
    rw [←hq] at HBR HRU
    clear hq
    obtain⟨⟨pq,eq⟩,dq⟩:=q
    go_wp2_with fail
    refine HRU.out.mono ?_
    intro e wt2 hq
    obtain⟨svt,rvt,rfl,hot,hrt,hst,hpt2⟩:=hq.post
    obtain⟨LQ,hWQ⟩:=HWT.out.post hpt2
    have HWQ:=Lib.hid hWQ
    have HOT:=Lib.hid hot
    have HRT:=Lib.hid hrt
    have HST:=Lib.hid hst
    have HPz:=Lib.hid (plBlk_alloc wt2 planZ (.slice none 0 0) (.slice none 0 0))
    have hba:=below_alloc wt2 (.cells (plCs planZ (.slice none 0 0) (.slice none 0 0)) 37)
    simp only [plCs,planZ,zeroM] at HPz hba
    clear hq hpt2 hWQ hot hrt hst HRU HWT
    go_wp2_with (with_reducible refine wpList_store_pl rfl (.tmp 18) (.tmp 84) rfl wt2.heap.size ⟨false,⟨0,0,0,0,0,[]⟩,[],0,0⟩ pq (.slice none 0 0) (.slice none 0 0) svt rvt rfl rfl HPz.out HOT.out HRT.out ?_)
    intro wt3 hwt3
    have hbt3:Below wt2.heap.size wt2 wt3:=by rw [hwt3.out];exact below_row hba (Nat.le_refl _) _
    have HPT:=Lib.hid (show PlBlk wt3 wt2.heap.size pq svt rvt by rw [hwt3.out];exact HPz.out.row)
    have HWE:=Lib.hid (HWQ.out.below hbt3)
    have HSE:=Lib.hid (HST.out.below hbt3)
    clear hwt3 hbt3 hba HPz HWQ HST
    obtain⟨hge,hgn,hgs⟩:=HBR.out.out.resolve_right fun h=>h.2 HFT.out
    rw [HFB.out] at hge hgs
    simp only at hge hgs
    subst hge
    have t1:(eq != eq)=false:=by simp
    rcases hez:(eq != 0) with _ | _
    case true=>
     clear hgs hgn
     go_wp2
     go_ret
     exact⟨rfl,HWE.out.bl⟩
    case false=>
     have h0:eq=0:=by simpa using hez
     subst h0
     obtain⟨hm1,hm2,hm3⟩:=hgs rfl
     obtain⟨fr,mn,rem,cut,last⟩:=pq
     simp only at hm1 hm2 hm3
     subst hm1 hm2 hm3
     have HMAN:=Lib.hid (sameMan_any p.man svt sv wt3 HSE.out HWE.out.sg.row)
     have c1:wt3.cell? ⟨wt2.heap.size,1,none⟩=some (.int .i64 p.man.gen):=HPT.out.cell 1
     have c2:wt3.cell? ⟨wt2.heap.size,2,none⟩=some (.int .i64 p.man.next):=HPT.out.cell 2
     have c3:wt3.cell? ⟨wt2.heap.size,3,none⟩=some (.int .i64 p.man.floor):=HPT.out.cell 3
     have c4:wt3.cell? ⟨wt2.heap.size,4,none⟩=some (.int .i64 p.man.snap):=HPT.out.cell 4
     have c5:wt3.cell? ⟨wt2.heap.size,5,none⟩=some (.int .i64 p.man.snapSeq):=HPT.out.cell 5
     have c6:=HPT.out.c6
     have c8:=HPT.out.c8
     have c9:wt3.cell? ⟨wt2.heap.size,9,none⟩=some (.int .i64 p.last):=HPT.out.cell 9
     have e1:wt3.cell? ⟨g11,1,none⟩=some (.int .i64 p.man.gen):=HWE.out.pl.cell 1
     have e2:wt3.cell? ⟨g11,2,none⟩=some (.int .i64 p.man.next):=HWE.out.pl.cell 2
     have e3:wt3.cell? ⟨g11,3,none⟩=some (.int .i64 p.man.floor):=HWE.out.pl.cell 3
     have e4:wt3.cell? ⟨g11,4,none⟩=some (.int .i64 p.man.snap):=HWE.out.pl.cell 4
     have e5:wt3.cell? ⟨g11,5,none⟩=some (.int .i64 p.man.snapSeq):=HWE.out.pl.cell 5
     have e6:=HWE.out.pl.c6
     have e8:=HWE.out.pl.c8
     have e9:wt3.cell? ⟨g11,9,none⟩=some (.int .i64 p.last):=HWE.out.pl.cell 9
     obtain⟨xo,xc,hxv,_⟩:=HSE.out
     obtain⟨yo,yc,hyv,_⟩:=HWE.out.sg
     subst hxv hyv
     have t2:(p.last==p.last)=true:=by simp
     have t3:(p.cut==p.cut)=true:=by simp
     go_wp2_with fail
     refine HMAN.out.mono ?_
     rintro e wt4 ⟨rfl,hbt4⟩
     have HBZ:=Lib.hid (Below.next HWE.out.bl hbt4)
     clear hbt4
     go_wp2
     go_ret
     exact⟨rfl,HBZ.out⟩
theorem recoveryBroken_walk (a0:Int) (v1:Value) (a1:List Fil) (v2:Value) (a2:List Int) (v3:Value) (a3:List (List Int)) (w:World) (_:(Lit.int .i64 a0).wf=true) (h1:RdFilesF w v1 a1) (h2:FzRow w v2 a2) (h3:KzRow w v3 a3) (hL:laidMetH Tryz.prog Rows.recoveryBrokenRow.laid w) (_:w.ShapedOpen Tryz.prog):
  Calls Tryz.prog 3 #[.int .i64 a0,v1,v2,v3] w fun e w'=>e= .returned (.bool true)∧Below w.heap.size w w':=by
 have hL0:laidMet Tryz.prog Rows.recoveryBrokenRow.laid w:=hL
 exact recoveryBroken_walk0 a0 a1 v1 a2 v2 a3 v3 w h1.row h1.dat h1.len h2 h3 (nib_of rfl hL0)
end Go.Proofs.YtcglcphhfmkccaaGreatDoor
