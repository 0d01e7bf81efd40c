import Derived.StillTailTactics
import Derived.Shelf.Slices.In.SortNone
import Derived.Sort.KeysCollected
import Derived.Sort.OwnSorted
import Derived.Maps.RangeWalk
import Derived.Stop.BytesEq
import Derived.ProofKit
import Derived.OpenShut
import Derived.ShutString
import Derived.SizedLaws
import Derived.LaidLaws
import Derived.Lay
import Derived.LaidMore
import Derived.Stop.LaidErr
import Derived.Test.YtgkdenejkcngnaaGreatDoorPk1
set_option maxRecDepth 100000
set_option maxHeartbeats 8000000
namespace Go.Proofs.YtgkdenejkcngnaaGreatDoor
open Go.RowKit
section
variable {ops : Array Oper} {rest : List Oper} {o : Oper} {a : Act} {Q : Exit → Act → World → Prop}
theorem wpList_fsDel {w:World} {f m:Nat} {L:List Ad} {n:List UInt8} (hg:o.guard=none) (x y:Operand) (hop:o.op=Op.call {callee:=Callee.builtin Builtin.delete,args:= #[x,y],argTypes:= #[93,9]})
  (hx:a.eval x= .map (some m)) (hy:a.eval y= .string ⟨n.toArray⟩) (hB:Dv w f m L) (hn:n.length≤1000)
  (hK: ∀ w',Dv w' f m (Dq n L)→w.grownBy w' (some m)→wpList Tryz.prog ops Q rest (a.put o.dst (.tuple #[])) w'):wpList Tryz.prog ops Q (o::rest) a w:=by
 refine wpList_plain hg fun K hKK=> ?_
 obtain⟨w',hrun,h1,h2⟩:=hB.take hn o.type
 unfold Oper.wp
 simp [execOp,hop,resolve,invoke,builtin,hx,hy,hrun,Result.andThen]
 exact hKK _ _ (hK w' h1 h2)
theorem wpList_fsPut {w:World} {f m:Nat} {L:List Ad} {s:Ad} {v:Value} (hg:o.guard=none) (x y z:Operand) (hop:o.op=Op.mapUpdate 93 x y z)
  (hx:a.eval x= .map (some m)) (hy:a.eval y= .string ⟨s.fil.name.toArray⟩) (hz:a.eval z=v) (hv:v= .pointer (some ⟨s.blk,0,none⟩)) (hB:Dv w f m L) (hn:s.fil.name.length≤1000) (hL:L.length≤1000000) (hs:Cn w s)
  (h1:s.blk≠f∧s.blk≠m∧datBlk s.sl≠some f∧datBlk s.sl≠some m∧datBlk s.sl≠some s.blk) (h2: ∀ t∈Dq s.fil.name L,Far s t)
  (hK: ∀ w',Dv w' f m (Jq s (Dq s.fil.name L))→w.grownBy w' (some m)→wpList Tryz.prog ops Q rest (a.put o.dst undef) w'):wpList Tryz.prog ops Q (o::rest) a w:=by
 subst hv
 refine wpList_plain hg fun K hKK=> ?_
 obtain⟨w',hrun,h3,h4⟩:=hB.put hn hL hs h1 h2
 unfold Oper.wp
 simp [execOp,hop,hx,hy,hz,hrun,Result.andThen]
 exact hKK _ _ (hK w' h3 h4)
end
theorem foot_take {f m:Nat} {L:List Ad} {n:List UInt8}: ∀ k,foot f m (Dq n L) k→foot f m L k:=by
 rintro k (rfl | rfl | ⟨t,ht,hk⟩)
 ·exact .inl rfl
 ·exact .inr (.inl rfl)
 ·exact .inr (.inr ⟨t,(List.mem_filter.1 ht).1,hk⟩)
theorem Dv.setHd {w:World} {f m:Nat} {L:List Ad} (h:Dv w f m L) (j:Nat) (v:Value):Dv (w.setCell ⟨f,j,none⟩ v) f m L:=h.kept fun k hk _=>by
 simp only [World.setCell]
 rw [Array.getElem?_modify,γ (fun e=>hk e.symm)]
theorem remove_any (w:World) (f m:Nat) (d:Ab) (L:List Ad) (h:FsAt w f m d L) (hs:d.steps<4611686018427387904) (n:List UInt8):
  Calls Tryz.prog 92 #[.pointer (some ⟨f,0,none⟩),.string ⟨n.toArray⟩] w fun e w'=>e= .returned (.int .i64 (Aq d (Ar n)).2.2.2)∧FsPost w f m L (Aq d (Ar n)).1 w':=by
 have HO:=Qh (Hl w f m d L h n)
 have HH:=Qh h
 by_cases he:Aj d n=0
 case neg=>
  have HE:=Qh (show Aq d (Ar n)=(d,[],0,Aj d n) by rw [Bp (by simp [Ar]) (by rw [Kg];exact he),Kg])
  have t1:(Aj d n != 0)=true:=by simpa using he
  generalize Aj d n=e0 at*
  clear he h
  go_enter Tryz.func92,Tryz.ntmps92
  go_wp2_with (go_at_call 59;refine HO.out.mono ?_;rintro e w1 ⟨rfl,rfl⟩)
  go_ret
  rw [HE.out]
  exact⟨rfl,FsPost.same HH.out⟩
 obtain⟨s,hs1,ha,hv,hr,hsm,hsn⟩:=K5 h he
 have HD:=Qh (Fw (d:=d) (o:=Ar n) (by simp [Ar]) (by rw [Kg];exact he))
 have HS:=Qh (Ka w f m (Db d) h.hd h.ok.fuse.1 h.ok.fuse.2 h.ok.steps hs)
 rw [he,hv] at HO
 by_cases hf:d.fuse=1
 ·have HF:=Qh (Fv (ν hf))
  have HE:=Qh (show Aq d (Ar n)=(Ae d,[],0,3) by rw [HD.out,ζ hf,γ (by simp [Ar]),ζ hf])
  clear h hs he hs1 ha hv hr hsm hsn hf HD
  go_enter Tryz.func92,Tryz.ntmps92
  go_wp2_with (first | (go_at_call 59;refine HO.out.mono ?_;rintro e w1 ⟨rfl,rfl⟩) | (go_at_call 84;refine HS.out.mono ?_;rw [HF.out];rintro e w1 ⟨rfl,hh,ht⟩))
  go_ret
  rw [HE.out]
  exact⟨rfl,FsPost.stepped HH.out hh ht⟩
 ·have HF:=Qh (Fv (ρ hf))
  have HE:=Qh (show Aq d (Ar n)=({Ae d with files:=takeF n (Ae d).files},[],0,0) by
   rw [HD.out,γ hf,γ hf]
   have ha':atF (Ae d).files n=some s.fil:=by rw [Av];exact ha
   simp only [Ga,Ar,ha']
   rfl)
  have HSL:=Qh (show Cr L n=some s∧s.fil.name=n∧atF (Ae d).files n=some s.fil∧s∈L∧n.length≤1000 from⟨hs1,hsn,by rw [Av];exact ha,hsm,Il hr⟩)
  have HUB:=Qh (show 0≤(usedF (Ae d).files:Int) - (s.fil.data.length:Int)∧(usedF (Ae d).files:Int)≤67108864 by
   have:=Eb (Bi ha).2
   have:=h.ok.used
   have:=h.ok.room
   rw [Av];omega)
  clear h hs he hs1 ha hv hr hsm hsn hf HD
  go_enter Tryz.func92,Tryz.ntmps92
  go_wp2_with (first | (go_at_call 59;refine HO.out.mono ?_;rintro e w1 ⟨rfl,rfl⟩))
  go_at_call 84
  refine HS.out.mono ?_
  rw [HF.out]
  rintro e w1 ⟨rfl,hh,ht⟩
  have H0:=Qh (HH.out.stepped hh ht)
  have H1:=Qh (show FsAt w1.drew f m (Ae d) L from H0.out.below (below_drewN' w1 1))
  have HT:=Qh (show Turned (foot f m L) w w1.drew from(ht.mono fun _ hk=> .inl hk).trans (Turned.below (below_drewN' w1 1)) fun _ h=> .inl h)
  have hsl:=H0.out.body.slot s HSL.out.2.2.2.1
  obtain⟨ao,cap,hsh,_,_⟩:=hsl.2.shape
  have c0:w1.cell? ⟨s.blk,0,none⟩=some (.slice ao s.fil.data.length cap):=by rw [←hsh];exact hsl.c0
  have c2:w1.cell? ⟨f,2,none⟩=some (.int .i64 (usedF (Ae d).files:Int)):=H0.out.hd.c2
  have f2:=H0.out.hd.free 2
  have hw:IntKind.i64.wrap ((usedF (Ae d).files:Int) - (s.fil.data.length:Int))=(usedF (Ae d).files:Int) - (s.fil.data.length:Int):=by
   have:=HUB.out
   rw [κ];omega
  clear hh ht hsl HS HO
  go_wp2_with fail
  go_still_tail 12,(by kernel_rfl)
  refine wpList_store_cellV rfl 3 (.tmp 30) (.tmp 28) rfl f 2 (.int .i64 ((usedF (Ae d).files:Int) - (s.fil.data.length:Int))) (.int .i64 (usedF (Ae d).files:Int)) (by kernel_rfl) rfl rfl rfl c2 f2 ?_
  intro w2 hw2
  have HB2:=Qh (show C6 w2 f m {Db (Ae d) with used:=(usedF (Ae d).files:Int) - (s.fil.data.length:Int)}∧Dv w2 f m L∧Turned (fun k=>k=f) w1.drew w2 by
   rw [hw2.out]
   exact⟨H1.out.hd.set 2 _ rfl,H1.out.body.setHd 2 _,Turned.setCell _ _ _ rfl⟩)
  have k0:=HB2.out.1.c0
  clear hw2 c0 c2 f2 hw
  go_wp2_with (at_delete;refine wpList_fsDel rfl _ _ rfl rfl rfl HB2.out.2.1 HSL.out.2.2.2.2 ?_)
  intro w3 hb3 hg3
  have HB3:=Qh hb3
  have HG3:=Qh hg3
  clear hb3 hg3 k0
  go_wp2
  go_ret
  rw [HE.out]
  have hlt:=HB2.out.1.lt
  have hfm:=H1.out.body.apart.1
  have ht3:Turned (foot f m L) w1.drew w3:=(HB2.out.2.2.mono fun _ hk=> .inl hk).trans (Turned.grown (S:=foot f m L) HG3.out fun k hk=> .inr (.inl (ψ hk).symm)) fun _ h=> .inl h
  refine⟨rfl,Dq n L,⟨?_,HB3.out,by rw [Ij,H1.out.fil],H1.out.ok.take n⟩,HT.out.trans ht3 fun _ h=> .inl h,fun k hk=> .inl (foot_take k hk)⟩
  have hu:=Ch H1.out.ok.rise HSL.out.2.2.1
  have e:Db {Ae d with files:=takeF n (Ae d).files}={Db (Ae d) with used:=(usedF (Ae d).files:Int) - (s.fil.data.length:Int)}:=by
   unfold Db
   simp only [Hd.mk.injEq,true_and,and_true]
   omega
  rw [e]
  exact HB2.out.1.kept (HG3.out.block f hlt (by simpa using hfm))
section
variable {ops : Array Oper} {rest : List Oper} {o : Oper} {a : Act} {Q : Exit → Act → World → Prop}
theorem wpList_fsLen {w:World} {f m:Nat} {L:List Ad} (hg:o.guard=none) (x:Operand) (hop:o.op=Op.call {callee:=Callee.builtin Builtin.len,args:= #[x],argTypes:= #[93]})
  (hx:a.eval x= .map (some m)) (hB:Dv w f m L) (hK:wpList Tryz.prog ops Q rest (a.put o.dst (.int .i64 (L.length:Int))) w):wpList Tryz.prog ops Q (o::rest) a w:=by
 refine wpList_plain hg fun K hKK=> ?_
 have hrun:=hB.map.len (P:=Tryz.prog) Tryz.underlying93 o.type
 have e:Maps.size (DataW.map (Fx L))=L.length:=by simp [Maps.size,I9]
 rw [e] at hrun
 unfold Oper.wp
 simp [execOp,hop,resolve,invoke,builtin,hx,hrun,Result.andThen]
 exact hKK _ _ hK
end
theorem foot_put {f m:Nat} {L:List Ad} {s:Ad}: ∀ k,foot f m (Jq s L) k→foot f m L k∨k=s.blk∨datBlk s.sl=some k:=by
 rintro k (rfl | rfl | ⟨t,ht,hk⟩)
 ·exact .inl (.inl rfl)
 ·exact .inl (.inr (.inl rfl))
 ·rcases mem_putS.1 ht with rfl | ht
  ·exact .inr hk
  ·exact .inl (.inr (.inr ⟨t,ht,hk⟩))
theorem create_any (w:World) (f m:Nat) (d:Ab) (L:List Ad) (h:FsAt w f m d L) (hs:d.steps<4611686018427387904) (n:List UInt8):
  Calls Tryz.prog 126 #[.pointer (some ⟨f,0,none⟩),.string ⟨n.toArray⟩] w fun e w'=>e= .returned (.int .i64 (Aq d (opCreate n)).2.2.2)∧FsPost w f m L (Aq d (opCreate n)).1 w':=by
 have HO:=Qh (Hl w f m d L h n)
 have HH:=Qh h
 have c0:=h.hd.c0
 have hLl:L.length=d.files.length:=by rw [←h.fil];simp [fils]
 by_cases he:Aj d n=51
 case neg=>
  by_cases h0:Aj d n=0
  ·have HE:=Qh (show Aq d (opCreate n)=(d,[],0,52) by
    have hb:Dw d (opCreate n)=52:=by rw [F9,ζ h0]
    rw [Bp (by simp [opCreate]) (by rw [hb];decide),hb])
   rw [h0] at HO
   clear he h h0
   go_enter Tryz.func126,Tryz.ntmps126
   go_wp2_with (go_at_call 59;refine HO.out.mono ?_;rintro e w1 ⟨rfl,rfl⟩)
   go_ret
   rw [HE.out]
   exact⟨rfl,FsPost.same HH.out⟩
  ·have HE:=Qh (show Aq d (opCreate n)=(d,[],0,Aj d n) by
    have hb:Dw d (opCreate n)=Aj d n:=by rw [F9,γ h0,ζ he]
    rw [Bp (by simp [opCreate]) (by rw [hb];exact h0),hb])
   have t1:(Aj d n==0)=false:=by simpa using h0
   have t2:(Aj d n != 51)=true:=by simpa using he
   generalize Aj d n=e0 at*
   clear he h h0
   go_enter Tryz.func126,Tryz.ntmps126
   go_wp2_with (go_at_call 59;refine HO.out.mono ?_;rintro e w1 ⟨rfl,rfl⟩)
   go_ret
   rw [HE.out]
   exact⟨rfl,FsPost.same HH.out⟩
 have hr:d.down=false∧rightName n=true∧atF d.files n=none:=by
  rcases openE_cases d n with⟨h1,_⟩ | ⟨h1,_⟩ | ⟨_,h2,h3,h4⟩ | ⟨h1,_⟩
  ·omega
  ·omega
  ·exact⟨h2,h3,h4⟩
  ·omega
 have hv:J5 L d n= .pointer none:=by unfold J5;rw [γ (by omega)]
 rw [he,hv] at HO
 by_cases hfull:700≤d.files.length
 case pos=>
  have HE:=Qh (show Aq d (opCreate n)=(d,[],0,53) by
   have hb:Dw d (opCreate n)=53:=by rw [F9,γ (by omega),γ (by simpa using he),ζ (by simpa using hfull)]
   rw [Bp (by simp [opCreate]) (by rw [hb];decide),hb])
  have t1:decide (700≤(L.length:Int))=true:=by simp;omega
  have t2:700≤L.length:=by omega
  clear he h hr hv hfull
  go_enter Tryz.func126,Tryz.ntmps126
  go_wp2_with (first | (go_at_call 59;refine HO.out.mono ?_;rintro e w1 ⟨rfl,rfl⟩) | (at_len;refine wpList_fsLen rfl _ rfl rfl HH.out.body ?_))
  go_ret
  rw [HE.out]
  exact⟨rfl,FsPost.same HH.out⟩
 have t1:decide (700≤(L.length:Int))=false:=by simp;omega
 have t2: ¬ 700≤L.length:=by omega
 have hb0:Dw d (opCreate n)=0:=by rw [F9,γ (by omega),γ (by simpa using he),γ (by simpa using hfull)]
 have HD:=Qh (Fw (d:=d) (o:=opCreate n) (by simp [opCreate]) hb0)
 have HS:=Qh (Ka w f m (Db d) h.hd h.ok.fuse.1 h.ok.fuse.2 h.ok.steps hs)
 by_cases hf:d.fuse=1
 ·have HF:=Qh (Fv (ν hf))
  have HE:=Qh (show Aq d (opCreate n)=(Ae d,[],0,3) by rw [HD.out,ζ hf,γ (by simp [opCreate]),ζ hf])
  clear h hs he hr hv hf HD hb0 hfull
  go_enter Tryz.func126,Tryz.ntmps126
  go_wp2_with (first | (go_at_call 59;refine HO.out.mono ?_;rintro e w1 ⟨rfl,rfl⟩) | (at_len;refine wpList_fsLen rfl _ rfl rfl HH.out.body ?_) | (go_at_call 84;refine HS.out.mono ?_;rw [HF.out];rintro e w1 ⟨rfl,hh,ht⟩))
  go_ret
  rw [HE.out]
  exact⟨rfl,FsPost.stepped HH.out hh ht⟩
 ·have HF:=Qh (Fv (ρ hf))
  have HE:=Qh (show Aq d (opCreate n)=({Ae d with files:=Bu ⟨n,[],0⟩ (Ae d).files},[],0,0) by
   rw [HD.out,γ hf,γ hf]
   rfl)
  have HR:=Qh (show rightName n=true∧atF (Ae d).files n=none∧(Ae d).files.length<700 by rw [Av];exact⟨hr.2.1,hr.2.2,by omega⟩)
  clear h hs he hr hv hf HD hb0 hfull
  go_enter Tryz.func126,Tryz.ntmps126
  go_wp2_with (first | (go_at_call 59;refine HO.out.mono ?_;rintro e w1 ⟨rfl,rfl⟩) | (at_len;refine wpList_fsLen rfl _ rfl rfl HH.out.body ?_))
  go_at_call 84
  refine HS.out.mono ?_
  rw [HF.out]
  rintro e w1 ⟨rfl,hh,ht⟩
  have H1:=Qh (HH.out.stepped hh ht)
  have HT:=Qh (show Turned (foot f m L) w w1 from ht.mono fun _ hk=> .inl hk)
  have HBL:=Qh (below_alloc w1 (.cells (Hr ⟨⟨n,[],0⟩,w1.heap.size,.slice none 0 0⟩) 109))
  have H2:=Qh (H1.out.below HBL.out)
  have k0:=H1.out.hd.c0
  have HX:=Qh (show Cn (w1.alloc (.cells (Hr ⟨⟨n,[],0⟩,w1.heap.size,.slice none 0 0⟩) 109)) ⟨⟨n,[],0⟩,w1.heap.size,.slice none 0 0⟩ from⟨σ w1 _,.inl ⟨rfl,none,rfl⟩⟩)
  have HN:=Qh (Il HR.out.1)
  have hnone:Cr L n=none:=by
   have:=fils_at n L
   rw [H1.out.fil,HR.out.2.1] at this
   exact Option.map_eq_none_iff.1 this.symm
  have HTK:=Qh (show Dq n L=L by
   unfold Dq
   rw [List.filter_eq_self]
   intro x hx
   have:=List.find?_eq_none.1 hnone x hx
   simpa using this)
  have HL7:=Qh (show L.length≤1000000 by omega)
  have HF1:=Qh (show w1.heap.size≠f∧w1.heap.size≠m∧datBlk (.slice none 0 0)≠some f∧datBlk (.slice none 0 0)≠some m∧datBlk (.slice none 0 0)≠some w1.heap.size from
   ⟨fun e=>by have:=H1.out.hd.lt;omega,fun e=>by have:=H1.out.body.map.lt;omega,by simp [datBlk],by simp [datBlk],by simp [datBlk]⟩)
  have HF2:=Qh (show ∀ t∈Dq n L,Far ⟨⟨n,[],0⟩,w1.heap.size,.slice none 0 0⟩ t from fun t ht'=>by
   have ht2:=(List.mem_filter.1 ht').1
   have h1:=H1.out.body.slot t ht2
   exact⟨fun e=>by have:=h1.lt;simp only at e;omega,by simp [datBlk],fun e=>by have:=h1.2.lt e;simp only at this;omega,fun g hg=>by simp [datBlk] at hg⟩)
  clear hh ht HS HO c0 hnone
  go_wp2_with (at_mapUpdate;refine wpList_fsPut (s:=⟨⟨n,[],0⟩,w1.heap.size,.slice none 0 0⟩) rfl _ _ _ rfl rfl rfl rfl rfl H2.out.body HN.out HL7.out HX.out HF1.out HF2.out ?_)
  intro w3 hb3 hg3
  have HB3:=Qh hb3
  have HG3:=Qh hg3
  clear hb3 hg3 k0
  go_wp2
  go_ret
  rw [HE.out]
  have hfm:=H1.out.body.apart.1
  have hb3:=HB3.out
  rw [HTK.out] at hb3
  have ht3:Turned (foot f m L) w1 w3:=(Turned.below HBL.out).trans (Turned.grown (S:=foot f m L) HG3.out fun k hk=> .inr (.inl (ψ hk).symm)) fun _ h=> .inl h
  refine⟨rfl,Jq ⟨⟨n,[],0⟩,w1.heap.size,.slice none 0 0⟩ L,⟨?_,hb3,by rw [fils_put,H1.out.fil],?_⟩,HT.out.trans ht3 fun _ h=> .inl h,fun k hk=> ?_⟩
  ·have e:Db {Ae d with files:=Bu ⟨n,[],0⟩ (Ae d).files}=Db (Ae d):=by
    unfold Db
    simp only [Dh,Φ,Nat.zero_add]
   rw [e]
   exact H2.out.hd.kept (HG3.out.block f H2.out.hd.lt (by simpa using hfm))
  ·refine H1.out.ok.put (f:=⟨n,[],0⟩) HR.out.1 ⟨by simp,by simp⟩ (fun x hx=> ?_) HR.out.2.2 (by simpa using H1.out.ok.used)
   have:=List.find?_eq_none.1 HR.out.2.1 x hx
   simpa using this
  ·rcases foot_put k hk with h1 | h1 | h1
   ·exact .inl h1
   ·exact .inr (by rw [h1];exact HT.out.size)
   ·simp [datBlk] at h1
theorem take_twice {n:List UInt8} {fs:List A7}:takeF n (takeF n fs)=takeF n fs:=by
 unfold takeF
 rw [List.filter_filter]
 simp
theorem setF_same {n:List UInt8} {x:A7} {fs:List A7} (h:Ff fs) (ha:atF fs n=some x):setF n (fun _=>x) fs=fs:=by
 unfold setF
 rw [List.map_congr_left (g:=id) (fun y hy=>by
  by_cases hc:y.name=n
  ·rw [ζ (by simpa using hc),rise_one h ha hy hc];rfl
  ·rw [γ (by simpa using hc)];rfl)]
 simp
theorem at_take {n t:List UInt8} {fs:List A7} (h:n≠t):atF (takeF n fs) t=atF fs t:=by
 unfold atF takeF
 induction fs with
 | nil=>rfl
 | cons y r ih=>
  by_cases hy:y.name=n
  ·rw [List.filter_cons_of_neg (by simpa using hy),List.find?_cons,show (y.name==t)=false by rw [hy];simpa using h]
   exact ih
  ·rw [List.filter_cons_of_pos (by simpa using hy),List.find?_cons,List.find?_cons]
   rw [ih]
theorem takeF_length {fs:List A7} {n:List UInt8} {x:A7} (ha:atF fs n=some x):(takeF n fs).length<fs.length:=by
 obtain⟨h1,h2⟩:=Bi ha
 exact List.length_filter_lt_length_iff_exists.2 ⟨x,h2,by simp [h1]⟩
theorem far_of {w:World} {f m:Nat} {L:List Ad} (h:Dv w f m L) {s t:Ad} (hs:s∈L) (ht:t∈L) (hn:s.fil.name≠t.fil.name):Far s t:=by
 obtain⟨i,hi⟩:=List.getElem?_of_mem ht
 obtain⟨j,hj⟩:=List.getElem?_of_mem hs
 have hi':=List.getElem?_eq_some_iff.1 hi
 have hj':=List.getElem?_eq_some_iff.1 hj
 have hij:i≠j:=fun e=>hn (by subst e;rw [hi] at hj;cases hj;rfl)
 rcases Nat.lt_or_gt_of_ne hij with hlt | hlt
 ·have hF:=List.pairwise_iff_getElem.1 h.apart.2.2 i j hi'.1 hj'.1 hlt
  rw [hi'.2,hj'.2] at hF
  exact hF.symm
 ·have hF:=List.pairwise_iff_getElem.1 h.apart.2.2 j i hj'.1 hi'.1 hlt
  rw [hi'.2,hj'.2] at hF
  exact hF
theorem rename_end {w w1 w2 w3 w4:World} {f m:Nat} {d1:Ab} {L:List Ad} {n t:List UInt8} {s:Ad} {used:Int} (H1:FsAt w1 f m d1 L) (ht:Turned (foot f m L) w w1) (hs:Cr L n=some s) (ha:atF d1.files n=some s.fil) (hnt:n≠t) (hr:rightName t=true)
  (hh2:C6 w2 f m {Db d1 with used:=used}) (ht2:Turned (fun k=>k=f) w1 w2) (hu:used+(match atF d1.files t with | none=>(0:Int) | some y=>(y.data.length:Int))=(usedF d1.files:Int))
  (hg3:w2.grownBy w3 (some m)) (hb4:Dv w4 f m (Jq ⟨{s.fil with name:=t},s.blk,s.sl⟩ (Dq t (Dq n L)))) (hg4:w3.grownBy w4 (some m)):
  FsPost w f m L {d1 with files:=Bu {s.fil with name:=t} (takeF t (takeF n d1.files))} w4:=by
 have hsm:=(G7 hs).1
 have hfm:=H1.body.apart.1
 have hm: ∀ k,some m=some k→foot f m L k:=fun k hk=> .inr (.inl (ψ hk).symm)
 have htt:Turned (foot f m L) w1 w4:=((ht2.mono (S':=foot f m L) fun _ hk=> .inl hk).trans (Turned.grown (S:=foot f m L) hg3 hm) fun _ h=> .inl h).trans (Turned.grown (S:=foot f m L) hg4 hm) fun _ h=> .inl h
 refine⟨_,⟨?_,hb4,by rw [fils_put,Ij,Ij,H1.fil],?_⟩,ht.trans htt fun _ h=> .inl h,fun k hk=> .inl ?_⟩
 ·have h1:=Ch H1.ok.rise ha
  have e:Db {d1 with files:=Bu {s.fil with name:=t} (takeF t (takeF n d1.files))}={Db d1 with used:=used}:=by
   unfold Db
   simp only [Hd.mk.injEq,true_and,and_true,Dh]
   rcases hy:atF d1.files t with _ | y
   ·rw [hy] at hu
    rw [Hu (by rw [at_take hnt];exact hy)]
    simp only at hu
    omega
   ·rw [hy] at hu
    have h2:=Ch (G6 (n:=n) H1.ok.rise) (by rw [at_take hnt];exact hy)
    simp only at hu
    omega
  rw [e]
  have l3:f<w3.heap.size:=Nat.lt_of_lt_of_le hh2.lt hg3.size
  exact(hh2.kept (hg3.block f hh2.lt (by simpa using hfm))).kept (hg4.block f l3 (by simpa using hfm))
 ·have hok:=(H1.ok.take n).take t
  have hsf:=H1.ok.safe s.fil (Bi ha).2
  have hc:=takeF_length ha
  have hc2:(takeF t (takeF n d1.files)).length≤(takeF n d1.files).length:=List.length_filter_le _ _
  have h700:=H1.ok.count
  refine At.put (d:={d1 with files:=takeF t (takeF n d1.files)}) hok hr hsf (fun x hx=> ?_) (by show (takeF t (takeF n d1.files)).length<700;omega) ?_
  ·have:=(List.mem_filter.1 hx).2
   simpa using this
  ·have h1:=Ch H1.ok.rise ha
   have h2:usedF (takeF t (takeF n d1.files))≤usedF (takeF n d1.files):=by
    rcases hy:atF (takeF n d1.files) t with _ | y
    ·rw [Hu hy];exact ξ _
    ·have:=Ch (G6 (n:=n) H1.ok.rise) hy;omega
   have h3:=H1.ok.used
   show (usedF (takeF t (takeF n d1.files)):Int)+(s.fil.data.length:Int)≤d1.room
   omega
 ·rcases foot_put k hk with h1 | h1 | h1
  ·exact foot_take k (foot_take k h1)
  ·exact .inr (.inr ⟨s,hsm,.inl h1⟩)
  ·exact .inr (.inr ⟨s,hsm,.inr h1⟩)
theorem rename_any (w:World) (f m:Nat) (d:Ab) (L:List Ad) (h:FsAt w f m d L) (hs:d.steps<4611686018427387904) (n t:List UInt8):
  Calls Tryz.prog 171 #[.pointer (some ⟨f,0,none⟩),.string ⟨n.toArray⟩,.string ⟨t.toArray⟩] w fun e w'=>e= .returned (.int .i64 (Aq d (opRename n t)).2.2.2)∧FsPost w f m L (Aq d (opRename n t)).1 w':=by
 have HO:=Qh (Hl w f m d L h n)
 have HRT:=Qh (Right_any t w)
 have HH:=Qh h
 by_cases he:Aj d n=0∨Aj d n=51
 case neg=>
  have HE:=Qh (show Aq d (opRename n t)=(d,[],0,Aj d n) by
   have hb:Dw d (opRename n t)=Aj d n:=by rw [Gx,γ (fun hx=>he hx.1)]
   rw [Bp (by simp [opRename]) (by rw [hb];omega),hb])
  have t1:(Aj d n==0)=false:=by rw [beq_eq_false_iff_ne];omega
  have t2:(Aj d n==51)=false:=by rw [beq_eq_false_iff_ne];omega
  have t3:(Aj d n != 0)=true:=by unfold bne;rw [t1];rfl
  generalize Aj d n=e0 at*
  clear he h
  go_enter Tryz.func171,Tryz.ntmps171
  go_wp2_with (go_at_call 59;refine HO.out.mono ?_;rintro e w1 ⟨rfl,rfl⟩)
  go_ret
  rw [HE.out]
  exact⟨rfl,FsPost.same HH.out⟩
 rcases hrt:rightName t with _ | _
 ·have HE:=Qh (show Aq d (opRename n t)=(d,[],0,50) by
   have hb:Dw d (opRename n t)=50:=by rw [Gx,ζ ⟨he,hrt⟩]
   rw [Bp (by simp [opRename]) (by rw [hb];decide),hb])
  rw [hrt] at HRT
  rcases he with he | he
  all_goals
   rw [he] at HO
   clear he h hrt
   go_enter Tryz.func171,Tryz.ntmps171
   go_wp2_with (first | (go_at_call 59;refine HO.out.mono ?_;rintro e w1 ⟨rfl,rfl⟩) | (go_at_call 95;refine HRT.out.mono ?_;rintro e w1 ⟨rfl,rfl⟩))
   go_ret
   rw [HE.out]
   exact⟨rfl,FsPost.same HH.out⟩
 rw [hrt] at HRT
 by_cases he0:Aj d n=0
 case neg=>
  have he51:Aj d n=51:=by omega
  have HE:=Qh (show Aq d (opRename n t)=(d,[],0,51) by
   have hb:Dw d (opRename n t)=51:=by rw [Gx,γ (fun hx=>by rw [hrt] at hx;cases hx.2),he51]
   rw [Bp (by simp [opRename]) (by rw [hb];decide),hb])
  rw [he51] at HO
  clear he h hrt he0 he51
  go_enter Tryz.func171,Tryz.ntmps171
  go_wp2_with (first | (go_at_call 59;refine HO.out.mono ?_;rintro e w1 ⟨rfl,rfl⟩) | (go_at_call 95;refine HRT.out.mono ?_;rintro e w1 ⟨rfl,rfl⟩))
  go_ret
  rw [HE.out]
  exact⟨rfl,FsPost.same HH.out⟩
 obtain⟨s,hs1,ha,hv,hr,hsm,hsn⟩:=K5 h he0
 have hb0:Dw d (opRename n t)=0:=by rw [Gx,γ (fun hx=>by rw [hrt] at hx;cases hx.2)];exact he0
 have HD:=Qh (Fw (d:=d) (o:=opRename n t) (by simp [opRename]) hb0)
 have HS:=Qh (Ka w f m (Db d) h.hd h.ok.fuse.1 h.ok.fuse.2 h.ok.steps hs)
 rw [he0,hv] at HO
 by_cases hf:d.fuse=1
 ·have HF:=Qh (Fv (ν hf))
  have HE:=Qh (show Aq d (opRename n t)=(Ae d,[],0,3) by rw [HD.out,ζ hf,γ (by simp [opRename]),ζ hf])
  clear h hs he he0 hs1 ha hv hr hsm hsn hf HD hb0 hrt
  go_enter Tryz.func171,Tryz.ntmps171
  go_wp2_with (first | (go_at_call 59;refine HO.out.mono ?_;rintro e w1 ⟨rfl,rfl⟩) | (go_at_call 95;refine HRT.out.mono ?_;rintro e w1 ⟨rfl,rfl⟩) | (go_at_call 84;refine HS.out.mono ?_;rw [HF.out];rintro e w1 ⟨rfl,hh,ht⟩))
  go_ret
  rw [HE.out]
  exact⟨rfl,FsPost.stepped HH.out hh ht⟩
 have HF:=Qh (Fv (ρ hf))
 have ha':atF (Ae d).files n=some s.fil:=by rw [Av];exact ha
 have hrise:Ff (Ae d).files:=by rw [Av];exact h.ok.rise
 have HE0:=Qh (show Aq d (opRename n t)=({Ae d with files:=Bu {s.fil with name:=t} (takeF t (takeF n (Ae d).files))},[],0,0) by
  rw [HD.out,γ hf,γ hf]
  have e:Ga (Ae d) (opRename n t)={Ae d with files:=Bu (H8 (opRename n t) s.fil) (takeF t (takeF n (Ae d).files))}:=by
   simp only [Ga,opRename,ha']
   rfl
  rw [e]
  rfl)
 by_cases hnt:n=t
 ·have HE:=Qh (show Aq d (opRename n t)=(Ae d,[],0,0) by
   rw [HE0.out]
   have e1:({s.fil with name:=t}:A7)=s.fil:=by rw [←hnt,←hsn]
   rw [e1,←hnt,take_twice,put_take hrise ha' hsn,setF_same hrise ha'])
  have t1:(n==t)=true:=by simpa using hnt
  clear h hs he he0 hs1 ha hv hr hsm hsn hf HD hb0 hrt ha' hrise HE0 hnt
  go_enter Tryz.func171,Tryz.ntmps171
  go_wp2_with (first | (go_at_call 59;refine HO.out.mono ?_;rintro e w1 ⟨rfl,rfl⟩) | (go_at_call 95;refine HRT.out.mono ?_;rintro e w1 ⟨rfl,rfl⟩) | (go_at_call 84;refine HS.out.mono ?_;rw [HF.out];rintro e w1 ⟨rfl,hh,ht⟩))
  go_ret
  rw [HE.out]
  exact⟨rfl,FsPost.stepped HH.out hh ht⟩
 have t1:(n==t)=false:=by simpa using hnt
 have HSL:=Qh (show Cr L n=some s∧s.fil.name=n∧atF (Ae d).files n=some s.fil∧s∈L∧n.length≤1000∧t.length≤1000∧n≠t∧rightName t=true from⟨hs1,hsn,ha',hsm,Il hr,Il hrt,hnt,hrt⟩)
 have hrm:=h.ok.room
 have hus:=h.ok.used
 have HU:=Qh (show (usedF (Ae d).files:Int)≤67108864 by rw [Av];omega)
 have HL7:=Qh (show L.length≤700 by have:=h.ok.count;rw [←h.fil] at this;simpa [fils] using this)
 clear h hs he he0 hs1 ha hv hr hsm hsn hf HD hb0 hrt ha' hrise hnt hrm hus
 go_enter Tryz.func171,Tryz.ntmps171
 go_wp2_with (first | (go_at_call 59;refine HO.out.mono ?_;rintro e w1 ⟨rfl,rfl⟩) | (go_at_call 95;refine HRT.out.mono ?_;rintro e w1 ⟨rfl,rfl⟩))
 go_at_call 84
 refine HS.out.mono ?_
 rw [HF.out]
 rintro e w1 ⟨rfl,hh,ht⟩
 have H1:=Qh (HH.out.stepped hh ht)
 have HT:=Qh (show Turned (foot f m L) w w1 from ht.mono fun _ hk=> .inl hk)
 have c0:=H1.out.hd.c0
 have hlook:=H1.out.body.look HSL.out.2.2.2.2.2.1
 have hat:=fils_at t L
 rw [H1.out.fil] at hat
 clear hh ht HS HO
 rcases hy:Cr L t with _ | y
 ·rw [hy] at hlook hat
  simp only at hlook
  simp only [Option.map_none] at hat
  have HAT:=Qh hat
  have HYN:=Qh hy
  clear hat hy
  go_wp2_with (at_delete;refine wpList_fsDel rfl (.tmp 57) (.tmp 58) rfl rfl rfl H1.out.body HSL.out.2.2.2.2.1 ?_)
  intro w3 hb3 hg3
  have HB3:=Qh hb3
  have HG3:=Qh hg3
  have c3:w3.cell? ⟨f,0,none⟩=some (.map (some m)):=(H1.out.hd.kept (hg3.block f H1.out.hd.lt (by simpa using H1.out.body.apart.1))).c0
  clear hb3 hg3 hlook c0
  have hslot:=H1.out.body.slot s HSL.out.2.2.2.1
  have hap:=H1.out.body.apart.2.1 s HSL.out.2.2.2.1
  have HX:=Qh (show Cn w3 ⟨{s.fil with name:=t},s.blk,s.sl⟩ from by
   have:=hslot.kept (HG3.out.block s.blk hslot.lt (by simpa using hap.2.1)) fun g hg=>HG3.out.block g (hslot.2.lt hg) (fun e=>hap.2.2.2.1 (by rw [hg,e]))
   exact⟨this.1,this.2⟩)
  have HFar:=Qh (show ∀ y∈Dq t (Dq n L),Far ⟨{s.fil with name:=t},s.blk,s.sl⟩ y from fun y hy=>by
   have h1:=List.mem_filter.1 (List.mem_filter.1 hy).1
   have hF:=far_of H1.out.body HSL.out.2.2.2.1 h1.1 (by rw [HSL.out.2.1];have:=h1.2;simp at this;exact fun e=>this e.symm)
   exact hF)
  have HAP:=Qh hap
  have HLL:=Qh (show (Dq n L).length≤1000000 by have:=takeS_length n L;have:=HL7.out;omega)
  clear hslot hap
  go_wp2_with (at_mapUpdate;refine wpList_fsPut (s:=⟨{s.fil with name:=t},s.blk,s.sl⟩) rfl (.tmp 62) (.tmp 63) (.tmp 64) rfl rfl rfl rfl rfl HB3.out HSL.out.2.2.2.2.2.1 HLL.out HX.out HAP.out HFar.out ?_)
  intro w4 hb4 hg4
  have HB4:=Qh hb4
  have HG4:=Qh hg4
  clear hb4 hg4 c3
  go_wp2
  go_ret
  rw [HE0.out]
  refine⟨rfl,rename_end H1.out HT.out HSL.out.1 HSL.out.2.2.1 HSL.out.2.2.2.2.2.2.1 HSL.out.2.2.2.2.2.2.2 (used:=(usedF (Ae d).files:Int)) H1.out.hd (Turned.refl _ _) ?_ HG3.out HB4.out HG4.out⟩
  rw [HAT.out]
  simp
 ·rw [hy] at hlook hat
  simp only at hlook
  simp only [Option.map_some] at hat
  have HAT:=Qh hat
  have hym:=(G7 hy).1
  have hsl:=H1.out.body.slot y hym
  obtain⟨ao,cap,hsh,_,_⟩:=hsl.2.shape
  have c4:w1.cell? ⟨y.blk,0,none⟩=some (.slice ao y.fil.data.length cap):=by rw [←hsh];exact hsl.c0
  have c2:w1.cell? ⟨f,2,none⟩=some (.int .i64 (usedF (Ae d).files:Int)):=H1.out.hd.c2
  have f2:=H1.out.hd.free 2
  have hyl:=Eb (Bi hat).2
  have hw:IntKind.i64.wrap ((usedF (Ae d).files:Int) - (y.fil.data.length:Int))=(usedF (Ae d).files:Int) - (y.fil.data.length:Int):=by
   have:=HU.out
   rw [κ];omega
  have H1d:=Qh (show FsAt w1.drew f m (Ae d) L from H1.out.below (below_drewN' w1 1))
  clear hat hy hym hsl hyl
  go_wp2_with fail
  go_still_tail 12,(by kernel_rfl)
  refine wpList_store_cellV rfl 3 (.tmp 53) (.tmp 51) rfl f 2 (.int .i64 ((usedF (Ae d).files:Int) - (y.fil.data.length:Int))) (.int .i64 (usedF (Ae d).files:Int)) (by kernel_rfl) rfl rfl rfl c2 f2 ?_
  intro w2 hw2
  have HB2:=Qh (show C6 w2 f m {Db (Ae d) with used:=(usedF (Ae d).files:Int) - (y.fil.data.length:Int)}∧Dv w2 f m L∧Turned (fun k=>k=f) w1 w2 by
   rw [hw2.out]
   exact⟨H1d.out.hd.set 2 _ rfl,H1d.out.body.setHd 2 _,(Turned.below (below_drewN' w1 1)).trans (Turned.setCell (S:=fun k=>k=f) w1.drew ⟨f,2,none⟩ _ rfl) fun i h=> .inl h⟩)
  have k0:w2.cell? ⟨f,0,none⟩=some (.map (some m)):=HB2.out.1.c0
  clear hw2 c0 c2 f2 c4 hw hlook
  go_wp2_with (at_delete;refine wpList_fsDel rfl (.tmp 57) (.tmp 58) rfl rfl rfl HB2.out.2.1 HSL.out.2.2.2.2.1 ?_)
  intro w3 hb3 hg3
  have HB3:=Qh hb3
  have HG3:=Qh hg3
  have c3:w3.cell? ⟨f,0,none⟩=some (.map (some m)):=(HB2.out.1.kept (hg3.block f HB2.out.1.lt (by simpa using H1.out.body.apart.1))).c0
  clear hb3 hg3 k0
  have hslot:=HB2.out.2.1.slot s HSL.out.2.2.2.1
  have hap:=H1.out.body.apart.2.1 s HSL.out.2.2.2.1
  have HX:=Qh (show Cn w3 ⟨{s.fil with name:=t},s.blk,s.sl⟩ from by
   have:=hslot.kept (HG3.out.block s.blk hslot.lt (by simpa using hap.2.1)) fun g hg=>HG3.out.block g (hslot.2.lt hg) (fun e=>hap.2.2.2.1 (by rw [hg,e]))
   exact⟨this.1,this.2⟩)
  have HFar:=Qh (show ∀ y∈Dq t (Dq n L),Far ⟨{s.fil with name:=t},s.blk,s.sl⟩ y from fun y hy=>by
   have h1:=List.mem_filter.1 (List.mem_filter.1 hy).1
   have hF:=far_of H1.out.body HSL.out.2.2.2.1 h1.1 (by rw [HSL.out.2.1];have:=h1.2;simp at this;exact fun e=>this e.symm)
   exact hF)
  have HAP:=Qh hap
  have HLL:=Qh (show (Dq n L).length≤1000000 by have:=takeS_length n L;have:=HL7.out;omega)
  clear hslot hap
  go_wp2_with (at_mapUpdate;refine wpList_fsPut (s:=⟨{s.fil with name:=t},s.blk,s.sl⟩) rfl (.tmp 62) (.tmp 63) (.tmp 64) rfl rfl rfl rfl rfl HB3.out HSL.out.2.2.2.2.2.1 HLL.out HX.out HAP.out HFar.out ?_)
  intro w4 hb4 hg4
  have HB4:=Qh hb4
  have HG4:=Qh hg4
  clear hb4 hg4 c3
  go_wp2
  go_ret
  rw [HE0.out]
  refine⟨rfl,rename_end H1.out HT.out HSL.out.1 HSL.out.2.2.1 HSL.out.2.2.2.2.2.2.1 HSL.out.2.2.2.2.2.2.2 (used:=(usedF (Ae d).files:Int) - (y.fil.data.length:Int)) HB2.out.1 HB2.out.2.2 ?_ HG3.out HB4.out HG4.out⟩
  rw [HAT.out]
  simp only
  omega
theorem Hq (w:World) (f m:Nat) (d:Ab) (L:List Ad) (h:FsAt w f m d L) (hs:d.steps<4611686018427387904) (n:List UInt8):
  Calls Tryz.prog 55 #[.pointer (some ⟨f,0,none⟩),.string ⟨n.toArray⟩] w fun e w'=>e= .returned (.int .i64 (Aq d (opSync n)).2.2.2)∧FsPost w f m L (Aq d (opSync n)).1 w':=by
 have HO:=Qh (Hl w f m d L h n)
 have HH:=Qh h
 by_cases he:Aj d n=0
 case neg=>
  have HE:=Qh (show Aq d (opSync n)=(d,[],0,Aj d n) by rw [Bp (by simp [opSync]) (by rw [J0];exact he),J0])
  have t1:(Aj d n != 0)=true:=by simpa using he
  generalize Aj d n=e0 at*
  clear he h
  go_enter Tryz.func55,Tryz.ntmps55
  go_wp2_with (go_at_call 59;refine HO.out.mono ?_;rintro e w1 ⟨rfl,rfl⟩)
  go_ret
  rw [HE.out]
  exact⟨rfl,FsPost.same HH.out⟩
 obtain⟨s,hs1,ha,hv,hr,hsm,hsn⟩:=K5 h he
 have HD:=Qh (Fw (d:=d) (o:=opSync n) (by simp [opSync]) (by rw [J0];exact he))
 have HS:=Qh (Ka w f m (Db d) h.hd h.ok.fuse.1 h.ok.fuse.2 h.ok.steps hs)
 rw [he,hv] at HO
 by_cases hf:d.fuse=1
 ·have HF:=Qh (Fv (ν hf))
  have HE:=Qh (show Aq d (opSync n)=(Ae d,[],0,3) by rw [HD.out,ζ hf,γ (by simp [opSync]),ζ hf])
  clear h hs he hs1 ha hv hr hsm hsn hf HD
  go_enter Tryz.func55,Tryz.ntmps55
  go_wp2_with (first | (go_at_call 59;refine HO.out.mono ?_;rintro e w1 ⟨rfl,rfl⟩) | (go_at_call 84;refine HS.out.mono ?_;rw [HF.out];rintro e w1 ⟨rfl,hh,ht⟩))
  go_ret
  rw [HE.out]
  exact⟨rfl,FsPost.stepped HH.out hh ht⟩
 ·have HF:=Qh (Fv (ρ hf))
  have hrise:Ff (Ae d).files:=by rw [Av];exact h.ok.rise
  have HE:=Qh (show Aq d (opSync n)=({Ae d with files:=setF n (fun _=>{s.fil with safe:=(s.fil.data.length:Int)}) (Ae d).files},[],0,0) by
   rw [HD.out,γ hf,γ hf,chg_set (x:=s.fil) hrise (by rw [Av];exact ha) (by simp [opSync]) (by simp [opSync]) (by simp [opSync])]
   rfl)
  have HSL:=Qh (show Cr L n=some s∧s.fil.name=n∧atF (Ae d).files n=some s.fil∧s∈L from⟨hs1,hsn,by rw [Av];exact ha,hsm⟩)
  clear h hs he hs1 ha hv hr hsm hsn hf HD hrise
  go_enter Tryz.func55,Tryz.ntmps55
  go_wp2_with (first | (go_at_call 59;refine HO.out.mono ?_;rintro e w1 ⟨rfl,rfl⟩))
  go_at_call 84
  refine HS.out.mono ?_
  rw [HF.out]
  rintro e w1 ⟨rfl,hh,ht⟩
  have H1:=Qh (HH.out.stepped hh ht)
  have HT:=Qh ht
  have hsl:=H1.out.body.slot s HSL.out.2.2.2
  have c0:=hsl.c0
  have c1:=hsl.c1
  have f1:=hsl.free 1
  obtain⟨ao,cap,hsh,_,_⟩:=hsl.2.shape
  rw [hsh] at c0
  clear hh ht hsl
  go_wp2
  go_ret
  rw [HE.out]
  have hap:=(H1.out.body.apart.2.1 s HSL.out.2.2.2)
  have hsl:=H1.out.body.slot s HSL.out.2.2.2
  refine⟨rfl,FsPost.setFile (x:=⟨{s.fil with safe:=(s.fil.data.length:Int)},s.blk,s.sl⟩) H1.out (HT.out.mono fun _ hk=> .inl hk) HSL.out.1 HSL.out.2.1 rfl (Turned.setCell _ ⟨s.blk,1,none⟩ _ (.inr (.inl rfl))) (hsl.putSafe _ hap.2.2.2.2) (fun _ hg=> .inl hg) ?_ rfl ?_⟩
  ·have hh:=H1.out.hd.otherCell (k:=s.blk) hap.1.symm 1 (.int .i64 (s.fil.data.length:Int))
   have hu:=G9 (f':=⟨s.fil.name,s.fil.data,(s.fil.data.length:Int)⟩) H1.out.ok.rise HSL.out.2.2.1 HSL.out.2.1
   have e:Db {Ae d with files:=setF n (fun _=>{s.fil with safe:=(s.fil.data.length:Int)}) (Ae d).files}=Db (Ae d):=by
    unfold Db
    simp only at hu ⊢
    rw [show usedF (setF n (fun _=>⟨s.fil.name,s.fil.data,(s.fil.data.length:Int)⟩) (Ae d).files)=usedF (Ae d).files by omega]
   rw [e]
   exact hh
  ·exact H1.out.ok.setFile HSL.out.2.2.1 HSL.out.2.1 ⟨by simp,by simp⟩ (by have:=H1.out.ok.used;simp only;omega)
theorem Dv.setHd' {w:World} {f m:Nat} {L:List Ad} (h:Dv w f m L) (j:Nat) (v:Value):Dv (w.setCell ⟨f,j,none⟩ v) f m L:=h.kept fun k hk _=>by
 simp only [World.setCell]
 rw [Array.getElem?_modify,γ (fun e=>hk e.symm)]
theorem Iu {d:Ab} {n:List UInt8}:Aq d (opSize n)=if Aj d n≠0 then (d,[],0,Aj d n) else (d,[],match atF d.files n with | none=>0 | some f=>(f.data.length:Int),0):=by
 by_cases he:Aj d n=0
 ·rw [γ (by simpa using he)]
  unfold Aq
  rw [γ (by simp [opSize]),γ (by simp [opSize]),γ (by simp [opSize]),γ (by rw [bar_size];simpa using he),γ (by simp [opSize]),ζ (by simp [opSize])]
  rfl
 ·rw [ζ he,Bp (by simp [opSize]) (by rw [bar_size];exact he),bar_size]
theorem J9 (w:World) (f m:Nat) (d:Ab) (L:List Ad) (h:FsAt w f m d L) (n:List UInt8):
  Calls Tryz.prog 71 #[.pointer (some ⟨f,0,none⟩),.string ⟨n.toArray⟩] w fun e w'=>e= .returned (.tuple #[.int .i64 (Aq d (opSize n)).2.2.1,.int .i64 (Aq d (opSize n)).2.2.2])∧w=w':=by
 have HO:=Qh (Hl w f m d L h n)
 by_cases he:Aj d n=0
 case neg=>
  have HE:=Qh (show Aq d (opSize n)=(d,[],0,Aj d n) by rw [Iu,ζ he])
  have t1:(Aj d n != 0)=true:=by simpa using he
  generalize Aj d n=e0 at*
  clear he h
  go_enter Tryz.func71,Tryz.ntmps71
  go_wp2_with (go_at_call 59;refine HO.out.mono ?_;rintro e w1 ⟨rfl,rfl⟩)
  go_ret2
  rw [HE.out]
  exact⟨rfl,rfl⟩
 obtain⟨s,hs1,ha,hv,hr,hsm,hsn⟩:=K5 h he
 have HE:=Qh (show Aq d (opSize n)=(d,[],(s.fil.data.length:Int),0) by rw [Iu,γ (by simpa using he),ha])
 have hsl:=h.body.slot s hsm
 obtain⟨ao,cap,hsh,_,_⟩:=hsl.2.shape
 have c0:=hsl.c0
 rw [hsh] at c0
 rw [he,hv] at HO
 clear h he hs1 ha hv hr hsm hsn hsl hsh
 go_enter Tryz.func71,Tryz.ntmps71
 go_wp2_with (go_at_call 59;refine HO.out.mono ?_;rintro e w1 ⟨rfl,rfl⟩)
 go_ret2
 rw [HE.out]
 exact⟨rfl,rfl⟩
theorem free_any (w:World) (f m:Nat) (d:Ab) (L:List Ad) (h:FsAt w f m d L):
  Calls Tryz.prog 69 #[.pointer (some ⟨f,0,none⟩)] w fun e w'=>e= .returned (.int .i64 (d.room - (usedF d.files:Int)))∧Below w.heap.size w w':=by
 have c1:=h.hd.c1
 have c2:=h.hd.c2
 have hr:=h.ok.room
 have hu:=h.ok.used
 have hw:IntKind.i64.wrap ((Db d).room - (Db d).used)=d.room - (usedF d.files:Int):=by
  show IntKind.i64.wrap (d.room - (usedF d.files:Int))=_
  rw [κ];omega
 clear h
 go_enter Tryz.func69,Tryz.ntmps69
 go_wp2
 go_quiet (fail)
 go_wp2
 go_ret
 exact⟨rfl,below_drewN' _ _⟩
theorem dropF_cons {α:Type} {l:List α} {k:Nat} {x:α} (h:l[k]? =some x):l.drop k=x::l.drop (k+1):=by
 obtain⟨h1,h2⟩:=List.getElem?_eq_some_iff.1 h
 rw [List.drop_eq_getElem_cons h1,h2]
section
variable {w : World} {g : Nat} {o : Io} {bv kv : Value}
end
theorem tkl {P:Program} {ops:Array Oper} {Q:Exit→Act→World→Prop} {md:Region.Mode} {S:World→Prop} {d:Option Tmp} {ty:TypeId} {x:Operand} {t:TypeId} {p:String} {af:Array Edge} {g:Option (Nat×Bool)} {fuel:Nat} {listed:Array Bool} {a:Act} {w:World}
  (i:Nat) (b o:Nat) (cs:List Value) {de:TypeDesc} (hi:ops[i]? =some ⟨d,.load ty x,t,p,af,g⟩) (hx:a.eval x= .pointer (some ⟨b,o,none⟩)) (hc: ∀ w,S w→w.rangeAt b o cs) (hu:P.underlying ty=some de) (hd:de.isRow=true) (hin:(P.info? ty).map (·.size)=some cs.length)
  (h:wpAnyH P md ops Q S fuel (listed.setIfInBounds i true) (a.put d (.agg cs.toArray)) w)
  (hs:Region.noSelect ops=true:=by kernel_rfl) (hf:Region.free md ops listed i=true:=by kernel_rfl) (hr:(Region.ready md ops listed).contains i=true:=by kernel_rfl)
  (hQ: ∀ c a w,Q (.panic c) (a.put d (.agg cs.toArray)) w→Q (.panic c) a w:=by exact fun _ _ _ h=>h) (hw:Region.wanted ⟨d,.load ty x,t,p,af,g⟩ (yielded ops a.tmps)=true:=by kernel_rfl) (hS:S w:=by assumption):
  wpAnyH P md ops Q S (fuel+1) listed a w:=wpAnyH_take hi hs hf hr hQ (yieldsIf_load_mid hw ty x rfl b o hx cs de hc hu hd hin) hS h
theorem bar_front {d:Ab} {o:Io} (h:Dw d o=0):d.down=false∧rightName o.name=true∧(o.k=3→rightName o.to=true):=by
 unfold Dw at h
 rcases hd:d.down
 ·rw [hd] at h
  simp only [Bool.false_eq_true,if_false] at h
  rcases hr:rightName o.name
  ·rw [hr] at h;simp at h
  ·rw [hr] at h
   refine⟨rfl,rfl,fun hk=> ?_⟩
   rcases ht:rightName o.to
   ·rw [ht,hk] at h;simp at h
   ·rfl
 ·rw [hd] at h;simp at h
theorem bar_none {d:Ab} {o:Io} (h:Dw d o=0) (ha:atF d.files o.name=none):o.k=0∧d.files.length<700:=by
 obtain⟨h1,h2,h3⟩:=bar_front h
 unfold Dw at h
 rw [h1,h2,ha] at h
 by_cases h0:o.k=0
 ·refine⟨h0,?_⟩
  simp [h0] at h
  exact h
 ·exfalso
  by_cases hk:o.k=3
  ·have:=h3 hk
   simp [hk,this] at h
  ·simp [h0,hk] at h
theorem bar_some {d:Ab} {o:Io} {f:A7} (h:Dw d o=0) (ha:atF d.files o.name=some f):
  o.k≠0∧(o.k=1→(o.b.length:Int)≤d.room - (usedF d.files:Int))∧(o.k=5→0≤o.n∧o.n≤(f.data.length:Int))∧(o.k=6→0≤o.n∧0≤o.m∧o.n≤(f.data.length:Int)∧o.m≤(f.data.length:Int) - o.n):=by
 obtain⟨h1,h2,h3⟩:=bar_front h
 unfold Dw at h
 rw [h1,h2,ha] at h
 have h4:(decide (o.k=3)&& !rightName o.to)=false:=by
  by_cases hk:o.k=3
  ·rw [h3 hk];simp
  ·simp [hk]
 simp only [h4,Bool.not_true,Bool.or_false,Bool.false_eq_true,if_false] at h
 by_cases h0:o.k=0
 ·exfalso;simp [h0] at h
 ·simp only [h0,decide_false,Bool.false_eq_true,if_false] at h
  refine⟨h0,fun hk=> ?_,fun hk=> ?_,fun hk=> ?_⟩
  ·simp [hk] at h;omega
  ·simp [hk] at h;omega
  ·simp [hk] at h;omega
theorem chgF_cases (o:Io) (f:A7) (h3:o.k≠3):(o.k=1∧H8 o f={f with data:=f.data++o.b})∨(o.k=2∧H8 o f={f with safe:=(f.data.length:Int)})∨
  (o.k=5∧H8 o f={f with data:=f.data.take o.n.toNat,safe:=if o.n<f.safe then o.n else f.safe})∨H8 o f=f:=by
 unfold H8
 by_cases h1:o.k=1
 ·exact .inl ⟨h1,by rw [ζ h1]⟩
 by_cases h2:o.k=2
 ·exact .inr (.inl ⟨h2,by rw [γ h1,ζ h2]⟩)
 by_cases h5:o.k=5
 ·exact .inr (.inr (.inl ⟨h5,by rw [γ h1,γ h2,γ h3,ζ h5]⟩))
 ·exact .inr (.inr (.inr (by rw [γ h1,γ h2,γ h3,γ h5])))
theorem chgD_ok {d x:Ab} {o:Io} (h:At x) (hf:x.files=d.files) (hr:x.room=d.room) (hb:Dw d o=0):At (Ga x o):=by
 obtain⟨b1,b2,b3⟩:=bar_front hb
 rcases ha:atF d.files o.name with _ | f
 ·obtain⟨c1,c2⟩:=bar_none hb ha
  unfold Ga
  rw [ζ c1]
  refine h.put (f:=⟨o.name,[],0⟩) b2 ⟨by simp,by simp⟩ (fun y hy=> ?_) (by rw [hf];exact c2) (by simpa using h.used)
  rw [hf] at hy
  have:=List.find?_eq_none.1 ha y hy
  simpa using this
 ·obtain⟨c1,c2,c3,c4⟩:=bar_some hb ha
  have hax:atF x.files o.name=some f:=by rw [hf];exact ha
  obtain⟨hfn,hfm⟩:=Bi hax
  have hs:=h.safe f hfm
  have hu:=h.used
  by_cases h4:o.k=4
  ·unfold Ga
   rw [γ c1,hax]
   simp only [ζ h4]
   exact h.take _
  by_cases h3:o.k=3
  ·unfold Ga
   rw [γ c1,hax]
   simp only [γ h4,ζ h3]
   have e:H8 o f={f with name:=o.to}:=by
    unfold H8
    rw [γ (by omega),γ (by omega),ζ h3]
   rw [e]
   have k1:=h.take o.name
   have k2:=k1.take o.to
   have hl1:=takeF_length hax
   have hl2:(takeF o.to (takeF o.name x.files)).length≤(takeF o.name x.files).length:=List.length_filter_le _ _
   have hc:=h.count
   have u1:=Ch h.rise hax
   have u2:usedF (takeF o.to (takeF o.name x.files))≤usedF (takeF o.name x.files):=by
    rcases hat:atF (takeF o.name x.files) o.to with _ | y
    ·rw [Kb hat];exact ξ _
    ·have:=Ch (fs:=takeF o.name x.files) k1.rise hat;omega
   have:=k2.put (f:={f with name:=o.to}) (b3 h3) hs (fun y hy=>by
    have:=(List.mem_filter.1 hy).2
    simpa using this) (by show (takeF o.to (takeF o.name x.files)).length<700;omega) (by show (usedF (takeF o.to (takeF o.name x.files)):Int)+f.data.length≤x.room;omega)
   exact this
  ·rw [chg_set (x:=f) h.rise hax c1 h3 h4]
   rcases chgF_cases o f h3 with⟨hk1,e⟩ | ⟨hk1,e⟩ | ⟨hk1,e⟩ | e
   ·have:=c2 hk1
    rw [e]
    refine h.setFile hax hfn ?_ ?_
    ·simp only [η];omega
    ·simp only [η]
     rw [hf,hr]
     omega
   ·rw [e]
    exact h.setFile hax hfn (by simp only;omega) (by simp only;omega)
   ·have:=c3 hk1
    rw [e]
    refine h.setFile hax hfn ?_ ?_
    ·simp only [Θ]
     split<;>omega
    ·simp only [Θ];omega
   ·rw [e]
    exact h.setFile hax hfn hs (by omega)
theorem doD_ok {d:Ab} {o:Io} (h:At d) (h8:o.k≠8) (hn:o.n≤9223372036854775807):At (Aq d o).1:=by
 by_cases h9:o.k=9
 ·unfold Aq
  rw [γ h8,ζ h9]
  refine⟨h.rise,h.names,h.safe,h.count,h.room,h.used,?_,h.steps,h.reads⟩
  show 0≤(if 0<o.n then o.n else 0)∧(if 0<o.n then o.n else 0)≤9223372036854775807
  split<;>omega
 by_cases hr:o.k<0∨9<o.k
 ·unfold Aq
  rw [γ h8,γ h9,ζ hr]
  exact h
 have hk:0≤o.k∧o.k≤7:=by omega
 by_cases hb:Dw d o=0
 ·by_cases h5:o.k≤5
  ·rw [Fw ⟨hk.1,h5⟩ hb]
   have hs:At (Ga (Ae d) o):=chgD_ok (d:=d) h.step (Av d) (I1 d) hb
   by_cases hf:d.fuse=1
   ·simp only [ζ hf]
    split
    ·exact hs
    ·exact h.step
   ·simp only [γ hf]
    exact hs
  ·unfold Aq
   rw [γ h8,γ h9,γ hr,γ (by simpa using hb)]
   by_cases h6:o.k=6
   ·rw [ζ h6]
    have hm:0≤o.m:=by
     rcases ha:atF d.files o.name with _ | f
     ·have:=(bar_none hb ha).1;omega
     ·exact((bar_some hb ha).2.2.2 h6).2.1
    exact⟨h.rise,h.names,h.safe,h.count,h.room,h.used,h.fuse,h.steps,by show -9223372036854775808≤IntKind.i64.wrap (d.reads+o.m)∧IntKind.i64.wrap (d.reads+o.m)≤9223372036854775807;rw [κ];omega⟩
   ·rw [γ h6,ζ (by omega)]
    exact h
 ·rw [Bp hk hb]
  exact h
def Ih (r:Int):Int:=if r<0 then 0 else if 67108864<r then 67108864 else r
def Ht (r:Int):Ab:=⟨[],Ih r,0,false,0,0⟩
theorem clamp_bounds (r:Int):0≤Ih r∧Ih r≤67108864:=by unfold Ih;split<;>(try split)<;>omega
theorem newD_ok (r:Int):At (Ht r) where
 rise:=List.Pairwise.nil
 names:=fun _ h=>by cases h
 safe:=fun _ h=>by cases h
 count:=θ _
 room:=clamp_bounds r
 used:=by have:=(clamp_bounds r).1;simpa [Ht,usedF] using this
 fuse:=⟨Int.le_refl _,by show (0:Int)≤9223372036854775807;decide⟩
 steps:=Int.le_refl _
 reads:=by show (-9223372036854775808:Int)≤0∧(0:Int)≤9223372036854775807;decide
section
open Go.RowKit Go.Maps Go.Sort
theorem sortNone (p:Option Addr) (cap:Nat) (w:World):
  Calls Tryz.prog 75 #[.slice p 0 cap] w fun e w'=>e= .returned (.tuple #[])∧w'=w:=Any.slices_Sort_string_none Tryz.lays190 p cap w
def ptrV:Option Nat→Value
 | none=> .pointer none
 | some g=> .pointer (some ⟨g,0,none⟩)
theorem ptrElem_inv {v:Value} {y:DataW Unit×List MemPlace} (h:Eg v=some y): ∃ c,v=ptrV c:=by
 unfold Eg at h
 split at h
 ·exact⟨none,rfl⟩
 ·exact⟨some _,rfl⟩
 ·cases h
theorem before_le: ∀ {a b:List UInt8},bytesBefore a b=true→a≤b
 | [],_,_=>List.nil_le _
 | x::a,[],h=>by simp [bytesBefore] at h
 | x::a,y::b,h=>by
  rw [bytesBefore] at h
  rcases Nat.lt_trichotomy x.toNat y.toNat with h1 | h1 | h1
  ·exact List.cons_le_cons_iff.2 (.inl (by rw [UInt8.lt_iff_toNat_lt];exact h1))
  ·have e:x=y:=UInt8.toNat_inj.1 h1
   subst e
   simp at h
   exact List.cons_le_cons_iff.2 (.inr ⟨rfl,before_le h⟩)
  ·exfalso
   simp at h
   rcases h with h | h
   ·have:=UInt8.lt_iff_toNat_lt.1 h;omega
   ·rw [h.1] at h1;omega
def Bm (L:List Ad):List (List UInt8):=L.map fun s=>s.fil.name
theorem names_sorted {L:List Ad} {ss:List (List UInt8)} (h:Ff (fils L)) (hp:ss.Perm (Bm L)):ss.mergeSort (fun x y=>decide (x≤y))=Bm L:=by
 refine List.Perm.eq_of_pairwise (le:=fun a b=>decide (a≤b)=true) (fun a b _ _ h1 h2=> ?_) (List.pairwise_mergeSort (fun a b c h1 h2=> ?_) (fun a b=> ?_) _) ?_ ((List.mergeSort_perm _ _).trans hp)
 ·exact List.le_antisymm (χ h1) (χ h2)
 ·exact ν (List.le_trans (χ h1) (χ h2))
 ·rw [Bool.or_eq_true,decide_eq_true_eq,decide_eq_true_eq];exact List.le_total a b
 ·unfold Ff fils at h
  rw [List.pairwise_map] at h
  unfold Bm
  rw [List.pairwise_map]
  exact h.imp fun hab=>ν (before_le hab)
theorem strKeys_ents (L:List Ad):strKeys (DataW.map (Fx L))=Bm L:=by
 simp [strKeys,Fx,Bm,strOf,Function.comp]
theorem fsNames_any (w:World) (f m:Nat) (d:Ab) (L:List Ad) (h:FsAt w f m d L) (hL:L.length≤1000000):
  Calls Tryz.prog 46 #[.pointer (some ⟨f,0,none⟩)] w fun e w'=> ∃ v,e= .returned v∧w'.ownsRow w.heap.size 9 1 v L.length ((Bm L).map encStr)∧Below w.heap.size w w':=by
 obtain⟨i0,hi,hz0,hz1,hz2⟩:=info_parts (show (Tryz.prog.info? 9).map (fun i=>(i.zero,i.size,i.bytes))=some (some (.string ⟨#[]⟩),1,16) by kernel_rfl)
 have c0:=h.hd.c0
 have HOWN:=Qh h.body.map
 have HR:=Qh h.body.rise
 have hml:=h.body.map.lt
 have HML:=Qh hml
 have hsz:Maps.size (DataW.map (Fx L))=L.length:=by simp [Maps.size,I9]
 clear h
 go_enter Tryz.func46,Tryz.ntmps46
 go_wp2_with (first
  | (at_range;refine wpList_range_own _ rfl _ 93 rfl 9 107 (string_keyed Tryz.underlying9) Tryz.underlying93 Eg m L.length _ rfl HOWN.out ?_;intro w0 hrg0 hg0 hs0))
 go_frame
 go_loopw [3,4] (fun v _ wr=> ∃ (left:Lit→Bool) (cnt:Nat) (ss:List (List UInt8)),wr.ranges Tryz.prog 9 Eg m w.heap.size L.length (.map (Fx L)) left cnt∧ss.length+cnt≤L.length∧
   wr.ownsRow w.heap.size 9 1 v ss.length (ss.map encStr)∧Hid (Collected (DataW.map (Fx L)) left ss)∧RowKit.Below w.heap.size w wr)
  (fun _ _ wr=>wr.rangeLeft m w.heap.size)
 case atStart=>
  exact⟨_,_,[],hrg0,by simp [hsz],World.ownsRow_nil _ _ _ _,Qh (Collected.start _),(RowKit.Below.refl _ _).grown hg0 (ξ _) (fun j hj=>by cases hj)⟩
 case round=>
  obtain⟨left,cnt,ss,hrg,hcs,hrow,HC,hnx⟩:=hrel
  have HNX:=Qh hnx
  go_wp2_with (first
   | (at_next;refine wpList_next_ranges _ rfl _ rfl 9 (string_keyed Tryz.underlying9) Eg encStr ptrV (fun key kl hk=>by obtain⟨x,hx,_⟩:=Maps.keyOf_str Tryz.underlying9 hk;exact⟨x,hx⟩) (fun v y hv=>ptrElem_inv hv) m w.heap.size L.length _ _ _ rfl hrg ?_ ?_))
  ·
   intro hc0 hl0
   have hperm:ss.Perm (Bm L):=by rw [←strKeys_ents];exact HC.out.perm HOWN.out (string_keyed Tryz.underlying9) Tryz.underlying9 hl0
   have hlen:ss.length=L.length:=by rw [hperm.length_eq];simp [Bm]
   have HSO:=Qh (names_sorted HR.out hperm)
   clear hperm HC hl0
   rcases hrow.2 with⟨rfl,hnil⟩ | ⟨g,cap,cur,rfl,hbase,hb,h1,h2,h3,h4⟩
   ·have hn:Bm L=[]:=List.length_eq_zero_iff.1 (by rw [show (Bm L).length=L.length by simp [Bm],←hlen];exact hnil)
    have HR0:=Qh (show wr.ownsRow w.heap.size 9 1 (.slice none 0 0) L.length ((Bm L).map encStr) by rw [hn,←hlen,hnil];exact World.ownsRow_nil _ _ _ _)
    clear hrow hnil hn hlen
    go_wp2_with (go_at_call 75;refine(sortNone none 0 wr).mono ?_;rintro e w1 ⟨rfl,rfl⟩)
    go_ret
    exact⟨_,rfl,HR0.out,HNX.out⟩
   ·have HH:=Qh (holds_of_block (ss:=ss) hb (by simpa using h4))
    have HGL:=Qh (δ.1 hb).1
    have HOS:=Qh (fun(n:Nat) (os:Array Obj)=>ownsRow_sorted (n:=n) (os:=os) (base:=w.heap.size) (cap:=cap) (ss:=ss) (ts:=Bm L) (by simp [Bm,hlen]) hbase hb h1 h2 h3)
    have HBS:=Qh hbase
    have hll:ss.length<4611686018427387904:=by omega
    have HLEN:=Qh hlen
    clear hrow hb h4 h3 h2 hbase hlen
    go_wp2_with fail
    refine(Tryz.slices_Sort_string g 0 cap ss wr HH.out HGL.out hll).mono ?_
    rintro e w1 ⟨rfl,nn,os,hw1⟩
    rw [HSO.out] at hw1
    have HB:=Qh (show RowKit.Below w.heap.size w w1 by rw [hw1];exact HNX.out.grown (grownBy_sorted (g:=g) (n:=nn) (os:=os) (Bm L).toArray) HNX.out.size (fun k e=>by cases e;exact HBS.out))
    have HW:=Qh (show w1.ownsRow w.heap.size 9 1 (.slice (some ⟨g,0,none⟩) ss.length cap) ss.length ((Bm L).map encStr) by rw [hw1];exact HOS.out nn os)
    clear hw1
    go_wp2
    go_ret
    exact⟨_,rfl,by rw [←HLEN.out];exact HW.out,HB.out⟩
  ·
   intro x c kl yd yp w2 cnt2 hkey hlk hv hat hrg2 hlt hg2 hs2 hen
   obtain⟨x',ex,rfl,_⟩:=Maps.keyOf_str Tryz.underlying9 hkey
   obtain rfl:x=x':=encStr_inj ex
   have hrow2:=hrow.kept hg2 (Or.inr (row_ne_iter hrow hrg).symm)
   clear hs2
   go_wp2_with (first
    | (at_builtin;refine wpList_append_own _ rfl _ _ 73 rfl w.heap.size 9 i0 (.string ⟨#[]⟩) 1 16 Tryz.underlying73 hi hz0 hz1 hz2 rfl (by decide) _ _ _ rfl (hrow2.alloc _) ⟨w2.heap.size,0,none⟩ 1 1 [encStr x] rfl rfl (cell_one_new _ _ _) (by simp [Value.oneCell',encStr]) (by unfold maxLen at *;omega) (by omega) (by have:=hnx.size;have:=hg2.size;simp;omega) ?_;intro v' w3 hown' hg3 hnil3;go_frame))
   have hrg3:=(hrg2.alloc _).kept hg3 (row_ne_low hrow2 hml) (row_ne_iter hrow2 hrg2)
   go_roundw
   case rel=>
    refine⟨_,cnt2,ss++[x],hrg3,by simp;omega,by simpa using hown',Qh (HC.out.step hlk hat),?_⟩
    exact((hnx.grown hg2 hnx.size (fun j hj=>by cases hj;exact ξ _)).alloc (by have:=hnx.size;have:=hg2.size;omega) _).grown hg3 (by have:=hnx.size;have:=hg2.size;simp;omega) (fun j hj=>(hrow2.lt j hj).1)
   case measure=>rw [hrg3.left_eq,hrg.left_eq];exact hlt
theorem slice_none_eq (w:World) (n cap:Nat):(binOp .eql 39 (.slice none n cap) (.slice none 0 0)).run Tryz.prog w= .ok (.bool true) w:=by kernel_rfl
theorem slice_some_eq (w:World) (ad:Addr) (n cap:Nat):(binOp .eql 39 (.slice (some ad) n cap) (.slice none 0 0)).run Tryz.prog w= .ok (.bool false) w:=by kernel_rfl
theorem clone_any (l:List UInt8) (v:Value) (w:World) (hv:A2 w v l) (hn:l.length≤140737488355328):
  Calls Tryz.prog 47 #[v] w fun e w'=> ∃ v',e= .returned v'∧OwnB w' w.heap.size v' l∧Below w.heap.size w w':=by
 obtain⟨oa,cap,rfl,hl,hc⟩:=hv
 rcases oa with _ | ad
 ·have hz:l=[]:=by
   by_cases h:l=[]
   ·exact h
   ·obtain⟨b,off,e,_⟩:=hc h;cases e
  subst hz
  have h1:=slice_none_eq w 0 cap
  clear hc hl hn
  go_enter Tryz.func47,Tryz.ntmps47
  go_wp2
  go_ret
  exact⟨_,rfl,OwnB.nil _ _,τ _ _⟩
 ·have HV:=Qh (show A2 w (.slice (some ad) l.length cap) l from⟨_,cap,rfl,hl,hc⟩)
  have h1:=slice_some_eq w ad l.length cap
  have hln:([]:List UInt8).length+l.length≤140737488355328:=by simpa using hn
  have HO:=Qh (show OwnB (w.alloc (.cells #[] 5)) w.heap.size (.slice (some ⟨w.heap.size,0,none⟩) 0 0) [] from own_fresh w 5 1 w.heap.size (ξ _))
  have HB:=Qh (below_alloc w (.cells #[] 5))
  have HV1:=Qh (show A2 (w.alloc (.cells #[] 5)) (.slice (some ad) l.length cap) l from by
   obtain⟨oa,cp,e,h3,h4⟩:=HV.out
   exact⟨oa,cp,e,h3,fun hn=>by obtain⟨b,off,e1,hcc⟩:=h4 hn;exact⟨b,off,e1,fun i x hx=>cell_later HB.out (hcc i x hx)⟩⟩)
  clear hc hn hl
  go_enter Tryz.func47,Tryz.ntmps47
  go_wp2_with (at_builtin;refine wpList_appB rfl _ _ rfl rfl rfl HO.out ?c1 HV1.out hln ?_)
  case c1=>exact HB.out.size
  intro v' w' h2 h3
  have HF:=Qh h2
  have HG:=Qh (HB.out.trans h3)
  clear h2 h3
  go_wp2
  go_ret
  exact⟨_,rfl,HF.out,HG.out⟩
theorem fsNew_any (room:Int) (w:World):
  Calls Tryz.prog 10 #[.int .i64 room] w fun e w'=> ∃ f m,e= .returned (.pointer (some ⟨f,0,none⟩))∧FsAt w' f m (Ht room) []∧w.heap.size≤f∧w.heap.size≤m∧Below w.heap.size w w':=by
 have hmk:(Instr.makeMap 93 none).run Tryz.prog w= .ok (.map (some w.heap.size)) (w.alloc (.map #[] 0)):=rfl
 have sz:(w.alloc (.map #[] 0)).heap.size=w.heap.size+1:=by simp
 have hm:min (max 0 room) 67108864=Ih room:=by unfold Ih;split<;>(try split)<;>omega
 have HH:=Qh (show C6 ((w.alloc (.map #[] 0)).alloc (.cells (hdCs w.heap.size (Db (Ht room))) 95)) (w.heap.size+1) w.heap.size (Db (Ht room)) by
  rw [←sz];exact σ _ _)
 have HM:=Qh ((w.ownsMap_made Tryz.prog 9 Eg).alloc (.cells (hdCs w.heap.size (Db (Ht room))) 95))
 have HB:=Qh (Below.next (below_alloc w (.map #[] 0)) (below_alloc _ (.cells (hdCs w.heap.size (Db (Ht room))) 95)))
 clear sz
 go_enter Tryz.func10,Tryz.ntmps10
 go_wp2
 go_ret
 have hbd:Dv ((w.alloc (.map #[] 0)).alloc (.cells (hdCs w.heap.size (Db (Ht room))) 95)) (w.heap.size+1) w.heap.size []:=
  {map:=HM.out,slot:=fun s hs=>(List.not_mem_nil hs).elim,rise:=List.Pairwise.nil,apart:=And.intro (by omega) (And.intro (fun s hs=>(List.not_mem_nil hs).elim) List.Pairwise.nil)}
 refine⟨w.heap.size+1,w.heap.size,rfl,?_,by omega,by omega,?_⟩
 ·exact⟨HH.out,hbd,rfl,newD_ok room⟩
 ·exact HB.out
end
theorem run_eql4 (xs ys:List UInt8) (hx:xs.length=4) (hy:ys.length=4) (w:World):(binOp .eql 220 (.agg (Lib.byteCells xs).toArray) (.agg (Lib.byteCells ys).toArray)).run Tryz.prog w= .ok (.bool (xs==ys)) w:=
 run_eql_bytes (P:=Tryz.prog) w 220 5 4 Tryz.underlying220 Tryz.underlying5 (fun w=>by kernel_rfl) xs ys hx hy
theorem run_arr4 (a:Option Addr) (len cap:Nat) (h:4≤len) (w:World):(Instr.arrayAt 220 (.slice a len cap)).run Tryz.prog w= .ok (.pointer a) w:=by
 unfold Instr.arrayAt
 rw [Sem.run_bind,run_underlying Tryz.underlying220 w]
 simp [show ¬ len<4 by omega]
theorem range_bytes {w:World} {b off:Nat} {l:List UInt8} (h: ∀ (i:Nat) x,l[i]? =some x→w.cell? ⟨b,off+i,none⟩=some (.int .u8 (x.toNat:Int))):w.rangeAt b off (Lib.byteCells l):=fun j u hj=>by
 rw [Lib.byteCells,List.getElem?_map] at hj
 obtain⟨x,hx,rfl⟩:=Option.map_eq_some_iff.1 hj
 exact h j x hx
theorem closed_any (l:List UInt8) (v:Value) (w:World) (hv:A2 w v l) (hl:l.length≤9223372036854775807) (hn:NibTab w):
  Calls Tryz.prog 98 #[v] w fun e w'=>e= .returned (.bool (Hf l))∧Below w.heap.size w w':=by
 rcases hq:decide (4≤l.length) with _ | _
 ·have hq4:=ε hq
  have HE:=Qh (show Hf l=false by unfold Hf;rw [hq];rfl)
  obtain⟨oa,cap,rfl,hlc,hc⟩:=hv
  have q1:(l.length:Int) - 4<0:=by omega
  clear hc hq
  go_enter Tryz.func98,Tryz.ntmps98
  go_wp2
  go_ret
  exact⟨by rw [HE.out];rfl,τ _ _⟩
 ·have hq4:=χ hq
  obtain⟨n,hn4⟩: ∃ n,l.length=n+4:=⟨l.length - 4,by omega⟩
  have HE:=Qh (show Hf l=(l.drop n==Cq (Dz (l.take n))) by unfold Hf;rw [hq,hn4,Nat.add_sub_cancel];rfl)
  have HV:=Qh (fun W (hb:Below w.heap.size w W)=>hv.below hb)
  have HNB:=Qh hn
  obtain⟨oa,cap,rfl,hlc,hc⟩:=hv
  obtain⟨b,off,rfl,hcell⟩:=hc (by rintro rfl;simp at hq4)
  have HRG:=Qh (show w.rangeAt b (off+n) (Lib.byteCells (l.drop n)) from range_bytes (fun i x hx=>by rw [List.getElem?_drop] at hx;rw [Nat.add_assoc];exact hcell _ x hx))
  have HSM:=Qh (fun W oa' cap' (hb:Below w.heap.size w W) (hv:A2 W (.slice oa' n cap') (l.take n))=>crcSum_any (l.take n) _ W hv (hn.below hb) (by rw [Θ];omega))
  have HLD:=Qh (show (l.drop n).length=4 by rw [Ξ];omega)
  obtain⟨s,hs⟩: ∃ s,s=Dz (l.take n):=⟨_,rfl⟩
  rw [←hs] at HE HSM
  have hcn: ¬ cap=n:=by omega
  have q1: ¬ (l.length:Int) - 4<0:=by omega
  have q2:(l.length:Int) - 4=(n:Int):=by omega
  have HBR:=Qh (HV.out w (τ _ _))
  have hnl:n≤l.length:=by omega
  clear hc hcell hs hq hn
  have e2: ∀ w,(Instr.slice 39 (.slice (some ⟨b,off,none⟩) l.length cap) (some (.int .i64 (n:Int))) none none).run Tryz.prog w= .ok (.slice (some ⟨b,off+n,none⟩) 4 (cap - n)) w:=fun w=>by
   rw [J8 _ _ _ _ hnl,sliced,γ hcn,show l.length - n=4 by omega]
   simp [Addr.add]
  have e3: ∀ w,(Instr.sliceAt 39 (.slice (some ⟨b,off,none⟩) l.length cap) (some (.int .i64 (n:Int))) none none).run Tryz.prog w= .ok (.slice (some ⟨b,off+n,none⟩) 4 (cap - n)) w:=fun w=>by rw [Fl,e2]
  have e4:=run_arr4 (some ⟨b,off+n,none⟩) 4 (cap - n) (by decide)
  have e5:=run_eql4 (l.drop n) (Cq s) HLD.out rfl
  obtain⟨ls,hls⟩: ∃ x,x=Lib.byteCells (l.drop n):=⟨_,rfl⟩
  obtain⟨rs,hrs⟩: ∃ x,x=Lib.byteCells (Cq s):=⟨_,rfl⟩
  obtain⟨bb,hbb⟩: ∃ x,x=(l.drop n==Cq s):=⟨_,rfl⟩
  rw [←hls] at HRG e5
  rw [←hrs,←hbb] at e5
  have HRS:=Qh hrs
  rw [←hbb] at HE
  have hll:ls.length=4:=by rw [hls,Lib.byteCells,List.length_map,HLD.out]
  have hrl:rs.length=4:=by rw [hrs];rfl
  have HLL:=Qh hll
  have HRL:=Qh hrl
  clear hls hrs hbb HLD hll hrl hn4 hq4
  go_enter Tryz.func98,Tryz.ntmps98
  go_wp2_with (with_reducible refine wpList_cut_h rfl (.tmp 10) (.tmp 11) rfl (some ⟨b,off,none⟩) cap n l rfl rfl HBR.out hnl ?_)
  intro oa' cap' hbr
  go_wp2_with fail
  refine(HSM.out w oa' cap' (τ _ _) hbr).mono ?_
  rintro e w1 ⟨rfl,hb1⟩
  have HB1:=Qh hb1
  have HR1:=Qh (fun W (hb:Below w1.heap.size w1 W)=>Ax HRG.out (Below.next hb1 hb))
  clear hbr hb1 HSM HV
  go_wp2_with fail
  refine ω (S:=fun w'=>Below w1.heap.size w1 w') (by kernel_rfl) (show Below w1.heap.size w1 w1.drew from below_drewN' w1 1) (fun hHeld=> ?_)
  refine tq 0 rfl ?_
  refine tq 1 rfl ?_
  refine tq 2 rfl ?_
  refine tq 3 rfl ?_
  refine tq 5 rfl ?_
  refine tkl 4 b (off+n) ls rfl rfl (fun w' h=>HR1.out w' h) Tryz.underlying220 rfl (by rw [HLL.out];kernel_rfl) ?_
  simp only [pA,pB,pC,pD]
  generalize World.drew _=Wd at*
  refine Rd 6 rfl fun K hK=> ?_
  go_simp
  go_at_call 105
  refine(crcFour_any s Wd).mono ?_
  rintro e w2 ⟨v2,rfl,ho2,hb2⟩
  obtain⟨g,cap2,rfl,_,_,hc2,_,hcell2⟩:=B8 ho2 (by decide)
  have HB2:=Qh (Below.next hHeld hb2)
  have HR2:=Qh (fun W (hb:Below w2.heap.size w2 W)=>Ax (show w2.rangeAt g 0 rs by rw [HRS.out];exact fun j u hj=>by rw [Nat.zero_add];exact hcell2 j u hj) hb)
  have e6:=run_arr4 (some ⟨g,0,none⟩) 4 cap2 (by decide)
  clear ho2 hb2 hHeld hcell2 HRS
  go_wp2_with fail
  refine hK.out _ _ HB2.out (fun hHeld=> ?_)
  clear hK K
  refine tq 7 rfl ?_
  refine Rd 8 rfl fun K hK=> ?_
  refine wp_load_mid 220 (.tmp 21) rfl g 0 rfl rs _ (HR2.out _ (τ _ _)) Tryz.underlying220 rfl (by rw [HRL.out];kernel_rfl) ?_
  refine hK.out _ _ HB2.out (fun hHeld=> ?_)
  clear hK K
  refine tk 9 rfl ?v_1 ?hy_1 ?r_1
  case hy_1=>intro w hSw;go_simp;try with_reducible rfl
  simp only [pA]
  refine tk 10 rfl ?v_2 ?hy_2 ?r_2
  case hy_2=>intro w hSw;go_simp;try with_reducible rfl
  simp only [pA]
  refine Λ (by kernel_rfl) ?_ _
  clear hHeld
  go_wp2
  go_ret
  exact⟨by rw [HE.out];rfl,Below.next HB1.out HB2.out⟩
theorem frameSize_any (n:Nat) (w:World) (hn:n≤16384):Calls Tryz.prog 100 #[.int .i64 (n:Int)] w fun e w'=>e= .returned (.int .i64 (n+20:Nat))∧w=w':=by
 go_enter Tryz.func100,Tryz.ntmps100
 go_wp2
 go_ret
 exact⟨by simp;omega,rfl⟩
theorem i64_or_nat (a b:Nat) (ha:a<4294967296) (hb:b<4294967296):bits .or .i64 (a:Int) (b:Int)=((a ||| b:Nat):Int):=by
 have hx:a ||| b<2^32:=Nat.or_lt_two_pow (by omega) (by omega)
 show IntKind.i64.wrap ((BitVec.ofInt 64 (a:Int) ||| BitVec.ofInt 64 (b:Int)).toNat:Int)=_
 rw [BitVec.toNat_or,ofInt_u64 a (by omega),ofInt_u64 b (by omega),κ]
 omega
theorem or256 {x y:UInt8}:bits .or .i64 (x.toNat:Int) ((y.toNat:Int)*256)=((x.toNat+y.toNat*256:Nat):Int):=by
 have h1:x.toNat<256:=x.toNat_lt
 have h2:y.toNat<256:=y.toNat_lt
 rw [show (y.toNat:Int)*256=((y.toNat*2^8:Nat):Int) by omega,i64_or_nat _ _ (by omega) (by omega),or_add (k:=8) (by omega)]
theorem or8 {u k:Nat} (x:UInt8) (hu:u<256^k) (hk:k<8):bits .or .u64 (u:Int) (IntKind.u64.wrap ((x.toNat:Int)*2^(8*k)))=((u+x.toNat*256^k:Nat):Int):=by
 have e:(256:Nat)^k=2^(8*k):=by rw [Nat.pow_mul]
 have hx:x.toNat<256:=x.toNat_lt
 have h8:(256:Nat)^(k+1)≤256^8:=Nat.pow_le_pow_right (by decide) (by omega)
 have h88:(256:Nat)^8=18446744073709551616:=by decide
 have hm:x.toNat*256^k≤255*256^k:=Nat.mul_le_mul_right _ (by omega)
 rw [Nat.pow_succ] at h8
 have hs:u+x.toNat*256^k<18446744073709551616:=by omega
 rw [e] at hu hs ⊢
 exact or64 hu hs
theorem I6 {l:List UInt8} {i:Nat} {x:UInt8} (h:l[i]? =some x):byteAt l i=x.toNat:=by unfold byteAt;rw [List.getD_eq_getElem?_getD,h];rfl
theorem leNat_take {l:List UInt8} {k:Nat} {x:UInt8} (h:l[k]? =some x):leNat (l.take (k+1))=leNat (l.take k)+x.toNat*256^k:=by
 obtain⟨hk,rfl⟩:=List.getElem?_eq_some_iff.1 h
 rw [List.take_succ_eq_append_getElem hk,leNat_snoc,Θ,Nat.min_eq_left (by omega)]
theorem leNat_take_lt (l:List UInt8) (k:Nat):leNat (l.take k)<256^k:=
 Nat.lt_of_lt_of_le (leNat_lt _) (Nat.pow_le_pow_right (by decide) (by rw [Θ];omega))
theorem peek_short {b:List UInt8} (h:b.length<16):B4 b=(0,0,0,60):=by unfold B4;rw [ζ h]
theorem peek_mark {b:List UInt8} (h: ¬ b.length<16) (h1:byteAt b 0≠165):B4 b=(0,0,0,61):=by unfold B4;rw [γ h,ζ h1]
theorem peek_sum {b:List UInt8} (h: ¬ b.length<16) (h1: ¬ byteAt b 0≠165) (h2:Hf (b.take 16)=false):B4 b=(0,0,0,62):=by unfold B4;rw [γ h,γ h1,ζ h2]
theorem Ky {b:List UInt8} (h: ¬ b.length<16) (h1: ¬ byteAt b 0≠165) (h2: ¬ Hf (b.take 16)=false) (h3:byteAt b 1=0∨7<byteAt b 1∨16384<byteAt b 2+byteAt b 3*256∨1099511627776<leNat ((b.drop 4).take 8)):B4 b=(0,0,0,63):=by
 unfold B4;rw [γ h,γ h1,γ h2,ζ h3]
theorem peek_good {b:List UInt8} (h: ¬ b.length<16) (h1: ¬ byteAt b 0≠165) (h2: ¬ Hf (b.take 16)=false) (h3: ¬ (byteAt b 1=0∨7<byteAt b 1∨16384<byteAt b 2+byteAt b 3*256∨1099511627776<leNat ((b.drop 4).take 8))):
  B4 b=(byteAt b 1,leNat ((b.drop 4).take 8),byteAt b 2+byteAt b 3*256+20,0):=by
 unfold B4;rw [γ h,γ h1,γ h2,γ h3]
def PeekPost (w:World) (r:Nat×Nat×Nat×Int) (e:Ending) (w':World):Prop:=e= .returned (.tuple #[.int .i64 (r.1:Int),.int .i64 (r.2.1:Int),.int .i64 (r.2.2.1:Int),.int .i64 r.2.2.2])∧Below w.heap.size w w'
theorem peek_any (l:List UInt8) (v:Value) (w:World) (hv:A2 w v l) (hl:l.length≤9223372036854775807) (hn:NibTab w):
  Calls Tryz.prog 97 #[v] w (PeekPost w (B4 l)):=by
 rcases h16:decide (l.length<16) with _ | _
 ·have hnl: ¬ l.length<16:=ε h16
  have HNL:=Qh hnl
  have q1: ¬ (l.length:Int)<16:=by omega
  have hle:16≤l.length:=by omega
  have HBR:=Qh hv
  have HCL:=Qh (fun oa' cap' (hv:A2 w (.slice oa' 16 cap') (l.take 16))=>closed_any (l.take 16) _ w hv (by rw [Θ];omega) hn)
  obtain⟨oa,cap,rfl,hlc,hc⟩:=hv
  obtain⟨b,off,rfl,hcell⟩:=hc (by rintro rfl;simp at hnl)
  have HC:=Qh hcell
  obtain⟨x0,hx0,_,_⟩:=Kc l 0 (by omega)
  obtain⟨x1,hx1,_,_⟩:=Kc l 1 (by omega)
  obtain⟨x2,hx2,_,_⟩:=Kc l 2 (by omega)
  obtain⟨x3,hx3,_,_⟩:=Kc l 3 (by omega)
  have c0:w.cell? ⟨b,off,none⟩=some (.int .u8 (x0.toNat:Int)):=hcell 0 x0 hx0
  have HB0:=Qh (I6 hx0)
  have HB1:=Qh (I6 hx1)
  have HB2:=Qh (I6 hx2)
  have HB3:=Qh (I6 hx3)
  have HX1:=Qh hx1
  have HX2:=Qh hx2
  have HX3:=Qh hx3
  clear hc hcell hx0 hx1 hx2 hx3 hn h16 hnl
  go_enter Tryz.func97,Tryz.ntmps97
  rcases hm:((x0.toNat:Int) != 165) with _ | _
  ·have HM:=Qh (show ¬ byteAt l 0≠165 by rw [HB0.out];simp at hm;omega)
   go_wp2_with (with_reducible refine wpList_cut_h rfl (.tmp 20) (.const (.int .i64 16)) rfl (some ⟨b,off,none⟩) cap 16 l rfl rfl HBR.out hle ?_)
   intro oa' cap' hbr
   go_wp2_with fail
   refine(HCL.out oa' cap' hbr).mono ?_
   rintro e w1 ⟨rfl,hb1⟩
   have HBw:=Qh hb1
   have c1:=cell_later hb1 (HC.out 1 x1 HX1.out)
   have c2:=cell_later hb1 (HC.out 2 x2 HX2.out)
   have c3:=cell_later hb1 (HC.out 3 x3 HX3.out)
   clear hb1 hbr HCL c0
   rcases hck:Hf (l.take 16) with _ | _
   ·have HE:=Qh (peek_sum HNL.out HM.out hck)
    go_wp2
    refine π (v:= .tuple #[.int .i64 0,.int .i64 0,.int .i64 0,.int .i64 62]) (by simp [results,Tryz.results97,go_sem]) rfl ⟨by rw [HE.out];rfl,HBw.out⟩
   ·have HK:=Qh (show ¬ Hf (l.take 16)=false by rw [hck];decide)
    obtain⟨nn,hnn⟩: ∃ nn,nn=x2.toNat+x3.toNat*256:=⟨_,rfl⟩
    have n7:= @or256 x2 x3
    rw [←hnn] at n7
    have HN:=Qh hnn
    have t3:x3.toNat<256:=x3.toNat_lt
    have t2:x2.toNat<256:=x2.toNat_lt
    have t1:x1.toNat<256:=x1.toNat_lt
    clear hck hnn
    go_wp2
    go_quiet (fail)
    have HB2w:=Qh (Below.next HBw.out (below_drewN' w1 nq))
    have c1:(w1.drewN nq).cell? ⟨b,off+1,none⟩=some (.int .u8 (x1.toNat:Int)):=c1
    generalize w1.drewN nq=w2 at*
    clear n7 c2 c3 HBw
    go_wp2
    go_loopw [7,34] (fun sv iv wr=> ∃ k:Nat,k≤8∧iv= .int .i64 k∧sv= .int .u64 ((leNat ((l.drop 4).take k):Nat):Int)∧Below w.heap.size w wr) (fun _ iv _=>8 - (intOf iv).toNat)
    case atStart=>exact⟨0,by omega,rfl,rfl,HB2w.out⟩
    case round=>
     clear HB2w c1
     obtain⟨k,hk,rfl,rfl,hb⟩:=hrel
     have HBr:=Qh hb
     clear hb
     by_cases hlt:k<8
     ·obtain⟨x,hx,_,_⟩:=Kc l (4+k) (by omega)
      have q2:(k:Int)<8:=by omega
      have c1:=cell_later HBr.out (HC.out (4+k) x hx)
      have HX:=Qh (show leNat ((l.drop 4).take (k+1))=leNat ((l.drop 4).take k)+x.toNat*256^k from leNat_take (by rw [List.getElem?_drop];exact hx))
      have hsl:=leNat_take_lt (l.drop 4) k
      obtain⟨s,hs⟩: ∃ s,s=leNat ((l.drop 4).take k):=⟨_,rfl⟩
      rw [←hs] at HX hsl ⊢
      have n1:=or8 x hsl hlt
      obtain⟨s2,hs2⟩: ∃ s2,s2=s+x.toNat*256^k:=⟨_,rfl⟩
      rw [←hs2] at HX n1
      have tx:x.toNat<256:=x.toNat_lt
      have n3:IntKind.u64.wrap (x.toNat:Int)=(x.toNat:Int):=by rw [IntKind.wrap_u64];omega
      have hidx:(4:Int)+(k:Int)<(l.length:Int):=by omega
      clear hs hs2 hsl hx
      go_wp2
      go_roundw
      case rel=>exact⟨k+1,by omega,by go_num,by rw [HX.out],HBr.out⟩
      case measure=>simp [intOf];omega
     ·obtain rfl:k=8:=by omega
      have c1:=cell_later HBr.out (HC.out 1 x1 HX1.out)
      obtain⟨s,hs⟩: ∃ s,s=leNat ((l.drop 4).take 8):=⟨_,rfl⟩
      rw [←hs]
      have HS:=Qh hs.symm
      have hs64:s<18446744073709551616:=by rw [hs];exact leNat_take_lt (l.drop 4) 8
      clear hs hlt
      rcases g1:((x1.toNat:Int)==0) with _ | _
      ·rcases g2:decide ((7:Int)<(x1.toNat:Int)) with _ | _
       ·rcases g3:decide ((16384:Int)<(nn:Int)) with _ | _
        ·rcases g4:decide ((1099511627776:Int)<(s:Int)) with _ | _
         ·have h1: ¬ x1.toNat=0:=by simp at g1;omega
          have h2:=ε g2
          have h3:=ε g3
          have h4:=ε g4
          have HE:=Qh (peek_good HNL.out HM.out HK.out (by rw [HB1.out,HB2.out,HB3.out,←HN.out,HS.out];omega))
          rw [HB1.out,HB2.out,HB3.out,←HN.out,HS.out] at HE
          have n5:IntKind.i64.wrap (s:Int)=(s:Int):=by rw [κ];omega
          have hnn:nn≤16384:=by omega
          clear h1 h2 h3 h4
          go_wp2_with fail
          refine(frameSize_any nn _ hnn).mono ?_
          rintro e w3 ⟨rfl,rfl⟩
          go_wp2
          refine π (v:= .tuple #[.int .i64 (x1.toNat:Int),.int .i64 (s:Int),.int .i64 ((nn+20:Nat):Int),.int .i64 0]) (by simp [results,Tryz.results97,go_sem]) rfl ⟨by rw [HE.out],HBr.out⟩
         ·have h4:=χ g4
          have HE:=Qh (Ky HNL.out HM.out HK.out (by rw [HB1.out,HB2.out,HB3.out,←HN.out,HS.out];omega))
          go_wp2
          refine π (v:= .tuple #[.int .i64 0,.int .i64 0,.int .i64 0,.int .i64 63]) (by simp [results,Tryz.results97,go_sem]) rfl ⟨by rw [HE.out];rfl,HBr.out⟩
        ·have h3:=χ g3
         have HE:=Qh (Ky HNL.out HM.out HK.out (by rw [HB1.out,HB2.out,HB3.out,←HN.out,HS.out];omega))
         go_wp2
         refine π (v:= .tuple #[.int .i64 0,.int .i64 0,.int .i64 0,.int .i64 63]) (by simp [results,Tryz.results97,go_sem]) rfl ⟨by rw [HE.out];rfl,HBr.out⟩
       ·have h2:=χ g2
        have HE:=Qh (Ky HNL.out HM.out HK.out (by rw [HB1.out,HB2.out,HB3.out,←HN.out,HS.out];omega))
        go_wp2
        refine π (v:= .tuple #[.int .i64 0,.int .i64 0,.int .i64 0,.int .i64 63]) (by simp [results,Tryz.results97,go_sem]) rfl ⟨by rw [HE.out];rfl,HBr.out⟩
      ·have h1:x1.toNat=0:=by simp at g1;omega
       have H1:=Qh h1
       clear h1
       have HE:=Qh (Ky HNL.out HM.out HK.out (by rw [HB1.out,HB2.out,HB3.out,←HN.out,HS.out];exact .inl H1.out))
       go_wp2
       refine π (v:= .tuple #[.int .i64 0,.int .i64 0,.int .i64 0,.int .i64 63]) (by simp [results,Tryz.results97,go_sem]) rfl ⟨by rw [HE.out];rfl,HBr.out⟩
  ·have HM:=Qh (show byteAt l 0≠165 by rw [HB0.out];simp at hm;omega)
   have HE:=Qh (peek_mark HNL.out HM.out)
   go_wp2
   refine π (v:= .tuple #[.int .i64 0,.int .i64 0,.int .i64 0,.int .i64 61]) (by simp [results,Tryz.results97,go_sem]) rfl ⟨by rw [HE.out];rfl,τ _ _⟩
 ·have HE:=Qh (peek_short (χ h16))
  have q1:(l.length:Int)<16:=by have:=χ h16;omega
  obtain⟨oa,cap,rfl,hlc,hc⟩:=hv
  clear hc h16 hn
  go_enter Tryz.func97,Tryz.ntmps97
  go_wp2
  refine π (v:= .tuple #[.int .i64 0,.int .i64 0,.int .i64 0,.int .i64 60]) (by simp [results,Tryz.results97,go_sem]) rfl ⟨by rw [HE.out];rfl,τ _ _⟩
section
variable {ops : Array Oper} {rest : List Oper} {o : Oper} {a : Act} {Q : Exit → Act → World → Prop}
theorem wpList_appDat {w:World} (hgd:o.guard=none) (s y:Operand) (ho:o.op= .call {callee:= .builtin .append,args:= #[s,y],argTypes:= #[39,39]}) {v x:Value} {l m:List UInt8}
  (hs:a.eval s=v) (hy:a.eval y=x) (h:Gk w v l) (hx:A2 w x m) (hl:l.length+m.length≤140737488355328)
  (hK: ∀ v' w',Gk w' v' (l++m)→w.grownBy w' (datBlk v)→(∀ g,datBlk v'=some g→datBlk v=some g∨g=w.heap.size)→v'.oneCell'=true→wpList Tryz.prog ops Q rest (a.put o.dst v') w'):wpList Tryz.prog ops Q (o::rest) a w:=by
 refine wpList_plain hgd fun K hKK=> ?_
 obtain⟨v',w',hr,h1,h2,h3,h4⟩:=append_dat h hx hl o.type
 unfold Oper.wp
 simp [execOp,ho,resolve,invoke,builtin,hs,hy,hr,Result.andThen]
 exact hKK _ _ (hK v' w' h1 h2 h3 h4)
end
theorem Ag.turned {A S:Nat→Prop} {w w':World} {v:Value} {l:List UInt8} (h:Ag A w v l) (ht:Turned S w w') (hS: ∀ k,A k→ ¬ S k):Ag A w' v l:=by
 obtain⟨oa,cap,h1,h2,h3⟩:=h
 exact⟨oa,cap,h1,h2,fun hn=>by obtain⟨b,off,e,ha,hc⟩:=h3 hn;exact⟨b,off,e,ha,fun i x hx=>ht.cell (hc i x hx) (hS b ha)⟩⟩
theorem Cn.putData {w2 w3:World} {s:Ad} {v:Value} {l:List UInt8} (hb:w2.heap[s.blk]? =some (.cells (Hr s) 109 (0,0))) (hd:Gk w2 v l) (hv:datBlk v≠some s.blk) (hw:w3=w2.setCell ⟨s.blk,0,none⟩ v):
  Cn w3 ⟨{s.fil with data:=l},s.blk,v⟩:=by
 subst hw
 refine⟨?_,hd.kept fun g hg=> ?_⟩
 ·have e:(Hr s).setIfInBounds 0 v=Hr ⟨{s.fil with data:=l},s.blk,v⟩:=rfl
  rw [←e]
  simp only [World.setCell]
  rw [Array.getElem?_modify]
  simp [hb]
 ·simp only [World.setCell]
  rw [Array.getElem?_modify,γ (fun e=>hv (by rw [hg,e]))]
theorem Iq (w:World) (f m:Nat) (d:Ab) (L:List Ad) (h:FsAt w f m d L) (hs:d.steps<4611686018427387904) (n b:List UInt8) (bv:Value) (hb:Ag (fun k=> ¬ foot f m L k) w bv b):
  Calls Tryz.prog 70 #[.pointer (some ⟨f,0,none⟩),.string ⟨n.toArray⟩,bv] w fun e w'=>e= .returned (.int .i64 (Aq d (opAppend n b)).2.2.2)∧FsPost w f m L (Aq d (opAppend n b)).1 w':=by
 have HO:=Qh (Hl w f m d L h n)
 have HH:=Qh h
 have HBR:=Qh hb
 obtain⟨ob,bcap,rfl,hbl,hbc⟩:=hb
 clear hbc
 by_cases he:Aj d n=0
 case neg=>
  have HE:=Qh (show Aq d (opAppend n b)=(d,[],0,Aj d n) by rw [Bp (by simp [opAppend]) (by rw [F8,ζ he];exact he),F8,ζ he])
  have t1:(Aj d n != 0)=true:=by simpa using he
  generalize Aj d n=e0 at*
  clear he h
  go_enter Tryz.func70,Tryz.ntmps70
  go_wp2_with (go_at_call 59;refine HO.out.mono ?_;rintro e w1 ⟨rfl,rfl⟩)
  go_ret
  rw [HE.out]
  exact⟨rfl,FsPost.same HH.out⟩
 obtain⟨s,hs1,ha,hv,hr,hsm,hsn⟩:=K5 h he
 have c1:w.cell? ⟨f,1,none⟩=some (.int .i64 d.room):=h.hd.c1
 have c2:w.cell? ⟨f,2,none⟩=some (.int .i64 (usedF d.files:Int)):=h.hd.c2
 have hrm:=h.ok.room
 have hus:=h.ok.used
 have hw:IntKind.i64.wrap (d.room - (usedF d.files:Int))=d.room - (usedF d.files:Int):=by rw [κ];omega
 by_cases hfull:d.room - (usedF d.files:Int)<(b.length:Int)
 case pos=>
  have HE:=Qh (show Aq d (opAppend n b)=(d,[],0,54) by
   have hb:Dw d (opAppend n b)=54:=by rw [F8,γ (by simpa using he),ζ (by simpa using hfull)]
   rw [Bp (by simp [opAppend]) (by rw [hb];decide),hb])
  have t2:decide (d.room - (usedF d.files:Int)<(b.length:Int))=true:=by simpa using hfull
  rw [he,hv] at HO
  clear he h hs1 ha hv hr hsm hsn hfull hrm hus
  go_enter Tryz.func70,Tryz.ntmps70
  go_wp2_with (go_at_call 59;refine HO.out.mono ?_;rintro e w1 ⟨rfl,rfl⟩)
  go_quiet (fail)
  go_wp2
  go_ret
  rw [HE.out]
  have:=HH.out.below (below_drewN' w nq)
  exact⟨rfl,L,this,Turned.below (below_drewN' _ _),fun _ h=> .inl h⟩
 have t2:decide (d.room - (usedF d.files:Int)<(b.length:Int))=false:=by simpa using hfull
 have hbar:Dw d (opAppend n b)=0:=by rw [F8,γ (by simpa using he),γ (by simpa using hfull)]
 have ha':atF (Ae d).files n=some s.fil:=by rw [Av];exact ha
 have hrise:Ff (Ae d).files:=by rw [Av];exact h.ok.rise
 have hchg:Ga (Ae d) (opAppend n b)={Ae d with files:=setF n (fun _=>⟨s.fil.name,s.fil.data++b,s.fil.safe⟩) (Ae d).files}:=by
  rw [chg_set (x:=s.fil) hrise ha' (by simp [opAppend]) (by simp [opAppend]) (by simp [opAppend])]
  rfl
 have HE:=Qh (show Aq d (opAppend n b)=({Ae d with files:=setF n (fun _=>⟨s.fil.name,s.fil.data++b,s.fil.safe⟩) (Ae d).files},[],0,if d.fuse=1 then 3 else 0) by
  rw [Fw (by simp [opAppend]) hbar,hchg]
  by_cases hf:d.fuse=1
  ·simp [hf,opAppend]
  ·simp [hf])
 have HSL:=Qh (show Cr L n=some s∧s.fil.name=n∧atF (Ae d).files n=some s.fil∧s∈L from⟨hs1,hsn,ha',hsm⟩)
 have hlen:=Eb (Bi ha).2
 have HN:=Qh (show s.fil.data.length+b.length≤67108864∧(usedF (Ae d).files:Int)+b.length≤d.room by rw [Av];omega)
 have hw2:IntKind.i64.wrap ((usedF (Ae d).files:Int)+(b.length:Int))=(usedF (Ae d).files:Int)+(b.length:Int):=by rw [Av,κ];omega
 rw [he,hv] at HO
 have HF0:=Qh (show ∀ x:Bool,decide (d.fuse=1)=x→decide ((Db d).fuse=1)=x from fun x hx=>hx)
 have HS:=Qh (fun k=>Ka (w.drewN k) f m (Db d) (h.hd.below (below_drewN' w k)) h.ok.fuse.1 h.ok.fuse.2 h.ok.steps hs)
 clear he h hs1 ha hv hr hsm hsn hfull hrm hus hbar ha' hrise hchg hlen
 go_enter Tryz.func70,Tryz.ntmps70
 go_wp2_with (go_at_call 59;refine HO.out.mono ?_;rintro e w1 ⟨rfl,rfl⟩)
 go_quiet (fail)
 go_wp2_with fail
 have HW1:=Qh (HH.out.below (below_drewN' w nq))
 refine(HS.out nq).mono ?_
 rintro e w1 ⟨rfl,hh,ht⟩
 have H1:=Qh (HW1.out.stepped hh ht)
 have HT:=Qh (show Turned (foot f m L) w w1 from(Turned.below (below_drewN' w nq)).trans ht fun k hk=> .inl (.inl hk))
 have HB1:=Qh (HBR.out.turned HT.out fun _ hk=>hk)
 have hsl:=H1.out.body.slot s HSL.out.2.2.2
 have hap:=H1.out.body.apart.2.1 s HSL.out.2.2.2
 have HSLT:=Qh hsl
 have HAP:=Qh hap
 have c0:=hsl.c0
 clear hh ht hsl hap HS HO c1 c2 HW1 hw
 obtain⟨sv,hsv⟩: ∃ sv,sv=s.sl:=⟨_,rfl⟩
 obtain⟨l0,hl0⟩: ∃ l0,l0=s.fil.data:=⟨_,rfl⟩
 have HDA:=Qh (show Gk w1 sv l0 by rw [hsv,hl0];exact HSLT.out.2)
 have hln:l0.length+b.length≤140737488355328:=by have:=HN.out.1;rw [hl0];omega
 rw [←hsv] at c0
 have HSV:=Qh hsv
 have HL0:=Qh hl0
 clear hsv hl0
 go_wp2_with (at_builtin;refine wpList_appDat rfl _ _ rfl rfl rfl HDA.out HB1.out.brow hln ?_)
 intro v2 w2 hd2 hg2 hb2 ho2
 have HD2:=Qh hd2
 have HG2:=Qh hg2
 have HBK:=Qh hb2
 have hblk:w2.heap[s.blk]? =some (.cells (Hr s) 109 (0,0)):=by
  rw [hg2.block s.blk HSLT.out.lt (by rw [HSV.out];exact fun e=>HAP.out.2.2.2.2 e.symm)]
  exact HSLT.out.1
 have k0:w2.cell? ⟨s.blk,0,none⟩=some s.sl:=by simp [World.cell?,hblk,Hr]
 have f0:w2.frozen? ⟨s.blk,0,none⟩=false:=by simp [World.frozen?,hblk]
 have HBL:=Qh hblk
 clear hd2 hg2 hb2 hblk c0
 go_wp2_with (with_reducible refine wpList_store_cellV rfl 39 (.tmp 41) (.tmp 39) rfl s.blk 0 v2 s.sl (by kernel_rfl) ho2 rfl rfl k0 f0 ?_)
 intro w3 hw3
 have HV2:=Qh (show datBlk v2≠some s.blk from fun e=>by
  rcases HBK.out s.blk e with h1 | h1
  ·rw [HSV.out] at h1;exact HAP.out.2.2.2.2 h1
  ·have:=HSLT.out.lt;omega)
 have HX:=Qh (Cn.putData HBL.out HD2.out HV2.out hw3.out)
 have HT3:=Qh (show Turned (fun k=>k=f∨k=s.blk∨datBlk s.sl=some k) w1 w3 by
  rw [hw3.out]
  exact(Turned.grown (S:=fun k=>k=f∨k=s.blk∨datBlk s.sl=some k) HG2.out fun k hk=> .inr (.inr (by rw [←HSV.out];exact hk))).trans (Turned.setCell (S:=fun k=>k=f∨k=s.blk∨datBlk s.sl=some k) _ ⟨s.blk,0,none⟩ _ (.inr (.inl rfl))) fun i h=> .inl h)
 have HH3:=Qh (show C6 w3 f m (Db (Ae d)) by
  rw [hw3.out]
  exact(H1.out.hd.kept (HG2.out.block f H1.out.hd.lt (by rw [HSV.out];exact fun e=>HAP.out.2.2.1 e.symm))).otherCell HAP.out.1.symm 0 v2)
 have c2:w3.cell? ⟨f,2,none⟩=some (.int .i64 (usedF (Ae d).files:Int)):=HH3.out.c2
 have f2:=HH3.out.free 2
 clear hw3 k0 f0 HBL HG2 HB1
 have HEND:=Qh (show FsPost w f m L (Aq d (opAppend n b)).1 (w3.setCell ⟨f,2,none⟩ (.int .i64 ((usedF (Ae d).files:Int)+(b.length:Int)))) by
  rw [HE.out]
  have hfd:datBlk v2≠some f:=fun e=>by
   rcases HBK.out f e with h1 | h1
   ·rw [HSV.out] at h1;exact HAP.out.2.2.1 h1
   ·have:=H1.out.hd.lt;omega
  have hu:=G9 (f':=⟨s.fil.name,s.fil.data++b,s.fil.safe⟩) H1.out.ok.rise HSL.out.2.2.1 HSL.out.2.1
  have hsf:=H1.out.ok.safe s.fil (Bi HSL.out.2.2.1).2
  refine FsPost.setFile (x:=⟨⟨s.fil.name,s.fil.data++b,s.fil.safe⟩,s.blk,v2⟩) H1.out HT.out HSL.out.1 HSL.out.2.1 rfl (HT3.out.trans (Turned.setCell (S:=fun k=>k=f) _ ⟨f,2,none⟩ _ rfl) fun i h=> .inl (.inl h)) ?_ (fun g hg=> ?_) ?_ rfl ?_
  ·have hX:=HX.out
   rw [HL0.out] at hX
   refine hX.kept ?_ fun g hg=> ?_
   ·simp only [World.setCell]
    rw [Array.getElem?_modify,γ (fun e=>HAP.out.1 e.symm)]
   ·simp only [World.setCell]
    rw [Array.getElem?_modify,γ (fun e=>hfd (by rw [e];exact hg))]
  ·rcases HBK.out g hg with h1 | h1
   ·exact .inl (by rw [←HSV.out];exact h1)
   ·exact .inr (by omega)
  ·have e:Db {Ae d with files:=setF n (fun _=>⟨s.fil.name,s.fil.data++b,s.fil.safe⟩) (Ae d).files}={Db (Ae d) with used:=(usedF (Ae d).files:Int)+(b.length:Int)}:=by
    unfold Db
    simp only [Hd.mk.injEq,true_and,and_true]
    simp only [η] at hu
    omega
   rw [e]
   exact HH3.out.set 2 _ rfl
  ·refine H1.out.ok.setFile HSL.out.2.2.1 HSL.out.2.1 ⟨hsf.1,?_⟩ ?_
   ·simp only [η];omega
   ·have:=HN.out.2
    simp only [η]
    rw [I1]
    omega)
 rcases hfz:decide (d.fuse=1) with _ | _
 ·have HF:=Qh (HF0.out _ hfz)
  have HER:=Qh (show (Aq d (opAppend n b)).2.2.2=0 by rw [HE.out];simp only;rw [γ (by simpa using hfz)])
  rw [show decide ((Db d).fuse=1)=false from HF.out]
  clear hfz HE HX HT3 HH3 HF0
  go_wp2
  go_ret
  exact⟨by rw [HER.out];rfl,HEND.out⟩
 ·have HF:=Qh (HF0.out _ hfz)
  have HER:=Qh (show (Aq d (opAppend n b)).2.2.2=3 by rw [HE.out];simp only;rw [ζ (by simpa using hfz)])
  rw [show decide ((Db d).fuse=1)=true from HF.out]
  clear hfz HE HX HT3 HH3 HF0
  go_wp2
  go_ret
  exact⟨by rw [HER.out];rfl,HEND.out⟩
theorem cut_any (w:World) (f m:Nat) (d:Ab) (L:List Ad) (h:FsAt w f m d L) (hs:d.steps<4611686018427387904) (n:List UInt8) (k:Int):
  Calls Tryz.prog 94 #[.pointer (some ⟨f,0,none⟩),.string ⟨n.toArray⟩,.int .i64 k] w fun e w'=>e= .returned (.int .i64 (Aq d (Ct n k)).2.2.2)∧FsPost w f m L (Aq d (Ct n k)).1 w':=by
 have HO:=Qh (Hl w f m d L h n)
 have HH:=Qh h
 by_cases he:Aj d n=0
 case neg=>
  have HE:=Qh (show Aq d (Ct n k)=(d,[],0,Aj d n) by rw [Bp (by simp [Ct]) (by rw [bar_cut,ζ he];exact he),bar_cut,ζ he])
  have t1:(Aj d n != 0)=true:=by simpa using he
  generalize Aj d n=e0 at*
  clear he h
  go_enter Tryz.func94,Tryz.ntmps94
  go_wp2_with (go_at_call 59;refine HO.out.mono ?_;rintro e w1 ⟨rfl,rfl⟩)
  go_ret
  rw [HE.out]
  exact⟨rfl,FsPost.same HH.out⟩
 obtain⟨s,hs1,ha,hv,hr,hsm,hsn⟩:=K5 h he
 have hbar:Dw d (Ct n k)=if decide (k<0) || decide ((s.fil.data.length:Int)<k) then 1 else 0:=by rw [bar_cut,γ (by simpa using he),ha]
 have hsl:=h.body.slot s hsm
 obtain⟨ao,cap,hsh,hlc,_⟩:=hsl.2.shape
 have c0:w.cell? ⟨s.blk,0,none⟩=some (.slice ao s.fil.data.length cap):=by rw [←hsh];exact hsl.c0
 rw [he,hv] at HO
 by_cases hbad:k<0∨(s.fil.data.length:Int)<k
 case pos=>
  have HE:=Qh (show Aq d (Ct n k)=(d,[],0,1) by
   have hb:Dw d (Ct n k)=1:=by rw [hbar,ζ (by simpa using hbad)]
   rw [Bp (by simp [Ct]) (by rw [hb];decide),hb])
  rcases h1:decide (k<0) with _ | _
  ·have h2:decide ((s.fil.data.length:Int)<k)=true:=by simp at h1 ⊢;omega
   clear he h hs1 ha hv hr hsm hsn hbar hsl hbad hsh
   go_enter Tryz.func94,Tryz.ntmps94
   go_wp2_with (go_at_call 59;refine HO.out.mono ?_;rintro e w1 ⟨rfl,rfl⟩)
   go_ret
   rw [HE.out]
   exact⟨rfl,FsPost.same HH.out⟩
  ·clear he h hs1 ha hv hr hsm hsn hbar hsl hbad hsh
   go_enter Tryz.func94,Tryz.ntmps94
   go_wp2_with (go_at_call 59;refine HO.out.mono ?_;rintro e w1 ⟨rfl,rfl⟩)
   go_ret
   rw [HE.out]
   exact⟨rfl,FsPost.same HH.out⟩
 have t1:decide (k<0)=false:=by simp;omega
 have t2:decide ((s.fil.data.length:Int)<k)=false:=by simp;omega
 obtain⟨q,rfl⟩:=Int.eq_ofNat_of_zero_le (show 0≤k by omega)
 have hq:q≤s.fil.data.length:=by omega
 have hb0:Dw d (Ct n q)=0:=by rw [hbar,t1,t2];rfl
 have HD:=Qh (Fw (d:=d) (o:=Ct n q) (by simp [Ct]) hb0)
 have HS:=Qh (Ka w f m (Db d) h.hd h.ok.fuse.1 h.ok.fuse.2 h.ok.steps hs)
 by_cases hf:d.fuse=1
 ·have HF:=Qh (Fv (ν hf))
  have HE:=Qh (show Aq d (Ct n q)=(Ae d,[],0,3) by rw [HD.out,ζ hf,γ (by simp [Ct]),ζ hf])
  have hq2: ¬ s.fil.data.length<q:=by omega
  clear h hs he hs1 ha hv hr hsm hsn hf HD hbar hbad hsl hsh hb0 hq
  go_enter Tryz.func94,Tryz.ntmps94
  go_wp2_with (first | (go_at_call 59;refine HO.out.mono ?_;rintro e w1 ⟨rfl,rfl⟩) | (go_at_call 84;refine HS.out.mono ?_;rw [HF.out];rintro e w1 ⟨rfl,hh,ht⟩))
  go_ret
  rw [HE.out]
  exact⟨rfl,FsPost.stepped HH.out hh ht⟩
 ·have HF:=Qh (Fv (ρ hf))
  have ha':atF (Ae d).files n=some s.fil:=by rw [Av];exact ha
  have HE:=Qh (show Aq d (Ct n q)=({Ae d with files:=setF n (fun _=>⟨s.fil.name,s.fil.data.take q,if (q:Int)<s.fil.safe then (q:Int) else s.fil.safe⟩) (Ae d).files},[],0,0) by
   rw [HD.out,γ hf,γ hf,chg_set (x:=s.fil) (by rw [Av];exact h.ok.rise) ha' (by simp [Ct]) (by simp [Ct]) (by simp [Ct])]
   rfl)
  have HSL:=Qh (show Cr L n=some s∧s.fil.name=n∧atF (Ae d).files n=some s.fil∧s∈L from⟨hs1,hsn,ha',hsm⟩)
  have hlen:=Eb (Bi ha).2
  have hus:=h.ok.used
  have hrm:=h.ok.room
  have HN:=Qh (show (s.fil.data.length:Int)≤usedF (Ae d).files∧(usedF (Ae d).files:Int)≤d.room∧d.room≤67108864 by rw [Av];omega)
  have hw1:IntKind.i64.wrap ((s.fil.data.length:Int) - (q:Int))=(s.fil.data.length:Int) - (q:Int):=by rw [κ];omega
  have hw2:IntKind.i64.wrap ((usedF (Ae d).files:Int) - ((s.fil.data.length:Int) - (q:Int)))=(usedF (Ae d).files:Int) - ((s.fil.data.length:Int) - (q:Int)):=by rw [Av,κ];omega
  have HQ:=Qh hq
  clear h hs he hs1 ha hv hr hsm hsn hf HD hbar hbad hsl hb0 ha' hlen hus hrm
  go_enter Tryz.func94,Tryz.ntmps94
  go_wp2_with (first | (go_at_call 59;refine HO.out.mono ?_;rintro e w1 ⟨rfl,rfl⟩))
  go_at_call 84
  refine HS.out.mono ?_
  rw [HF.out]
  rintro e w1 ⟨rfl,hh,ht⟩
  have H0:=Qh (HH.out.stepped hh ht)
  have H1:=Qh (show FsAt w1.drew f m (Ae d) L from H0.out.below (below_drewN' w1 1))
  have HT:=Qh (show Turned (foot f m L) w w1.drew from(ht.mono fun _ hk=> .inl hk).trans (Turned.below (below_drewN' w1 1)) fun _ h=> .inl h)
  have hsl:=H0.out.body.slot s HSL.out.2.2.2
  clear c0
  have c0:w1.cell? ⟨s.blk,0,none⟩=some (.slice ao s.fil.data.length cap):=by rw [←hsh];exact hsl.c0
  have c2:w1.cell? ⟨f,2,none⟩=some (.int .i64 (usedF (Ae d).files:Int)):=H0.out.hd.c2
  have f2:=H0.out.hd.free 2
  clear hh ht hsl HS HO
  go_wp2_with fail
  go_still_tail 14,(by kernel_rfl)
  refine wpList_store_cellV rfl 3 (.tmp 45) (.tmp 43) rfl f 2 (.int .i64 ((usedF (Ae d).files:Int) - ((s.fil.data.length:Int) - (q:Int)))) (.int .i64 (usedF (Ae d).files:Int)) (by kernel_rfl) rfl rfl rfl c2 f2 ?_
  intro w2 hw2'
  have HB2:=Qh (show C6 w2 f m {Db (Ae d) with used:=(usedF (Ae d).files:Int) - ((s.fil.data.length:Int) - (q:Int))}∧Dv w2 f m L∧Turned (fun k=>k=f) w1.drew w2 by
   rw [hw2'.out]
   exact⟨H1.out.hd.set 2 _ rfl,H1.out.body.setHd 2 _,Turned.setCell _ _ _ rfl⟩)
  have hsl2:=HB2.out.2.1.slot s HSL.out.2.2.2
  have HAP:=Qh (HB2.out.2.1.apart.2.1 s HSL.out.2.2.2)
  have k0:w2.cell? ⟨s.blk,0,none⟩=some (.slice ao s.fil.data.length cap):=by rw [←hsh];exact hsl2.c0
  have k1:=hsl2.c1
  have g0:=hsl2.free 0
  have g1:=hsl2.free 1
  have HS2:=Qh hsl2
  clear hw2' c0 c2 f2 hw1 hw2 hsl2 t1 t2 hq
  have q1:(q:Int)≤(s.fil.data.length:Int):=by have:=HQ.out;omega
  have q2:(s.fil.data.length:Int)≤(cap:Int):=by omega
  go_wp2
  go_ret
  rw [HE.out]
  obtain⟨ao',cap',hsh',hdc,hdb⟩:=datAt_cut HS2.out.2 q HQ.out
  have hao:ao'=ao:=by rw [hsh] at hsh';cases hsh';rfl
  subst hao
  have hmin:min s.fil.safe (q:Int)=if (q:Int)<s.fil.safe then (q:Int) else s.fil.safe:=by split<;>omega
  have hdn:datBlk (.slice ao' q q)≠some s.blk:=fun e=>HAP.out.2.2.2.2 (hdb _ e)
  have hdf: ∀ g,datBlk (.slice ao' q q)=some g→datBlk s.sl=some g:=hdb
  have hX:=Cn.putData HS2.out.1 hdc hdn rfl
  have hX2:=hX.putSafe (if (q:Int)<s.fil.safe then (q:Int) else s.fil.safe) hdn
  have hlq:(s.fil.data.take q).length=q:=by rw [Θ];have:=HQ.out;omega
  have hu:=G9 (f':=⟨s.fil.name,s.fil.data.take q,if (q:Int)<s.fil.safe then (q:Int) else s.fil.safe⟩) H1.out.ok.rise HSL.out.2.2.1 HSL.out.2.1
  have hsf:=H1.out.ok.safe s.fil (Bi HSL.out.2.2.1).2
  rw [hmin]
  refine⟨rfl,FsPost.setFile (x:=⟨⟨s.fil.name,s.fil.data.take q,if (q:Int)<s.fil.safe then (q:Int) else s.fil.safe⟩,s.blk,.slice ao' q q⟩) H1.out HT.out HSL.out.1 HSL.out.2.1 rfl ?_ hX2 (fun g hg=> .inl (hdb g hg)) ?_ rfl ?_⟩
  ·exact((HB2.out.2.2.mono (S':=fun k=>k=f∨k=s.blk∨datBlk s.sl=some k) fun _ hk=> .inl hk).trans (Turned.setCell (S:=fun k=>k=s.blk) _ ⟨s.blk,0,none⟩ _ rfl) fun i h=> .inl (.inr (.inl h))).trans (Turned.setCell (S:=fun k=>k=s.blk) _ ⟨s.blk,1,none⟩ _ rfl) fun i h=> .inl (.inr (.inl h))
  ·have e:Db {Ae d with files:=setF n (fun _=>⟨s.fil.name,s.fil.data.take q,if (q:Int)<s.fil.safe then (q:Int) else s.fil.safe⟩) (Ae d).files}={Db (Ae d) with used:=(usedF (Ae d).files:Int) - ((s.fil.data.length:Int) - (q:Int))}:=by
    unfold Db
    simp only [Hd.mk.injEq,true_and,and_true]
    simp only [hlq] at hu
    have:=HQ.out
    omega
   rw [e]
   exact(HB2.out.1.otherCell HAP.out.1.symm 0 _).otherCell HAP.out.1.symm 1 _
  ·refine H1.out.ok.setFile HSL.out.2.2.1 HSL.out.2.1 ?_ ?_
   ·simp only [hlq]
    split<;>omega
   ·have:=H1.out.ok.used
    have:=HQ.out
    simp only [hlq]
    omega
theorem Ag.low {A:Nat→Prop} {w:World} {v:Value} {l:List UInt8} (h:Ag A w v l):Ag (fun k=>A k∧k<w.heap.size) w v l:=by
 obtain⟨oa',cap',e1,e2,e3⟩:=h
 refine⟨oa',cap',e1,e2,fun hne=> ?_⟩
 obtain⟨b',off',e4,ha,hcell⟩:=e3 hne
 refine⟨b',off',e4,⟨ha,?_⟩,hcell⟩
 obtain⟨x,hx⟩:=List.exists_mem_of_ne_nil _ hne
 obtain⟨i,hi⟩:=List.getElem?_of_mem hx
 exact World.block_lt_of_cell? w _ (hcell i x hi)
theorem Ag.one {A:Nat→Prop} {w:World} {v:Value} {l:List UInt8} (h:Ag A w v l):v.oneCell'=true:=by obtain⟨_,_,e,_⟩:=h;rw [e];rfl
theorem Az {w0 w:World} {B g:Nat} (h:Below B w0 w) (hg:B≤g) (cs:Array Value):Below B w0 (w.setRow g cs):=
 ⟨h.os,h.tape,h.output,by simpa using h.size,fun k hk=>by rw [setRow_other _ _ _ _ (by omega)];exact h.block k hk⟩
section
variable {w W W' : World} {d d' : Ab} {fv fv' : Value} {o : Io} {bv kv : Value}
end
section
variable {A : Nat → Prop} {w W W' : World} {d : Ab} {fv : Value} {o : Io} {bv kv : Value} {g : Nat} {f f' : A7} {dv dv' : Value} {fs fs' : List A7} {v v' : Value}
end
section
open Go.RowKit Go.ChangeShapes Go.WideShapes
def Jw (P:Program) (t:TypeId) (n:Nat) {α:Type} (R:World→List Value→α→Prop):Prop:=
 ∀ {H:Type} (enc:TypeId×Value→H) (W:World) (fuel:Nat) (cs:List Value) (x:DataW H×List MemPlace),
  DataW.trod enc P W 0 (fun _=>true) true fuel t cs=some x→(x.1.weights P t).all (· ≤reachBytes)=true→cs.length=n∧ ∃ a,R W cs a
def RInt (k:IntKind) (_:World) (cs:List Value) (a:Int):Prop:=cs=[.int k a]∧(Lit.int k a).wf=true
def RStr (_:World) (cs:List Value) (l:List UInt8):Prop:=cs=[.string ⟨l.toArray⟩]∧l.length≤reachBytes
def Row {α:Type} (n bytes:Nat) (R:World→List Value→α→Prop) (w:World) (v:Value) (xs:List α):Prop:=
 ∃ oa cap,v= .slice oa xs.length cap∧xs.length≤cap∧cap≤maxLen∧cap*bytes≤reachBytes∧
  (xs≠ []→ ∃ b off,oa=some ⟨b,off,none⟩∧ ∀ (i:Nat) x,xs[i]? =some x→ ∃ cs,cs.length=n∧(∀ (j:Nat) u,cs[j]? =some u→w.cell? ⟨b,off+i*n+j,none⟩=some u)∧R w cs x)
def RRow {α:Type} (n bytes:Nat) (R:World→List Value→α→Prop) (w:World) (cs:List Value) (xs:List α):Prop:= ∃ v,cs=[v]∧Row n bytes R w v xs
theorem Cu {P:Program} {t:TypeId} {k:IntKind} (h:P.underlying t=some (.int k)):Jw P t 1 (RInt k):=by
 intro H enc W fuel cs x hx _
 obtain⟨n,rfl,rfl,hw⟩:=DataW.trod_int h hx
 exact⟨rfl,n,rfl,hw⟩
theorem opens_str {P:Program} {t:TypeId} (h:P.underlying t=some .string):Jw P t 1 RStr:=by
 intro H enc W fuel cs x hx hz
 obtain⟨s,rfl,rfl,_⟩:=DataW.trod_string h hx
 refine⟨rfl,s.data.toList,by simp,?_⟩
 simpa [DataW.weights] using hz
theorem cells?_spec {W:World} {base:Nat} {a:Addr} {n:Nat} {cs:List Value} (h:W.cells? base a n=some cs):cs.length=n∧ ∀ (j:Nat) u,cs[j]? =some u→W.cell? (a.add j)=some u:=by
 obtain⟨_,hl,hc⟩:=World.cells?_some h
 refine⟨hl,fun j u hj=> ?_⟩
 rw [←hj]
 exact hc j (by have:=getElem?_lt hj;omega)
theorem weightsAll_mem {H:Type} {P:Program} {e:TypeId}: ∀ {ds:List (DataW H)} {d:DataW H},d∈ds→ ∀ n∈d.weights P e,n∈DataW.weightsAll P e ds
 | d0::ds,d,hm,n,hn=>by
  simp only [DataW.weightsAll,List.mem_append]
  rcases Γ.1 hm with rfl | hm
  ·exact .inl hn
  ·exact .inr (weightsAll_mem hm n hn)
theorem opens_slice {P:Program} {t e:TypeId} {n bytes:Nat} {α:Type} {R:World→List Value→α→Prop} (ht:P.underlying t=some (.slice e)) (hc:P.cellsOf e=n) (hb:P.bytesOf e=bytes) (hn:0<n)
  (he:Jw P e n R):Jw P t 1 (RRow n bytes R):=by
 intro H enc W fuel cs x hx hz
 rcases DataW.trod_slice ht hx with⟨rfl,rfl⟩ | ⟨a,len,cap,elems,rest,m,_,rfl,rfl,_,hl,hm,hel,hat,hsp,_⟩
 ·exact⟨rfl,[],_,rfl,none,0,rfl,ξ _,by decide,by simp,fun h=>absurd rfl h⟩
 ·obtain⟨hrest,_⟩:=hsp rfl
  simp only [DataW.weights,ht,List.all_cons,List.all_append,Bool.and_eq_true,decide_eq_true_eq,List.length_map] at hz
  obtain⟨hz0,hz1,_⟩:=hz
  have key: ∀ i,i<len→ ∃ (a':α) (cs':List Value),cs'.length=n∧(∀ (j:Nat) u,cs'[j]? =some u→W.cell? ((a.add (i*n)).add j)=some u)∧R W cs' a':=by
   intro i hi
   have h1:=hat i hi
   rw [hc] at h1
   have hlt:i<elems.length:=by omega
   rw [Δ hlt] at h1
   obtain⟨cs',hcs',hx'⟩:=Option.bind_eq_some_iff.1 h1
   obtain⟨_,hs2⟩:=cells?_spec hcs'
   obtain⟨h3,a',h4⟩:=he enc W m cs' elems[i] hx' (by
    rw [List.all_eq_true]
    intro k hk
    exact List.all_eq_true.1 hz1 k (weightsAll_mem (List.mem_map.2 ⟨elems[i],List.getElem_mem hlt,rfl⟩) k hk))
   exact⟨a',cs',h3,hs2,h4⟩
  obtain⟨xs,hxl,hxs⟩: ∃ xs:List α,xs.length=len∧ ∀ (i:Nat) x,xs[i]? =some x→ ∃ cs':List Value,cs'.length=n∧(∀ (j:Nat) u,cs'[j]? =some u→W.cell? ((a.add (i*n)).add j)=some u)∧R W cs' x:=by
   have: ∀ k,k≤len→ ∃ xs:List α,xs.length=k∧ ∀ (i:Nat) x,xs[i]? =some x→ ∃ cs':List Value,cs'.length=n∧(∀ (j:Nat) u,cs'[j]? =some u→W.cell? ((a.add (i*n)).add j)=some u)∧R W cs' x:=by
    intro k
    induction k with
    | zero=>intro _;exact⟨[],rfl,by simp⟩
    | succ k ih=>
     intro hk
     obtain⟨xs,h1,h2⟩:=ih (by omega)
     obtain⟨x,cs',h3⟩:=key k (by omega)
     refine⟨xs++[x],by simp [h1],fun i y hy=> ?_⟩
     by_cases hi:i<xs.length
     ·rw [List.getElem?_append_left hi] at hy;exact h2 i y hy
     ·have hik:i=k:=by have:=getElem?_lt hy;simp at this;omega
      subst hik
      rw [List.getElem?_append_right (by omega),h1] at hy
      simp at hy
      subst hy
      exact⟨cs',h3⟩
   exact this len (ξ _)
  refine⟨rfl,xs,_,rfl,some a,cap,by rw [hxl],by omega,hm,by rw [←hb];rw [hel,hrest,show len+(cap - len)=cap by omega] at hz0;exact hz0,fun hne=> ?_⟩
  obtain⟨b,off,spot⟩:=a
  have hpos:0<xs.length:=Ψ.2 hne
  have hspot:spot=none:=by
   obtain⟨cs',h1,h2,_⟩:=hxs 0 _ (Δ hpos)
   have h3:=h2 0 _ (Δ (show 0<cs'.length by omega))
   have:=World.cell?_spot h3
   simpa [Addr.add] using this
  subst hspot
  refine⟨b,off,rfl,fun i x hi=> ?_⟩
  obtain⟨cs',h1,h2,h3⟩:=hxs i x hi
  refine⟨cs',h1,fun j u hj=> ?_,h3⟩
  have:=h2 j u hj
  rwa [Bc,Bc] at this
def OpensAll (P:Program) (off:Nat) (fs:List Field) {α:Type} (R:World→List Value→α→Prop):Prop:=
 ∀ {H:Type} (enc:TypeId×Value→H) (W:World) (fuel:Nat) (cs:List Value) (xs:List (DataW H×List MemPlace)),
  (∀ (i:Nat) (f:Field),fs[i]? =some f→DataW.trod enc P W 0 (fun _=>true) true fuel f.type ((cs.drop f.offset).take (P.cellsOf f.type))=xs[i]?)→xs.length=fs.length→
  (DataW.weightsEach P (fs.map (·.type)) (xs.map (·.1))).all (· ≤reachBytes)=true→ ∃ a,R W (cs.drop off) a
def RNil (_:World) (_:List Value) (_:Unit):Prop:=True
def Fu {α β:Type} (n:Nat) (R:World→List Value→α→Prop) (S:World→List Value→β→Prop) (w:World) (cs:List Value) (x:α×β):Prop:=R w (cs.take n) x.1∧S w (cs.drop n) x.2
theorem opens_nil {P:Program} {off:Nat}:OpensAll P off [] RNil:=fun _ _ _ _ _ _ _ _=>⟨(),trivial⟩
theorem Bb {P:Program} {off n:Nat} {f:Field} {fs:List Field} {α β:Type} {R:World→List Value→α→Prop} {S:World→List Value→β→Prop} (ho:f.offset=off) (hn:P.cellsOf f.type=n)
  (h:Jw P f.type n R) (hs:OpensAll P (off+n) fs S):OpensAll P off (f::fs) (Fu n R S):=by
 intro H enc W fuel cs xs hx hl hz
 cases xs with
 | nil=>simp at hl
 | cons x xs=>
  simp only [List.map_cons,DataW.weightsEach,List.all_append,Bool.and_eq_true] at hz
  have h0:=hx 0 f rfl
  rw [ho,hn] at h0
  obtain⟨_,a,ha⟩:=h enc W fuel _ x (by simpa using h0) hz.1
  obtain⟨b,hb⟩:=hs enc W fuel cs xs (fun i g hg=>by simpa using hx (i+1) g (by simpa using hg)) (by simpa using hl) hz.2
  exact⟨(a,b),ha,by rw [List.drop_drop];exact hb⟩
theorem Kx {P:Program} {t:TypeId} {n:Nat} {fs:Array Field} {α:Type} {R:World→List Value→α→Prop} (ht:P.underlying t=some (.struct fs)) (hc:P.cellsOf t=n) (h:OpensAll P 0 fs.toList R):
  Jw P t n R:=by
 intro H enc W fuel cs x hx hz
 obtain⟨xs,m,rfl,rfl,hl,hxl,hat⟩:=DataW.trod_struct ht hx
 simp only [DataW.weights,ht] at hz
 obtain⟨a,ha⟩:=h enc W m cs xs (fun i f hf=>hat i f (by simpa using hf)) (by simpa using hxl) hz
 exact⟨hl.trans hc,a,by simpa using ha⟩
end
section
open Go.RowKit Go.ChangeShapes Go.WideShapes
theorem open_struct_by {P:Program} {H:Type} {enc:TypeId×Value→H} {W:World} {base n:Nat} {t:TypeId} {fs:Array Field} {v:Value} {d:DataW H} {p:List MemPlace} {α:Type} {R:World→List Value→α→Prop}
  (ho:Jw P t n R) (ht:P.underlying t=some (.struct fs)) (hok:Value.okWide P W .any base t v) (h:DataW.Trod enc P W 0 (fun _=>true) true t v d p) (hz:(d.weights P t).all (· ≤reachBytes)=true):
  ∃ cs a,v= .agg cs∧cs.size=n∧R W cs.toList a:=by
 obtain⟨cs,rfl,_⟩:=okWide_struct ht hok
 obtain⟨fuel,hf⟩:=h
 obtain⟨h1,a,ha⟩:=ho enc W fuel _ _ hf hz
 exact⟨cs,a,rfl,by simpa [Value.cells] using h1,by simpa [Value.cells] using ha⟩
theorem open_slice_by {P:Program} {H:Type} {enc:TypeId×Value→H} {W:World} {base n bytes:Nat} {t e:TypeId} {v:Value} {d:DataW H} {p:List MemPlace} {α:Type} {R:World→List Value→α→Prop}
  (ho:Jw P t 1 (RRow n bytes R)) (ht:P.underlying t=some (.slice e)) (hok:Value.okWide P W .any base t v) (h:DataW.Trod enc P W 0 (fun _=>true) true t v d p) (hz:(d.weights P t).all (· ≤reachBytes)=true):
  ∃ xs,Row n bytes R W v xs:=by
 obtain⟨a,len,cap,rfl⟩:=okWide_slice ht hok
 obtain⟨fuel,hf⟩:=h
 obtain⟨_,xs,v',hv,hr⟩:=ho enc W fuel _ _ hf hz
 simp [Value.cells] at hv
 exact⟨xs,by rw [hv];exact hr⟩
end
section
structure Pl where
 fresh:Bool
 man:B3
 remove:List (List UInt8)
 cut:Int
 last:Int
def Aw:Ab→List Io→Ab×Int
 | d,[]=>(d,0)
 | d,o::r=>if (Aq d o).2.2.2=0 then Aw (Aq d o).1 r else ((Aq d o).1,(Aq d o).2.2.2)
theorem runD_append: ∀ (a b:List Io) (d:Ab),Aw d (a++b)=if (Aw d a).2=0 then Aw (Aw d a).1 b else Aw d a
 | [],b,d=>by simp [Aw]
 | o::a,b,d=>by
  rw [List.cons_append,Aw,Aw]
  by_cases h:(Aq d o).2.2.2=0
  ·rw [ζ h,ζ h,runD_append a b]
  ·rw [γ h,γ h]
   simp only [γ h]
def Fk:List UInt8:=[109,97,110,105,102,101,115,116]
def As:List UInt8:=[109,97,110,105,102,101,115,116,46,116,109,112]
def Cx (n:List UInt8) (g:Sg) (m:B3):List Io:=
 [opCreate n,opAppend n (E4 g.num g.first).1,opSync n,opCreate As,opAppend As (Bs m).1,opSync As,opRename As Fk]
def cutOps (n:List UInt8) (k:Int) (x:Option A7):List Io:=
 match x with
 | none=>[]
 | some f=>if k<(f.data.length:Int) then [Ct n k] else []
def G5 (p:Pl):List Io:=p.remove.map Ar
def lastSg (m:B3):Sg:=m.segs.getLast?.getD ⟨0,0,0,0⟩
def segN (m:B3):List UInt8:=Aa (lastSg m).num
def refOps (d:Ab) (p:Pl):List Io:=
 G5 p++if p.fresh then Cx (segN p.man) (lastSg p.man) p.man
  else opSize (segN p.man)::(cutOps (segN p.man) p.cut (if p.remove.any (fun x=>x==segN p.man) then none else atF d.files (segN p.man))++[opSync (segN p.man)])
def tailOps (d:Ab) (p:Pl):List Io:=
 if p.fresh then Cx (segN p.man) (lastSg p.man) p.man
  else opSize (segN p.man)::(cutOps (segN p.man) p.cut (atF d.files (segN p.man))++[opSync (segN p.man)])
def B1 (d:Ab) (p:Pl):Ab×Int:=
 if Bt p.man then Aw d (refOps d p) else (d,1)
theorem take_at {n:List UInt8} (fs:List A7):atF (takeF n fs) n=none:=by
 unfold atF takeF
 rw [List.find?_eq_none]
 intro x hx
 have:=(List.mem_filter.1 hx).2
 simpa using this
theorem doD_remove {d:Ab} {n:List UInt8} (h:(Aq d (Ar n)).2.2.2=0):(Aq d (Ar n)).1.files=takeF n d.files:=by
 by_cases hb:Dw d (Ar n)=0
 ·rw [Fw (by simp [Ar]) hb] at h ⊢
  by_cases hf:d.fuse=1
  ·simp only [ζ hf] at h;omega
  ·simp only [γ hf]
   rw [Kg] at hb
   obtain⟨_,_,x,ha⟩:=G4 hb
   unfold Ga
   rw [γ (by simp [Ar]),Av]
   show (match atF d.files n with | none=>Ae d | some f=>_).files=_
   rw [ha]
   simp [Ar]
 ·rw [Bp (by simp [Ar]) hb] at h
  exact absurd h hb
theorem rem_at (n:List UInt8): ∀ (l:List (List UInt8)) (d:Ab),(Aw d (l.map Ar)).2=0→atF (Aw d (l.map Ar)).1.files n=if l.any (fun x=>x==n) then none else atF d.files n
 | [],d,_=>by simp [Aw]
 | x::l,d,h=>by
  rw [List.map_cons,Aw] at h ⊢
  by_cases h0:(Aq d (Ar x)).2.2.2=0
  ·rw [ζ h0] at h ⊢
   rw [rem_at n l _ h,doD_remove h0,List.any_cons]
   by_cases hx:x=n
   ·subst hx
    rw [take_at]
    simp
   ·rw [show (x==n)=false by simpa using hx,at_take hx,Bool.false_or]
  ·rw [γ h0] at h
   exact absurd h h0
theorem size_refused {d:Ab} {n:List UInt8} (h:atF d.files n=none):(Aq d (opSize n)).2.2.2≠0:=by
 have he:Aj d n≠0:=fun e=>by
  obtain⟨_,_,x,hx⟩:=G4 e
  rw [h] at hx;cases hx
 rw [Bp (by simp [opSize]) (by rw [bar_size];exact he),bar_size]
 exact he
theorem refOps_run (d:Ab) (p:Pl):Aw d (refOps d p)=if (Aw d (G5 p)).2=0 then Aw (Aw d (G5 p)).1 (tailOps (Aw d (G5 p)).1 p) else Aw d (G5 p):=by
 unfold refOps tailOps
 rw [runD_append]
 by_cases h:(Aw d (G5 p)).2=0
 ·rw [ζ h,ζ h]
  rcases p.fresh
  ·simp only [Bool.false_eq_true,if_false]
   have ha:=rem_at (segN p.man) p.remove d h
   rcases hx:atF (Aw d (G5 p)).1.files (segN p.man) with _ | f
   ·have:=size_refused hx
    rw [Aw,γ this,Aw,γ this]
   ·rw [show (Aw d (p.remove.map Ar))=Aw d (G5 p) from rfl,hx] at ha
    rw [←ha]
  ·rfl
 ·rw [γ h,γ h]
theorem A3 (d:Ab) (o:Io):(Aq d o).1.steps≤d.steps+1∧d.steps≤(Aq d o).1.steps:=by
 have hc: ∀ x:Ab,(Ga x o).steps=x.steps:=fun x=>by
  unfold Ga
  split
  ·rfl
  ·split
   ·rfl
   ·split
    ·rfl
    ·split<;>rfl
 unfold Aq
 split
 ·exact⟨by simp;omega,by simp⟩
 ·split
  ·exact⟨by simp;omega,by simp⟩
  ·split
   ·exact⟨by simp;omega,by simp⟩
   ·split
    ·exact⟨by simp;omega,by simp⟩
    ·split
     ·exact⟨by simp;omega,by simp⟩
     ·split
      ·exact⟨by simp;omega,by simp⟩
      ·split
       ·split
        ·simp only [hc];exact⟨by omega,by omega⟩
        ·exact⟨by simp;omega,by simp⟩
       ·simp only [hc];exact⟨by omega,by omega⟩
open Go.RowKit Go.ChangeShapes Go.WideShapes
theorem u8_of {z:Int} (h:(Lit.int .u8 z).wf=true):((UInt8.ofNat z.toNat).toNat:Int)=z:=by
 have h':0≤z∧z≤255:=by simpa [Lit.wf,show IntKind.u8.min=0 from by decide,show IntKind.u8.max=255 from by decide] using h
 rw [UInt8.toNat_ofNat']
 omega
def plCs (p:Pl) (sv rv:Value):Array Value:= #[.bool p.fresh,.int .i64 p.man.gen,.int .i64 p.man.next,.int .i64 p.man.floor,.int .i64 p.man.snap,.int .i64 p.man.snapSeq,sv,rv,.int .i64 p.cut,.int .i64 p.last]
@[reducible] def plV (p : Pl) (sv rv : Value) : Value := .agg #[.bool p.fresh, .int .i64 p.man.gen, .int .i64 p.man.next, .int .i64 p.man.floor, .int .i64 p.man.snap, .int .i64 p.man.snapSeq, sv, rv, .int .i64 p.cut, .int .i64 p.last]
end
def Cf (m:B3):List Io:=[opCreate As,opAppend As (Bs m).1,opSync As,opRename As Fk]
def Dd (w:World) (f m:Nat) (L:List Ad) (r:Ab×Int) (e:Ending) (w':World):Prop:=e= .returned (.int .i64 r.2)∧FsPost w f m L r.1 w'
theorem NibTab.turned {S:Nat→Prop} {w w':World} (h:NibTab w) (ht:Turned S w w') (hS: ¬ S 1) (hg:1<w.heap.size):NibTab w':=by
 have hb:=ht.block 1 hg hS
 unfold NibTab Lib.TabIs World.var? at*
 simp only [show Tryz.prog.globalNamed "daybook/crc.nibbles" =some 1 by kernel_rfl,Option.bind_some,hb] at*
 exact h
theorem saveC1 (w:World) (f m:Nat) (d:Ab) (L:List Ad) (h:FsAt w f m d L) (hs:d.steps<4611686018427387904) (b:Nat) (hc:w.cell? ⟨b,0,none⟩=some (.pointer (some ⟨f,0,none⟩))):
  Calls Tryz.prog 167 #[.pointer (some ⟨b,0,none⟩)] w fun e w'=>e= .returned (.int .i64 (Aq d (opCreate As)).2.2.2)∧FsPost w f m L (Aq d (opCreate As)).1 w':=by
 have HC:=Qh (create_any w f m d L h hs As)
 clear h
 go_enter Tryz.func167,Tryz.ntmps167
 go_wp2_with fail
 refine HC.out.mono ?_
 rintro e w' ⟨rfl,hp⟩
 have HP:=Qh hp
 clear hp
 go_wp2
 go_ret
 exact⟨rfl,HP.out⟩
theorem saveC2 (w:World) (f m:Nat) (d:Ab) (L:List Ad) (h:FsAt w f m d L) (hs:d.steps<4611686018427387904) (b b':Nat) (hc:w.cell? ⟨b,0,none⟩=some (.pointer (some ⟨f,0,none⟩))) (bv:Value) (bs:List UInt8) (hb:Ag (fun k=> ¬ foot f m L k) w bv bs) (hc':w.cell? ⟨b',0,none⟩=some bv):
  Calls Tryz.prog 168 #[.pointer (some ⟨b,0,none⟩),.pointer (some ⟨b',0,none⟩)] w fun e w'=>e= .returned (.int .i64 (Aq d (opAppend As bs)).2.2.2)∧FsPost w f m L (Aq d (opAppend As bs)).1 w':=by
 have HC:=Qh (Iq w f m d L h hs As bs bv hb)
 clear h hb
 go_enter Tryz.func168,Tryz.ntmps168
 go_wp2_with fail
 refine HC.out.mono ?_
 rintro e w' ⟨rfl,hp⟩
 have HP:=Qh hp
 clear hp
 go_wp2
 go_ret
 exact⟨rfl,HP.out⟩
theorem saveC3 (w:World) (f m:Nat) (d:Ab) (L:List Ad) (h:FsAt w f m d L) (hs:d.steps<4611686018427387904) (b:Nat) (hc:w.cell? ⟨b,0,none⟩=some (.pointer (some ⟨f,0,none⟩))):
  Calls Tryz.prog 169 #[.pointer (some ⟨b,0,none⟩)] w fun e w'=>e= .returned (.int .i64 (Aq d (opSync As)).2.2.2)∧FsPost w f m L (Aq d (opSync As)).1 w':=by
 have HC:=Qh (Hq w f m d L h hs As)
 clear h
 go_enter Tryz.func169,Tryz.ntmps169
 go_wp2_with fail
 refine HC.out.mono ?_
 rintro e w' ⟨rfl,hp⟩
 have HP:=Qh hp
 clear hp
 go_wp2
 go_ret
 exact⟨rfl,HP.out⟩
theorem saveC4 (w:World) (f m:Nat) (d:Ab) (L:List Ad) (h:FsAt w f m d L) (hs:d.steps<4611686018427387904) (b:Nat) (hc:w.cell? ⟨b,0,none⟩=some (.pointer (some ⟨f,0,none⟩))):
  Calls Tryz.prog 170 #[.pointer (some ⟨b,0,none⟩)] w fun e w'=>e= .returned (.int .i64 (Aq d (opRename As Fk)).2.2.2)∧FsPost w f m L (Aq d (opRename As Fk)).1 w':=by
 have HC:=Qh (rename_any w f m d L h hs As Fk)
 clear h
 go_enter Tryz.func170,Tryz.ntmps170
 go_wp2_with fail
 refine HC.out.mono ?_
 rintro e w' ⟨rfl,hp⟩
 have HP:=Qh hp
 clear hp
 go_wp2
 go_ret
 exact⟨rfl,HP.out⟩
theorem FsPost.cell {w w':World} {f m:Nat} {L:List Ad} {d':Ab} (h:FsPost w f m L d' w') {p:Addr} {v:Value} (hc:w.cell? p=some v) (hn: ¬ foot f m L p.block):w'.cell? p=some v:=by
 obtain⟨L',_,ht,_⟩:=h
 exact ht.cell hc hn
theorem Be {d:Ab} {o:Io} {r:List Io} (h:(Aq d o).2.2.2≠0):Aw d (o::r)=((Aq d o).1,(Aq d o).2.2.2):=by rw [Aw,γ h]
theorem Ce {d:Ab} {o:Io} {r:List Io} (h:(Aq d o).2.2.2=0):Aw d (o::r)=Aw (Aq d o).1 r:=by rw [Aw,ζ h]
theorem save_any (w:World) (f m:Nat) (d:Ab) (L:List Ad) (h:FsAt w f m d L) (hs:d.steps+4<4611686018427387904) (mn:B3) (sv:Value) (hr:Jz w sv mn.segs) (hn:NibTab w) (hok:Bt mn=true):
  Calls Tryz.prog 136 #[.pointer (some ⟨f,0,none⟩),mnV mn sv] w (Dd w f m L (Aw d (Cf mn))):=by
 have HH:=Qh h
 have HST:=Qh hs
 obtain⟨oa,cap,rfl,hl1,hl2,hc⟩:=hr
 have HR:=Qh (show Jz w (.slice oa mn.segs.length cap) mn.segs from⟨oa,cap,rfl,hl1,hl2,hc⟩)
 have HB0:=Qh (Below.next (below_alloc w (.cells #[.pointer (some ⟨f,0,none⟩)] 31)) (below_alloc _ (.cells (mnCs mn (.slice oa mn.segs.length cap)) 69)))
 have hbx:(w.alloc (.cells #[.pointer (some ⟨f,0,none⟩)] 31)).cell? ⟨w.heap.size,0,none⟩=some (.pointer (some ⟨f,0,none⟩)):=by rw [World.cell?_alloc_new];rfl
 have HX0:=Qh (cell_later (below_alloc _ (.cells (mnCs mn (.slice oa mn.segs.length cap)) 69)) hbx)
 have HMB:=Qh (show Ah ((w.alloc (.cells #[.pointer (some ⟨f,0,none⟩)] 31)).alloc (.cells (mnCs mn (.slice oa mn.segs.length cap)) 69)) (w.heap.size+1) mn (.slice oa mn.segs.length cap) by
  have:=A4 (w.alloc (.cells #[.pointer (some ⟨f,0,none⟩)] 31)) mn (.slice oa mn.segs.length cap)
  rwa [show (w.alloc (.cells #[.pointer (some ⟨f,0,none⟩)] 31)).heap.size=w.heap.size+1 by simp] at this)
 simp only [mnCs] at HMB
 have HENC:=Qh (manEncode_any mn (.slice oa mn.segs.length cap) _ (HR.out.below HB0.out) (hn.below HB0.out))
 have HENE:=Qh (show (Bs mn).2=0 by rw [encMan_ok hok])
 have hmf: ∀ (fn:Fn) (first cap:Array Value) (w:World),(Instr.makeFunc fn first cap).run Tryz.prog w= .ok (.func fn first cap) w:=fun _ _ _ _=>rfl
 have hfw:=h.lt
 have HFW:=Qh hfw
 clear hc hn hok h hs hbx hfw
 obtain⟨er,her⟩: ∃ er,er=Bs mn:=⟨_,rfl⟩
 rw [←her] at HENC HENE
 have HER:=Qh her
 clear her
 go_enter Tryz.func136,Tryz.ntmps136
 go_wp2_with (with_reducible refine wpList_load_mn rfl (.tmp 3) rfl (w.heap.size+1) mn (.slice oa mn.segs.length cap) rfl HMB.out ?_)
 refine HENC.out.mono ?_
 rintro e w1 ⟨v1,rfl,ho1,hb1⟩
 rw [HENE.out]
 obtain⟨o1,cap1,rfl,_,_⟩:=Ac ho1
 have HO1:=Qh ho1
 have HB1:=Qh (Below.next HB0.out hb1)
 have HX1:=Qh (cell_later hb1 HX0.out)
 clear ho1 hb1 HENC HX0 HB0
 go_wp2
 have hb5:(w1.alloc (.cells #[.slice o1 er.1.length cap1] 39)).cell? ⟨w1.heap.size,0,none⟩=some (.slice o1 er.1.length cap1):=by rw [World.cell?_alloc_new];rfl
 have sz5:(w1.alloc (.cells #[.slice o1 er.1.length cap1] 39)).heap.size=w1.heap.size+1:=by simp
 have HBW:=Qh (Below.next (below_alloc w1 (.cells #[.slice o1 er.1.length cap1] 39)) (below_alloc _ (.cells #[.func (.func 167) #[] #[.pointer (some ⟨w.heap.size,0,none⟩)],.func (.func 168) #[] #[.pointer (some ⟨w.heap.size,0,none⟩),.pointer (some ⟨w1.heap.size,0,none⟩)],.func (.func 169) #[] #[.pointer (some ⟨w.heap.size,0,none⟩)],.func (.func 170) #[] #[.pointer (some ⟨w.heap.size,0,none⟩)]] 60)))
 have HC2:=Qh (cell_later HBW.out HX1.out)
 have HC5:=Qh (cell_later (below_alloc _ (.cells #[.func (.func 167) #[] #[.pointer (some ⟨w.heap.size,0,none⟩)],.func (.func 168) #[] #[.pointer (some ⟨w.heap.size,0,none⟩),.pointer (some ⟨w1.heap.size,0,none⟩)],.func (.func 169) #[] #[.pointer (some ⟨w.heap.size,0,none⟩)],.func (.func 170) #[] #[.pointer (some ⟨w.heap.size,0,none⟩)]] 60)) hb5)
 have HGC:=Qh (fun(j:Nat) (v:Value) (hj:(#[.func (.func 167) #[] #[.pointer (some ⟨w.heap.size,0,none⟩)],.func (.func 168) #[] #[.pointer (some ⟨w.heap.size,0,none⟩),.pointer (some ⟨w1.heap.size,0,none⟩)],.func (.func 169) #[] #[.pointer (some ⟨w.heap.size,0,none⟩)],.func (.func 170) #[] #[.pointer (some ⟨w.heap.size,0,none⟩)]]:Array Value)[j]? =some v)=>show ((w1.alloc (.cells #[.slice o1 er.1.length cap1] 39)).alloc (.cells #[.func (.func 167) #[] #[.pointer (some ⟨w.heap.size,0,none⟩)],.func (.func 168) #[] #[.pointer (some ⟨w.heap.size,0,none⟩),.pointer (some ⟨w1.heap.size,0,none⟩)],.func (.func 169) #[] #[.pointer (some ⟨w.heap.size,0,none⟩)],.func (.func 170) #[] #[.pointer (some ⟨w.heap.size,0,none⟩)]] 60)).cell? ⟨w1.heap.size+1,j,none⟩=some v by
  have:=World.cell?_alloc_new (w1.alloc (.cells #[.slice o1 er.1.length cap1] 39)) #[.func (.func 167) #[] #[.pointer (some ⟨w.heap.size,0,none⟩)],.func (.func 168) #[] #[.pointer (some ⟨w.heap.size,0,none⟩),.pointer (some ⟨w1.heap.size,0,none⟩)],.func (.func 169) #[] #[.pointer (some ⟨w.heap.size,0,none⟩)],.func (.func 170) #[] #[.pointer (some ⟨w.heap.size,0,none⟩)]] 60 j
  rw [sz5] at this
  rw [this];exact hj)
 have HBV:=Qh ((browIn_own (A:=fun k=>w.heap.size≤k) HO1.out (fun k hk=>by simp at hk;omega)).below HBW.out)
 have HBW0:=Qh (Below.next HB1.out HBW.out)
 have HLO:=Qh (show w.heap.size≤w1.heap.size from HB1.out.size)
 have HF4:=Qh (HH.out.below HBW0.out)
 have hmf':=Qh hmf
 clear hb5 sz5 hmf HO1 HB1 HX1 HBW
 have HNF:=Qh (fun k (hk:w.heap.size≤k)=>show ¬ foot f m L k from fun hf=>by have:=HFW.out k hf;omega)
 generalize ((w1.alloc (.cells #[.slice o1 er.1.length cap1] 39)).alloc (.cells #[.func (.func 167) #[] #[.pointer (some ⟨w.heap.size,0,none⟩)],.func (.func 168) #[] #[.pointer (some ⟨w.heap.size,0,none⟩),.pointer (some ⟨w1.heap.size,0,none⟩)],.func (.func 169) #[] #[.pointer (some ⟨w.heap.size,0,none⟩)],.func (.func 170) #[] #[.pointer (some ⟨w.heap.size,0,none⟩)]] 60))=W4 at*
 have HQ:=Qh (fun(d':Ab) (W:World) (hp:FsPost W4 f m L d' W)=>show FsPost w f m L d' W from hp.then (Turned.below HBW0.out) (fun _ h=> .inl h))
 have HCL:=Qh (fun(d':Ab) (W:World) (hp:FsPost W4 f m L d' W)=>show W.cell? ⟨w.heap.size,0,none⟩=some (.pointer (some ⟨f,0,none⟩))∧W.cell? ⟨w1.heap.size,0,none⟩=some (.slice o1 er.1.length cap1)∧ ∀ (j:Nat) (v:Value),(#[.func (.func 167) #[] #[.pointer (some ⟨w.heap.size,0,none⟩)],.func (.func 168) #[] #[.pointer (some ⟨w.heap.size,0,none⟩),.pointer (some ⟨w1.heap.size,0,none⟩)],.func (.func 169) #[] #[.pointer (some ⟨w.heap.size,0,none⟩)],.func (.func 170) #[] #[.pointer (some ⟨w.heap.size,0,none⟩)]]:Array Value)[j]? =some v→W.cell? ⟨w1.heap.size+1,j,none⟩=some v from
  ⟨hp.cell HC2.out (HNF.out _ (ξ _)),hp.cell HC5.out (HNF.out _ HLO.out),fun j v hj=>hp.cell (HGC.out j v hj) (HNF.out _ (μ HLO.out (Nat.le_succ _)))⟩)
 have HP0:=Qh (FsPost.same HF4.out)
 have HS0:=Qh (show d.steps≤d.steps+0 by omega)
 obtain⟨d0,hd0⟩: ∃ x,x=d:=⟨_,rfl⟩
 have HRUN:=Qh (show Aw d (Cf mn)=Aw d0 [opCreate As,opAppend As er.1,opSync As,opRename As Fk] by rw [hd0,HER.out];rfl)
 rw [←hd0] at HP0
 have HS:=Qh (show d0.steps<4611686018427387904 by rw [hd0];have:=HST.out;omega)
 have HST':=Qh (show d0.steps+4<4611686018427387904 by rw [hd0];exact HST.out)
 clear hd0 HST
 refine wp_loop_rounds 5 ?_
 rw [rounds_succ]
 have g0:=(HCL.out _ _ HP0.out).2.2 0 _ rfl
 obtain⟨L0,hfs0,ht0,hsub0⟩:=HP0.out
 have HCJ:=Qh (saveC1 _ f m _ L0 hfs0 HS.out w.heap.size (HCL.out _ _ HP0.out).1)
 have HTJ:=Qh ht0
 have HSJ:=Qh hsub0
 clear hfs0 ht0 hsub0
 go_wp2_with fail
 refine HCJ.out.mono ?_
 rintro e W5 ⟨rfl,hp⟩
 have HPn:=Qh (hp.then HTJ.out HSJ.out)
 clear hp HCJ g0
 by_cases he0:(Aq d0 (opCreate As)).2.2.2=0
 case neg=>
  have tn:((Aq d0 (opCreate As)).2.2.2 != 0)=true:=by simpa using he0
  have HE:=Qh (show Aw d (Cf mn)=((Aq d0 (opCreate As)).1,(Aq d0 (opCreate As)).2.2.2) by rw [HRUN.out,Be he0])
  have HF:=Qh (HQ.out _ _ HPn.out)
  clear he0
  generalize (Aq d0 (opCreate As)).2.2.2=ev at*
  go_wp2
  go_ret
  unfold Dd
  rw [HE.out]
  exact⟨rfl,HF.out⟩
 have HRUN:=Qh (show Aw d (Cf mn)=Aw (Aq d0 (opCreate As)).1 [opAppend As er.1,opSync As,opRename As Fk] by rw [HRUN.out,Ce he0])
 have HS:=Qh (show (Aq d0 (opCreate As)).1.steps<4611686018427387904 by have h1:=(A3 d0 (opCreate As)).1;have:=HST'.out;omega)
 rw [he0]
 clear he0
 have HSB:=Qh (show (Aq d0 (opCreate As)).1.steps≤4611686018427387900+0 by have h1:=(A3 d0 (opCreate As)).1;have:=HST'.out;omega)
 obtain⟨d1,hdn⟩: ∃ x,x=(Aq d0 (opCreate As)).1:=⟨_,rfl⟩
 rw [←hdn] at HPn HRUN HS HSB
 clear hdn HTJ HSJ
 have HP1:=HPn
 clear HPn
 go_wp2
 rw [rounds_succ]
 have g1:=(HCL.out _ _ HP1.out).2.2 1 _ rfl
 obtain⟨L1,hfs1,ht1,hsub1⟩:=HP1.out
 have HBVj:=Qh (show Ag (fun k=> ¬ foot f m L1 k) _ (.slice o1 er.1.length cap1) er.1 from(HBV.out.low.turned ht1 (fun k hk hf=>HNF.out k hk.1 hf)).mono (fun k hk hf=>by
  rcases hsub1 k hf with h1 | h1
  ·exact HNF.out k hk.1 h1
  ·have:=hk.2;omega))
 have HCJ:=Qh (saveC2 _ f m _ L1 hfs1 HS.out w.heap.size w1.heap.size (HCL.out _ _ HP1.out).1 _ _ HBVj.out (HCL.out _ _ HP1.out).2.1)
 have HTJ:=Qh ht1
 have HSJ:=Qh hsub1
 clear hfs1 ht1 hsub1
 go_wp2_with fail
 refine HCJ.out.mono ?_
 rintro e W6 ⟨rfl,hp⟩
 have HPn:=Qh (hp.then HTJ.out HSJ.out)
 clear hp HCJ g1
 by_cases he1:(Aq d1 (opAppend As er.1)).2.2.2=0
 case neg=>
  have tn:((Aq d1 (opAppend As er.1)).2.2.2 != 0)=true:=by simpa using he1
  have HE:=Qh (show Aw d (Cf mn)=((Aq d1 (opAppend As er.1)).1,(Aq d1 (opAppend As er.1)).2.2.2) by rw [HRUN.out,Be he1])
  have HF:=Qh (HQ.out _ _ HPn.out)
  clear he1
  generalize (Aq d1 (opAppend As er.1)).2.2.2=ev at*
  go_wp2
  go_ret
  unfold Dd
  rw [HE.out]
  exact⟨rfl,HF.out⟩
 have HRUN:=Qh (show Aw d (Cf mn)=Aw (Aq d1 (opAppend As er.1)).1 [opSync As,opRename As Fk] by rw [HRUN.out,Ce he1])
 have HS:=Qh (show (Aq d1 (opAppend As er.1)).1.steps<4611686018427387904 by have h1:=(A3 d1 (opAppend As er.1)).1;have:=HSB.out;omega)
 rw [he1]
 clear he1
 have HSB:=Qh (show (Aq d1 (opAppend As er.1)).1.steps≤4611686018427387900+1 by have h1:=(A3 d1 (opAppend As er.1)).1;have:=HSB.out;omega)
 obtain⟨d2,hdn⟩: ∃ x,x=(Aq d1 (opAppend As er.1)).1:=⟨_,rfl⟩
 rw [←hdn] at HPn HRUN HS HSB
 clear hdn HTJ HSJ
 have HP2:=HPn
 clear HPn
 go_wp2
 rw [rounds_succ]
 have g2:=(HCL.out _ _ HP2.out).2.2 2 _ rfl
 obtain⟨L2,hfs2,ht2,hsub2⟩:=HP2.out
 have HCJ:=Qh (saveC3 _ f m _ L2 hfs2 HS.out w.heap.size (HCL.out _ _ HP2.out).1)
 have HTJ:=Qh ht2
 have HSJ:=Qh hsub2
 clear hfs2 ht2 hsub2
 go_wp2_with fail
 refine HCJ.out.mono ?_
 rintro e W7 ⟨rfl,hp⟩
 have HPn:=Qh (hp.then HTJ.out HSJ.out)
 clear hp HCJ g2
 by_cases he2:(Aq d2 (opSync As)).2.2.2=0
 case neg=>
  have tn:((Aq d2 (opSync As)).2.2.2 != 0)=true:=by simpa using he2
  have HE:=Qh (show Aw d (Cf mn)=((Aq d2 (opSync As)).1,(Aq d2 (opSync As)).2.2.2) by rw [HRUN.out,Be he2])
  have HF:=Qh (HQ.out _ _ HPn.out)
  clear he2
  generalize (Aq d2 (opSync As)).2.2.2=ev at*
  go_wp2
  go_ret
  unfold Dd
  rw [HE.out]
  exact⟨rfl,HF.out⟩
 have HRUN:=Qh (show Aw d (Cf mn)=Aw (Aq d2 (opSync As)).1 [opRename As Fk] by rw [HRUN.out,Ce he2])
 have HS:=Qh (show (Aq d2 (opSync As)).1.steps<4611686018427387904 by have h1:=(A3 d2 (opSync As)).1;have:=HSB.out;omega)
 rw [he2]
 clear he2
 have HSB:=Qh (show (Aq d2 (opSync As)).1.steps≤4611686018427387900+2 by have h1:=(A3 d2 (opSync As)).1;have:=HSB.out;omega)
 obtain⟨d3,hdn⟩: ∃ x,x=(Aq d2 (opSync As)).1:=⟨_,rfl⟩
 rw [←hdn] at HPn HRUN HS HSB
 clear hdn HTJ HSJ
 have HP3:=HPn
 clear HPn
 go_wp2
 rw [rounds_succ]
 have g3:=(HCL.out _ _ HP3.out).2.2 3 _ rfl
 obtain⟨L3,hfs3,ht3,hsub3⟩:=HP3.out
 have HCJ:=Qh (saveC4 _ f m _ L3 hfs3 HS.out w.heap.size (HCL.out _ _ HP3.out).1)
 have HTJ:=Qh ht3
 have HSJ:=Qh hsub3
 clear hfs3 ht3 hsub3
 go_wp2_with fail
 refine HCJ.out.mono ?_
 rintro e W8 ⟨rfl,hp⟩
 have HPn:=Qh (hp.then HTJ.out HSJ.out)
 clear hp HCJ g3
 by_cases he3:(Aq d3 (opRename As Fk)).2.2.2=0
 case neg=>
  have tn:((Aq d3 (opRename As Fk)).2.2.2 != 0)=true:=by simpa using he3
  have HE:=Qh (show Aw d (Cf mn)=((Aq d3 (opRename As Fk)).1,(Aq d3 (opRename As Fk)).2.2.2) by rw [HRUN.out,Be he3])
  have HF:=Qh (HQ.out _ _ HPn.out)
  clear he3
  generalize (Aq d3 (opRename As Fk)).2.2.2=ev at*
  go_wp2
  go_ret
  unfold Dd
  rw [HE.out]
  exact⟨rfl,HF.out⟩
 have HRUN:=Qh (show Aw d (Cf mn)=Aw (Aq d3 (opRename As Fk)).1 [] by rw [HRUN.out,Ce he3])
 have HS:=Qh (show (Aq d3 (opRename As Fk)).1.steps<4611686018427387904 by have h1:=(A3 d3 (opRename As Fk)).1;have:=HSB.out;omega)
 rw [he3]
 clear he3
 have HSB:=Qh (show (Aq d3 (opRename As Fk)).1.steps≤4611686018427387900+3 by have h1:=(A3 d3 (opRename As Fk)).1;have:=HSB.out;omega)
 obtain⟨d4,hdn⟩: ∃ x,x=(Aq d3 (opRename As Fk)).1:=⟨_,rfl⟩
 rw [←hdn] at HPn HRUN HS HSB
 clear hdn HTJ HSJ
 have HP4:=HPn
 clear HPn
 go_wp2
 rw [rounds_succ]
 have HF:=Qh (HQ.out _ _ HP4.out)
 go_wp2
 go_ret
 unfold Dd
 rw [HRUN.out]
 exact⟨rfl,HF.out⟩
def SegB (w:World) (b:Nat):Prop:= ∃ cs fr,w.heap[b]? =some (.cells cs 72 fr)
theorem SegB.keep {w w':World} {b:Nat} (h:SegB w b) (hk:w'.heap[b]? =w.heap[b]?):SegB w' b:=by
 obtain⟨cs,fr,e⟩:=h
 exact⟨cs,fr,hk.trans e⟩
theorem SegB.lt {w:World} {b:Nat} (h:SegB w b):b<w.heap.size:=by
 obtain⟨cs,fr,e⟩:=h
 exact(δ.1 e).1
def Dl (A:Nat→Prop) (w:World) (v:Value) (l:List Sg):Prop:=
 ∃ oa cap,v= .slice oa l.length cap∧l.length≤cap∧cap≤9223372036854775807∧ ∀ (i:Nat) g,l[i]? =some g→ ∃ b off,oa=some ⟨b,off,none⟩∧(A b∧SegB w b)∧w.rangeAt b (off+i*4) (sgCs g).toList
theorem Dl.row {A:Nat→Prop} {w:World} {v:Value} {l:List Sg} (h:Dl A w v l):Jz w v l:=by
 obtain⟨oa,cap,h1,h2,h3,h4⟩:=h
 exact⟨oa,cap,h1,h2,h3,fun i g hg=>by obtain⟨b,off,e,_,hc⟩:=h4 i g hg;exact⟨b,off,e,hc⟩⟩
theorem Dl.turned {A S:Nat→Prop} {w w':World} {v:Value} {l:List Sg} (h:Dl A w v l) (ht:Turned S w w') (hS: ∀ k,A k→ ¬ S k):Dl A w' v l:=by
 obtain⟨oa,cap,h1,h2,h3,h4⟩:=h
 exact⟨oa,cap,h1,h2,h3,fun i g hg=>by obtain⟨b,off,e,⟨ha,hs⟩,hc⟩:=h4 i g hg;exact⟨b,off,e,⟨ha,hs.keep (ht.block b hs.lt (hS b ha))⟩,fun j u hj=>ht.cell (hc j u hj) (hS b ha)⟩⟩
theorem Dl.below {A:Nat→Prop} {w w':World} {v:Value} {l:List Sg} (h:Dl A w v l) (hb:Below w.heap.size w w'):Dl A w' v l:=by
 obtain⟨oa,cap,h1,h2,h3,h4⟩:=h
 exact⟨oa,cap,h1,h2,h3,fun i g hg=>by obtain⟨b,off,e,⟨ha,hs⟩,hc⟩:=h4 i g hg;exact⟨b,off,e,⟨ha,hs.keep (hb.block b hs.lt)⟩,Ax hc hb⟩⟩
theorem Dl.mono {A A':Nat→Prop} {w:World} {v:Value} {l:List Sg} (h:Dl A w v l) (hA: ∀ k,A k→A' k):Dl A' w v l:=by
 obtain⟨oa,cap,h1,h2,h3,h4⟩:=h
 exact⟨oa,cap,h1,h2,h3,fun i g hg=>by obtain⟨b,off,e,ha,hc⟩:=h4 i g hg;exact⟨b,off,e,⟨hA b ha.1,ha.2⟩,hc⟩⟩
theorem Dl.low {A:Nat→Prop} {w:World} {v:Value} {l:List Sg} (h:Dl A w v l):Dl (fun k=>A k∧k<w.heap.size) w v l:=by
 obtain⟨oa,cap,h1,h2,h3,h4⟩:=h
 exact⟨oa,cap,h1,h2,h3,fun i g hg=>by obtain⟨b,off,e,ha,hc⟩:=h4 i g hg;exact⟨b,off,e,⟨⟨ha.1,ha.2.lt⟩,ha.2⟩,hc⟩⟩
theorem FsPost.block {w w':World} {f m:Nat} {L:List Ad} {d':Ab} (h:FsPost w f m L d' w') {k:Nat} (hk:k<w.heap.size) (hn: ¬ foot f m L k):w'.heap[k]? =w.heap[k]? :=by
 obtain⟨L',_,ht,_⟩:=h
 exact ht.block k hk hn
theorem NibTab.lt {w:World} (h:NibTab w):1<w.heap.size:=World.block_lt_of_cell? w _ (h.at 0 (by decide))
theorem FsPost.nib {w w':World} {f m:Nat} {L:List Ad} {d':Ab} (h:FsPost w f m L d' w') (hn:NibTab w) (hg: ¬ foot f m L 1):NibTab w':=by
 obtain⟨L',_,ht,_⟩:=h
 exact hn.turned ht hg hn.lt
def Dk (w:World) (b:Nat) (g:Sg):Prop:=w.heap[b]? =some (.cells (sgCs g) 72 (0,0))
theorem Dk.range {w:World} {b:Nat} {g:Sg} (h:Dk w b g):w.rangeAt b 0 (sgCs g).toList:=fun j u hj=>by
 unfold Dk at h
 simp only [World.cell?,h,Nat.zero_add]
 simpa using hj
theorem Dk.c0 {w:World} {b:Nat} {g:Sg} (h:Dk w b g):w.cell? ⟨b,0,none⟩=some (.int .i64 g.num):=h.range 0 _ rfl
theorem begin_any (w:World) (f m:Nat) (d:Ab) (L:List Ad) (h:FsAt w f m d L) (hs:d.steps+8<4611686018427387904) (n:List UInt8) (g:Sg) (mn:B3) (sv:Value) (hr:Dl (fun k=> ¬ foot f m L k) w sv mn.segs) (hn:NibTab w) (hg: ¬ foot f m L 1) (hok:Bt mn=true):
  Calls Tryz.prog 93 #[.pointer (some ⟨f,0,none⟩),.string ⟨n.toArray⟩,sgV g,mnV mn sv] w (Dd w f m L (Aw d (Cx n g mn))):=by
 have HH:=Qh h
 have HST:=Qh hs
 have HOK:=Qh hok
 have HNG:=Qh hg
 have HRI:=Qh hr
 have HNB:=Qh hn
 have hfw:=h.lt
 have HFW:=Qh hfw
 obtain⟨oa,cap,rfl,hl1,hl2,hc⟩:=hr
 have HB0:=Qh (Below.next (below_alloc w (.cells (sgCs g) 72)) (below_alloc _ (.cells (mnCs mn (.slice oa mn.segs.length cap)) 69)))
 have HMB:=Qh (show Ah ((w.alloc (.cells (sgCs g) 72)).alloc (.cells (mnCs mn (.slice oa mn.segs.length cap)) 69)) (w.heap.size+1) mn (.slice oa mn.segs.length cap) by
  have:=A4 (w.alloc (.cells (sgCs g) 72)) mn (.slice oa mn.segs.length cap)
  rwa [show (w.alloc (.cells (sgCs g) 72)).heap.size=w.heap.size+1 by simp] at this)
 have HHD:=Qh (header_any g.num g.first _ (hn.below HB0.out))
 clear hc hn hok h hs hg hfw
 obtain⟨er,her⟩: ∃ er,er=E4 g.num g.first:=⟨_,rfl⟩
 rw [←her] at HHD
 have HER:=Qh her
 clear her
 go_enter Tryz.func93,Tryz.ntmps93
 go_wp2_with fail
 refine HHD.out.mono ?_
 rintro e w1 ⟨v1,rfl,ho1,hb1⟩
 obtain⟨o1,cap1,rfl,_,_⟩:=Ac ho1
 have HBW0:=Qh (Below.next HB0.out hb1)
 have HF4:=Qh (HH.out.below HBW0.out)
 have HM1:=Qh (HMB.out.below hb1)
 have HBV:=Qh (browIn_own (A:=fun k=>w.heap.size≤k) ho1 (fun k hk=>by simp at hk;omega))
 have HNB1:=Qh (HNB.out.below HBW0.out)
 have HRI1:=Qh (HRI.out.below HBW0.out)
 clear ho1 hb1 HB0 HMB HHD HNB HRI
 have HNF:=Qh (fun k (hk:w.heap.size≤k)=>show ¬ foot f m L k from fun hf=>by have:=HFW.out k hf;omega)
 have HQ:=Qh (fun(d':Ab) (W:World) (hp:FsPost w1 f m L d' W)=>show FsPost w f m L d' W from hp.then (Turned.below HBW0.out) (fun _ h=> .inl h))
 have HP0:=Qh (FsPost.same HF4.out)
 obtain⟨d0,hd0⟩: ∃ x,x=d:=⟨_,rfl⟩
 have HRUN:=Qh (show Aw d (Cx n g mn)=Aw d0 ([opCreate n,opAppend n er.1,opSync n]++Cf mn) by rw [hd0,HER.out];rfl)
 rw [←hd0] at HP0
 have HS:=Qh (show d0.steps<4611686018427387904 by rw [hd0];have:=HST.out;omega)
 have HSB:=Qh (show d0.steps≤4611686018427387895 by rw [hd0];have:=HST.out;omega)
 simp only [List.cons_append,List.nil_append] at HRUN
 clear hd0 HST
 obtain⟨L0,hfs0,ht0,hsub0⟩:=HP0.out
 have HCJ:=Qh (create_any _ f m _ L0 hfs0 HS.out n)
 have HTJ:=Qh ht0
 have HSJ:=Qh hsub0
 clear hfs0 ht0 hsub0
 go_wp2_with fail
 refine HCJ.out.mono ?_
 rintro e W5 ⟨rfl,hp⟩
 have HPn:=Qh (hp.then HTJ.out HSJ.out)
 clear hp HCJ
 by_cases he0:(Aq d0 (opCreate n)).2.2.2=0
 case neg=>
  have tn:((Aq d0 (opCreate n)).2.2.2 != 0)=true:=by simpa using he0
  have HE:=Qh (show Aw d (Cx n g mn)=((Aq d0 (opCreate n)).1,(Aq d0 (opCreate n)).2.2.2) by rw [HRUN.out,Be he0])
  have HF:=Qh (HQ.out _ _ HPn.out)
  clear he0
  generalize (Aq d0 (opCreate n)).2.2.2=ev at*
  go_wp2
  go_ret
  unfold Dd
  rw [HE.out]
  exact⟨rfl,HF.out⟩
 have HRUN:=Qh (show Aw d (Cx n g mn)=Aw (Aq d0 (opCreate n)).1 (opAppend n er.1::opSync n::Cf mn) by rw [HRUN.out,Ce he0])
 have HS:=Qh (show (Aq d0 (opCreate n)).1.steps<4611686018427387904 by have h1:=(A3 d0 (opCreate n)).1;have:=HSB.out;omega)
 have HSB:=Qh (show (Aq d0 (opCreate n)).1.steps≤4611686018427387895+1 by have h1:=(A3 d0 (opCreate n)).1;have:=HSB.out;omega)
 rw [he0]
 clear he0
 obtain⟨d1,hdn⟩: ∃ x,x=(Aq d0 (opCreate n)).1:=⟨_,rfl⟩
 rw [←hdn] at HPn HRUN HS HSB
 clear hdn HTJ HSJ
 have HP1:=HPn
 clear HPn
 obtain⟨L1,hfs1,ht1,hsub1⟩:=HP1.out
 have HBVj:=Qh (show Ag (fun k=> ¬ foot f m L1 k) _ (.slice o1 er.1.length cap1) er.1 from(HBV.out.low.turned ht1 (fun k hk hf=>HNF.out k hk.1 hf)).mono (fun k hk hf=>by
  rcases hsub1 k hf with h1 | h1
  ·exact HNF.out k hk.1 h1
  ·have:=hk.2;omega))
 have HCJ:=Qh (Iq _ f m _ L1 hfs1 HS.out n er.1 (.slice o1 er.1.length cap1) HBVj.out)
 have HTJ:=Qh ht1
 have HSJ:=Qh hsub1
 clear hfs1 ht1 hsub1
 go_wp2_with fail
 refine HCJ.out.mono ?_
 rintro e W6 ⟨rfl,hp⟩
 have HPn:=Qh (hp.then HTJ.out HSJ.out)
 clear hp HCJ
 by_cases he1:(Aq d1 (opAppend n er.1)).2.2.2=0
 case neg=>
  have tn:((Aq d1 (opAppend n er.1)).2.2.2 != 0)=true:=by simpa using he1
  have HE:=Qh (show Aw d (Cx n g mn)=((Aq d1 (opAppend n er.1)).1,(Aq d1 (opAppend n er.1)).2.2.2) by rw [HRUN.out,Be he1])
  have HF:=Qh (HQ.out _ _ HPn.out)
  clear he1
  generalize (Aq d1 (opAppend n er.1)).2.2.2=ev at*
  go_wp2
  go_ret
  unfold Dd
  rw [HE.out]
  exact⟨rfl,HF.out⟩
 have HRUN:=Qh (show Aw d (Cx n g mn)=Aw (Aq d1 (opAppend n er.1)).1 (opSync n::Cf mn) by rw [HRUN.out,Ce he1])
 have HS:=Qh (show (Aq d1 (opAppend n er.1)).1.steps<4611686018427387904 by have h1:=(A3 d1 (opAppend n er.1)).1;have:=HSB.out;omega)
 have HSB:=Qh (show (Aq d1 (opAppend n er.1)).1.steps≤4611686018427387895+2 by have h1:=(A3 d1 (opAppend n er.1)).1;have:=HSB.out;omega)
 rw [he1]
 clear he1
 obtain⟨d2,hdn⟩: ∃ x,x=(Aq d1 (opAppend n er.1)).1:=⟨_,rfl⟩
 rw [←hdn] at HPn HRUN HS HSB
 clear hdn HTJ HSJ
 have HP2:=HPn
 clear HPn
 obtain⟨L2,hfs2,ht2,hsub2⟩:=HP2.out
 have HCJ:=Qh (Hq _ f m _ L2 hfs2 HS.out n)
 have HTJ:=Qh ht2
 have HSJ:=Qh hsub2
 clear hfs2 ht2 hsub2
 go_wp2_with fail
 refine HCJ.out.mono ?_
 rintro e W7 ⟨rfl,hp⟩
 have HPn:=Qh (hp.then HTJ.out HSJ.out)
 clear hp HCJ
 by_cases he2:(Aq d2 (opSync n)).2.2.2=0
 case neg=>
  have tn:((Aq d2 (opSync n)).2.2.2 != 0)=true:=by simpa using he2
  have HE:=Qh (show Aw d (Cx n g mn)=((Aq d2 (opSync n)).1,(Aq d2 (opSync n)).2.2.2) by rw [HRUN.out,Be he2])
  have HF:=Qh (HQ.out _ _ HPn.out)
  clear he2
  generalize (Aq d2 (opSync n)).2.2.2=ev at*
  go_wp2
  go_ret
  unfold Dd
  rw [HE.out]
  exact⟨rfl,HF.out⟩
 have HRUN:=Qh (show Aw d (Cx n g mn)=Aw (Aq d2 (opSync n)).1 (Cf mn) by rw [HRUN.out,Ce he2])
 have HS:=Qh (show (Aq d2 (opSync n)).1.steps<4611686018427387904 by have h1:=(A3 d2 (opSync n)).1;have:=HSB.out;omega)
 have HSB:=Qh (show (Aq d2 (opSync n)).1.steps≤4611686018427387895+3 by have h1:=(A3 d2 (opSync n)).1;have:=HSB.out;omega)
 rw [he2]
 clear he2
 obtain⟨d3,hdn⟩: ∃ x,x=(Aq d2 (opSync n)).1:=⟨_,rfl⟩
 rw [←hdn] at HPn HRUN HS HSB
 clear hdn HTJ HSJ
 have HP3:=HPn
 clear HPn
 have HM3:=Qh (show Ah W7 (w.heap.size+1) mn (.slice oa mn.segs.length cap) by
  unfold Ah
  rw [HP3.out.block HM1.out.lt (HNF.out _ (Nat.le_succ _))]
  exact HM1.out)
 obtain⟨L3,hfs3,ht3,hsub3⟩:=HP3.out
 have HSV:=Qh (save_any _ f m _ L3 hfs3 (by have:=HSB.out;omega) mn (.slice oa mn.segs.length cap) (HRI1.out.turned ht3 (fun k hk hf=>hk hf)).row (HP3.out.nib HNB1.out HNG.out) HOK.out)
 have HTJ:=Qh ht3
 have HSJ:=Qh hsub3
 clear hfs3 ht3 hsub3
 go_wp2_with (with_reducible refine wpList_load_mn rfl (.tmp 7) rfl (w.heap.size+1) mn (.slice oa mn.segs.length cap) rfl HM3.out ?_)
 refine HSV.out.mono ?_
 rintro e W9 ⟨rfl,hp⟩
 have HF:=Qh (HQ.out _ _ (hp.then HTJ.out HSJ.out))
 clear hp
 rw [←HRUN.out]
 rw [←HRUN.out] at HF
 generalize Aw d (Cx n g mn)=rr at*
 go_wp2
 go_ret
 exact⟨rfl,HF.out⟩
def StIn (A:Nat→Prop) (w:World) (v:Value) (l:List (List UInt8)):Prop:=
 ∃ oa cap,v= .slice oa l.length cap∧l.length≤cap∧cap≤9223372036854775807∧ ∀ (i:Nat) x,l[i]? =some x→ ∃ b off,oa=some ⟨b,off,none⟩∧A b∧w.cell? ⟨b,off+i,none⟩=some (.string ⟨x.toArray⟩)
theorem StIn.below {A:Nat→Prop} {w w':World} {v:Value} {l:List (List UInt8)} (h:StIn A w v l) (hb:Below w.heap.size w w'):StIn A w' v l:=by
 obtain⟨oa,cap,h1,h2,h3,h4⟩:=h
 exact⟨oa,cap,h1,h2,h3,fun i g hg=>by obtain⟨b,off,e,ha,hc⟩:=h4 i g hg;exact⟨b,off,e,ha,cell_later hb hc⟩⟩
theorem StIn.mono {A A':Nat→Prop} {w:World} {v:Value} {l:List (List UInt8)} (h:StIn A w v l) (hA: ∀ k,A k→A' k):StIn A' w v l:=by
 obtain⟨oa,cap,h1,h2,h3,h4⟩:=h
 exact⟨oa,cap,h1,h2,h3,fun i g hg=>by obtain⟨b,off,e,ha,hc⟩:=h4 i g hg;exact⟨b,off,e,hA b ha,hc⟩⟩
def A5 (w:World) (b:Nat) (p:Pl) (sv rv:Value):Prop:=w.heap[b]? =some (.cells (plCs p sv rv) 75 (0,0))
theorem A5.lt {w:World} {b:Nat} {p:Pl} {sv rv:Value} (h:A5 w b p sv rv):b<w.heap.size:=(δ.1 h).1
theorem A5.cell {w:World} {b:Nat} {p:Pl} {sv rv:Value} (h:A5 w b p sv rv) (j:Nat):w.cell? ⟨b,j,none⟩=(plCs p sv rv)[j]? :=by unfold A5 at h;simp [World.cell?,h]
theorem A5.kept {w w':World} {b:Nat} {p:Pl} {sv rv:Value} (h:A5 w b p sv rv) (hk:w'.heap[b]? =w.heap[b]?):A5 w' b p sv rv:=by unfold A5 at *;rw [hk];exact h
theorem A5.below {w w':World} {b:Nat} {p:Pl} {sv rv:Value} (h:A5 w b p sv rv) (hb:Below w.heap.size w w'):A5 w' b p sv rv:=h.kept (hb.block b h.lt)
theorem A5.c0 {w:World} {b:Nat} {p:Pl} {sv rv:Value} (h:A5 w b p sv rv):w.cell? ⟨b,0,none⟩=some (.bool p.fresh):=h.cell 0
theorem A5.c6 {w:World} {b:Nat} {p:Pl} {sv rv:Value} (h:A5 w b p sv rv):w.cell? ⟨b,6,none⟩=some sv:=h.cell 6
theorem A5.c7 {w:World} {b:Nat} {p:Pl} {sv rv:Value} (h:A5 w b p sv rv):w.cell? ⟨b,7,none⟩=some rv:=h.cell 7
theorem A5.c8 {w:World} {b:Nat} {p:Pl} {sv rv:Value} (h:A5 w b p sv rv):w.cell? ⟨b,8,none⟩=some (.int .i64 p.cut):=h.cell 8
theorem A5.man {w:World} {b:Nat} {p:Pl} {sv rv:Value} (h:A5 w b p sv rv):w.rangeAt b 1 (mnCs p.man sv).toList:=fun j u hj=>by
 rw [show (⟨b,1+j,none⟩:Addr)=⟨b,j+1,none⟩ by rw [Nat.add_comm],h.cell]
 have hl:j<6:=by have:=(List.getElem?_eq_some_iff.1 hj).1;simpa [mnCs] using this
 rcases (show j=0∨j=1∨j=2∨j=3∨j=4∨j=5 by omega) with rfl | rfl | rfl | rfl | rfl | rfl<;>simpa [mnCs,plCs] using hj
theorem E7 (w:World) (p:Pl) (sv rv:Value):A5 (w.alloc (.cells (plCs p sv rv) 75)) w.heap.size p sv rv:=σ w _
theorem wpList_load_mnAt {ops:Array Oper} {rest:List Oper} {o:Oper} {a:Act} {w:World} {Q:Exit→Act→World→Prop} (hgd:o.guard=none) (x:Operand) (ho:o.op= .load 69 x)
  (b off:Nat) (m:B3) (sv:Value) (hx:a.eval x= .pointer (some ⟨b,off,none⟩)) (hE:w.rangeAt b off (mnCs m sv).toList)
  (h:wpList Tryz.prog ops Q rest (a.put o.dst (mnV m sv)) w):wpList Tryz.prog ops Q (o::rest) a w:=
 wpList_load_mid hgd 69 x ho b off hx (mnCs m sv).toList _ hE Tryz.underlying69 rfl mnInfo h
theorem FsPost.after {w w' w'':World} {f m:Nat} {L:List Ad} {d':Ab} (h:FsPost w f m L d' w') (hb:Below w'.heap.size w' w''):FsPost w f m L d' w'':=by
 obtain⟨L',h1,h2,h3⟩:=h
 exact⟨L',h1.below hb,h2.trans (Turned.below hb) (fun _ h=> .inl h),h3⟩
theorem runD_one (d:Ab) (o:Io):Aw d [o]=((Aq d o).1,(Aq d o).2.2.2):=by
 by_cases h:(Aq d o).2.2.2=0
 ·rw [Ce h,Aw,h]
 ·rw [Be h]
theorem drop_map_cons {l:List (List UInt8)} {k:Nat} {x:List UInt8} (h:l[k]? =some x):(l.drop k).map Ar=Ar x::(l.drop (k+1)).map Ar:=by
 rw [dropF_cons h,List.map_cons]
theorem recApply_good (w:World) (f m:Nat) (d:Ab) (L:List Ad) (h:FsAt w f m d L) (p:Pl) (sv rv:Value) (hs:Dl (fun k=> ¬ foot f m L k) w sv p.man.segs) (hr:StIn (fun k=> ¬ foot f m L k) w rv p.remove)
  (hn:NibTab w) (hg: ¬ foot f m L 1) (hst:d.steps+p.remove.length+16<4611686018427387904) (hok:Bt p.man=true):
  Calls Tryz.prog 58 #[.pointer (some ⟨f,0,none⟩),plV p sv rv] w (Dd w f m L (B1 d p)):=by
 have HH:=Qh h
 have HST:=Qh hst
 have HOK:=Qh hok
 have HNG:=Qh hg
 have HNB:=Qh hn
 have HFW:=Qh h.lt
 have HSI:=Qh hs
 obtain⟨ob,bcap,rfl,hl1,hl2,hcs⟩:=hs
 obtain⟨oa,cap,rfl,hl3,hl4,hcr⟩:=hr
 have HCR:=Qh hcr
 have HAP:=Qh (show B1 d p=Aw d (refOps d p) by unfold B1;rw [hok];rfl)
 have HV:=Qh (Kv p.man (.slice ob p.man.segs.length bcap) _ (HSI.out.row.below (below_alloc w (.cells (plCs p (.slice ob p.man.segs.length bcap) (.slice oa p.remove.length cap)) 75))))
 rw [hok] at HV
 have HB0:=Qh (below_alloc w (.cells (plCs p (.slice ob p.man.segs.length bcap) (.slice oa p.remove.length cap)) 75))
 have HPB:=Qh (E7 w p (.slice ob p.man.segs.length bcap) (.slice oa p.remove.length cap))
 have hlast: ∃ (j:Nat) (g:Sg),p.man.segs.length=j+1∧p.man.segs[j]? =some g∧lastSg p.man=g:=by
  obtain⟨g,h1,_,_,_,_⟩:=Is _ _ _ _ (B7 hok).chain
  rcases hx:p.man.segs.length with _ | j
  ·rw [List.length_eq_zero_iff.1 hx] at h1;cases h1
  ·refine⟨j,g,rfl,?_,?_⟩
   ·rw [List.getLast?_eq_getElem?,hx] at h1;simpa using h1
   ·unfold lastSg;rw [h1];rfl
 clear h hst hok hg hn hcs hcr
 go_enter Tryz.func58,Tryz.ntmps58
 go_wp2_with fail
 go_at_call 91
 refine HV.out.mono ?_
 rintro e w1 ⟨rfl,hb1⟩
 have HBW:=Qh (Below.next HB0.out hb1)
 have HP1:=Qh (HPB.out.below hb1)
 have HF1:=Qh (HH.out.below HBW.out)
 have HSI1:=Qh (HSI.out.below HBW.out)
 have HNB1:=Qh (HNB.out.below HBW.out)
 have HNF:=Qh (fun k (hk:w.heap.size≤k)=>show ¬ foot f m L k from fun hf=>by have:=HFW.out k hf;omega)
 have HQ:=Qh (fun(d':Ab) (W:World) (hp:FsPost w1 f m L d' W)=>show FsPost w f m L d' W from hp.then (Turned.below HBW.out) (fun _ h=> .inl h))
 have r7:=HP1.out.c7
 clear hb1 HV HB0 HPB HSI HNB
 go_wp2
 go_loopw [6,7,24] (fun _ _ iv wr=> ∃ (k:Nat) (dk:Ab),k≤p.remove.length∧iv= .int .i64 k∧Hid (FsPost w1 f m L dk wr)∧Hid (Aw d (G5 p)=Aw dk ((p.remove.drop k).map Ar))∧Hid (dk.steps≤d.steps+k)) (fun _ _ iv _=>p.remove.length - (intOf iv).toNat)
 case atStart=>exact⟨0,d,θ _,rfl,Qh (FsPost.same HF1.out),Qh rfl,Qh (by omega)⟩
 case round=>
  clear r7
  obtain⟨k,dk,hk,rfl,HP,HRM,HSK⟩:=hrel
  by_cases hlt:k<p.remove.length
  ·obtain⟨x,hx,_,_⟩:=Kc p.remove k hlt
   have q1:(k:Int)<(p.remove.length:Int):=by omega
   obtain⟨b,off,rfl,hnb,hcx⟩:=HCR.out k x hx
   have cn:wr.cell? ⟨b,off+k,none⟩=some (.string ⟨x.toArray⟩):=HP.out.cell (cell_later HBW.out hcx) hnb
   obtain⟨Lk,hfk,htk,hsk⟩:=HP.out
   have HRV:=Qh (remove_any wr f m dk Lk hfk (by have:=HSK.out;have:=HST.out;omega) x)
   have HTJ:=Qh htk
   have HSJ:=Qh hsk
   have HDC:=Qh (drop_map_cons hx)
   clear hx hnb hcx hfk htk hsk
   go_wp2_with fail
   refine HRV.out.mono ?_
   rintro e w3 ⟨rfl,hp⟩
   have HPn:=Qh (hp.then HTJ.out HSJ.out)
   clear hp HRV HTJ HSJ cn
   by_cases he:(Aq dk (Ar x)).2.2.2=0
   ·have HRM:=Qh (show Aw d (G5 p)=Aw (Aq dk (Ar x)).1 ((p.remove.drop (k+1)).map Ar) by rw [HRM.out,HDC.out,Ce he])
    have HSK:=Qh (show (Aq dk (Ar x)).1.steps≤d.steps+(k+1:Nat) by have:=(A3 dk (Ar x)).1;have:=HSK.out;omega)
    rw [he]
    clear he
    go_wp2
    go_roundw
    case rel=>exact⟨k+1,_,by omega,by go_num,HPn,HRM,HSK⟩
    case measure=>simp [intOf];omega
   ·have tn:((Aq dk (Ar x)).2.2.2 != 0)=true:=by simpa using he
    have HE:=Qh (show B1 d p=((Aq dk (Ar x)).1,(Aq dk (Ar x)).2.2.2) by
     have h1:Aw d (G5 p)=((Aq dk (Ar x)).1,(Aq dk (Ar x)).2.2.2):=by rw [HRM.out,HDC.out,Be he]
     rw [HAP.out,refOps_run,γ (by rw [h1];exact he),h1])
    have HF:=Qh (HQ.out _ _ HPn.out)
    clear he
    generalize (Aq dk (Ar x)).2.2.2=ev at*
    go_wp2
    go_ret
    unfold Dd
    rw [HE.out]
    exact⟨rfl,HF.out⟩
  ·obtain rfl:k=p.remove.length:=by omega
   have HRUN0:=Qh (show B1 d p=Aw dk (tailOps dk p) by
    have h1:Aw d (G5 p)=(dk,0):=by rw [HRM.out,List.drop_of_length_le (ξ _)];rfl
    rw [HAP.out,refOps_run,h1];rfl)
   have HSD:=Qh (show dk.steps+16<4611686018427387904 by have:=HSK.out;have:=HST.out;omega)
   clear HRM HSK
   obtain⟨j,g,hjl,hjg,hlg⟩:=hlast
   have HLG:=Qh hlg
   have HPB:=Qh (HP1.out.kept (HP.out.block HP1.out.lt (HNF.out _ (ξ _))))
   have hw1:IntKind.i64.wrap ((p.man.segs.length:Int) - 1)=(j:Int):=by rw [κ];omega
   have q1:(j:Int)<(p.man.segs.length:Int):=by omega
   obtain⟨oa',cap',e1,_,_,hcs⟩:=HSI1.out
   simp only [Value.slice.injEq] at e1
   obtain⟨rfl,_,rfl⟩:=e1
   obtain⟨b,off,rfl,⟨hnb,_⟩,hrg⟩:=hcs j g hjg
   have HRG:=Qh (show wr.rangeAt b (off+j*4) (sgCs g).toList from fun i u hi=>HP.out.cell (hrg i u hi) hnb)
   have r6:=HPB.out.c6
   clear hjg hlg hcs hnb hrg hjl
   go_wp2_with (with_reducible refine wpList_load_sg rfl (.tmp 43) rfl b (off+j*4) g rfl HRG.out ?_)
   have HB5:=Qh (below_alloc wr (.cells (sgCs g) 72))
   have HS5:=Qh (show Dk (wr.alloc (.cells (sgCs g) 72)) wr.heap.size g from σ wr _)
   refine(Gf g.num _).mono ?_
   rintro e w5 ⟨rfl,hb5⟩
   have HP5:=Qh ((HP.out.after HB5.out).after hb5)
   have HPB5:=Qh ((HPB.out.below HB5.out).below hb5)
   have HSB5:=Qh (show Dk w5 wr.heap.size g by unfold Dk;rw [hb5.block _ (δ.1 HS5.out).1];exact HS5.out)
   have r0:=HPB5.out.c0
   have HSN:=Qh (show segN p.man=Aa g.num by unfold segN;rw [HLG.out])
   obtain⟨n,hnn⟩: ∃ n,n=Aa g.num:=⟨_,rfl⟩
   have HNN:=Qh hnn
   rw [←hnn]
   clear hb5 r6 hw1 HB5 HS5 HP hnn
   obtain⟨L5,hf5,ht5,hs5⟩:=HP5.out
   have HF5:=Qh hf5
   have HT5:=Qh ht5
   have HS5:=Qh hs5
   have HQ5:=Qh (fun(d':Ab) (W:World) (hp:FsPost w5 f m L5 d' W)=>show FsPost w f m L d' W from HQ.out _ _ (hp.then HT5.out HS5.out))
   have HNG5:=Qh (show ¬ foot f m L5 1 from fun hf=>by
    rcases HS5.out _ hf with h1 | h1
    ·exact HNG.out h1
    ·have:=HNB1.out.lt;omega)
   have HNB5:=Qh (HP5.out.nib HNB1.out HNG.out)
   have HSI5:=Qh (show Dl (fun k=> ¬ foot f m L5 k) w5 (.slice (some ⟨b,off,none⟩) p.man.segs.length bcap) p.man.segs from(HSI1.out.low.turned HT5.out (fun k hk hf=>hk.1 hf)).mono (fun k hk hf=>by
    rcases HS5.out k hf with h1 | h1
    ·exact hk.1 h1
    ·have:=hk.2;omega))
   clear hf5 ht5 hs5
   rcases hfr:p.fresh with _ | _
   case true=>
    have HRUN:=Qh (show B1 d p=Aw dk (Cx n g p.man) by rw [HRUN0.out];unfold tailOps;rw [hfr,HSN.out,HLG.out,HNN.out];rfl)
    rw [hfr] at r0
    have HBG:=Qh (begin_any w5 f m dk L5 HF5.out (by have:=HSD.out;omega) n g p.man (.slice (some ⟨b,off,none⟩) p.man.segs.length bcap) HSI5.out HNB5.out HNG5.out HOK.out)
    have HSR:=Qh HSB5.out.range
    have HMR:=Qh HPB5.out.man
    clear hfr
    go_wp2_with (first | (with_reducible refine wpList_load_sg rfl (.tmp 8) rfl wr.heap.size 0 g rfl HSR.out ?_) | (with_reducible refine wpList_load_mnAt rfl (.tmp 53) rfl w.heap.size 1 p.man (.slice (some ⟨b,off,none⟩) p.man.segs.length bcap) rfl HMR.out ?_))
    refine HBG.out.mono ?_
    rintro e w6 ⟨rfl,hp⟩
    have HF:=Qh (HQ5.out _ _ hp)
    clear hp
    rw [←HRUN.out]
    rw [←HRUN.out] at HF
    generalize B1 d p=rr at*
    go_wp2
    go_ret
    exact⟨rfl,HF.out⟩
   rw [hfr] at r0
   have HRUNS:=Qh (show B1 d p=Aw dk (opSize n::(cutOps n p.cut (atF dk.files n)++[opSync n])) by rw [HRUN0.out];unfold tailOps;rw [hfr,HSN.out,HNN.out];rfl)
   have HSZ:=Qh (J9 w5 f m dk L5 HF5.out n)
   have r8:=HPB5.out.c8
   clear hfr
   by_cases hop:Aj dk n=0
   case neg=>
    have hE1:Aq dk (opSize n)=(dk,[],0,Aj dk n):=by rw [Iu,ζ hop]
    have HE:=Qh (show B1 d p=(dk,Aj dk n) by rw [HRUNS.out,Be (by rw [hE1];exact hop),hE1])
    rw [hE1] at HSZ
    have tn:(Aj dk n != 0)=true:=by simpa using hop
    have HF:=Qh (HQ5.out _ _ (FsPost.same HF5.out))
    clear hop hE1
    generalize Aj dk n=ev at*
    go_wp2_with fail
    refine HSZ.out.mono ?_
    rintro e w6 ⟨rfl,rfl⟩
    go_wp2
    go_ret
    unfold Dd
    rw [HE.out]
    exact⟨rfl,HF.out⟩
   obtain⟨_,_,x,hax⟩:=G4 hop
   have hE1:Aq dk (opSize n)=(dk,[],(x.data.length:Int),0):=by rw [Iu,γ (by simpa using hop),hax]
   have HRUNT:=Qh (show B1 d p=Aw dk (cutOps n p.cut (some x)++[opSync n]) by rw [HRUNS.out,Ce (by rw [hE1]),hE1,hax])
   rw [hE1] at HSZ
   clear hop hE1 hax
   go_wp2_with fail
   refine HSZ.out.mono ?_
   rintro e w6 ⟨rfl,rfl⟩
   have HP0:=Qh (FsPost.same HF5.out)
   have HQ:=HQ5
   have HS:=Qh (show dk.steps<4611686018427387904 by have:=HSD.out;omega)
   have HSB:=Qh (show dk.steps≤4611686018427387887 by have:=HSD.out;omega)
   obtain⟨d0,hd0⟩: ∃ y,y=dk:=⟨_,rfl⟩
   rw [←hd0] at HP0 HS HSB HRUNT
   clear hd0 HSZ HQ5 HRUNS HRUN0
   rcases hcut:decide (p.cut<(x.data.length:Int)) with _ | _
   case true=>
    have HRUN:=Qh (show B1 d p=Aw d0 (Ct n p.cut::[opSync n]) by rw [HRUNT.out];show Aw d0 ((if p.cut<(x.data.length:Int) then [Ct n p.cut] else [])++[opSync n])=_;rw [ζ (by simpa using hcut)];rfl)
    obtain⟨L0,hfs0,ht0,hsub0⟩:=HP0.out
    have HCJ:=Qh (cut_any _ f m _ L0 hfs0 HS.out n p.cut)
    have HTJ:=Qh ht0
    have HSJ:=Qh hsub0
    clear hfs0 ht0 hsub0
    go_wp2_with fail
    refine HCJ.out.mono ?_
    rintro e W5 ⟨rfl,hp⟩
    have HPn:=Qh (hp.then HTJ.out HSJ.out)
    clear hp HCJ
    by_cases he0:(Aq d0 (Ct n p.cut)).2.2.2=0
    case neg=>
     have tn:((Aq d0 (Ct n p.cut)).2.2.2 != 0)=true:=by simpa using he0
     have HE:=Qh (show B1 d p=((Aq d0 (Ct n p.cut)).1,(Aq d0 (Ct n p.cut)).2.2.2) by rw [HRUN.out,Be he0])
     have HF:=Qh (HQ.out _ _ HPn.out)
     clear he0
     generalize (Aq d0 (Ct n p.cut)).2.2.2=ev at*
     go_wp2
     go_ret
     unfold Dd
     rw [HE.out]
     exact⟨rfl,HF.out⟩
    have HRUN:=Qh (show B1 d p=Aw (Aq d0 (Ct n p.cut)).1 ([opSync n]) by rw [HRUN.out,Ce he0])
    have HS:=Qh (show (Aq d0 (Ct n p.cut)).1.steps<4611686018427387904 by have h1:=(A3 d0 (Ct n p.cut)).1;have:=HSB.out;omega)
    have HSB:=Qh (show (Aq d0 (Ct n p.cut)).1.steps≤4611686018427387887+1 by have h1:=(A3 d0 (Ct n p.cut)).1;have:=HSB.out;omega)
    rw [he0]
    clear he0
    obtain⟨d1,hdn⟩: ∃ x,x=(Aq d0 (Ct n p.cut)).1:=⟨_,rfl⟩
    rw [←hdn] at HPn HRUN HS HSB
    clear hdn HTJ HSJ
    have HP1:=HPn
    clear HPn
    obtain⟨L8,hfs,ht,hsub⟩:=HP1.out
    have HCJ:=Qh (Hq _ f m _ L8 hfs HS.out n)
    have HTJ:=Qh ht
    have HSJ:=Qh hsub
    clear hfs ht hsub
    go_wp2_with fail
    refine HCJ.out.mono ?_
    rintro e W9 ⟨rfl,hp⟩
    have HF:=Qh (HQ.out _ _ (hp.then HTJ.out HSJ.out))
    have HE:=Qh (show B1 d p=((Aq d1 (opSync n)).1,(Aq d1 (opSync n)).2.2.2) by rw [HRUN.out,runD_one])
    clear hp HCJ
    generalize (Aq d1 (opSync n)).2.2.2=ev at*
    go_wp2
    go_ret
    unfold Dd
    rw [HE.out]
    exact⟨rfl,HF.out⟩
   have HRUN:=Qh (show B1 d p=Aw d0 [opSync n] by rw [HRUNT.out];show Aw d0 ((if p.cut<(x.data.length:Int) then [Ct n p.cut] else [])++[opSync n])=_;rw [γ (by simpa using hcut)];rfl)
   obtain⟨L8,hfs,ht,hsub⟩:=HP0.out
   have HCJ:=Qh (Hq _ f m _ L8 hfs HS.out n)
   have HTJ:=Qh ht
   have HSJ:=Qh hsub
   clear hfs ht hsub
   go_wp2_with fail
   refine HCJ.out.mono ?_
   rintro e W9 ⟨rfl,hp⟩
   have HF:=Qh (HQ.out _ _ (hp.then HTJ.out HSJ.out))
   have HE:=Qh (show B1 d p=((Aq d0 (opSync n)).1,(Aq d0 (opSync n)).2.2.2) by rw [HRUN.out,runD_one])
   clear hp HCJ
   generalize (Aq d0 (opSync n)).2.2.2=ev at*
   go_wp2
   go_ret
   unfold Dd
   rw [HE.out]
   exact⟨rfl,HF.out⟩
theorem Dk.c1 {w:World} {b:Nat} {g:Sg} (h:Dk w b g):w.cell? ⟨b,1,none⟩=some (.int .i64 g.first):=h.range 1 _ rfl
section
variable {w W W' : World} {p : Pl} {sv rv : Value} {dk d' : Ab} {vk fv' : Value}
end
theorem plInfo:(Tryz.prog.info? 75).map (·.size)=some 10:=by kernel_rfl
theorem wpList_load_pl {ops:Array Oper} {rest:List Oper} {o:Oper} {a:Act} {w:World} {Q:Exit→Act→World→Prop} (hgd:o.guard=none) (x:Operand) (ho:o.op= .load 75 x)
  (g:Nat) (p:Pl) (sv rv:Value) (hx:a.eval x= .pointer (some ⟨g,0,none⟩)) (hE:A5 w g p sv rv)
  (h:wpList Tryz.prog ops Q rest (a.put o.dst (plV p sv rv)) w):wpList Tryz.prog ops Q (o::rest) a w:=
 wpList_load_row hgd 75 x ho g hx 75 (plCs p sv rv) (0,0) _ hE Tryz.underlying75 rfl plInfo h
def firstM:B3:=⟨1,2,0,0,0,[⟨1,1,0,0⟩]⟩
def zeroM:B3:=⟨0,0,0,0,0,[]⟩
def planF:Pl:=⟨true,firstM,[],22,0⟩
def planZ:Pl:=⟨false,zeroM,[],0,0⟩
theorem firstM_ok:Bt firstM=true:=by decide
theorem B5 {n:Nat} (h:n<128):(encV n).length=1:=by rw [encV,dif_pos h];rfl
theorem G1:(E4 1 1).1.length=22∧(Bs firstM).1.length=29:=by
 refine⟨?_,?_⟩
 ·rw [hdrEnc_ok (by decide) (by decide) (by decide) (by decide)]
  simp only [An,η]
  rw [B5 (by decide)]
 ·rw [encMan_ok firstM_ok]
  simp only [An]
  show (encV 8++(encV 2++(encV 0++(encV 0++(encV 0++(encV 1++(encV 1++(encV 0++(encV 0++[]))))))))).length+20=29
  simp only [η,B5 (show 8<128 by decide),B5 (show 2<128 by decide),B5 (show 1<128 by decide),B5 (show 0<128 by decide),Φ]
theorem mnCs_all (m:B3) (v:Value) (h:v.oneCell'=true):(mnCs m v).all (·.oneCell')=true:=
 Array.all_eq_true_iff_forall_mem.2 (by
  intro u hu
  simp only [mnCs,List.mem_toArray,Γ,List.not_mem_nil,or_false] at hu
  rcases hu with rfl | rfl | rfl | rfl | rfl | rfl<;>first | rfl | assumption)
theorem Ah.row {w:World} {g:Nat} {m m':B3} {sv sv':Value} (h:Ah w g m sv):Ah (w.setRow g (mnCs m' sv')) g m' sv':=setRow_heap w g _ _ _ _ h
theorem wpList_store_mn {ops:Array Oper} {rest:List Oper} {o:Oper} {a:Act} {w:World} {Q:Exit→Act→World→Prop} (hgd:o.guard=none) (x y:Operand) (ho:o.op= .store 69 x y)
  (g:Nat) (m m':B3) (sv sv':Value) (hx:a.eval x= .pointer (some ⟨g,0,none⟩)) (hy:a.eval y=mnV m' sv') (hE:Ah w g m sv) (h1:sv'.oneCell'=true)
  (h: ∀ W,Hid (W=w.setRow g (mnCs m' sv'))→wpList Tryz.prog ops Q rest (a.put o.dst undef) W):wpList Tryz.prog ops Q (o::rest) a w:=
 wpList_store_row hgd 69 x y ho g (mnCs m' sv') hx hy 69 (mnCs m sv) hE mnInfo rfl (mnCs_all m' sv' h1) (h _ (Qh rfl))
theorem plCs_all (p:Pl) (v v':Value) (h:v.oneCell'=true) (h':v'.oneCell'=true):(plCs p v v').all (·.oneCell')=true:=
 Array.all_eq_true_iff_forall_mem.2 (by
  intro u hu
  simp only [plCs,List.mem_toArray,Γ,List.not_mem_nil,or_false] at hu
  rcases hu with rfl | rfl | rfl | rfl | rfl | rfl | rfl | rfl | rfl | rfl<;>first | rfl | assumption)
theorem A5.row {w:World} {g:Nat} {p p':Pl} {sv rv sv' rv':Value} (h:A5 w g p sv rv):A5 (w.setRow g (plCs p' sv' rv')) g p' sv' rv':=setRow_heap w g _ _ _ _ h
theorem wpList_store_pl {ops:Array Oper} {rest:List Oper} {o:Oper} {a:Act} {w:World} {Q:Exit→Act→World→Prop} (hgd:o.guard=none) (x y:Operand) (ho:o.op= .store 75 x y)
  (g:Nat) (p p':Pl) (sv rv sv' rv':Value) (hx:a.eval x= .pointer (some ⟨g,0,none⟩)) (hy:a.eval y=plV p' sv' rv') (hE:A5 w g p sv rv) (h1:sv'.oneCell'=true) (h2:rv'.oneCell'=true)
  (h: ∀ W,Hid (W=w.setRow g (plCs p' sv' rv'))→wpList Tryz.prog ops Q rest (a.put o.dst undef) W):wpList Tryz.prog ops Q (o::rest) a w:=
 wpList_store_row hgd 75 x y ho g (plCs p' sv' rv') hx hy 75 (plCs p sv rv) hE plInfo rfl (plCs_all p' sv' rv' h1 h2) (h _ (Qh rfl))
theorem run_load_mn {w:World} {g:Nat} {m:B3} {sv:Value} (hE:Ah w g m sv):(loadVar 69 ⟨g,0,none⟩).run Tryz.prog w= .ok (mnV m sv) w:=
 run_loadVar_row (P:=Tryz.prog) w g 69 69 (mnCs m sv) (0,0) _ hE Tryz.underlying69 rfl mnInfo
theorem run_load_pl {w:World} {g:Nat} {p:Pl} {sv rv:Value} (hE:A5 w g p sv rv):(loadVar 75 ⟨g,0,none⟩).run Tryz.prog w= .ok (plV p sv rv) w:=
 run_loadVar_row (P:=Tryz.prog) w g 75 75 (plCs p sv rv) (0,0) _ hE Tryz.underlying75 rfl plInfo
theorem results_mn1 {fn:Func} {p:Tmp} (h:fn.results= #[.cell p 69]) (tmps:Array Value) (w:World) (g:Nat) (m:B3) (sv:Value)
  (hp:tmps.getD p undef= .pointer (some ⟨g,0,none⟩)) (hE:Ah w g m sv):(results fn tmps).run Tryz.prog w= .ok (mnV m sv) w:=by
 have hl:=run_load_mn hE
 have hp':tmps[p]?.getD undef= .pointer (some ⟨g,0,none⟩):=by simpa using hp
 simp [results,h,hp',asAddr,hl]
theorem Bh {fn:Func} {p q:Tmp} (h:fn.results= #[.cell p 75,.tmp q]) (tmps:Array Value) (w:World) (g:Nat) (P:Pl) (sv rv x:Value)
  (hp:tmps.getD p undef= .pointer (some ⟨g,0,none⟩)) (hq:tmps.getD q undef=x) (hE:A5 w g P sv rv):(results fn tmps).run Tryz.prog w= .ok (.tuple #[plV P sv rv,x]) w:=by
 have hl:=run_load_pl hE
 have hp':tmps[p]?.getD undef= .pointer (some ⟨g,0,none⟩):=by simpa using hp
 have hq':tmps[q]?.getD undef=x:=by simpa using hq
 simp [results,h,hp',hq',asAddr,hl]
theorem first_any (w:World):Calls Tryz.prog 129 #[] w fun e w'=> ∃ sv,e= .returned (mnV firstM sv)∧Dl (fun k=>w.heap.size≤k) w' sv firstM.segs∧sv.oneCell'=true∧Below w.heap.size w w':=by
 have HM:=Qh ((A4 w firstM (.slice (some ⟨w.heap.size+1,0,none⟩) 1 1)).below (below_alloc _ (.cells (sgCs ⟨1,1,0,0⟩) 72)))
 have HB:=Qh (Below.next (below_alloc w (.cells (mnCs firstM (.slice (some ⟨w.heap.size+1,0,none⟩) 1 1)) 69)) (below_alloc _ (.cells (sgCs ⟨1,1,0,0⟩) 72)))
 have HS:=Qh (show Dl (fun k=>w.heap.size≤k) ((w.alloc (.cells (mnCs firstM (.slice (some ⟨w.heap.size+1,0,none⟩) 1 1)) 69)).alloc (.cells (sgCs ⟨1,1,0,0⟩) 72)) (.slice (some ⟨w.heap.size+1,0,none⟩) 1 1) firstM.segs from
  ⟨_,1,rfl,ξ _,by decide,fun i g hg=>⟨w.heap.size+1,0,rfl,⟨Nat.le_succ _,_,_,by have:=σ (w.alloc (.cells (mnCs firstM (.slice (some ⟨w.heap.size+1,0,none⟩) 1 1)) 69)) (.cells (sgCs ⟨1,1,0,0⟩) 72);rwa [show (w.alloc (.cells (mnCs firstM (.slice (some ⟨w.heap.size+1,0,none⟩) 1 1)) 69)).heap.size=w.heap.size+1 by simp] at this⟩,fun j u hj=>by
   match i,hg with
   | 0,hg=>
    simp [firstM] at hg
    subst hg
    have:=World.cell?_alloc_new (w.alloc (.cells (mnCs firstM (.slice (some ⟨w.heap.size+1,0,none⟩) 1 1)) 69)) (sgCs ⟨1,1,0,0⟩) 72 j
    rw [show (w.alloc (.cells (mnCs firstM (.slice (some ⟨w.heap.size+1,0,none⟩) 1 1)) 69)).heap.size=w.heap.size+1 by simp] at this
    rw [Nat.zero_mul,Nat.add_zero,Nat.zero_add,this]
    simpa using hj⟩⟩)
 go_enter Tryz.func129,Tryz.ntmps129
 go_wp2
 exact π (v:=mnV firstM (.slice (some ⟨w.heap.size+1,0,none⟩) 1 1)) (results_mn1 rfl _ _ w.heap.size firstM (.slice (some ⟨w.heap.size+1,0,none⟩) 1 1) rfl HM.out) rfl ⟨_,rfl,HS.out,rfl,HB.out⟩
theorem manSize_any (m:B3) (sv:Value) (w:World) (hr:Jz w sv m.segs) (hn:NibTab w):Calls Tryz.prog 81 #[mnV m sv] w fun e w'=>e= .returned (.int .i64 ((Bs m).1.length:Int))∧Below w.heap.size w w':=by
 have HB0:=Qh (below_alloc w (.cells (mnCs m sv) 69))
 have HE:=Qh (manEncode_any m sv _ (hr.below HB0.out) (hn.below HB0.out))
 have HM:=Qh (A4 w m sv)
 simp only [mnCs] at HM HE
 clear hr hn
 obtain⟨en,hen⟩: ∃ y,y=Bs m:=⟨_,rfl⟩
 rw [←hen] at HE
 rw [←hen]
 clear hen
 go_enter Tryz.func81,Tryz.ntmps81
 go_wp2_with (with_reducible refine wpList_load_mn rfl (.tmp 1) rfl w.heap.size m sv rfl HM.out ?_)
 refine HE.out.mono ?_
 rintro e w1 ⟨v1,rfl,ho1,hb1⟩
 obtain⟨o1,cap1,rfl,_,_⟩:=Ac ho1
 have HB:=Qh (Below.next HB0.out hb1)
 clear ho1 hb1 HE HM
 go_wp2
 go_ret
 exact⟨rfl,HB.out⟩
theorem FsAt.turned {S:Nat→Prop} {w w':World} {f m:Nat} {d:Ab} {L:List Ad} (h:FsAt w f m d L) (ht:Turned S w w') (hS: ∀ k,foot f m L k→ ¬ S k):FsAt w' f m d L:=
 ⟨h.hd.kept (ht.block f h.hd.lt (hS f (.inl rfl))),h.body.turned h.hd.lt ht (fun k _ hk=>hS k hk),h.fil,h.ok⟩
def sgCells (l:List Sg):List Value:=l.flatMap fun g=>(sgCs g).toList
theorem sgCells_length (l:List Sg):(sgCells l).length=l.length*4:=by
 unfold sgCells
 induction l with
 | nil=>simp
 | cons x r ih=>rw [List.flatMap_cons,η,ih,φ];simp [sgCs];omega
theorem sgCells_at: ∀ (rs:List Sg) (i:Nat) (r:Sg),rs[i]? =some r→ ∀ (j:Nat) u,(sgCs r)[j]? =some u→(sgCells rs)[i*4+j]? =some u
 | [],i,r,h,_,_,_=>by simp at h
 | x::rs,0,r,h,j,u,hj=>by
  simp at h;subst h
  have hl:j<4:=by have:=(δ.1 hj).1;simpa [sgCs] using this
  unfold sgCells
  rw [List.flatMap_cons,Nat.zero_mul,Nat.zero_add,List.getElem?_append_left (by simpa [sgCs] using hl)]
  simpa using hj
 | x::rs,i+1,r,h,j,u,hj=>by
  have:=sgCells_at rs i r (by simpa using h) j u hj
  unfold sgCells at this ⊢
  rw [List.flatMap_cons,List.getElem?_append_right (by simp [sgCs];omega)]
  rw [←this]
  congr 1
  simp [sgCs];omega
theorem own_typ {w:World} {B n g off l c:Nat} {a} {xs:List Value} {v:Value} (h:w.ownsRow B 72 4 v n xs) (hv:v= .slice (some ⟨g,off,a⟩) l c):SegB w g:=by
 obtain⟨_,⟨rfl,_⟩ | ⟨g',cap,cur,rfl,_,e,_⟩⟩:=h
 ·cases hv
 ·simp only [Value.slice.injEq,Option.some.injEq,Addr.mk.injEq] at hv
  obtain⟨⟨rfl,_⟩,_⟩:=hv
  exact⟨_,_,e⟩
theorem sgIn_own {A:Nat→Prop} {w:World} {B:Nat} {v:Value} {l:List Sg} (h:w.ownsRow B 72 4 v l.length (sgCells l)) (hA: ∀ k,B≤k→A k):Dl A w v l:=by
 by_cases hn:l=[]
 ·subst hn
  obtain⟨oa,cap,rfl,h1,h2⟩:=Ac h
  exact⟨oa,cap,rfl,h1,by unfold maxLen at h2;omega,fun i g hg=>by simp at hg⟩
 ·obtain⟨g,cap,rfl,hB,_,h1,h2,h3⟩:=B8 h (Ψ.2 hn)
  exact⟨_,cap,rfl,h1,by unfold maxLen at h2;omega,fun i x hx=>⟨g,0,rfl,⟨hA g hB,own_typ h rfl⟩,fun j u hj=>by rw [Nat.zero_add];exact h3 _ _ (sgCells_at l i x hx j u (by simpa using hj))⟩⟩
def zeroSg:Value:= .agg #[.int .i64 0,.int .i64 0,.int .i64 0,.int .i64 0]
theorem infoSg:(Tryz.prog.info? 72).map (fun i=>(i.zero,i.size,i.bytes))=some (some zeroSg,4,32):=by kernel_rfl
theorem Ah.set {w:World} {g:Nat} {m:B3} {sv sv':Value} (h:Ah w g m sv) (e:(mnCs m sv).setIfInBounds 5 sv'=mnCs m sv'):Ah (w.setCell ⟨g,5,none⟩ sv') g m sv':=by
 unfold Ah at h ⊢
 rw [←e]
 simp only [World.setCell]
 rw [Array.getElem?_modify]
 simp [h]
theorem Ah.otherCell {w:World} {g k:Nat} {m:B3} {sv:Value} (h:Ah w g m sv) (hn:g≠k) (j:Nat) (v:Value):Ah (w.setCell ⟨k,j,none⟩ v) g m sv:=by
 unfold Ah at h ⊢
 simp only [World.setCell]
 rw [Array.getElem?_modify]
 simp [h,Ne.symm hn]
theorem Ah.free {w:World} {g:Nat} {m:B3} {sv:Value} (h:Ah w g m sv) (j:Nat):w.frozen? ⟨g,j,none⟩=false:=by unfold Ah at h;simp [World.frozen?,h]
theorem Al {S:Nat→Prop} {B:Nat} {w0 w w':World} (hb:Below B w0 w) (ht:Turned S w w') (hS: ∀ k,S k→B≤k) (hB:B≤w.heap.size):Below B w0 w':=
 ⟨ht.os.trans hb.os,ht.tape.trans hb.tape,ht.output.trans hb.output,μ hb.size ht.size,fun k hk=>(ht.block k (Nat.lt_of_lt_of_le hk hB) (fun hc=>by have:=hS k hc;omega)).trans (hb.block k hk)⟩
theorem stIn_own {A:Nat→Prop} {w:World} {B:Nat} {v:Value} {l:List (List UInt8)} (h:w.ownsRow B 9 1 v l.length (l.map fun s=> .string ⟨s.toArray⟩)) (hA: ∀ k,B≤k→A k):StIn A w v l:=by
 by_cases hn:l=[]
 ·subst hn
  obtain⟨oa,cap,rfl,h1,h2⟩:=Ac h
  exact⟨oa,cap,rfl,h1,by unfold maxLen at h2;omega,fun i g hg=>by simp at hg⟩
 ·obtain⟨g,cap,rfl,hB,_,h1,h2,h3⟩:=B8 h (Ψ.2 hn)
  exact⟨_,cap,rfl,h1,by unfold maxLen at h2;omega,fun i x hx=>⟨g,0,rfl,hA g hB,by rw [Nat.zero_add];exact h3 _ _ (by rw [List.getElem?_map,hx];rfl)⟩⟩
theorem StIn.turned {A S:Nat→Prop} {w w':World} {v:Value} {l:List (List UInt8)} (h:StIn A w v l) (ht:Turned S w w') (hS: ∀ k,A k→ ¬ S k):StIn A w' v l:=by
 obtain⟨oa,cap,h1,h2,h3,h4⟩:=h
 exact⟨oa,cap,h1,h2,h3,fun i g hg=>by obtain⟨b,off,e,ha,hc⟩:=h4 i g hg;exact⟨b,off,e,ha,ht.cell hc (hS b ha)⟩⟩
theorem row_setCell {w:World} {b:Nat} {cs:Array Value} {ty:TypeId} (h:w.heap[b]? =some (.cells cs ty (0,0))) (j:Nat) (v:Value):(w.setCell ⟨b,j,none⟩ v).heap[b]? =some (.cells (cs.setIfInBounds j v) ty (0,0)):=by
 simp [World.setCell,Array.getElem?_modify,h]
theorem Ak (w:World) (g:Nat) (cs:Array Value):Turned (fun k=>k=g) w (w.setRow g cs):=⟨rfl,rfl,rfl,by simp,fun k _ hn=>setRow_other _ _ _ _ hn⟩
theorem frInfo:(Tryz.prog.info? 101).map (·.size)=some 3:=by kernel_rfl
theorem frCs_all (k s:Int) (v:Value) (h:v.oneCell'=true):(frCs k s v).all (·.oneCell')=true:=
 Array.all_eq_true_iff_forall_mem.2 (by
  intro u hu
  simp only [frCs,List.mem_toArray,Γ,List.not_mem_nil,or_false] at hu
  rcases hu with rfl | rfl | rfl<;>first | rfl | assumption)
theorem Ck.lt {w:World} {g:Nat} {k s:Int} {bv:Value} (h:Ck w g k s bv):g<w.heap.size:=(δ.1 h).1
theorem Ck.row {w:World} {g:Nat} {k s k' s':Int} {bv bv':Value} (h:Ck w g k s bv):Ck (w.setRow g (frCs k' s' bv')) g k' s' bv':=setRow_heap w g _ _ _ _ h
theorem wpList_store_fr {ops:Array Oper} {rest:List Oper} {o:Oper} {a:Act} {w:World} {Q:Exit→Act→World→Prop} (hgd:o.guard=none) (x y:Operand) (ho:o.op= .store 101 x y)
  (g:Nat) (k s k' s':Int) (bv bv':Value) (hx:a.eval x= .pointer (some ⟨g,0,none⟩)) (hy:a.eval y=frV k' s' bv') (hE:Ck w g k s bv) (h1:bv'.oneCell'=true)
  (h: ∀ W,Ck W g k' s' bv'→Turned (fun k=>k=g) w W→wpList Tryz.prog ops Q rest (a.put o.dst undef) W):wpList Tryz.prog ops Q (o::rest) a w:=
 wpList_store_row hgd 101 x y ho g (frCs k' s' bv') hx hy 101 (frCs k s bv) hE frInfo rfl (frCs_all k' s' bv' h1) (h _ hE.row (Ak _ _ _))
theorem run_load_fr {w:World} {g:Nat} {k s:Int} {bv:Value} (hE:Ck w g k s bv):(loadVar 101 ⟨g,0,none⟩).run Tryz.prog w= .ok (frV k s bv) w:=
 run_loadVar_row (P:=Tryz.prog) w g 101 101 (frCs k s bv) (0,0) _ hE Tryz.underlying101 rfl frInfo
theorem wpList_load_fr {ops:Array Oper} {rest:List Oper} {o:Oper} {a:Act} {w:World} {Q:Exit→Act→World→Prop} (hgd:o.guard=none) (x:Operand) (ho:o.op= .load 101 x)
  (g:Nat) (k s:Int) (bv:Value) (hx:a.eval x= .pointer (some ⟨g,0,none⟩)) (hE:Ck w g k s bv)
  (h:wpList Tryz.prog ops Q rest (a.put o.dst (frV k s bv)) w):wpList Tryz.prog ops Q (o::rest) a w:=
 wpList_load_row hgd 101 x ho g hx 101 (frCs k s bv) (0,0) _ hE Tryz.underlying101 rfl frInfo h
theorem Jh {fn:Func} {p q r:Tmp} (h:fn.results= #[.cell p 101,.tmp q,.tmp r]) (tmps:Array Value) (w:World) (g:Nat) (k s:Int) (bv x y:Value)
  (hp:tmps.getD p undef= .pointer (some ⟨g,0,none⟩)) (hq:tmps.getD q undef=x) (hr:tmps.getD r undef=y) (hE:Ck w g k s bv):(results fn tmps).run Tryz.prog w= .ok (.tuple #[frV k s bv,x,y]) w:=by
 have hl:=run_load_fr hE
 have hp':tmps[p]?.getD undef= .pointer (some ⟨g,0,none⟩):=by simpa using hp
 have hq':tmps[q]?.getD undef=x:=by simpa using hq
 have hr':tmps[r]?.getD undef=y:=by simpa using hr
 simp [results,h,hp',hq',hr',asAddr,hl]
theorem Jg {fn:Func} {p q:Tmp} (h:fn.results= #[.cell p 101,.tmp q]) (tmps:Array Value) (w:World) (g:Nat) (k s:Int) (bv x:Value)
  (hp:tmps.getD p undef= .pointer (some ⟨g,0,none⟩)) (hq:tmps.getD q undef=x) (hE:Ck w g k s bv):(results fn tmps).run Tryz.prog w= .ok (.tuple #[frV k s bv,x]) w:=by
 have hl:=run_load_fr hE
 have hp':tmps[p]?.getD undef= .pointer (some ⟨g,0,none⟩):=by simpa using hp
 have hq':tmps[q]?.getD undef=x:=by simpa using hq
 simp [results,h,hp',hq',asAddr,hl]
section
variable {ops : Array Oper} {rest : List Oper} {o : Oper} {a : Act} {w : World} {Q : Exit → Act → World → Prop}
theorem wpList_cut_lhm (hgd:o.guard=none) (x y z u:Operand) (ho:o.op= .slice 39 x (some y) (some z) (some u)) (oa:Option Addr) (cap lo hi n:Nat) (l:List UInt8) (hx:a.eval x= .slice oa l.length cap) (hy:a.eval y= .int .i64 (lo:Int)) (hz:a.eval z= .int .i64 (hi:Int)) (hu:a.eval u= .int .i64 (hi:Int))
  (hv:A2 w (.slice oa l.length cap) l) (h1:lo≤hi) (h2:hi≤l.length) (hn:Hid (hi - lo=n)) (h: ∀ oa' cap',A2 w (.slice oa' n cap') ((l.take hi).drop lo)→wpList Tryz.prog ops Q rest (a.put o.dst (.slice oa' n cap')) w):wpList Tryz.prog ops Q (o::rest) a w:=by
 have hv':=hv
 obtain⟨_,c',e,hl',_⟩:=hv'
 simp only [Value.slice.injEq,true_and] at e
 obtain⟨rfl,rfl⟩:=e
 have hb:=Gl (lo:=lo) (hi:=hi) (mx:=hi) hv h1 h2 (ξ _)
 refine wpList_plain hgd fun K hK=> ?_
 unfold Oper.wp execOp
 simp only [ho,hx,hy,hz,hu,Option.map_some,Fl,run_cut_lhm oa l.length cap lo hi hi h1 (ξ _) (μ h2 hl'),Sem.run_bind,Sem.run_pure,Result.andThen_ok]
 have hn':=hn.out
 subst hn'
 exact hK _ _ (h _ _ hb)
end
def DecPost (w:World) (r:Frm×Nat×Int) (e:Ending) (w':World):Prop:= ∃ bv,e= .returned (.tuple #[frV (r.1.k:Int) (r.1.s:Int) bv,.int .i64 (r.2.1:Int),.int .i64 r.2.2])∧Ag (fun k=>w.heap.size≤k) w' bv r.1.body∧Below w.heap.size w w'
theorem decF_bad {b:List UInt8} {k s n:Nat} {e:Int} (h:B4 b=(k,s,n,e)) (he:e≠0):decF b=(Jv,0,e):=by unfold decF;rw [h,ζ he]
theorem decF_torn {b:List UInt8} {k s n:Nat} (h:B4 b=(k,s,n,0)) (hn:b.length<n):decF b=(Jv,0,60):=by unfold decF;rw [h,γ (fun h=>h rfl),ζ hn]
theorem decF_sum {b:List UInt8} {k s n:Nat} (h:B4 b=(k,s,n,0)) (hn: ¬ b.length<n) (hc:Hf ((b.take n).drop 16)=false):decF b=(Jv,0,62):=by unfold decF;rw [h,γ (fun h=>h rfl),γ hn,ζ hc]
theorem decF_good {b:List UInt8} {k s n:Nat} (h:B4 b=(k,s,n,0)) (hn: ¬ b.length<n) (hc: ¬ Hf ((b.take n).drop 16)=false):decF b=(⟨k,s,((b.take n).drop 16).take (n - 20)⟩,n,0):=by unfold decF;rw [h,γ (fun h=>h rfl),γ hn,γ hc]
theorem Ex (A:Nat→Prop) (w:World):Ag A w (.slice none 0 0) []:=⟨none,0,rfl,ξ _,fun h=>absurd rfl h⟩
theorem Ia (l:List UInt8) (v:Value) (w:World) (hv:A2 w v l) (hl:l.length≤9223372036854775807) (hn:NibTab w):
  Calls Tryz.prog 61 #[v] w (DecPost w (decF l)):=by
 have HB0:=Qh (below_alloc w (.cells (frCs 0 0 (.slice none 0 0)) 101))
 have HF0:=Qh (C7 w 0 0 (.slice none 0 0))
 have HPK:=Qh (peek_any l v _ (hv.below HB0.out) hl (hn.below HB0.out))
 have HNB:=Qh hn
 have HV:=Qh (fun W (hb:Below w.heap.size w W)=>hv.below hb)
 have HPF:=Qh (@peekF_fine l)
 obtain⟨oa,cap,rfl,hlc,hc⟩:=hv
 simp only [frCs] at HB0 HF0 HPK
 obtain⟨r,hr⟩: ∃ r,r=B4 l:=⟨_,rfl⟩
 rw [←hr] at HPK HPF
 have HR:=Qh hr.symm
 clear hc hr hn
 obtain⟨k,s,sz,e0⟩:=r
 unfold PeekPost at HPK
 go_enter Tryz.func61,Tryz.ntmps61
 go_wp2_with fail
 refine HPK.out.mono ?_
 rintro e w1 ⟨rfl,hb1⟩
 have HB1:=Qh (Below.next HB0.out hb1)
 have HF1:=Qh (HF0.out.below hb1)
 clear hb1 HB0 HF0 HPK
 rcases he0:(e0 != 0) with _ | _
 ·have he00:e0=0:=by simpa using he0
  subst he00
  obtain⟨_,hk1,hk7,hs1,hz1,hz2⟩:=HPF.out rfl
  obtain⟨m,hm⟩: ∃ m,sz=m+20:=⟨sz - 20,by omega⟩
  obtain⟨m4,hm4⟩: ∃ m4,m4=m+4:=⟨_,rfl⟩
  rcases hlt:decide (l.length<sz) with _ | _
  ·have hle:sz≤l.length:=by have:=ε hlt;omega
   have HNT:=Qh (show ¬ l.length<sz by omega)
   have HM4:=Qh (show sz - 16=m4 by omega)
   have hlo:16≤sz:=by omega
   have HBR:=Qh (HV.out w1 HB1.out)
   have q4:(m4:Int) - 4=(m:Int):=by omega
   obtain⟨rs,hrs⟩: ∃ rs,rs=(l.take sz).drop 16:=⟨_,rfl⟩
   have HRS:=Qh hrs
   have HRL:=Qh (show rs.length=m4 by rw [hrs,Ξ,Θ];omega)
   have hml:m≤m4:=by omega
   have HML:=Qh (show sz - 20=m by omega)
   have hmb:m≤16384:=by omega
   clear hrs hm hm4 he0 HPF hk1 hk7 hs1 hz1 hz2
   go_wp2_with (with_reducible refine wpList_cut_lhm rfl (.tmp 26) (.const (.int .i64 16)) (.tmp 27) (.tmp 28) rfl oa cap 16 sz m4 l rfl rfl rfl rfl HBR.out hlo hle HM4 ?_)
   intro oa' cap' hbr
   rw [←HRS.out] at hbr
   have HRB:=Qh hbr
   have HCL:=Qh (closed_any rs _ w1 hbr (by rw [HRL.out];omega) (HNB.out.below HB1.out))
   clear hbr
   go_wp2_with fail
   refine HCL.out.mono ?_
   rintro e w2 ⟨rfl,hb2⟩
   have HB2:=Qh (Below.next HB1.out hb2)
   have HF2:=Qh (HF1.out.below hb2)
   have HRB2:=Qh (HRB.out.below hb2)
   clear hb2 HCL HB1 HF1 HRB HBR
   rcases hck:Hf rs with _ | _
   ·have HE:=Qh (decF_sum HR.out HNT.out (by rw [←HRS.out];exact hck))
    go_wp2_with (with_reducible refine wpList_store_fr rfl (.tmp 2) (.tmp 33) rfl w.heap.size 0 0 0 0 (.slice none 0 0) (.slice none 0 0) rfl rfl HF2.out rfl ?_)
    intro w3 hf3 ht3
    have HF3:=Qh hf3
    have HB3:=Qh (Al HB2.out ht3 (fun k hk=>by omega) HB2.out.size)
    clear hf3 ht3
    go_wp2
    refine π (v:= .tuple #[frV 0 0 (.slice none 0 0),.int .i64 0,.int .i64 62]) (Jh rfl _ _ w.heap.size 0 0 (.slice none 0 0) _ _ rfl rfl rfl HF3.out) rfl ⟨_,by rw [HE.out];rfl,by rw [HE.out];exact Ex _ _,HB3.out⟩
   ·have HE:=Qh (decF_good HR.out HNT.out (by rw [←HRS.out,hck];decide))
    rw [←HRS.out,HML.out] at HE
    have HRB2':=Qh (show A2 w2 (.slice oa' rs.length cap') rs by rw [HRL.out];exact HRB2.out)
    have HCN:=Qh (fun W oa2 cap2 (hb:A2 W (.slice oa2 m cap2) (rs.take m))=>clone_any (rs.take m) (.slice oa2 m cap2) W hb (by rw [Θ];omega))
    have hmr:m≤rs.length:=by rw [HRL.out];exact hml
    have HX:=Qh (show Value.slice oa' m4 cap'= .slice oa' rs.length cap' by rw [HRL.out])
    clear hck
    go_wp2_with (refine wpList_cut_h rfl (.tmp 36) (.tmp 39) rfl oa' cap' m rs HX.out rfl HRB2'.out hmr ?_)
    intro oa2 cap2 hbr2
    go_wp2_with fail
    refine(HCN.out w2 oa2 cap2 hbr2).mono ?_
    rintro e w3 ⟨v3,rfl,ho3,hb3⟩
    have HB3:=Qh (Below.next HB2.out hb3)
    have HF3:=Qh (HF2.out.below hb3)
    have HO3:=Qh (browIn_own (A:=fun k=>w2.heap.size≤k) ho3 (fun _ h=>h))
    obtain⟨o3,cap3,e3,_,_⟩:=Ac ho3
    rw [show (rs.take m).length=m by rw [Θ];omega] at e3
    subst e3
    have hg2:=HF2.out.lt
    clear ho3 hb3 hbr2 HCN HRB2 HRB2' HX
    go_wp2_with (with_reducible refine wpList_store_fr rfl (.tmp 2) (.tmp 42) rfl w.heap.size 0 0 k s (.slice none 0 0) (.slice o3 m cap3) rfl rfl HF3.out rfl ?_)
    intro w4 hf4 ht4
    have HF4:=Qh hf4
    have HB4:=Qh (Al HB3.out ht4 (fun k hk=>by omega) HB3.out.size)
    have HO4:=Qh ((HO3.out.turned ht4 (fun k hk he=>by omega)).mono (A':=fun k=>w.heap.size≤k) (fun k hk=>by omega))
    clear hf4 ht4 HO3 HB3 HF3
    go_wp2
    refine π (v:= .tuple #[frV k s (.slice o3 m cap3),.int .i64 sz,.int .i64 0]) (Jh rfl _ _ w.heap.size k s (.slice o3 m cap3) _ _ rfl rfl rfl HF4.out) rfl ⟨_,by rw [HE.out],by rw [HE.out];exact HO4.out,HB4.out⟩
  ·have hle:l.length<sz:=by have:=χ hlt;omega
   have HE:=Qh (decF_torn HR.out hle)
   clear hle hm hm4
   go_wp2_with (with_reducible refine wpList_store_fr rfl (.tmp 2) (.tmp 25) rfl w.heap.size 0 0 0 0 (.slice none 0 0) (.slice none 0 0) rfl rfl HF1.out rfl ?_)
   intro w3 hf3 ht3
   have HF3:=Qh hf3
   have HB3:=Qh (Al HB1.out ht3 (fun k hk=>by omega) HB1.out.size)
   clear hf3 ht3
   go_wp2
   refine π (v:= .tuple #[frV 0 0 (.slice none 0 0),.int .i64 0,.int .i64 60]) (Jh rfl _ _ w.heap.size 0 0 (.slice none 0 0) _ _ rfl rfl rfl HF3.out) rfl ⟨_,by rw [HE.out];rfl,by rw [HE.out];exact Ex _ _,HB3.out⟩
 ·have HE:=Qh (decF_bad HR.out (show e0≠0 by simpa using he0))
  go_wp2_with (with_reducible refine wpList_store_fr rfl (.tmp 2) (.tmp 19) rfl w.heap.size 0 0 0 0 (.slice none 0 0) (.slice none 0 0) rfl rfl HF1.out rfl ?_)
  intro w3 hf3 ht3
  have HF3:=Qh hf3
  have HB3:=Qh (Al HB1.out ht3 (fun k hk=>by omega) HB1.out.size)
  clear hf3 ht3
  go_wp2
  refine π (v:= .tuple #[frV 0 0 (.slice none 0 0),.int .i64 0,.int .i64 e0]) (Jh rfl _ _ w.heap.size 0 0 (.slice none 0 0) _ _ rfl rfl rfl HF3.out) rfl ⟨_,by rw [HE.out];rfl,by rw [HE.out];exact Ex _ _,HB3.out⟩
def Bv (b:List UInt8) (kind:Nat):Frm×Int:=if (decF b).2.2≠0 then (Jv,(decF b).2.2) else if (decF b).1.k≠kind∨(decF b).2.1≠b.length then (Jv,63) else ((decF b).1,0)
def WholePost (w:World) (r:Frm×Int) (e:Ending) (w':World):Prop:= ∃ bv,e= .returned (.tuple #[frV (r.1.k:Int) (r.1.s:Int) bv,.int .i64 r.2])∧Ag (fun k=>w.heap.size≤k) w' bv r.1.body∧Below w.heap.size w w'
theorem Ag.low1 {A:Nat→Prop} {w:World} {v:Value} {l:List UInt8} (h:Ag A w v l):Ag (fun k=>A k∧k<w.heap.size) w v l:=h.low
theorem whole_any (l:List UInt8) (v:Value) (kind:Nat) (w:World) (hv:A2 w v l) (hl:l.length≤9223372036854775807) (hn:NibTab w):
  Calls Tryz.prog 107 #[v,.int .i64 (kind:Int)] w (WholePost w (Bv l kind)):=by
 have HB0:=Qh (below_alloc w (.cells (frCs 0 0 (.slice none 0 0)) 101))
 have HF0:=Qh (C7 w 0 0 (.slice none 0 0))
 have HD:=Qh (Ia l v _ (hv.below HB0.out) hl (hn.below HB0.out))
 obtain⟨oa,cap,rfl,hlc,hc⟩:=hv
 have HW:=Qh (show Bv l kind=if (decF l).2.2≠0 then (Jv,(decF l).2.2) else if (decF l).1.k≠kind∨(decF l).2.1≠l.length then (Jv,63) else ((decF l).1,0) from rfl)
 simp only [frCs] at HB0 HF0 HD
 obtain⟨r,hr⟩: ∃ r,r=decF l:=⟨_,rfl⟩
 rw [←hr] at HD HW
 clear hc hr hn
 obtain⟨⟨k,s,body⟩,sz,e0⟩:=r
 unfold DecPost at HD
 go_enter Tryz.func107,Tryz.ntmps107
 go_wp2_with fail
 refine HD.out.mono ?_
 rintro e w1 ⟨bv,rfl,hbv,hb1⟩
 have HB1:=Qh (Below.next HB0.out hb1)
 have HF1:=Qh (HF0.out.below hb1)
 have HBV:=Qh (hbv.low1.mono (A':=fun x=>(w.heap.size<x)∧x<w1.heap.size) (fun x hx=>⟨by have:=hx.1;simp at this;omega,hx.2⟩))
 have HFz:=Qh (C7 w1 0 0 (.slice none 0 0))
 have HBz:=Qh (below_alloc w1 (.cells (frCs 0 0 (.slice none 0 0)) 101))
 have hone:=hbv.one
 simp only [frCs] at HFz HBz
 have hsz:=HF1.out.lt
 clear hbv hb1 HB0 HF0 HD
 go_wp2_with (with_reducible refine wpList_store_fr rfl (.tmp 6) (.tmp 12) rfl w1.heap.size 0 0 (k:Int) (s:Int) (.slice none 0 0) bv rfl rfl HFz.out hone ?_)
 intro w2 hf2 ht2
 have HF2:=Qh hf2
 have HB2:=Qh (Al (HB1.out.trans (HBz.out.mono HB1.out.size)) ht2 (fun x hx=>by have:=HB1.out.size;omega) (by have:=HB1.out.size;have:=HBz.out.size;omega))
 have HFr:=Qh (show Ck w2 w.heap.size 0 0 (.slice none 0 0) by
  unfold Ck
  rw [ht2.block _ (Nat.lt_of_lt_of_le hsz HBz.out.size) (by omega)]
  exact HF1.out.below HBz.out)
 have HV2:=Qh ((HBV.out.below HBz.out).turned ht2 (fun x hx he=>by have:=hx.2;omega))
 have c0:w2.cell? ⟨w1.heap.size,0,none⟩=some (.int .i64 (k:Int)):=HF2.out.c0
 clear hf2 ht2 HB1 HF1 HBV HFz HBz
 generalize w1.heap.size=g at*
 rcases he0:(e0 != 0) with _ | _
 ·have he00:e0=0:=by simpa using he0
  subst he00
  rcases hk:((k:Int) != (kind:Int)) with _ | _
  ·have HK:=Qh (show k=kind by simp at hk;omega)
   rcases hz:((sz:Int) != (l.length:Int)) with _ | _
   ·have HZ:=Qh (show sz=l.length by simp at hz;omega)
    have HE:=Qh (show Bv l kind=(⟨k,s,body⟩,0) by rw [HW.out];simp [HK.out,HZ.out])
    go_wp2_with (first | (with_reducible refine wpList_load_fr rfl (.tmp 6) rfl g (k:Int) (s:Int) bv rfl HF2.out ?_) | (with_reducible refine wpList_store_fr rfl (.tmp 4) (.tmp 32) rfl w.heap.size 0 0 (k:Int) (s:Int) (.slice none 0 0) bv rfl rfl HFr.out hone ?_))
    intro w3 hf3 ht3
    have HF3:=Qh hf3
    have HB3:=Qh (Al HB2.out ht3 (fun x hx=>by omega) HB2.out.size)
    have HV3:=Qh ((HV2.out.turned ht3 (fun x hx he=>by have:=hx.1;omega)).mono (A':=fun x=>w.heap.size≤x) (fun x hx=>by have:=hx.1;omega))
    clear hf3 ht3
    go_wp2
    refine π (v:= .tuple #[frV k s bv,.int .i64 0]) (Jg rfl _ _ w.heap.size k s bv _ rfl rfl HF3.out) rfl ⟨_,by rw [HE.out],by rw [HE.out];exact HV3.out,HB3.out⟩
   ·have HE:=Qh (show Bv l kind=(Jv,63) by rw [HW.out,γ (fun h=>h rfl),ζ (.inr (by simp at hz;omega))])
    go_wp2_with (with_reducible refine wpList_store_fr rfl (.tmp 4) (.tmp 31) rfl w.heap.size 0 0 0 0 (.slice none 0 0) (.slice none 0 0) rfl rfl HFr.out rfl ?_)
    intro w3 hf3 ht3
    have HF3:=Qh hf3
    have HB3:=Qh (Al HB2.out ht3 (fun x hx=>by omega) HB2.out.size)
    clear hf3 ht3
    go_wp2
    refine π (v:= .tuple #[frV 0 0 (.slice none 0 0),.int .i64 63]) (Jg rfl _ _ w.heap.size 0 0 (.slice none 0 0) _ rfl rfl HF3.out) rfl ⟨_,by rw [HE.out];rfl,by rw [HE.out];exact Ex _ _,HB3.out⟩
  ·have HE:=Qh (show Bv l kind=(Jv,63) by rw [HW.out,γ (fun h=>h rfl),ζ (.inl (by simp at hk;omega))])
   go_wp2_with (with_reducible refine wpList_store_fr rfl (.tmp 4) (.tmp 31) rfl w.heap.size 0 0 0 0 (.slice none 0 0) (.slice none 0 0) rfl rfl HFr.out rfl ?_)
   intro w3 hf3 ht3
   have HF3:=Qh hf3
   have HB3:=Qh (Al HB2.out ht3 (fun x hx=>by omega) HB2.out.size)
   clear hf3 ht3
   go_wp2
   refine π (v:= .tuple #[frV 0 0 (.slice none 0 0),.int .i64 63]) (Jg rfl _ _ w.heap.size 0 0 (.slice none 0 0) _ rfl rfl HF3.out) rfl ⟨_,by rw [HE.out];rfl,by rw [HE.out];exact Ex _ _,HB3.out⟩
 ·have HE:=Qh (show Bv l kind=(Jv,e0) by rw [HW.out];rw [ζ (show e0≠0 by simpa using he0)])
  go_wp2_with (with_reducible refine wpList_store_fr rfl (.tmp 4) (.tmp 18) rfl w.heap.size 0 0 0 0 (.slice none 0 0) (.slice none 0 0) rfl rfl HFr.out rfl ?_)
  intro w3 hf3 ht3
  have HF3:=Qh hf3
  have HB3:=Qh (Al HB2.out ht3 (fun x hx=>by omega) HB2.out.size)
  clear hf3 ht3
  go_wp2
  refine π (v:= .tuple #[frV 0 0 (.slice none 0 0),.int .i64 e0]) (Jg rfl _ _ w.heap.size 0 0 (.slice none 0 0) _ rfl rfl HF3.out) rfl ⟨_,by rw [HE.out];rfl,by rw [HE.out];exact Ex _ _,HB3.out⟩
def frsGo:Nat→List UInt8→Nat→List (Nat×Frm)
 | 0,_,_=>[]
 | n+1,b,at_=>if at_<b.length∧(decF (b.drop at_)).2.2=0 then (at_,(decF (b.drop at_)).1)::frsGo n b (at_+(decF (b.drop at_)).2.1) else []
def frs (b:List UInt8):List (Nat×Frm):=frsGo b.length b 0
theorem Ii {b:List UInt8} (h:(decF b).2.2=0):(decF b).2.1=(decF b).1.body.length+20∧(decF b).1.body.length≤16384∧(decF b).2.1≤b.length∧1≤(decF b).1.k∧(decF b).1.k≤7∧(decF b).1.s≤1099511627776:=by
 unfold decF at h ⊢
 split at h
 ·rename_i h1;exact absurd h h1
 ·rename_i h1
  rw [γ h1]
  have hp:=peekF_fine (b:=b) (by simpa using h1)
  split at h
  ·exact absurd h (by decide)
  ·rename_i h2
   rw [γ h2]
   split at h
   ·exact absurd h (by decide)
   ·rename_i h3
    rw [γ h3]
    simp only [Θ,Ξ]
    omega
theorem frsGo_step {n:Nat} {b:List UInt8} {p:Nat} (h1:p<b.length) (h2:(decF (b.drop p)).2.2=0):frsGo (n+1) b p=(p,(decF (b.drop p)).1)::frsGo n b (p+(decF (b.drop p)).2.1):=by rw [frsGo,ζ ⟨h1,h2⟩]
theorem frsGo_end {b:List UInt8} {p:Nat} (h1:b.length≤p): ∀ n,frsGo n b p=[]
 | 0=>rfl
 | n+1=>by rw [frsGo,γ (by omega)]
theorem frsGo_bad {b:List UInt8} {p:Nat} (h2:(decF (b.drop p)).2.2≠0): ∀ n,frsGo n b p=[]
 | 0=>rfl
 | n+1=>by rw [frsGo,γ (fun h=>h2 h.2)]
structure Plc where
 pos:Nat
 sz:Nat
 f:Frm
def pcCs (p:Plc) (v:Value):Array Value:= #[.int .i64 (p.pos:Int),.int .i64 (p.sz:Int),.int .i64 (p.f.k:Int),.int .i64 (p.f.s:Int),v]
@[reducible] def pcV (p : Plc) (v : Value) : Value := .agg #[.int .i64 (p.pos : Int), .int .i64 (p.sz : Int), .int .i64 (p.f.k : Int), .int .i64 (p.f.s : Int), v]
def Jf (xs:List (Plc×Value)):List Value:=xs.flatMap fun x=>(pcCs x.1 x.2).toList
theorem pcCells_snoc (xs:List (Plc×Value)) (x:Plc×Value):Jf (xs++[x])=Jf xs++(pcCs x.1 x.2).toList:=by simp [Jf]
theorem pcCells_at: ∀ (xs:List (Plc×Value)) (i:Nat) (x:Plc×Value),xs[i]? =some x→ ∀ (j:Nat) u,(pcCs x.1 x.2)[j]? =some u→(Jf xs)[i*5+j]? =some u
 | [],i,x,h=>by simp at h
 | y::ys,0,x,h=>by
  intro j u hj
  simp at h;subst h
  have hl:j<5:=by have:=(δ.1 hj).1;simpa [pcCs] using this
  unfold Jf
  rw [List.flatMap_cons,Nat.zero_mul,Nat.zero_add,List.getElem?_append_left (by simpa [pcCs] using hl)]
  simpa using hj
 | y::ys,i+1,x,h=>by
  intro j u hj
  have:=pcCells_at ys i x (by simpa using h) j u hj
  unfold Jf at this ⊢
  rw [List.flatMap_cons,List.getElem?_append_right (by simp [pcCs];omega)]
  rw [←this]
  congr 1
  simp [pcCs];omega
def Jn (A:Nat→Prop) (w:World) (v:Value) (ps:List Plc):Prop:=
 ∃ oa cap,v= .slice oa ps.length cap∧ps.length≤cap∧cap≤maxLen∧(ps≠ []→ ∃ b off,oa=some ⟨b,off,none⟩∧A b∧ ∀ (i:Nat) p,ps[i]? =some p→ ∃ dv,w.rangeAt b (off+i*5) (pcCs p dv).toList∧Ag A w dv p.f.body)
theorem Jn.below {A:Nat→Prop} {w w':World} {v:Value} {ps:List Plc} (h:Jn A w v ps) (hb:Below w.heap.size w w'):Jn A w' v ps:=by
 obtain⟨oa,cap,h1,h2,h3,h4⟩:=h
 refine⟨oa,cap,h1,h2,h3,fun hn=> ?_⟩
 obtain⟨b,off,e,ha,hc⟩:=h4 hn
 refine⟨b,off,e,ha,fun i p hp=> ?_⟩
 obtain⟨dv,h5,h6⟩:=hc i p hp
 exact⟨dv,Ax h5 hb,h6.below hb⟩
theorem Jn.mono {A A':Nat→Prop} {w:World} {v:Value} {ps:List Plc} (h:Jn A w v ps) (hA: ∀ k,A k→A' k):Jn A' w v ps:=by
 obtain⟨oa,cap,h1,h2,h3,h4⟩:=h
 refine⟨oa,cap,h1,h2,h3,fun hn=> ?_⟩
 obtain⟨b,off,e,ha,hc⟩:=h4 hn
 refine⟨b,off,e,hA b ha,fun i p hp=> ?_⟩
 obtain⟨dv,h5,h6⟩:=hc i p hp
 exact⟨dv,h5,h6.mono hA⟩
theorem Jn.shape {A:Nat→Prop} {w:World} {v:Value} {ps:List Plc} (h:Jn A w v ps): ∃ oa cap,v= .slice oa ps.length cap∧ps.length≤cap∧cap≤9223372036854775807∧
  ∀ (i:Nat) p,ps[i]? =some p→ ∃ b off,oa=some ⟨b,off,none⟩∧A b∧ ∃ dv,w.rangeAt b (off+i*5) (pcCs p dv).toList∧Ag A w dv p.f.body:=by
 obtain⟨oa,cap,rfl,h2,h3,h4⟩:=h
 refine⟨oa,cap,rfl,h2,by unfold maxLen at h3;omega,fun i p hp=> ?_⟩
 obtain⟨b,off,rfl,ha,h6⟩:=h4 (by rintro rfl;simp at hp)
 exact⟨b,off,rfl,ha,h6 i p hp⟩
def Ip (w:World) (B:Nat) (v:Value) (xs:List (Plc×Value)):Prop:=
 w.ownsRow B 103 5 v xs.length (Jf xs)∧ ∀ x∈xs,Ag (fun k=>B≤k∧k<w.heap.size∧v.ownBlock≠some k) w x.2 x.1.f.body
theorem pcOwn_nil (w:World) (B:Nat):Ip w B (.slice none 0 0) []:=⟨⟨rfl,.inl ⟨rfl,rfl⟩⟩,fun _ h=>by cases h⟩
theorem Ag.turned' {A S:Nat→Prop} {w w':World} {v:Value} {l:List UInt8} (h:Ag A w v l) (ht:Turned S w w') (hS: ∀ k,A k→k<w.heap.size→ ¬ S k):Ag A w' v l:=by
 obtain⟨oa,cap,h1,h2,h3⟩:=h
 refine⟨oa,cap,h1,h2,fun hn=> ?_⟩
 obtain⟨b,off,e,ha,hc⟩:=h3 hn
 refine⟨b,off,e,ha,fun i x hx=> ?_⟩
 have:=hc i x hx
 have hlt:b<w.heap.size:=by
  unfold World.cell? at this
  rcases Nat.lt_or_ge b w.heap.size with h | h
  ·exact h
  ·rw [Array.getElem?_eq_none h] at this;simp at this
 unfold World.cell? at this ⊢
 rw [ht.block b hlt (hS b ha hlt)]
 exact this
theorem Ip.turned {S:Nat→Prop} {w w':World} {B:Nat} {v:Value} {xs:List (Plc×Value)} (h:Ip w B v xs) (ht:Turned S w w') (hS: ∀ k,S k→k<B∨w.heap.size≤k):Ip w' B v xs:=by
 refine⟨⟨h.1.1,?_⟩,fun x hx=>(Ag.turned' (h.2 x hx) ht (fun k hk hlt hs=>by have:=hS k hs;omega)).mono fun k hk=>⟨hk.1,Nat.lt_of_lt_of_le hk.2.1 ht.size,hk.2.2⟩⟩
 rcases h.1.2 with hn | ⟨g,cap,cur,rfl,hb1,hg,rest⟩
 ·exact .inl hn
 ·have hlt:=(δ.1 hg).1
  exact .inr ⟨g,cap,cur,rfl,hb1,by rw [ht.block _ hlt (fun hs=>by have:=hS _ hs;omega)];exact hg,rest⟩
theorem Ip.below {w w':World} {B:Nat} {v:Value} {xs:List (Plc×Value)} (h:Ip w B v xs) (hb:Below w.heap.size w w'):Ip w' B v xs:=
 h.turned (S:=fun _=>False) (Turned.below hb) (fun _ h=>h.elim)
theorem Ag.kept {A:Nat→Prop} {w w':World} {B:Nat} {v:Value} {l:List UInt8} (h:Ag A w v l) (hk:Dj B w w'):Ag A w' v l:=by
 obtain⟨oa,cap,h1,h2,h3⟩:=h
 refine⟨oa,cap,h1,h2,fun hn=> ?_⟩
 obtain⟨b,off,e,ha,hc⟩:=h3 hn
 exact⟨b,off,e,ha,fun i x hx=>hk.cell (hc i x hx)⟩
theorem Ip.kept {w w':World} {B B':Nat} {v:Value} {xs:List (Plc×Value)} (h:Ip w B v xs) (hk:Dj B' w w'):Ip w' B v xs:=by
 refine⟨⟨h.1.1,?_⟩,fun x hx=>((h.2 x hx).kept hk).mono fun k hk'=>⟨hk'.1,Nat.lt_of_lt_of_le hk'.2.1 hk.size,hk'.2.2⟩⟩
 rcases h.1.2 with hn | ⟨g,cap,cur,rfl,hb1,hg,rest⟩
 ·exact .inl hn
 ·exact .inr ⟨g,cap,cur,rfl,hb1,hk.blk hg,rest⟩
theorem Ip.pcIn {A:Nat→Prop} {w:World} {B:Nat} {v:Value} {xs:List (Plc×Value)} (h:Ip w B v xs) (hA: ∀ k,B≤k→A k):Jn A w v (xs.map (·.1)):=by
 by_cases hn:xs=[]
 ·subst hn
  rcases h.1.2 with⟨rfl,_⟩ | ⟨g,cap,cur,rfl,_,_,h1,h2,_⟩
  ·exact⟨none,0,rfl,ξ _,by decide,fun h=>absurd rfl h⟩
  ·exact⟨_,cap,rfl,h1,h2,fun h=>absurd rfl h⟩
 ·obtain⟨g,cap,rfl,hB,_,h1,h2,h3⟩:=B8 h.1 (Ψ.2 hn)
  refine⟨_,cap,by rw [List.length_map],by rw [List.length_map];exact h1,h2,fun _=>⟨g,0,rfl,hA g hB,fun i p hp=> ?_⟩⟩
  rw [List.getElem?_map] at hp
  obtain⟨x,hx,rfl⟩:=Option.map_eq_some_iff.1 hp
  exact⟨x.2,fun j u hj=>by rw [Nat.zero_add];exact h3 _ _ (pcCells_at xs i x hx j u (by simpa using hj)),(h.2 x (List.mem_of_getElem? hx)).mono fun k hk=>hA k hk.1⟩
theorem pcInfo:(Tryz.prog.info? 103).map (·.size)=some 5:=by kernel_rfl
def zeroPc:Value:= .agg #[.int .i64 0,.int .i64 0,.int .i64 0,.int .i64 0,.slice none 0 0]
theorem infoPc:(Tryz.prog.info? 103).map (fun i=>(i.zero,i.size,i.bytes))=some (some zeroPc,5,56):=by kernel_rfl
theorem F6 {P:Program} (w:World) (base:Nat) (t ty e:TypeId) (i:TypeInfo) (z:Value) (size bytes:Nat) (ht:P.underlying t=some (.slice e)) (hi:P.info? e=some i) (hz:i.zero=some z)
  (hsize:i.size=size) (hby:i.bytes=bytes) (hzs:z.cells.size=size) (hsz:0<size) (v:Value) (n:Nat) (xs:List Value) (hown:w.ownsRow base e size v n xs)
  (a:Addr) (m c:Nat) (news:List Value) (hl:news.length=m*size) (hnews: ∀ j u,news[j]? =some u→w.cell? (a.add j)=some u) (h1: ∀ u∈news,u.oneCell'=true)
  (h63:n+m≤maxLen) (hbytes:(n+m)*bytes≤140737488355328) (hbase:base≤w.heap.size) (hm:0<m):
  ∃ v' w',(Builtin.append_ #[t,t] ty #[v,.slice (some a) m c]).run P w= .ok v' w'∧w'.ownsRow base e size v' (n+m) (xs++news)∧w.grownBy w' v.ownBlock∧(v'.ownBlock=v.ownBlock∨v'.ownBlock=some w.heap.size):=by
 obtain⟨v',w',hr,h2,h3,_⟩:=run_append_own (P:=P) w base t ty e i z size bytes ht hi hz hsize hby hzs hsz v n xs hown a m c news hl hnews h1 h63 hbytes hbase
 refine⟨v',w',hr,h2,h3,?_⟩
 subst hsize
 subst hby
 have hsmall:n+m≤9223372036854775807:=by simp only [maxLen] at h63;omega
 rcases hown.2 with⟨rfl,rfl⟩ | ⟨g,cap,cur,rfl,hbg,hg,hnc,hcm,hcs,htake⟩
 ·have h:=run_append_nil (P:=P) w t ty e i z ht hi hz a m c news hl hnews (by omega) (by omega) (by have hb:=hbytes;simp only [Nat.zero_add] at hb;omega)
  rw [hr] at h
  injection h with h _
  right;rw [h];rfl
 ·by_cases hroom:n+m≤cap
  ·have hfit:n*i.size+news.length≤cur.size:=by rw [hl,hcs,←Nat.add_mul];exact Nat.mul_le_mul_right _ hroom
   have h:=run_append_room (P:=P) w t ty e i ht hi g n cap cur hg a m c news hl hnews h1 hroom hfit
   rw [hr] at h
   injection h with h _
   left;rw [h];rfl
  ·have holds: ∀ j u,xs[j]? =some u→w.cell? ((⟨g,0,none⟩:Addr).add j)=some u:=hown.cells (g:=g) rfl
   have h:=run_append_grow (P:=P) w t ty e i z ht hi hz ⟨g,0,none⟩ n cap xs hown.1 holds a m c news hl hnews (by omega) (by omega) (growslice_fits (by omega) hbytes)
   rw [hr] at h
   injection h with h _
   right;rw [h];rfl
theorem wpList_append_ownB {P:Program} (w:World) {ops:Array Oper} {rest:List Oper} {o:Oper} {a:Act} {Q:Exit→Act→World→Prop} (hgd:o.guard=none) (s x:Operand) (t:TypeId)
  (ho:o.op= .call {callee:= .builtin .append,args:= #[s,x],argTypes:= #[t,t]})
  (base:Nat) (e:TypeId) (i:TypeInfo) (z:Value) (size bytes:Nat) (ht:P.underlying t=some (.slice e)) (hi:P.info? e=some i) (hz:i.zero=some z)
  (hsize:i.size=size) (hby:i.bytes=bytes) (hzs:z.cells.size=size) (hsz:0<size)
  (v:Value) (n:Nat) (xs:List Value) (hs:a.eval s=v) (hown:w.ownsRow base e size v n xs)
  (ad:Addr) (m c:Nat) (news:List Value) (hx:a.eval x= .slice (some ad) m c) (hl:news.length=m*size) (hnews: ∀ j u,news[j]? =some u→w.cell? (ad.add j)=some u) (h1: ∀ u∈news,u.oneCell'=true)
  (h63:n+m≤maxLen) (hbytes:(n+m)*bytes≤140737488355328) (hbase:base≤w.heap.size) (hm:0<m)
  (h: ∀ v' w',w'.ownsRow base e size v' (n+m) (xs++news)→w.grownBy w' v.ownBlock→(v'.ownBlock=v.ownBlock∨v'.ownBlock=some w.heap.size)→wpList P ops Q rest (a.put o.dst v') w'):wpList P ops Q (o::rest) a w:=
 wpList_plain hgd fun K hK=>by
  obtain⟨v',w',hr,h2,h3,h4⟩:=F6 (P:=P) w base t o.type e i z size bytes ht hi hz hsize hby hzs hsz v n xs hown ad m c news hl hnews h1 h63 hbytes hbase hm
  unfold Oper.wp execOp
  simp only [ho,resolve,invoke,builtin,Sem.run_bind,Sem.run_pure,Result.andThen_ok,List.map_toArray,List.map_cons,List.map_nil,hs,hx,hr]
  exact hK _ _ (h v' w' h2 h3 h4)
theorem wpList_appPl {ops:Array Oper} {rest:List Oper} {o:Oper} {a:Act} {Q:Exit→Act→World→Prop} {w:World} (hgd:o.guard=none) (s y:Operand) (ho:o.op= .call {callee:= .builtin .append,args:= #[s,y],argTypes:= #[89,89]}) {B:Nat} {v:Value} {xs:List (Plc×Value)} {p:Plc} {dv:Value}
  (hs:a.eval s=v) (hy:a.eval y= .slice (some ⟨w.heap.size,0,none⟩) 1 1) (hown:Ip w B v xs) (hB:B≤w.heap.size) (hd:Ag (fun k=>B≤k∧k<w.heap.size∧v.ownBlock≠some k) w dv p.f.body) (hl:xs.length+1≤1000000000)
  (h: ∀ v' w',Ip w' B v' (xs++[(p,dv)])→Below B w w'→Turned (fun k=>v.ownBlock=some k) w w'→v'.oneCell'=true→wpList Tryz.prog ops Q rest (a.put o.dst v') w'):wpList Tryz.prog ops Q (o::rest) a (w.alloc (.cells #[.int .i64 (p.pos:Int),.int .i64 (p.sz:Int),.int .i64 (p.f.k:Int),.int .i64 (p.f.s:Int),dv] 103)):=by
 obtain⟨i0,hi,hz0,hz1,hz2⟩:=info_parts infoPc
 have hb:=below_alloc w (.cells #[.int .i64 (p.pos:Int),.int .i64 (p.sz:Int),.int .i64 (p.f.k:Int),.int .i64 (p.f.s:Int),dv] 103)
 have h1d:dv.oneCell'=true:=by obtain⟨_,_,e,_,_⟩:=hd;rw [e];rfl
 refine wpList_append_ownB _ hgd s y 89 ho B 103 i0 zeroPc 5 56 Tryz.underlying89 hi hz0 hz1 hz2 rfl (by decide) v xs.length (Jf xs) hs (own_later hown.1 hb) ⟨w.heap.size,0,none⟩ 1 1 (pcCs p dv).toList hy rfl (fun j u hj=> ?_) (fun u hu=> ?_) (by unfold maxLen;omega) (by omega) (μ hB hb.size) (by decide) ?_
 ·rw [Bc,Nat.zero_add,World.cell?_alloc_new]
  simpa [pcCs] using hj
 ·simp [pcCs] at hu;rcases hu with rfl | rfl | rfl | rfl | rfl
  ·rfl
  ·rfl
  ·rfl
  ·rfl
  ·exact h1d
 ·intro v' w' hown' hg hnew
  have hb2:=Bf (own_later hown.1 hb) (μ hB hb.size) hg
  have hrow: ∀ (x:Value) (l:List UInt8),Ag (fun k=>B≤k∧k<w.heap.size∧v.ownBlock≠some k) w x l→Ag (fun k=>B≤k∧k<w'.heap.size∧v'.ownBlock≠some k) w' x l:=fun x l hx=>by
   obtain⟨oa,cap,e1,e2,e3⟩:=hx.below hb
   refine⟨oa,cap,e1,e2,fun hn=> ?_⟩
   obtain⟨b,off,e4,ha,hc⟩:=e3 hn
   refine⟨b,off,e4,⟨ha.1,Nat.lt_of_lt_of_le ha.2.1 (μ hb.size hg.size),fun e=> ?_⟩,fun i u hu=>hg.cell (hc i u hu) fun e=>ha.2.2 e.symm⟩
   have:=ha.2.1
   rcases hnew with h | h
   ·rw [h] at e;exact ha.2.2 e
   ·rw [h] at e
    have e':=ψ e
    have:=hb.size
    omega
  have hone:v'.oneCell'=true:=by obtain⟨_,_,e,_⟩:=Ac hown';rw [e];rfl
  refine h v' w' ⟨?_,fun x hx=> ?_⟩ ((hb.mono hB).trans hb2) ⟨hg.os.trans hb.os,hg.tape.trans hb.tape,hg.output.trans hb.output,μ hb.size hg.size,fun k hk hne=> ?_⟩ hone
  ·rw [η,pcCells_snoc]
   exact hown'
  ·rcases List.mem_append.1 hx with hx | hx
   ·exact hrow _ _ (hown.2 x hx)
   ·simp at hx;rw [hx];exact hrow _ _ hd
  ·rw [hg.block k (Nat.lt_of_lt_of_le hk hb.size) (fun e=>hne e.symm)]
   exact hb.block k hk
attribute [local go_sem] Oper.semAt_some
def EachKeep (g:Nat) (v:Value) (b:List UInt8) (W:World):Prop:=W.cell? ⟨g,0,none⟩=some v∧A2 W v b∧NibTab W
abbrev FrX:=Nat×Frm×Value
def frEnc (x:FrX):Array Value:= #[.int .i64 (x.1:Int),frV (x.2.1.k:Int) (x.2.1.s:Int) x.2.2]
def Gb (xs:List FrX):List (Nat×Frm):=xs.map fun x=>(x.1,x.2.1)
def FrR (b:List UInt8) (pre:List FrX) (x:FrX) (Wo W:World):Prop:=Gb (pre++[x]) <+: frs b∧Ag (fun k=>Wo.heap.size≤k∧k<W.heap.size) W x.2.2 x.2.1.body∧x.2.1.body.length≤16384∧x.1≤9223372036854775807∧x.2.1.k≤7∧x.2.1.s≤1099511627776
theorem Gg (xs:List FrX) (x:FrX):Gb (xs++[x])=Gb xs++[(x.1,x.2.1)]:=by simp [Gb]
theorem Dj.ofBelow {B:Nat} {W W':World} (h:Below W.heap.size W W'):Dj B W W':=⟨h.os,h.tape,h.output,h.size,fun k _ hk _=>(h.block k (δ.1 hk).1).trans hk⟩
theorem each_any (oa:Option Addr) (n cap:Nat) (w:World):Calls Tryz.prog 64 #[.slice oa n cap] w fun e w'=>e= .returned (.func (.func 99) #[] #[.pointer (some ⟨w.heap.size,0,none⟩)])∧w'=w.alloc (.cells #[.slice oa n cap] 39):=by
 have hmk: ∀ (fn:Fn) (first cap:Array Value) (W:World),(Instr.makeFunc fn first cap).run Tryz.prog W= .ok (.func fn first cap) W:=fun _ _ _ _=>rfl
 go_enter Tryz.func64,Tryz.ntmps64
 go_wp2
 go_ret
 exact⟨rfl,rfl⟩
theorem each1_seq (b:List UInt8) (oa:Option Addr) (cap g:Nat) (w:World) (Kp:World→World→Prop) (hl:b.length≤4611686018427387904) (Kd:World→Prop) (hE:Kd w) (hKE: ∀ W,Kd W→EachKeep g (.slice oa b.length cap) b W) (hKB: ∀ W W',Kd W→Below W.heap.size W W'→Kd W')
  (hK: ∀ W W',w.heap.size≤W.heap.size→Kd W→Kp W W'→Kd W'∧W.heap.size≤W'.heap.size):
  SeqR Tryz.prog 99 #[.pointer (some ⟨g,0,none⟩)] frEnc (FrR b) Kp (fun xs=>Gb xs=frs b) (fun pre=>pre≠ []∧Gb pre <+: frs b) w:=fun l J Jx W hW hJ hJx hY h0=>by
 have HE:=Qh (hKB _ _ hE hW)
 have HKE:=Qh hKE
 have HKB:=Qh hKB
 have HW:=Qh hW
 have HK:=Qh hK
 have HY:=Qh hY
 have HJ:=Qh hJ
 have H0:=Qh h0
 clear hE hK hKE hKB hY hJ hJx h0 hW
 refine callsIn_of_wp Tryz.func99 rfl trivial ?_ rfl
 simp only [Tryz.ntmps99,List.size_toArray,φ,Φ,Nat.reduceAdd,Nat.reduceSub,Array.replicate_succ,Array.replicate_zero,List.push_toArray,List.append_toArray,List.nil_append,List.cons_append]
 gi_wp2
 gi_loopw [3] (fun i wr=> ∃ (p n:Nat) (pre:List FrX),i= .int .i64 (p:Int)∧Hid (J pre wr)∧Hid (Kd wr)∧Hid (W.heap.size≤wr.heap.size)∧p≤b.length∧Hid (b.length - p≤n∧frs b=Gb pre++frsGo n b p)) (fun i _=>b.length - (intOf i).toNat)
 case atStart=>exact⟨0,b.length,[],rfl,H0,HE,Qh (ξ _),θ _,Qh ⟨by omega,rfl⟩⟩
 case round=>
  obtain⟨p,n,pre,rfl,HJr,HEr,HSr,hp,HFr⟩:=hrel
  clear H0 HE
  have c0:=(HKE.out _ HEr.out).1
  by_cases hlt:p<b.length
  ·have q1:(p:Int)<(b.length:Int):=by omega
   have hlc:b.length≤cap:=by obtain⟨_,_,e,h,_⟩:=(HKE.out _ HEr.out).2.1;simp only [Value.slice.injEq,true_and] at e;obtain⟨_,rfl⟩:=e;exact h
   have hcp: ¬ cap=p:=by omega
   have HBR:=Qh (show A2 wr (.slice (oa.map fun x=>x.add p) (b.length - p) (cap - p)) (b.drop p) by
    have h:=Gl (lo:=p) (hi:=b.length) (mx:=cap) (HKE.out _ HEr.out).2.1 (by omega) (ξ _) hlc
    rw [List.take_length] at h
    simpa [sliced,hcp] using h)
   clear hlc
   have HDV:=Qh (fun oa' cap' (hv:A2 wr (.slice oa' (b.length - p) cap') (b.drop p))=>Ia (b.drop p) _ wr hv (by rw [Ξ];omega) (HKE.out _ HEr.out).2.2)
   have HFN:=Qh (@Ii (b.drop p))
   have HST:=Qh (fun h2=> @frsGo_step (n - 1) b p hlt h2)
   have HBD:=Qh (fun h2=> @frsGo_bad b p h2 n)
   obtain⟨r,hr⟩: ∃ r,r=decF (b.drop p):=⟨_,rfl⟩
   rw [←hr] at HDV HFN HST HBD
   clear hr
   obtain⟨⟨k,s,body⟩,sz,e0⟩:=r
   unfold DecPost at HDV
   gi_wp2_with fail
   refine⟨trivial,(callsIn_wide.2 (HDV.out _ _ HBR.out)).mono ?_⟩
   rintro e w2 ⟨bv,rfl,hbv,hb2⟩
   have HB2:=Qh hb2
   have HBV:=Qh hbv.low1
   obtain⟨ob,bcap,rfl,hbl,_⟩:=hbv
   have HB3:=Qh (hb2.trans ((below_alloc w2 (.cells (frCs (k:Int) (s:Int) (.slice ob body.length bcap)) 101)).mono hb2.size))
   have HF3:=Qh (C7 w2 (k:Int) (s:Int) (.slice ob body.length bcap))
   have HV3:=Qh (HBV.out.below (below_alloc w2 (.cells (frCs (k:Int) (s:Int) (.slice ob body.length bcap)) 101)))
   simp only [frCs] at HB3 HF3 HV3
   clear hb2 HBR HDV
   rcases he0:(e0 != 0) with _ | _
   ·have he00:e0=0:=by simpa using he0
    subst he00
    obtain⟨hz,hbl2,hzl,hk1,hk7,hs1⟩:=HFN.out rfl
    have HFS:=Qh (HST.out rfl)
    obtain⟨n',hn'⟩: ∃ n',n=n'+1:=⟨n - 1,by have:=HFr.out.1;omega⟩
    have HN:=Qh hn'
    have HZ:=Qh hz
    rw [Ξ] at hzl
    have hps:p+sz≤b.length:=by omega
    have hwp:IntKind.i64.wrap ((p:Int)+(sz:Int))=((p+sz:Nat):Int):=by rw [κ];omega
    have HPX:=Qh (show Gb (pre++[(p,⟨k,s,body⟩,.slice ob body.length bcap)]) <+: frs b by
     rw [HFr.out.2,HN.out,Gg]
     have h:=HFS.out
     rw [HN.out,Nat.add_sub_cancel] at h
     rw [h]
     exact(List.prefix_append_right_inj _).2 ⟨_,rfl⟩)
    have HR:=Qh (show FrR b pre (p,⟨k,s,body⟩,.slice ob body.length bcap) wr (w2.alloc (.cells #[.int .i64 (k:Int),.int .i64 (s:Int),.slice ob body.length bcap] 101)) from
     ⟨HPX.out,HV3.out.mono fun x hx=>⟨by have:=hx.1;omega,by have:=hx.2;simp;omega⟩,hbl2,by show p≤_;omega,hk7,hs1⟩)
    have HS3:=Qh (μ HSr.out HB3.out.size)
    have HE3:=Qh (HKB.out _ _ HEr.out HB3.out)
    have HW3:=Qh (μ HW.out.size HS3.out)
    have c00:=HF3.out.c0
    have c01:=HF3.out.c1
    have c02:=HF3.out.c2
    have hy0:=HY.out pre (p,⟨k,s,body⟩,.slice ob body.length bcap) wr _ HJr.out HSr.out (Dj.ofBelow HB3.out) HR.out
    obtain⟨fn,tmps,assign,body',hy,hR⟩:=hy0
    simp only [frEnc] at hy
    clear hz hzl hn' HFN HST HBD hbl
    gi_wp2
    refine hR.mono ?_
    rintro e W3 (⟨rfl,hJ3,hk3⟩ | ⟨rfl,hJx3⟩)
    ·obtain⟨hE3,hs3⟩:=HK.out _ _ HW3.out HE3.out hk3
     have HE4:=Qh hE3
     have HS4:=Qh (μ HS3.out hs3)
     have HJ4:=Qh hJ3
     clear hE3 hs3 hJ3 hk3 hy hR HE3 c00 c01 c02 HF3 HV3 HB3 HBV
     gi_wp2
     go_roundw
     case rel=>exact⟨p+sz,n',pre++[(p,⟨k,s,body⟩,.slice ob body.length bcap)],by go_num,HJ4,HE4,HS4,hps,Qh ⟨by have:=HFr.out.1;have:=HN.out;have:=HZ.out;omega,by rw [HFr.out.2,HN.out,Gg];have h:=HFS.out;rw [HN.out,Nat.add_sub_cancel] at h;rw [h,List.append_assoc];rfl⟩⟩
     case measure=>have:=HZ.out;simp [intOf];omega
    ·gi_wp2
     refine π (results_none rfl _ _ _) rfl ?_
     exact⟨⟨_,rfl⟩,.inr ⟨_,⟨by simp,HPX.out⟩,hJx3⟩⟩
   ·have HFE:=Qh (show Gb pre=frs b by rw [HFr.out.2,HBD.out (by simpa using he0),List.append_nil])
    have HJ3:=Qh (HJ.out _ _ _ HJr.out (Dj.ofBelow HB3.out))
    clear HF3 HV3 HBV HB3 HFN HST HBD
    gi_wp2
    refine⟨fun f h=>(by cases h),?_⟩
    gi_wp2
    refine π (results_none rfl _ _ _) rfl ?_
    exact⟨⟨_,rfl⟩,.inl ⟨_,HFE.out,HJ3.out⟩⟩
  ·obtain rfl:p=b.length:=by omega
   have HFE:=Qh (show Gb pre=frs b by rw [HFr.out.2,frsGo_end (ξ _),List.append_nil])
   gi_wp2
   go_end0
   exact⟨⟨_,rfl⟩,.inl ⟨_,HFE.out,HJr.out⟩⟩
def Eu (w:World) (g:Nat) (p:Plc) (v:Value):Prop:=w.heap[g]? =some (.cells (pcCs p v) 103 (0,0))
theorem Eu.lt {w:World} {g:Nat} {p:Plc} {v:Value} (h:Eu w g p v):g<w.heap.size:=(δ.1 h).1
theorem Eu.cell {w:World} {g:Nat} {p:Plc} {v:Value} (h:Eu w g p v) (j:Nat):w.cell? ⟨g,j,none⟩=(pcCs p v)[j]? :=cell_of_row w g j _ _ _ h
theorem pcCs_all (p:Plc) (v:Value) (h:v.oneCell'=true):(pcCs p v).all (·.oneCell')=true:=
 Array.all_eq_true_iff_forall_mem.2 (by
  intro u hu
  simp only [pcCs,List.mem_toArray,Γ,List.not_mem_nil,or_false] at hu
  rcases hu with rfl | rfl | rfl | rfl | rfl<;>first | rfl | assumption)
theorem run_load_plc {w:World} {g:Nat} {p:Plc} {v:Value} (hE:Eu w g p v):(loadVar 103 ⟨g,0,none⟩).run Tryz.prog w= .ok (pcV p v) w:=
 run_loadVar_row (P:=Tryz.prog) w g 103 103 (pcCs p v) (0,0) _ hE Tryz.underlying103 rfl pcInfo
theorem wpList_load_plc {ops:Array Oper} {rest:List Oper} {o:Oper} {a:Act} {w:World} {Q:Exit→Act→World→Prop} (hgd:o.guard=none) (x:Operand) (ho:o.op= .load 103 x)
  (g:Nat) (p:Plc) (v:Value) (hx:a.eval x= .pointer (some ⟨g,0,none⟩)) (hE:Eu w g p v)
  (h:wpList Tryz.prog ops Q rest (a.put o.dst (pcV p v)) w):wpList Tryz.prog ops Q (o::rest) a w:=
 wpList_load_row hgd 103 x ho g hx 103 (pcCs p v) (0,0) _ hE Tryz.underlying103 rfl pcInfo h
theorem results_plc1 {fn:Func} {r:Tmp} (h:fn.results= #[.cell r 103]) (tmps:Array Value) (w:World) (g:Nat) (p:Plc) (v:Value)
  (hr:tmps.getD r undef= .pointer (some ⟨g,0,none⟩)) (hE:Eu w g p v):(results fn tmps).run Tryz.prog w= .ok (pcV p v) w:=by
 have hl:=run_load_plc hE
 have hr':tmps[r]?.getD undef= .pointer (some ⟨g,0,none⟩):=by simpa using hr
 simp [results,h,hr',asAddr,hl]
theorem placed_any (pos z k s:Nat) (body:List UInt8) (oa:Option Addr) (cap:Nat) (w:World) (hl:body.length≤16384) (hz:Hid (z=body.length+20)):
  Calls Tryz.prog 65 #[.int .i64 (pos:Int),frV (k:Int) (s:Int) (.slice oa body.length cap)] w fun e w'=>e= .returned (pcV ⟨pos,z,⟨k,s,body⟩⟩ (.slice oa body.length cap))∧Below w.heap.size w w':=by
 have HB:=Qh (Below.next (below_alloc w (.cells (frCs (k:Int) (s:Int) (.slice oa body.length cap)) 101)) (below_alloc _ (.cells #[.int .i64 0,.int .i64 0,.int .i64 0,.int .i64 0,.slice none 0 0] 103)))
 have HF:=Qh ((C7 w (k:Int) (s:Int) (.slice oa body.length cap)).below (below_alloc _ (.cells #[.int .i64 0,.int .i64 0,.int .i64 0,.int .i64 0,.slice none 0 0] 103)))
 have HZ:=Qh (σ (w.alloc (.cells (frCs (k:Int) (s:Int) (.slice oa body.length cap)) 101)) (.cells #[.int .i64 0,.int .i64 0,.int .i64 0,.int .i64 0,.slice none 0 0] 103))
 rw [show (w.alloc (.cells (frCs (k:Int) (s:Int) (.slice oa body.length cap)) 101)).heap.size=w.heap.size+1 by simp] at HZ
 have HS:=Qh (fun W=>frameSize_any body.length W hl)
 rw [←hz.out] at HS
 simp only [frCs] at HB HF HZ
 go_enter Tryz.func65,Tryz.ntmps65
 go_wp2_with fail
 generalize (w.alloc (.cells #[.int .i64 (k:Int),.int .i64 (s:Int),.slice oa body.length cap] 101)).alloc (.cells #[.int .i64 0,.int .i64 0,.int .i64 0,.int .i64 0,.slice none 0 0] 103)=W1 at*
 have HS1:=Qh (show w.heap.size+2≤W1.heap.size by have:=(δ.1 HZ.out).1;omega)
 have HFB:=Qh (fun W (h:Below (w.heap.size+1) W1 W)=>(show Ck W w.heap.size (k:Int) (s:Int) (.slice oa body.length cap) by unfold Ck;rw [h.block _ (by omega)];exact HF.out))
 refine ω (S:=fun w'=>Below (w.heap.size+1) W1 w') (by kernel_rfl) ((below_drewN' W1 1).mono (by have:=HS1.out;omega)) (fun hHeld=> ?_)
 have FX1:=Qh (fun(wF:World) (hSw:(fun w'=>Below (w.heap.size+1) W1 w') wF)=>((HFB.out _ hSw).c2))
 refine tf FX1 0 rfl ?_
 refine tf FX1 1 rfl ?_
 refine tf FX1 2 rfl ?_
 refine tf FX1 3 rfl ?_
 clear FX1
 refine tkl 5 w.heap.size 0 [.int .i64 (k:Int),.int .i64 (s:Int),.slice oa body.length cap] rfl rfl (fun w' h j u hu=>by rw [Nat.zero_add,cell_of_row w' _ j _ _ _ (HFB.out _ h)];simpa [frCs] using hu) Tryz.underlying101 rfl frInfo ?_
 simp only [pA,pB,pC,pD]
 refine Rd 4 rfl fun K hK=> ?_
 go_simp
 go_at_call 100
 refine(HS.out _).mono ?_
 rintro e w1 ⟨rfl,rfl⟩
 go_wp2_with fail
 refine hK.out _ _ hHeld (fun hHeld=> ?_)
 clear hK K
 refine tq 6 rfl ?_
 refine Rd 7 rfl fun K hK=> ?_
 rw [ζ (by kernel_rfl)]
 have HZ2:=Qh (show (W1.drew).heap[w.heap.size+1]? =some (.cells #[.int .i64 0,.int .i64 0,.int .i64 0,.int .i64 0,.slice none 0 0] 103 (0,0)) from HZ.out)
 refine wp_store_row 103 (.tmp 4) (.tmp 11) rfl (w.heap.size+1) (pcCs ⟨pos,z,⟨k,s,body⟩⟩ (.slice oa body.length cap)) rfl rfl 103 #[.int .i64 0,.int .i64 0,.int .i64 0,.int .i64 0,.slice none 0 0] HZ2.out pcInfo rfl (pcCs_all _ _ rfl) ?_
 refine hK.out _ _ (Az ((below_drewN' W1 1).mono (by have:=HS1.out;omega)) (ξ _) _) (fun _=> ?_)
 clear hK K
 refine Λ (by kernel_rfl) ?_ _
 go_wp2
 refine π (v:=pcV ⟨pos,z,⟨k,s,body⟩⟩ (.slice oa body.length cap)) (results_plc1 rfl _ _ (w.heap.size+1) ⟨pos,z,⟨k,s,body⟩⟩ _ rfl ?_) rfl ⟨rfl,?_⟩
 ·exact setRow_heap _ _ _ _ _ _ HZ2.out
 ·exact Az (HB.out.trans ((below_drewN' W1 1).mono (by have:=HS1.out;omega))) (by omega) _
attribute [local go_sem] Oper.semAt_some
theorem frsGo_len: ∀ (n:Nat) (b:List UInt8) (p:Nat),(frsGo n b p).length≤n
 | 0,_,_=>ξ _
 | n+1,b,p=>by
  rw [frsGo]
  split
  ·have:=frsGo_len n b (p+(decF (b.drop p)).2.1)
   simp only [φ];omega
  ·exact θ _
theorem frs_len (b:List UInt8):(frs b).length≤b.length:=frsGo_len _ _ _
theorem frsGo_mem: ∀ (n:Nat) (b:List UInt8) (p:Nat) (x:Nat×Frm),x∈frsGo n b p→x.1+x.2.body.length+20≤b.length∧x.2.body.length≤16384
 | 0,_,_,x=>by intro h;cases h
 | n+1,b,p,x=>by
  intro h
  rw [frsGo] at h
  split at h
  ·rename_i hc
   rcases Γ.1 h with rfl | h
   ·have:=Ii hc.2
    rw [Ξ] at this
    simp only
    omega
   ·exact frsGo_mem n b _ x h
  ·cases h
theorem frs_mem {b:List UInt8} {x:Nat×Frm} (h:x∈frs b):x.1+x.2.body.length+20≤b.length∧x.2.body.length≤16384:=frsGo_mem _ _ _ _ h
def lastEnd (d:Nat):List (Nat×Frm)→Nat
 | []=>d
 | x::r=>lastEnd (x.1+x.2.body.length+20) r
theorem lastEnd_snoc: ∀ (xs:List (Nat×Frm)) (d:Nat) (x:Nat×Frm),lastEnd d (xs++[x])=x.1+x.2.body.length+20
 | [],_,_=>rfl
 | _::r,_,x=>lastEnd_snoc r _ x
theorem lastEnd_le {b:List UInt8}: ∀ (xs:List (Nat×Frm)) (d:Nat),d≤b.length→(∀ x∈xs,x.1+x.2.body.length+20≤b.length)→lastEnd d xs≤b.length
 | [],_,h,_=>h
 | x::r,_,_,h2=>lastEnd_le r _ (h2 x List.mem_cons_self) fun y hy=>h2 y (List.mem_cons_of_mem _ hy)
def plcs (b0:Nat) (xs:List (Nat×Frm)):List Plc:=xs.map fun x=>⟨b0+x.1,x.2.body.length+20,x.2⟩
def plX (b0:Nat) (pre:List FrX):List (Plc×Value):=pre.map fun x=>(⟨b0+x.1,x.2.1.body.length+20,x.2.1⟩,x.2.2)
theorem plX_snoc (b0:Nat) (pre:List FrX) (x:FrX):plX b0 (pre++[x])=plX b0 pre++[(⟨b0+x.1,x.2.1.body.length+20,x.2.1⟩,x.2.2)]:=by simp [plX]
theorem plX_fst (b0:Nat) (pre:List FrX):(plX b0 pre).map (·.1)=plcs b0 (Gb pre):=by simp [plX,plcs,Gb]
def scanAll (b:List UInt8):List Plc×Nat×Int:=
 (plcs 0 (frs b),lastEnd 0 (frs b),if lastEnd 0 (frs b)=b.length then 0 else (decF (b.drop (lastEnd 0 (frs b)))).2.2)
theorem Fi {S:Nat→Prop} {B:Nat} {W W':World} (ht:Turned S W W') (hS: ∀ k o,B≤k→S k→W.heap[k]? =some o→o.isCells=true):KeepsFrom B W W':=
 ⟨ht.size,fun k o hB hk ho=>(ht.block k (δ.1 hk).1 (fun hs=>by have:=hS k o hB hs hk;rw [ho] at this;cases this)).trans hk⟩
theorem Turned.kept {S:Nat→Prop} {B:Nat} {X W W':World} (ht:Turned S X W) (hk:Dj B W W') (hB:X.heap.size≤B):Turned S X W':=
 ⟨hk.os.trans ht.os,hk.tape.trans ht.tape,hk.output.trans ht.output,μ ht.size hk.size,fun k hlt hs=>by
  have h1:=ht.block k hlt hs
  rcases hx:X.heap[k]? with _ | o
  ·rw [Array.getElem?_eq_getElem hlt] at hx;cases hx
  ·rw [hx] at h1;exact hk.block k o h1 (.inl (by omega))⟩
def ScI (B g5 g6 b0:Nat) (b:List UInt8) (X:World) (pre:List FrX) (W:World):Prop:=
 ∃ v,W.heap[g5]? =some (.cells #[v] 89 (0,0))∧W.heap[g6]? =some (.cells #[.int .i64 ((b0+lastEnd 0 (Gb pre):Nat):Int)] 3 (0,0))∧Ip W B v (plX b0 pre)∧Gb pre <+: frs b∧Turned (fun k=>k=g5∨k=g6) X W
theorem ScI.kept {B g5 g6 b0:Nat} {b:List UInt8} {X:World} (hB:X.heap.size≤B):Ha B (ScI B g5 g6 b0 b X):=fun _ _ _ ⟨v,h1,h2,h3,h4,h5⟩ hk=>⟨v,hk.blk h1,hk.blk h2,h3.kept hk,h4,h5.kept hk hB⟩
def ScK (B g5 g6:Nat) (W W':World):Prop:=Turned (fun k=>k=g5∨k=g6∨B≤k) W W'
theorem ScK.trans {B g5 g6:Nat} {A C D:World} (h:ScK B g5 g6 A C) (k:ScK B g5 g6 C D):ScK B g5 g6 A D:=Turned.trans h k fun _ h=> .inl h
theorem ScK.put {B g5 g6:Nat} (W:World) (l:Nat) (o o':Obj) (hl:B≤l) (_:W.heap[l]? =some o) (_:o.isCells=false):ScK B g5 g6 W (W.putObj l o'):=
 ⟨rfl,rfl,rfl,by simp,fun k _ hk=>World.putObj_heap_other (by intro e;subst e;exact hk (.inr (.inr hl)))⟩
def iCells (vs:List Nat):List Value:=vs.map fun(u:Nat)=>Value.int .i64 (u:Int)
def OwnI (w:World) (B:Nat) (v:Value) (vs:List Nat):Prop:=w.ownsRow B 3 1 v vs.length (iCells vs)
theorem OwnI.later {w w':World} {B:Nat} {v:Value} {vs:List Nat} (h:OwnI w B v vs) (hb:Below w.heap.size w w'):OwnI w' B v vs:=own_later h hb
theorem ownI_nil (w:World) (B:Nat):OwnI w B (.slice none 0 0) []:=⟨rfl,.inl ⟨rfl,rfl⟩⟩
theorem OwnI.at {w:World} {B:Nat} {v:Value} {vs:List Nat} (h:OwnI w B v vs) (hn:0<vs.length): ∃ g cap,v= .slice (some ⟨g,0,none⟩) vs.length cap∧vs.length≤cap∧B≤g∧ ∀ (i:Nat) u,vs[i]? =some u→w.cell? ⟨g,i,none⟩=some (.int .i64 (u:Int)):=by
 obtain⟨g,cap,e,hB,_,h1,_,h3⟩:=B8 h hn
 exact⟨g,cap,e,h1,hB,fun i u hu=>h3 i _ (by rw [iCells,List.getElem?_map,hu];rfl)⟩
theorem infoI64:(Tryz.prog.info? 3).map (fun i=>(i.zero,i.size,i.bytes))=some (some (.int .i64 0),1,8):=by kernel_rfl
theorem wpList_appI1 {ops:Array Oper} {rest:List Oper} {o:Oper} {a:Act} {Q:Exit→Act→World→Prop} {w:World} (hgd:o.guard=none) (s y:Operand) (ho:o.op= .call {callee:= .builtin .append,args:= #[s,y],argTypes:= #[63,63]}) {B:Nat} {v:Value} {us:List Nat} {p N:Nat} {pv:Int}
  (hs:a.eval s=v) (hN:N=w.heap.size) (hy:a.eval y= .slice (some ⟨N,0,none⟩) 1 1) (hown:OwnI w B v us) (hB:B≤w.heap.size) (h1:pv=(p:Int)) (hl:us.length≤100000)
  (h: ∀ v' w',OwnI w' B v' (us++[p])→Below B w w'→w.heap.size≤w'.heap.size→wpList Tryz.prog ops Q rest (a.put o.dst v') w'):wpList Tryz.prog ops Q (o::rest) a (w.alloc (.cells #[.int .i64 pv] 3)):=by
 subst h1 hN
 obtain⟨i0,hi,hz0,hz1,hz2⟩:=info_parts infoI64
 have hb:=below_alloc w (.cells #[.int .i64 (p:Int)] 3)
 refine wpList_append_own _ hgd s y 63 ho B 3 i0 (.int .i64 0) 1 8 Tryz.underlying63 hi hz0 hz1 hz2 rfl (by decide) v us.length (iCells us) hs (own_later hown hb) ⟨w.heap.size,0,none⟩ 1 1 [.int .i64 (p:Int)] hy rfl (fun j u hj=> ?_) (fun u hu=> ?_) (by unfold maxLen;omega) (by omega) (μ hB hb.size) ?_
 ·rw [Bc,Nat.zero_add,World.cell?_alloc_new]
  simpa using hj
 ·simp at hu;rcases hu with rfl;rfl
 ·intro v' w' hown' hg _
  refine h v' w' ?_ ((hb.mono hB).trans (Bf (own_later hown hb) (μ hB hb.size) hg)) (μ hb.size hg.size)
  unfold OwnI
  rw [η,show iCells (us++[p])=iCells us++[.int .i64 (p:Int)] by simp [iCells]]
  exact hown'
theorem wpList_cut_lU {ops:Array Oper} {rest:List Oper} {o:Oper} {a:Act} {w U:World} {Q:Exit→Act→World→Prop} (hgd:o.guard=none) (x y:Operand) (ho:o.op= .slice 39 x (some y) none none) (oa:Option Addr) (cap n:Nat) (l:List UInt8) (hx:a.eval x= .slice oa l.length cap) (hy:a.eval y= .int .i64 (n:Int))
  (hv:A2 U (.slice oa l.length cap) l) (hn:n≤l.length) (h: ∀ oa' cap',A2 U (.slice oa' (l.length - n) cap') (l.drop n)→wpList Tryz.prog ops Q rest (a.put o.dst (.slice oa' (l.length - n) cap')) w):wpList Tryz.prog ops Q (o::rest) a w:=by
 have hv':=hv
 obtain⟨_,c',e,hl',_⟩:=hv'
 simp only [Value.slice.injEq,true_and] at e
 obtain⟨rfl,rfl⟩:=e
 have hb:=Gl (lo:=n) (hi:=l.length) (mx:=cap) hv hn (ξ _) hl'
 rw [List.take_length] at hb
 refine wpList_plain hgd fun K hK=> ?_
 unfold Oper.wp execOp
 simp only [ho,hx,hy,Option.map_some,Option.map_none,Fl,J8 oa l.length cap n hn,Sem.run_bind,Sem.run_pure,Result.andThen_ok]
 exact hK _ _ (h _ _ hb)
def unnumsV:Nat→List UInt8→List Nat→Option (List Nat×List UInt8)
 | 0,b,vs=>some (vs,b)
 | n+1,b,vs=>if (decV b).2.2≠0∨2199023255552<(decV b).1 then none else unnumsV n (b.drop (decV b).2.1) (vs++[(decV b).1])
theorem unnums_stop {n:Nat} {b:List UInt8} {vs:List Nat} (h:(decV b).2.2≠0∨2199023255552<(decV b).1):unnumsV (n+1) b vs=none:=by rw [unnumsV,ζ h]
theorem Gj {n:Nat} {b:List UInt8} {vs:List Nat} (h: ¬ ((decV b).2.2≠0∨2199023255552<(decV b).1)):unnumsV (n+1) b vs=unnumsV n (b.drop (decV b).2.1) (vs++[(decV b).1]):=by rw [unnumsV,γ h]
theorem unnums_len: ∀ {n:Nat} {b:List UInt8} {vs:List Nat} {r:List Nat×List UInt8},unnumsV n b vs=some r→r.1.length=vs.length+n∧r.2.length≤b.length
 | 0,b,vs,r=>by
  intro h
  simp only [unnumsV,Option.some.injEq] at h
  subst h
  exact⟨rfl,ξ _⟩
 | n+1,b,vs,r=>by
  intro h
  by_cases hc:(decV b).2.2≠0∨2199023255552<(decV b).1
  ·rw [unnums_stop hc] at h;cases h
  ·rw [Gj hc] at h
   have:=unnums_len h
   simp only [η,φ,Φ,Ξ] at this
   omega
theorem unnums_le: ∀ {n:Nat} {b:List UInt8} {vs:List Nat} {r:List Nat×List UInt8},unnumsV n b vs=some r→(∀ u∈vs,u≤2199023255552)→ ∀ u∈r.1,u≤2199023255552
 | 0,b,vs,r=>by
  intro h hv
  simp only [unnumsV,Option.some.injEq] at h
  subst h
  exact hv
 | n+1,b,vs,r=>by
  intro h hv
  by_cases hc:(decV b).2.2≠0∨2199023255552<(decV b).1
  ·rw [unnums_stop hc] at h;cases h
  ·rw [Gj hc] at h
   refine unnums_le h fun u hu=> ?_
   rcases List.mem_append.1 hu with hu | hu
   ·exact hv u hu
   ·simp at hu;omega
def UnPost (w:World) (r:Option (List Nat×List UInt8)) (e:Ending) (w':World):Prop:=Below w.heap.size w w'∧
 match r with
 | none=>e= .returned (.tuple #[.slice none 0 0,.slice none 0 0,.bool false])
 | some r=> ∃ vv rv,e= .returned (.tuple #[vv,rv,.bool true])∧OwnI w' w.heap.size vv r.1∧A2 w' rv r.2
theorem unnums_any (b:List UInt8) (v:Value) (n:Nat) (w:World) (hv:A2 w v b) (hl:b.length≤140737488355328) (hn:n≤1000):
  Calls Tryz.prog 62 #[v,.int .i64 (n:Int)] w (UnPost w (unnumsV n b [])):=by
 have HV:=Qh hv
 clear hv
 go_enter Tryz.func62,Tryz.ntmps62
 go_wp2
 go_loopw [0,7,12] (fun sv vv iv wr=> ∃ (k:Nat) (c:List UInt8) (vs:List Nat),k≤n∧iv= .int .i64 (k:Int)∧Hid (vs.length=k)∧Hid (c.length≤b.length)∧Hid (OwnI wr w.heap.size vv vs)∧Hid (A2 w sv c)∧Hid (unnumsV n b []=unnumsV (n - k) c vs)∧Hid (Below w.heap.size w wr)) (fun _ _ iv _=>n - (intOf iv).toNat)
 case atStart=>exact⟨0,b,[],θ _,rfl,Qh rfl,Qh (ξ _),Qh (ownI_nil _ _),HV,Qh rfl,Qh (τ _ _)⟩
 case round=>
  obtain⟨k,c,vs,hk,rfl,HVL,HCL,HO,HC,HU,HB⟩:=hrel
  clear HV
  obtain⟨oa,cap,hsh,hcc,_⟩:=HC.out
  subst hsh
  by_cases hlt:k<n
  ·have q1:(k:Int)<(n:Int):=by omega
   have HNK:=Qh (show n - k=(n - (k+1))+1 by omega)
   rw [HNK.out] at HU
   have HD:=Qh (F2 c _ wr (HC.out.below HB.out) (by have:=HCL.out;omega))
   have HLT:=Qh (decV_lt c)
   have HLN:=Qh (@Gn c)
   have HST:=Qh (@unnums_stop (n - (k+1)) c vs)
   have HGO:=Qh (@Gj (n - (k+1)) c vs)
   obtain⟨r,hr⟩: ∃ r,r=decV c:=⟨_,rfl⟩
   rw [←hr] at HD HLT HLN HST HGO
   clear hr HNK hcc
   obtain⟨u,n1,e1⟩:=r
   unfold VarPost at HD
   go_wp2_with fail
   refine HD.out.mono ?_
   rintro e w2 ⟨rfl,hb2⟩
   have HB2:=Qh (Below.next HB.out hb2)
   have HO2:=Qh (HO.out.later hb2)
   clear hb2 HD HO HB
   rcases he1:(e1 != 0) with _ | _
   ·have HE1:=Qh (show e1=0 by simpa using he1)
    rcases hu1:decide (2199023255552<u) with _ | _
    ·have hu2: ¬ 2199023255552<u:=ε hu1
     have t1:decide ((2199023255552:Int)<(u:Int))=false:=by simp;omega
     have hw1:IntKind.i64.wrap (u:Int)=(u:Int):=by rw [κ];omega
     have hn1:n1≤c.length:=(HLN.out HE1.out).2
     have HG:=Qh (HGO.out (by rintro(h | h);exact h HE1.out;exact hu2 h))
     have hsz:=HB2.out.size
     have hvl:vs.length≤100000:=by have:=HVL.out;omega
     have hk1:IntKind.i64.wrap ((k:Int)+1)=(k:Int)+1:=by rw [κ];omega
     clear HLN HLT HST HGO he1 hu1 hu2
     go_wp2_with (with_reducible refine wpList_appI1 (p:=u) rfl (.tmp 26) (.tmp 29) rfl rfl rfl rfl HO2.out hsz rfl hvl ?_)
     intro v' w3 ho3 hb3 hs3
     have HO3:=Qh ho3
     have HB3:=Qh (HB2.out.trans hb3)
     clear ho3 hb3 HO2 HB2 hsz
     go_wp2_with (with_reducible refine wpList_cut_lU rfl (.tmp 31) (.tmp 32) rfl oa cap n1 c rfl rfl HC.out hn1 ?_)
     intro oa' cap' hbr
     have HBR:=Qh hbr
     clear hbr
     go_wp2
     go_roundw
     case rel=>exact⟨k+1,c.drop n1,vs++[u],by omega,by go_num,Qh (by have:=HVL.out;simp;omega),Qh (by have:=HCL.out;rw [Ξ];omega),HO3,HBR,Qh (by rw [HU.out];exact HG.out),HB3⟩
     case measure=>simp [intOf];omega
    ·have hu2:2199023255552<u:=χ hu1
     have t1:decide ((2199023255552:Int)<(u:Int))=true:=by simp;omega
     have HE:=Qh (show unnumsV n b []=none by rw [HU.out];exact HST.out (.inr hu2))
     clear hu2 HLT HST HGO HLN hu1
     go_wp2
     refine π (v:= .tuple #[.slice none 0 0,.slice none 0 0,.bool false]) (by simp [results,Tryz.results62,go_sem]) rfl ⟨HB2.out,by rw [HE.out]⟩
   ·have HE:=Qh (show unnumsV n b []=none by rw [HU.out];exact HST.out (.inl (by simpa using he1)))
    clear HLT HST HGO HLN
    go_wp2
    refine π (v:= .tuple #[.slice none 0 0,.slice none 0 0,.bool false]) (by simp [results,Tryz.results62,go_sem]) rfl ⟨HB2.out,by rw [HE.out]⟩
  ·obtain rfl:k=n:=by omega
   have HE:=Qh (show unnumsV k b []=some (vs,c) by rw [HU.out,Nat.sub_self];rfl)
   clear hcc
   go_wp2
   refine π (v:= .tuple #[_,.slice oa c.length cap,.bool true]) (by simp [results,Tryz.results62,go_sem];first | rfl | skip) rfl ⟨HB.out,by rw [HE.out];exact⟨_,_,rfl,HO.out,HC.out.below HB.out⟩⟩
def rightB (num first:Int):Bool:=decide (1≤num)&&decide (num≤999999)&&decide (1≤first)&&decide (first≤1099511627777)
def hdrIn (vs:List Nat) (rest:List UInt8) (s n:Nat):Nat×Nat×Nat×Int:=
 match vs with
 | [a,c]=>if rest≠ []∨a≠s∨rightB a c=false then (0,0,0,71) else (a,c,n,0)
 | _=>(0,0,0,71)
def A6 (b:List UInt8):Nat×Nat×Nat×Int:=
 if (decF b).2.2≠0∨(decF b).1.k≠2 then (0,0,0,71)
 else match unnumsV 2 (decF b).1.body [] with
  | none=>(0,0,0,71)
  | some r=>hdrIn r.1 r.2 (decF b).1.s (decF b).2.1
theorem list2 {vs:List Nat} (h:vs.length=2): ∃ a c,vs=[a,c]:=by
 match vs,h with
 | [a,c],_=>exact⟨a,c,rfl⟩
theorem OwnI.two {w:World} {B:Nat} {v:Value} {a c:Nat} (h:OwnI w B v [a,c]): ∃ g cap,v= .slice (some ⟨g,0,none⟩) 2 cap∧2≤cap∧w.cell? ⟨g,0,none⟩=some (.int .i64 (a:Int))∧w.cell? ⟨g,1,none⟩=some (.int .i64 (c:Int)):=by
 obtain⟨g,cap,e,h1,_,h3⟩:=h.at (by simp)
 exact⟨g,cap,e,h1,h3 0 a rfl,h3 1 c rfl⟩
def HdrPost (w:World) (r:Nat×Nat×Nat×Int) (e:Ending) (w':World):Prop:=e= .returned (.tuple #[.int .i64 (r.1:Int),.int .i64 (r.2.1:Int),.int .i64 (r.2.2.1:Int),.int .i64 r.2.2.2])∧Below w.heap.size w w'
theorem hdrOf_any (l:List UInt8) (v:Value) (w:World) (hv:A2 w v l) (hl:l.length≤140737488355328) (hn:NibTab w):
  Calls Tryz.prog 35 #[v] w (HdrPost w (A6 l)):=by
 have HD:=Qh (Ia l v w hv (by omega) hn)
 have HFN:=Qh (@Ii l)
 have HH:=Qh (show A6 l=if (decF l).2.2≠0∨(decF l).1.k≠2 then (0,0,0,71) else match unnumsV 2 (decF l).1.body [] with
  | none=>(0,0,0,71)
  | some r=>hdrIn r.1 r.2 (decF l).1.s (decF l).2.1 from rfl)
 obtain⟨oa,cap,rfl,hlc,hc⟩:=hv
 obtain⟨r,hr⟩: ∃ r,r=decF l:=⟨_,rfl⟩
 rw [←hr] at HD HH HFN
 clear hc hr hn hlc
 obtain⟨⟨k,s,body⟩,sz,e0⟩:=r
 unfold DecPost at HD
 go_enter Tryz.func35,Tryz.ntmps35
 go_wp2_with fail
 refine HD.out.mono ?_
 rintro e w1 ⟨bv,rfl,hbv,hb1⟩
 have HB1:=Qh hb1
 have HBV:=Qh hbv.low1
 have HFz:=Qh (C7 w1 0 0 (.slice none 0 0))
 have HBz:=Qh (below_alloc w1 (.cells (frCs 0 0 (.slice none 0 0)) 101))
 have hone:=hbv.one
 simp only [frCs] at HFz HBz
 clear hbv hb1 HD
 go_wp2_with (with_reducible refine wpList_store_fr rfl (.tmp 6) (.tmp 15) rfl w1.heap.size 0 0 (k:Int) (s:Int) (.slice none 0 0) bv rfl rfl HFz.out hone ?_)
 intro w2 hf2 ht2
 have HF2:=Qh hf2
 have HB2:=Qh (Al (HB1.out.trans (HBz.out.mono HB1.out.size)) ht2 (fun x hx=>by have:=HB1.out.size;omega) (by have:=HB1.out.size;have:=HBz.out.size;omega))
 have HV2:=Qh (((HBV.out.below HBz.out).turned ht2 (fun x hx he=>by have:=hx.2;omega)).brow)
 have c0:w2.cell? ⟨w1.heap.size,0,none⟩=some (.int .i64 (k:Int)):=HF2.out.c0
 clear hf2 ht2 HB1 HFz HBz HBV
 generalize w1.heap.size=g at*
 rcases he0:(e0 != 0) with _ | _
 ·have he00:e0=0:=by simpa using he0
  subst he00
  rcases hk:((k:Int) != 2) with _ | _
  ·have HK:=Qh (show k=2 by simp at hk;omega)
   have hbl:body.length≤16384:=(HFN.out rfl).2.1
   have HU:=Qh (fun W (hb:A2 W bv body)=>unnums_any body bv 2 W hb (by omega) (by omega))
   have HUL:=Qh (fun r (h:unnumsV 2 body []=some r)=>unnums_len h)
   have HUM:=Qh (fun r (h:unnumsV 2 body []=some r)=>unnums_le h (fun _ h=>by cases h))
   have HH2:=Qh (show A6 l=match unnumsV 2 body [] with
    | none=>(0,0,0,71)
    | some r=>hdrIn r.1 r.2 s sz by rw [HH.out];simp [HK.out])
   obtain⟨r,hr⟩: ∃ r,r=unnumsV 2 body []:=⟨_,rfl⟩
   rw [←hr] at HU HUL HUM HH2
   clear hr HH HFN
   have c2:=HF2.out.c2
   go_wp2_with fail
   refine(HU.out w2 HV2.out).mono ?_
   rintro e w3 ⟨hb3,hpost⟩
   have HB3:=Qh (Below.next HB2.out hb3)
   have HF3:=Qh (HF2.out.below hb3)
   clear hb3 HU HB2 HF2 HV2 c0 c2
   rcases r with _ | ⟨vs,rest⟩
   ·simp only at hpost
    subst hpost
    go_wp2
    go_quiet (fail)
    go_wp2
    refine π (v:= .tuple #[.int .i64 0,.int .i64 0,.int .i64 0,.int .i64 71]) (by simp [results,Tryz.results35,go_sem]) rfl ⟨by rw [HH2.out];rfl,Below.next HB3.out (below_drewN' _ _)⟩
   ·obtain⟨vv,rv,rfl,hov,hrv⟩:=hpost
    obtain⟨a,c,hvs⟩:=list2 (by have:=(HUL.out _ rfl).1;simpa using this)
    subst hvs
    have ha:a≤2199023255552:=HUM.out _ rfl a (by simp)
    have hc:c≤2199023255552:=HUM.out _ rfl c (by simp)
    obtain⟨gv,vcap,rfl,hvc,d0,d1⟩:=hov.two
    obtain⟨ra,rcap,rfl,_,_⟩:=hrv
    have c1:=HF3.out.c1
    have HR:=Qh (fun W=>right_any (a:Int) (c:Int) W)
    have HH3:=Qh (show A6 l=if rest≠ []∨a≠s∨rightB a c=false then (0,0,0,71) else (a,c,sz,0) by rw [HH2.out];rfl)
    clear HUL HUM hov HH2
    rcases hrl:decide (0<rest.length) with _ | _
    ·have HRN:=Qh (show rest=[] by simpa using hrl)
     rcases has:((a:Int) != (s:Int)) with _ | _
     ·have HAS:=Qh (show a=s by simp at has;omega)
      rcases hri:rightB (a:Int) (c:Int) with _ | _
      ·have HG:=Qh (show A6 l=(0,0,0,71) by rw [HH3.out,ζ (.inr (.inr hri))])
       have HR2:=Qh (fun W=>HR.out W)
       rw [show (decide (1≤(a:Int))&&decide ((a:Int)≤999999)&&decide (1≤(c:Int))&&decide ((c:Int)≤1099511627777))=false from hri] at HR2
       go_wp2
       go_quiet ((go_at_call 63;exact Calls.quiet_of_same ((HR2.out _).mono fun e w1 h=>⟨h.1,h.2.symm⟩)))
       go_wp2
       refine π (v:= .tuple #[.int .i64 0,.int .i64 0,.int .i64 0,.int .i64 71]) (by simp [results,Tryz.results35,go_sem]) rfl ⟨by rw [HG.out];rfl,Below.next HB3.out (below_drewN' _ _)⟩
      ·have HG:=Qh (show A6 l=(a,c,sz,0) by rw [HH3.out,γ (by rintro(h | h | h);exact h HRN.out;exact h HAS.out;rw [hri] at h;cases h)])
       have HR2:=Qh (fun W=>HR.out W)
       rw [show (decide (1≤(a:Int))&&decide ((a:Int)≤999999)&&decide (1≤(c:Int))&&decide ((c:Int)≤1099511627777))=true from hri] at HR2
       go_wp2
       go_quiet ((go_at_call 63;exact Calls.quiet_of_same ((HR2.out _).mono fun e w1 h=>⟨h.1,h.2.symm⟩)))
       go_wp2
       go_quiet (fail)
       go_wp2
       refine π (v:= .tuple #[.int .i64 (a:Int),.int .i64 (c:Int),.int .i64 (sz:Int),.int .i64 0]) (by simp [results,Tryz.results35,go_sem]) rfl ⟨by rw [HG.out],?_⟩
       exact Below.next (Below.next HB3.out (below_drewN' _ _)) (below_drewN' _ _)
     ·have HG:=Qh (show A6 l=(0,0,0,71) by rw [HH3.out,ζ (.inr (.inl (by rintro rfl;simp at has)))])
      go_wp2
      go_quiet (fail)
      go_wp2
      refine π (v:= .tuple #[.int .i64 0,.int .i64 0,.int .i64 0,.int .i64 71]) (by simp [results,Tryz.results35,go_sem]) rfl ⟨by rw [HG.out];rfl,Below.next HB3.out (below_drewN' _ _)⟩
    ·have HG:=Qh (show A6 l=(0,0,0,71) by rw [HH3.out,ζ (.inl (by rintro rfl;simp at hrl))])
     go_wp2
     go_quiet (fail)
     go_wp2
     refine π (v:= .tuple #[.int .i64 0,.int .i64 0,.int .i64 0,.int .i64 71]) (by simp [results,Tryz.results35,go_sem]) rfl ⟨by rw [HG.out];rfl,Below.next HB3.out (below_drewN' _ _)⟩
  ·have HE:=Qh (show A6 l=(0,0,0,71) by rw [HH.out,ζ (.inr (by simp at hk;omega))])
   go_wp2
   refine π (v:= .tuple #[.int .i64 0,.int .i64 0,.int .i64 0,.int .i64 71]) (by simp [results,Tryz.results35,go_sem]) rfl ⟨by rw [HE.out];rfl,HB2.out⟩
 ·have HE:=Qh (show A6 l=(0,0,0,71) by rw [HH.out,ζ (.inl (by simpa using he0))])
  go_wp2
  refine π (v:= .tuple #[.int .i64 0,.int .i64 0,.int .i64 0,.int .i64 71]) (by simp [results,Tryz.results35,go_sem]) rfl ⟨by rw [HE.out];rfl,HB2.out⟩
theorem turned_blw {S:Nat→Prop} {B:Nat} {w0 w w':World} (hb:Below B w0 w) (ht:Turned S w w') (hS: ∀ k,S k→B≤k) (hB:B≤w.heap.size):Below B w0 w':=
 ⟨ht.os.trans hb.os,ht.tape.trans hb.tape,ht.output.trans hb.output,μ hb.size ht.size,fun k hk=>(ht.block k (by omega) (fun h=>by have:=hS k h;omega)).trans (hb.block k hk)⟩
theorem setRow_trn (w:World) (g:Nat) (cs:Array Value):Turned (fun k=>k=g) w (w.setRow g cs):=⟨rfl,rfl,rfl,by simp,fun k _ hn=>setRow_other _ _ _ _ hn⟩
structure Mk where
 s:Int
 p:Int
def mkCs (m:Mk):Array Value:= #[.int .i64 m.s,.int .i64 m.p]
@[reducible] def mkV (m : Mk) : Value := .agg #[.int .i64 m.s, .int .i64 m.p]
theorem mkInfo:(Tryz.prog.info? 135).map (·.size)=some 2:=by kernel_rfl
def Cl (w:World) (g:Nat) (m:Mk):Prop:=w.heap[g]? =some (.cells (mkCs m) 135 (0,0))
theorem Cl.lt {w:World} {g:Nat} {m:Mk} (h:Cl w g m):g<w.heap.size:=(δ.1 h).1
theorem Cl.keep {w w':World} {g B:Nat} {m:Mk} (h:Cl w g m) (hb:Below B w w') (hB:g<B):Cl w' g m:=by
 unfold Cl at *;rw [hb.block g hB];exact h
theorem Cl.below {w w':World} {g:Nat} {m:Mk} (h:Cl w g m) (hb:Below w.heap.size w w'):Cl w' g m:=h.keep hb h.lt
theorem Cl.cell {w:World} {g:Nat} {m:Mk} (h:Cl w g m) (j:Nat):w.cell? ⟨g,j,none⟩=(mkCs m)[j]? :=by
 unfold Cl at h;simp [World.cell?,h]
theorem Cl.c0 {w:World} {g:Nat} {m:Mk} (h:Cl w g m):w.cell? ⟨g,0,none⟩=some (.int .i64 m.s):=h.cell 0
theorem Cl.c1 {w:World} {g:Nat} {m:Mk} (h:Cl w g m):w.cell? ⟨g,1,none⟩=some (.int .i64 m.p):=h.cell 1
theorem E6 (w:World) (m:Mk):Cl (w.alloc (.cells (mkCs m) 135)) w.heap.size m:=σ w _
theorem Cl.row {w:World} {g:Nat} {m m':Mk} (h:Cl w g m):Cl (w.setRow g (mkCs m')) g m':=setRow_heap w g _ _ _ _ h
theorem mkCs_all (m:Mk):(mkCs m).all (·.oneCell')=true:=
 Array.all_eq_true_iff_forall_mem.2 (by
  intro u hu
  simp only [mkCs,List.mem_toArray,Γ,List.not_mem_nil,or_false] at hu
  rcases hu with rfl | rfl<;>rfl)
theorem wpList_store_mk {ops:Array Oper} {rest:List Oper} {o:Oper} {a:Act} {w:World} {Q:Exit→Act→World→Prop} (hgd:o.guard=none) (x y:Operand) (ho:o.op= .store 135 x y)
  (g:Nat) (m m':Mk) (hx:a.eval x= .pointer (some ⟨g,0,none⟩)) (hy:a.eval y=mkV m') (hE:Cl w g m)
  (h: ∀ W,Cl W g m'→Turned (fun k=>k=g) w W→wpList Tryz.prog ops Q rest (a.put o.dst undef) W):wpList Tryz.prog ops Q (o::rest) a w:=
 wpList_store_row hgd 135 x y ho g (mkCs m') hx hy 135 (mkCs m) hE mkInfo rfl (mkCs_all m') (h _ hE.row (setRow_trn _ _ _))
theorem wpList_load_mk {ops:Array Oper} {rest:List Oper} {o:Oper} {a:Act} {w:World} {Q:Exit→Act→World→Prop} (hgd:o.guard=none) (x:Operand) (ho:o.op= .load 135 x)
  (g:Nat) (m:Mk) (hx:a.eval x= .pointer (some ⟨g,0,none⟩)) (hE:Cl w g m)
  (h:wpList Tryz.prog ops Q rest (a.put o.dst (mkV m)) w):wpList Tryz.prog ops Q (o::rest) a w:=
 wpList_load_row hgd 135 x ho g hx 135 (mkCs m) (0,0) _ hE Tryz.underlying135 rfl mkInfo h
theorem wpList_load_mkAt {ops:Array Oper} {rest:List Oper} {o:Oper} {a:Act} {w:World} {Q:Exit→Act→World→Prop} (hgd:o.guard=none) (x:Operand) (ho:o.op= .load 135 x)
  (b off:Nat) (m:Mk) (hx:a.eval x= .pointer (some ⟨b,off,none⟩)) (hE:w.rangeAt b off (mkCs m).toList)
  (h:wpList Tryz.prog ops Q rest (a.put o.dst (mkV m)) w):wpList Tryz.prog ops Q (o::rest) a w:=
 wpList_load_mid hgd 135 x ho b off hx (mkCs m).toList _ hE Tryz.underlying135 rfl mkInfo h
def MkRow (w:World) (v:Value) (ms:List Mk):Prop:=
 ∃ oa cap,v= .slice oa ms.length cap∧ms.length≤cap∧cap≤9223372036854775807∧ ∀ (i:Nat) m,ms[i]? =some m→ ∃ b off,oa=some ⟨b,off,none⟩∧w.rangeAt b (off+i*2) (mkCs m).toList
theorem MkRow.below {w w':World} {v:Value} {l:List Mk} (h:MkRow w v l) (hb:Below w.heap.size w w'):MkRow w' v l:=by
 obtain⟨oa,cap,h1,h2,h3,h4⟩:=h
 exact⟨oa,cap,h1,h2,h3,fun i g hg=>by obtain⟨b,off,e,hc⟩:=h4 i g hg;exact⟨b,off,e,Ax hc hb⟩⟩
def Cs:Int→Int→List Mk→Bool
 | _,_,[]=>true
 | s,p,m::r=>if m.s≤s∨m.p≤p∨1099511627776<m.s∨1099511627776<m.p then false else Cs m.s m.p r
def By (ms:List Mk):Bool:=decide (ms.length≤512)&&Cs 0 (-1) ms
theorem marks_bad {s p:Int} {m:Mk} {r:List Mk} (h:m.s≤s∨m.p≤p∨1099511627776<m.s∨1099511627776<m.p):Cs s p (m::r)=false:=by rw [Cs,ζ h]
theorem marks_go {s p:Int} {m:Mk} {r:List Mk} (h: ¬ (m.s≤s∨m.p≤p∨1099511627776<m.s∨1099511627776<m.p)):Cs s p (m::r)=Cs m.s m.p r:=by rw [Cs,γ h]
theorem marksValid_any (ms:List Mk) (v:Value) (w:World) (hv:MkRow w v ms):
  Calls Tryz.prog 175 #[v] w fun e w'=>e= .returned (.bool (By ms))∧Below w.heap.size w w':=by
 obtain⟨oa,cap,rfl,hl1,hl2,hc⟩:=hv
 have HC:=Qh hc
 clear hc
 rcases ht:decide ((512:Int)<(ms.length:Int)) with _ | _
 ·have hle:ms.length≤512:=by simp at ht;omega
  have HV:=Qh (show By ms=Cs 0 (-1) ms by unfold By;rw [ν hle];rfl)
  have HA:=Qh (E6 w ⟨0,0⟩)
  have HB0:=Qh (below_alloc w (.cells (mkCs ⟨0,0⟩) 135))
  simp only [mkCs] at HA HB0
  go_enter Tryz.func175,Tryz.ntmps175
  go_wp2_with (with_reducible refine wpList_store_mk rfl (.tmp 3) (.tmp 9) rfl w.heap.size ⟨0,0⟩ ⟨0,-1⟩ rfl rfl HA.out ?_)
  intro w1 hm1 ht1
  have HM1:=Qh hm1
  have HB1:=Qh (turned_blw HB0.out ht1 (fun k hk=>by omega) HB0.out.size)
  clear hm1 ht1 HA HB0
  go_wp2
  go_loopw [12] (fun iv wr=> ∃ (k:Nat) (x:Mk),k≤ms.length∧iv= .int .i64 (k:Int)∧Hid (Cl wr w.heap.size x)∧Hid (By ms=Cs x.s x.p (ms.drop k))∧Hid (Below w.heap.size w wr)) (fun iv _=>ms.length - (intOf iv).toNat)
  case atStart=>exact⟨0,⟨0,-1⟩,θ _,rfl,HM1,Qh HV.out,HB1⟩
  case round=>
   clear HM1 HB1
   obtain⟨k,x,hk,rfl,HX,HE,HB⟩:=hrel
   by_cases hlt:k<ms.length
   ·obtain⟨m,hm,_,_⟩:=Kc ms k hlt
    obtain⟨b,off,rfl,hcell⟩:=HC.out k m hm
    have q1:(k:Int)<(ms.length:Int):=by omega
    have HCE:=Qh (Ax (Ax hcell HB.out) (below_alloc wr (.cells (mkCs ⟨0,0⟩) 135)))
    have HCE0:=Qh (Ax hcell HB.out)
    have HD:=Qh (drop_cons hm)
    have HN:=Qh (E6 wr ⟨0,0⟩)
    have HBN:=Qh (below_alloc wr (.cells (mkCs ⟨0,0⟩) 135))
    have HXN:=Qh (HX.out.below HBN.out)
    have hgl:=HX.out.lt
    have HBD:=Qh (@marks_bad x.s x.p m (ms.drop (k+1)))
    have HGO:=Qh (@marks_go x.s x.p m (ms.drop (k+1)))
    rw [HD.out] at HE
    have hk1:IntKind.i64.wrap ((k:Int)+1)=(k:Int)+1:=by rw [κ];omega
    clear hcell hm HD
    simp only [mkCs] at HN HBN HXN
    go_wp2_with (first | (with_reducible refine wpList_load_mkAt rfl (.tmp 14) rfl b (off+k*2) m rfl HCE0.out ?_) | (with_reducible refine wpList_store_mk rfl (.tmp 5) (.tmp 15) rfl wr.heap.size ⟨0,0⟩ m rfl rfl HN.out ?_))
    intro w2 hm2 ht2
    have HM2:=Qh hm2
    have HX2:=Qh (show Cl w2 w.heap.size x by
     unfold Cl
     rw [ht2.block _ (Nat.lt_of_lt_of_le hgl HBN.out.size) (by omega)]
     exact HXN.out)
    have HB2:=Qh (turned_blw (HB.out.trans (HBN.out.mono HB.out.size)) ht2 (fun i hi=>by have:=HB.out.size;omega) (by have:=HB.out.size;have:=HBN.out.size;omega))
    have hne: ¬ w.heap.size=wr.heap.size:=by omega
    clear hm2 ht2 HN HBN HXN HX HB HCE HCE0
    generalize wr.heap.size=g at*
    have c0:=HM2.out.c0
    have c1:=HM2.out.c1
    have d0:=HX2.out.c0
    have d1:=HX2.out.c1
    rcases t1:decide (m.s≤x.s) with _ | _
    ·rcases t2:decide (m.p≤x.p) with _ | _
     ·rcases t3:decide ((1099511627776:Int)<m.s) with _ | _
      ·rcases t4:decide ((1099511627776:Int)<m.p) with _ | _
       ·have HG:=Qh (HGO.out (by simp at t1 t2 t3 t4;omega))
        go_wp2_with (first | (with_reducible refine wpList_load_mk rfl (.tmp 5) rfl g m rfl HM2.out ?_) | (with_reducible refine wpList_store_mk rfl (.tmp 3) (.tmp 38) rfl w.heap.size x m rfl rfl HX2.out ?_))
        intro w3 hm3 ht3
        have HM3:=Qh hm3
        have HB3:=Qh (turned_blw HB2.out ht3 (fun i hi=>by omega) HB2.out.size)
        clear hm3 ht3
        go_wp2
        go_roundw
        case rel=>exact⟨k+1,m,by omega,by go_num,HM3,Qh (HE.out.trans HG.out),HB3⟩
        case measure=>simp [intOf];omega
       ·have HG:=Qh (HBD.out (by simp at t4;omega))
        go_wp2
        go_ret
        exact⟨by rw [HE.out,HG.out];rfl,HB2.out⟩
      ·have HG:=Qh (HBD.out (by simp at t3;omega))
       go_wp2
       go_ret
       exact⟨by rw [HE.out,HG.out];rfl,HB2.out⟩
     ·have HG:=Qh (HBD.out (by simp at t2;omega))
      go_wp2
      go_ret
      exact⟨by rw [HE.out,HG.out];rfl,HB2.out⟩
    ·have HG:=Qh (HBD.out (by simp at t1;omega))
     go_wp2
     go_ret
     exact⟨by rw [HE.out,HG.out];rfl,HB2.out⟩
   ·obtain rfl:k=ms.length:=by omega
    have HE2:=Qh (show By ms=true by rw [HE.out,List.drop_length];rfl)
    go_wp2
    go_ret
    exact⟨by rw [HE2.out];rfl,HB.out⟩
 ·have HV:=Qh (show By ms=false by unfold By;rw [ρ (by simp at ht;omega)];rfl)
  go_enter Tryz.func175,Tryz.ntmps175
  go_wp2
  go_ret
  exact⟨by rw [HV.out];rfl,τ _ _⟩
end Go.Proofs.YtgkdenejkcngnaaGreatDoor
