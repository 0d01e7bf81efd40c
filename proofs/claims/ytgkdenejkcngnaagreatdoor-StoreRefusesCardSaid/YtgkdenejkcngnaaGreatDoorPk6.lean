import Derived.Deep.CutRange
import Derived.Test.YtgkdenejkcngnaaGreatDoorPk5
set_option maxRecDepth 100000
set_option maxHeartbeats 8000000
namespace Go.Proofs.YtgkdenejkcngnaaGreatDoor
open Go.RowKit
section
variable {w W W' : World} {b f m : Nat} {L : List Ad} {d d' : Ab} {s : Cb} {mv sv : Value} {g : Sg}
structure PW (w W:World) (b f m:Nat) (L:List Ad) (d:Ab) (s:Cb) (mv sv:Value) (gb:Nat) (g:Sg):Prop where
 sj:SJ W b f m L d s mv sv
 sg:Dk W gb g
 tu:Turned (fun k=>k=f) w W
 lo:f<w.heap.size∧w.heap.size≤gb
theorem PW.below {gb:Nat} (h:PW w W b f m L d s mv sv gb g) (hb:Below W.heap.size W W'):PW w W' b f m L d s mv sv gb g:=
 ⟨h.sj.below hb,(hb.block _ (δ.1 h.sg).1).trans h.sg,h.tu.trans (Turned.below (S:=fun k=>k=f) hb) fun _ h=> .inl h,h.lo⟩
theorem PW.read {gb:Nat} (h:PW w W b f m L d s mv sv gb g) (h1:FsAt W' f m d' L) (h2:Turned (fun i=>i=f) W W'):PW w W' b f m L d' s mv sv gb g:=
 ⟨h.sj.read h1 h2,(h2.block _ (δ.1 h.sg).1 (by have:=h.lo;omega)).trans h.sg,h.tu.trans h2 fun _ h=> .inl h,h.lo⟩
theorem Dk.cell {gb:Nat} (h:Dk W gb g) (j:Nat):W.cell? ⟨gb,j,none⟩=(sgCs g)[j]? :=cell_of_row W gb j _ _ _ h
structure PieceIn (d:Ab) (s:Cb) (g:Sg) (x:A7) (ms:List Mk) (en cnt:Nat):Prop where
 fil:atF d.files (Aa g.num)=some x
 src:(0<g.count∧g.foot=(en:Int)∧g.count=(cnt:Int)∧ ∃ st,Ba (x.data.drop en) g=some (ms,st))∨(g.count=0∧ms=s.marks∧en=s.size∧cnt=s.count)
 le:en≤x.data.length
 rise:ms.Pairwise fun a b=>a.s<b.s
 few:ms.length≤512
 cnt:cnt≤512
 first:0≤g.first∧g.first≤1099511627777
def PieceQ (w:World) (b f m:Nat) (L:List Ad) (d:Ab) (s:Cb) (mv sv:Value) (ps:List Plc) (e:Ending) (w':World):Prop:=
 ∃ pv n,e= .returned (.tuple #[pv,.bool true])∧Jn (fun k=>w.heap.size≤k) w' pv ps∧SJ w' b f m L (rdD d n) s mv sv∧Turned (fun k=>k=f) w w'
theorem piece_any (x:A7) (ms:List Mk) (en cnt:Nat) (from_:Int) (ps:List Plc) (h:SJ w b f m L d s mv sv) (hd:d.down=false) (hp:PieceIn d s g x ms en cnt)
  (hk:(seekM ms from_=none∧cnt=0∧ps=[])∨ ∃ ks kp lf:Nat,seekM ms from_=some ⟨(ks:Int),(kp:Int)⟩∧kp≤en∧g.first+(cnt:Int) - (ks:Int)=(lf:Int)∧0<lf∧lf≤1000000∧scanRun ((x.data.drop kp).take (en - kp)) 0 ks lf=(ps,en - kp)∧ps.length=lf):
  Calls Tryz.prog 43 #[.pointer (some ⟨b,0,none⟩),sgV g,.int .i64 from_] w (PieceQ w b f m L d s mv sv ps):=by
 have hff:f<w.heap.size:=h.fs.hd.lt
 have HB0:=Qh (below_alloc w (.cells (sgCs g) 72))
 have HP:=Qh (show PW w (w.alloc (.cells (sgCs g) 72)) b f m L d s mv sv w.heap.size g from⟨h.below HB0.out,σ w _,Turned.below HB0.out,hff,ξ _⟩)
 have HPI:=Qh hp
 have HK:=Qh hk
 have HDN:=Qh hd
 have HOE:=Qh (Ek h.fs.ok hd hp.fil)
 have HXL:=Qh (show x.data.length≤67108864 from by have:=Eb (Bi hp.fil).2;have:=h.fs.ok.used;have:=h.fs.ok.room;omega)
 have HML:=Qh (mk_lt h.mks)
 have HMR:=Qh h.mks
 have HSEP:=Qh h.sep
 have hfoot:=h.fs.lt
 obtain⟨om,cm,hmv,_,_⟩:=Ac h.mks
 have HSL:=Qh (show s.size≤9223372036854775807∨True from .inr trivial)
 simp only [sgCs] at HP HB0
 clear h hp hk hd hfoot
 go_enter Tryz.func43,Tryz.ntmps43
 go_wp2_with fail
 generalize w.alloc (.cells #[.int .i64 g.num,.int .i64 g.first,.int .i64 g.count,.int .i64 g.foot] 72)=w0 at*
 refine(Gf g.num w0).mono ?_
 rintro e w1 ⟨rfl,hb1⟩
 replace HP:=Qh (HP.out.below hb1)
 clear hb1 HB0
 generalize w.heap.size=gb at*
 go_wp2_with fail
 have C2:=Qh (show w1.cell? ⟨b,2,none⟩=some mv from HP.out.sj.blk.cell 2)
 have C1:=Qh (show w1.cell? ⟨b,1,none⟩=some (.int .i64 (s.size:Int)) from HP.out.sj.blk.cell 1)
 have C0:=Qh (show w1.cell? ⟨b,0,none⟩=some (.int .i64 (s.count:Int)) from HP.out.sj.blk.cell 0)
 refine ω (S:=fun w'=>Below w1.heap.size w1 w') (by kernel_rfl) (below_drewN' w1 1) (fun hHeld=> ?_)
 have FX1:=Qh (fun(wF:World) (hSw:(fun w'=>Below w1.heap.size w1 w') wF)=>And.intro ((cell_later hSw C2.out)) (And.intro ((cell_later hSw C1.out)) ((cell_later hSw C0.out))))
 refine tf FX1 0 rfl ?_
 refine tf FX1 1 rfl ?_
 refine tf FX1 2 rfl ?_
 refine tf FX1 3 rfl ?_
 refine tf FX1 4 rfl ?_
 refine tf FX1 5 rfl ?_
 refine tf FX1 6 rfl ?_
 refine tf FX1 7 rfl ?_
 refine tf FX1 8 rfl ?_
 refine tf FX1 9 rfl ?_
 refine tf FX1 10 rfl ?_
 refine tf FX1 11 rfl ?_
 refine tf FX1 12 rfl ?_
 refine tf FX1 13 rfl ?_
 refine tf FX1 14 rfl ?_
 refine tf FX1 15 rfl ?_
 refine tf FX1 16 rfl ?_
 refine tf FX1 17 rfl ?_
 clear FX1
 replace HP:=Qh (HP.out.below hHeld)
 clear hHeld C2 C1 C0
 generalize World.drew w1=w2 at*
 refine Λ (by kernel_rfl) ?_ _
 have HGB:=Qh HP.out.lo
 have c2:w2.cell? ⟨gb,2,none⟩=some (.int .i64 g.count):=HP.out.sg.cell 2
 go_upto_if 43 with fail
 go_cut [9,10,11,12,13,14,15] from 41 to 82 (fun v9 v10 v11 v12 v13 v14 v15 wx=>v10= .int .i64 (en:Int)∧v11= .int .i64 (cnt:Int)∧Hid (MkRow wx v9 ms)∧ ∃ n,Hid (PW w wx b f m L (rdD d n) s mv sv gb g))
 case first=>
  rcases HPI.out.src with⟨h1,h2,h3,st,h4⟩ | ⟨h1,h2,h3,h4⟩
  ·have H2:=Qh h2
   have H3:=Qh h3
   have H4:=Qh h4
   have q1:decide (0<g.count)=true:=ν h1
   have c3:w2.cell? ⟨b,3,none⟩=some (.pointer (some ⟨f,0,none⟩)):=HP.out.sj.blk.cell 3
   have HSZ:=Qh (J9 w2 f m d L HP.out.sj.fs (Aa g.num))
   rw [Iu,γ (by rw [HOE.out];simp),HPI.out.fil] at HSZ
   clear h2 h3 h4
   go_wp2_with fail
   refine HSZ.out.mono ?_
   rintro e w3 ⟨rfl,hww⟩
   rw [←hww]
   clear hww HSZ c2 c3
   go_wp2_with fail
   have hbd:Below w2.heap.size w2 (World.drew w2):=below_drewN' w2 1
   replace HP:=Qh (HP.out.below hbd)
   refine ω (S:=fun w'=>w'.cell? ⟨b,3,none⟩=some (.pointer (some ⟨f,0,none⟩))∧w'.cell? ⟨gb,3,none⟩=some (.int .i64 g.foot)) (by kernel_rfl) ⟨HP.out.sj.blk.cell 3,HP.out.sg.cell 3⟩ (fun hHeld=> ?_)
   have hsub:IntKind.i64.wrap ((x.data.length:Int) - g.foot)=((x.data.length - en:Nat):Int):=by have:=HXL.out;have:=HPI.out.le;rw [H2.out,κ];omega
   have HSU:=Qh hsub
   clear hsub hbd
   generalize World.drew w2=w3 at*
   have FX2:=Qh (fun(wF:World) (hSw:(fun w'=>w'.cell? ⟨b,3,none⟩=some (.pointer (some ⟨f,0,none⟩))∧w'.cell? ⟨gb,3,none⟩=some (.int .i64 g.foot)) wF)=>And.intro ((hSw.1)) ((hSw.2)))
   refine tf FX2 0 rfl ?_
   refine tf FX2 1 rfl ?_
   refine tf FX2 2 rfl ?_
   refine tf FX2 3 rfl ?_
   refine tf FX2 4 rfl ?_
   refine tf FX2 5 rfl ?_
   refine tf FX2 6 rfl ?_
   refine tf FX2 7 rfl ?_
   refine tf FX2 8 rfl ?_
   refine tf FX2 9 rfl ?_
   clear FX2
   have FX3:=Qh (fun(wF:World) (hSw:(fun w'=>w'.cell? ⟨b,3,none⟩=some (.pointer (some ⟨f,0,none⟩))∧w'.cell? ⟨gb,3,none⟩=some (.int .i64 g.foot)) wF)=>(HSU.out))
   refine tf FX3 10 rfl ?_
   clear FX3
   have HFO:=Qh (show g.foot=(en:Int) from H2.out)
   rw [H2.out]
   have HRD:=Qh (Hn w3 f m d L HP.out.sj.fs (Aa g.num) x HOE.out HPI.out.fil en (x.data.length - en) (by have:=HPI.out.le;omega))
   rw [show (x.data.drop en).take (x.data.length - en)=x.data.drop en from by rw [←Ξ,List.take_length]] at HRD
   obtain⟨FT,hFT⟩: ∃ FT,FT=x.data.drop en:=⟨_,rfl⟩
   have HFL:=Qh (show FT.length≤67108864 from by rw [hFT,Ξ];have:=HXL.out;omega)
   rw [←hFT] at HRD H4
   clear hFT
   refine Rd 11 rfl fun K hK=> ?_
   go_simp
   refine HRD.out.mono ?_
   rintro e w4 ⟨v4,rfl,ho4,hf4,ht4⟩
   replace HP:=Qh (HP.out.read hf4 ht4)
   obtain⟨o4,c4,rfl,_,_⟩:=Ac ho4
   have HV4:=Qh ho4.brow
   clear ho4 hf4 ht4 HRD
   go_wp2_with fail
   refine hK.out _ _ ⟨HP.out.sj.blk.cell 3,by rw [←H2.out];exact HP.out.sg.cell 3⟩ (fun hHeld=> ?_)
   clear hK K
   refine tq 12 rfl ?_
   refine tq 13 rfl ?_
   refine tq 14 rfl ?_
   refine tq 15 rfl ?_
   refine tq 16 rfl ?_
   refine Λ (by kernel_rfl) ?_ _
   clear hHeld
   have HSB:=Qh HP.out.sg
   have HCL:=Qh (closing_any FT _ g w4 HV4.out (by have:=HFL.out;omega) HP.out.sj.nib)
   rw [H4.out] at HCL
   unfold ClosP at HCL
   dsimp only at HCL
   go_wp2_with (with_reducible refine wpList_load_sg rfl (.tmp 4) rfl gb 0 g rfl HSB.out.range ?_)
   refine HCL.out.mono ?_
   rintro e w5 ⟨hb5,mv5,rfl,ho5⟩
   replace HP:=Qh (HP.out.below hb5)
   have HM5:=Qh ho5.row
   clear hb5 ho5 HCL HSB HV4
   go_wp2_with fail
   have hbd:Below w5.heap.size w5 (World.drew w5):=below_drewN' w5 1
   replace HP:=Qh (HP.out.below hbd)
   replace HM5:=Qh (HM5.out.below hbd)
   refine ω (S:=fun w'=>w'.cell? ⟨gb,3,none⟩=some (.int .i64 (en:Int))∧w'.cell? ⟨gb,2,none⟩=some (.int .i64 (cnt:Int))) (by kernel_rfl) ⟨by rw [←H2.out];exact HP.out.sg.cell 3,by rw [←H3.out];exact HP.out.sg.cell 2⟩ (fun hHeld=> ?_)
   clear hbd
   generalize World.drew w5=w6 at*
   have FX4:=Qh (fun(wF:World) (hSw:(fun w'=>w'.cell? ⟨gb,3,none⟩=some (.int .i64 (en:Int))∧w'.cell? ⟨gb,2,none⟩=some (.int .i64 (cnt:Int))) wF)=>And.intro ((hSw.1)) ((hSw.2)))
   refine tf FX4 0 rfl ?_
   refine tf FX4 1 rfl ?_
   refine tf FX4 2 rfl ?_
   refine tf FX4 3 rfl ?_
   refine tf FX4 4 rfl ?_
   refine tf FX4 5 rfl ?_
   clear FX4
   refine Λ (by kernel_rfl) ?_ _
   clear hHeld
   go_wp2_with fail
   go_meet
   exact⟨rfl,rfl,HM5,_,HP⟩
  ·have q1:decide (0<g.count)=false:=ρ (by omega)
   have q2: ¬ 0<g.count:=by omega
   go_wp2_with fail
   go_meet
   refine⟨by rw [h3],by rw [h4],Qh ?_,0,Qh ?_⟩
   ·rw [h2,←hmv];exact HP.out.sj.mks.row
   ·rw [Hm HP.out.sj.fs.ok];exact HP.out
 case rest=>
  obtain⟨rfl,rfl,HMK,n,HP⟩:=hcut
  have HSK:=Qh (seek_any ms _ from_ wc HMK.out HPI.out.rise (by have:=HPI.out.few;omega))
  rcases HK.out with⟨h1,h2,h3⟩ | ⟨ks,kp,lf,h1,h2,h3,h4,h5,h6,h7⟩
  ·rw [h1] at HSK
   unfold SeekQ at HSK
   dsimp only at HSK
   have HPS:=Qh h3
   subst h2
   clear h1 h3
   go_wp2_with fail
   refine HSK.out.mono ?_
   rintro e w7 ⟨rfl,hb7⟩
   have hba:=below_alloc w7 (.cells #[.int .i64 0,.int .i64 0] 135)
   replace HP:=Qh ((HP.out.below hb7).below hba)
   clear hb7 hba HSK
   go_wp2
   go_ret2
   refine⟨_,n,rfl,?_,HP.out.sj,HP.out.tu⟩
   rw [HPS.out]
   exact⟨none,0,rfl,ξ _,by decide,fun h=>absurd rfl h⟩
  ·rw [h1] at HSK
   unfold SeekQ at HSK
   dsimp only at HSK
   have H2:=Qh h2
   have H3:=Qh h3
   have H4:=Qh h4
   have H5:=Qh h5
   have H6:=Qh h6
   have H7:=Qh h7
   clear h1 h2 h3 h4 h5 h6 h7
   go_wp2_with fail
   refine HSK.out.mono ?_
   rintro e w7 ⟨rfl,hb7⟩
   have hba:=below_alloc w7 (.cells #[.int .i64 (ks:Int),.int .i64 (kp:Int)] 135)
   have HKB:=Qh (show Cl (w7.alloc (.cells #[.int .i64 (ks:Int),.int .i64 (kp:Int)] 135)) w7.heap.size ⟨(ks:Int),(kp:Int)⟩ from σ w7 _)
   have HGK:=Qh (show w.heap.size≤w7.heap.size∧f<w7.heap.size from⟨(HP.out.below hb7).tu.size,by have:=(HP.out.below hb7).tu.size;have:=HP.out.lo;omega⟩)
   replace HP:=Qh ((HP.out.below hb7).below hba)
   clear hb7 hba HSK HMK
   go_wp2_with fail
   generalize w7.alloc (.cells #[.int .i64 (ks:Int),.int .i64 (kp:Int)] 135)=w8 at*
   generalize w7.heap.size=gk at*
   have hbd:Below w8.heap.size w8 (World.drew w8):=below_drewN' w8 1
   replace HP:=Qh (HP.out.below hbd)
   replace HKB:=Qh (HKB.out.below hbd)
   clear hbd
   refine ω (S:=fun w'=>w'.cell? ⟨b,3,none⟩=some (.pointer (some ⟨f,0,none⟩))∧w'.cell? ⟨gk,1,none⟩=some (.int .i64 (kp:Int))) (by kernel_rfl) ⟨HP.out.sj.blk.cell 3,HKB.out.c1⟩ (fun hHeld=> ?_)
   generalize World.drew w8=w9 at*
   have hsub:IntKind.i64.wrap ((en:Int) - (kp:Int))=((en - kp:Nat):Int):=by have:=HXL.out;have:=HPI.out.le;have:=H2.out;rw [κ];omega
   have HSU:=Qh hsub
   clear hsub
   have FX5:=Qh (fun(wF:World) (hSw:(fun w'=>w'.cell? ⟨b,3,none⟩=some (.pointer (some ⟨f,0,none⟩))∧w'.cell? ⟨gk,1,none⟩=some (.int .i64 (kp:Int))) wF)=>And.intro ((hSw.1)) ((hSw.2)))
   refine tf FX5 0 rfl ?_
   refine tf FX5 1 rfl ?_
   refine tf FX5 2 rfl ?_
   refine tf FX5 3 rfl ?_
   refine tf FX5 4 rfl ?_
   refine tf FX5 5 rfl ?_
   refine tf FX5 6 rfl ?_
   refine tf FX5 7 rfl ?_
   refine tf FX5 8 rfl ?_
   refine tf FX5 9 rfl ?_
   clear FX5
   have FX6:=Qh (fun(wF:World) (hSw:(fun w'=>w'.cell? ⟨b,3,none⟩=some (.pointer (some ⟨f,0,none⟩))∧w'.cell? ⟨gk,1,none⟩=some (.int .i64 (kp:Int))) wF)=>(HSU.out))
   refine tf FX6 10 rfl ?_
   clear FX6
   have HRD:=Qh (Hn w9 f m _ L HP.out.sj.fs (Aa g.num) x HOE.out HPI.out.fil kp (en - kp) (by have:=HPI.out.le;have:=H2.out;omega))
   obtain⟨B,hB⟩: ∃ B,B=(x.data.drop kp).take (en - kp):=⟨_,rfl⟩
   have HBL:=Qh (show B.length=en - kp from by rw [hB,Θ,Ξ];have:=HPI.out.le;omega)
   rw [←hB] at HRD H6
   clear hB
   refine Rd 11 rfl fun K hK=> ?_
   go_simp
   refine HRD.out.mono ?_
   rintro e w10 ⟨v10,rfl,ho10,hf10,ht10⟩
   replace HP:=Qh (HP.out.read hf10 ht10)
   replace HKB:=Qh (show Cl w10 gk ⟨(ks:Int),(kp:Int)⟩ from(ht10.block _ HKB.out.lt (by have:=HGK.out.2;omega)).trans HKB.out)
   obtain⟨o10,c10,rfl,_,_⟩:=Ac ho10
   have HV10:=Qh ho10.brow
   clear ho10 hf10 ht10 HRD
   go_wp2_with fail
   refine hK.out _ _ ⟨HP.out.sj.blk.cell 3,HKB.out.c1⟩ (fun hHeld=> ?_)
   clear hK K
   refine tq 12 rfl ?_
   refine tq 13 rfl ?_
   refine tq 14 rfl ?_
   refine tq 15 rfl ?_
   refine tq 16 rfl ?_
   refine Λ (by kernel_rfl) ?_ _
   clear hHeld
   have cfi:w10.cell? ⟨gb,1,none⟩=some (.int .i64 g.first):=HP.out.sg.cell 1
   have cks:w10.cell? ⟨gk,0,none⟩=some (.int .i64 (ks:Int)):=HKB.out.c0
   have ha1:IntKind.i64.wrap (g.first+(cnt:Int))=g.first+(cnt:Int):=by rw [κ];have:=HPI.out.first;have:=HPI.out.cnt;omega
   have ha2:IntKind.i64.wrap (g.first+(cnt:Int) - (ks:Int))=(lf:Int):=by rw [κ];have:=H3.out;have:=H5.out;omega
   have HSC:=Qh (Jk B _ 0 ks lf w10 HV10.out (by have:=HBL.out;have:=HXL.out;have:=HPI.out.le;omega) HP.out.sj.nib (θ _) H4.out H5.out)
   rw [H6.out] at HSC
   unfold RunP at HSC
   dsimp only at HSC
   go_wp2_with fail
   refine HSC.out.mono ?_
   rintro e w11 ⟨pv,rfl,hp11,hb11⟩
   have HZ10:=Qh HP.out.tu.size
   replace HP:=Qh (HP.out.below hb11)
   obtain⟨op,cp,rfl,_,_,_⟩:=hp11.shape
   have HPC:=Qh (show Jn (fun k=>w.heap.size≤k) w11 (.slice op ps.length cp) ps from hp11.mono fun k hk=>by have:=HZ10.out;omega)
   have q1:((ps.length:Int)==(lf:Int))=true:=by have:=H7.out;simp;omega
   have q2:(((en - kp:Nat):Int)==(B.length:Int))=true:=by have:=HBL.out;simp;omega
   clear hb11 hp11 HSC cfi cks ha1 ha2
   go_wp2
   go_ret2
   exact⟨_,n+(en - kp),rfl,HPC.out,by have:=HP.out.sj;rw [rdD_rdD] at this;exact this,HP.out.tu⟩
end
def Je (fs:List Fld):Nat:=match fs.getLast? with | none=>0 | some f=>f.tag
structure FldIn (f:Fld) (last:Nat):Prop where
 tag:1≤f.tag∧f.tag≤31
 up:last<f.tag
 num:f.num<18446744073709551616
 len:f.data.length≤200
theorem check_any (f:Fld) (last:Nat) (oa:Option Addr) (cap:Nat) (w:World) (h:FldIn f last):
  Calls Tryz.prog 172 #[fdV f (.slice oa f.data.length cap),.int .i64 (last:Int)] w fun e w'=>e= .returned (.int .i64 (if nz f then 0 else 22))∧Below w.heap.size w w':=by
 obtain⟨t,tx,n,l⟩:=f
 obtain⟨h1,h2,h3,h4⟩:=h
 simp only at h1 h2 h3 h4
 have t1:decide ((t:Int)<1)=false:=by simp;omega
 have t2:decide (31<(t:Int))=false:=by simp;omega
 have t3:decide ((t:Int)≤(last:Int))=false:=by simp;omega
 have HB:=Qh (below_alloc w (.cells (fdCs ⟨t,tx,n,l⟩ (.slice oa l.length cap)) 257))
 simp only [fdCs] at HB
 have HE:=Qh (show nz ⟨t,tx,n,l⟩=if tx then !(((l.length:Nat):Int)==0) else !((n:Int)==0) by
  unfold nz
  cases tx
  ·simp only [Bool.false_eq_true,if_false];rw [Bool.eq_iff_iff];simp
  ·simp only [if_true];cases l<;>simp;omega)
 have t4:decide (200<(l.length:Int))=false:=by simp;omega
 rw [HE.out]
 dsimp only [fdV]
 clear HE h1 h2 h3 h4
 generalize (t:Int)=ti at*
 generalize (last:Int)=la at*
 generalize hn:(n:Int)=ni at*
 generalize l.length=k at*
 clear hn
 rcases hk:((k:Int)==0) with _ | _
 all_goals
  rcases hz:(ni==0) with _ | _
  all_goals
   cases tx
   all_goals
    go_enter Tryz.func172,Tryz.ntmps172
    go_wp2
    go_ret
    exact⟨rfl,HB.out⟩
structure Kf (w:World) (B:Nat) (v:Value) (w':World) (v':Value) (bs:List UInt8):Prop where
 own:OwnB w' B v' bs
 tu:Turned (fun k=>v.ownBlock=some k) w w'
 bl: ∀ k,v'.ownBlock=some k→v.ownBlock=some k∨w.heap.size≤k
theorem Kf.start {w:World} {B:Nat} {v:Value} {bs:List UInt8} (h:OwnB w B v bs):Kf w B v w v bs:=⟨h,Turned.refl _ _,fun _ h=> .inl h⟩
theorem Kf.below {w w1 w2:World} {B:Nat} {v v1:Value} {bs:List UInt8} (h:Kf w B v w1 v1 bs) (hb:Below w1.heap.size w1 w2):Kf w B v w2 v1 bs:=⟨h.own.later hb,h.tu.trans (Turned.below hb) fun _ h=> .inl h,h.bl⟩
theorem Kf.then {w w1 w2:World} {B:Nat} {v v1 v2:Value} {bs bs2:List UInt8} (h:Kf w B v w1 v1 bs) (h2:Kf w1 B v1 w2 v2 bs2):Kf w B v w2 v2 bs2:=
 ⟨h2.own,h.tu.trans h2.tu h.bl,fun k hk=>by
  rcases h2.bl k hk with h3 | h3
  ·exact h.bl k h3
  ·exact .inr (μ h.tu.size h3)⟩
section
variable {ops : Array Oper} {rest : List Oper} {o : Oper} {a : Act} {Q : Exit → Act → World → Prop}
theorem wpList_appP {w w1:World} (hgd:o.guard=none) (s y:Operand) (ho:o.op= .call {callee:= .builtin .append,args:= #[s,y],argTypes:= #[39,39]}) {B:Nat} {v v1 x:Value} {bs m:List UInt8}
  (hs:a.eval s=v1) (hy:a.eval y=x) (hown:Kf w B v w1 v1 bs) (hB:B≤w.heap.size) (hx:A2 w1 x m) (hm:m≠ []) (hl:bs.length+m.length≤140737488355328)
  (h: ∀ v' w',Kf w B v w' v' (bs++m)→wpList Tryz.prog ops Q rest (a.put o.dst v') w'):wpList Tryz.prog ops Q (o::rest) a w1:=by
 obtain⟨i0,hi,hz0,hz1,hz2⟩:=info_parts infoByteB
 obtain⟨oa,cap,rfl,hlc,hc⟩:=hx
 obtain⟨b,off,rfl,hcell⟩:=hc hm
 have hp:=Ψ.2 hm
 refine wpList_append_ownB _ hgd s y 39 ho B 5 i0 (.int .u8 0) 1 1 Tryz.underlying39 hi hz0 hz1 hz2 rfl (by decide) v1 bs.length (Lib.byteCells bs) hs hown.own ⟨b,off,none⟩ m.length cap (Lib.byteCells m) hy (by simp [Lib.byteCells]) (fun j u hj=> ?_) (fun u hu=>by obtain⟨_,_,rfl⟩:=List.mem_map.1 hu;rfl) (by unfold maxLen;omega) (by omega) (μ hB hown.tu.size) hp ?_
 ·rw [Bc]
  rw [Lib.byteCells,List.getElem?_map] at hj
  obtain⟨z,hz,rfl⟩:=Option.map_eq_some_iff.1 hj
  exact hcell j z hz
 ·intro v' w' h1 hg hnew
  refine h v' w' (hown.then ⟨?_,Turned.grown hg fun _ hk=>hk,fun k hk=> ?_⟩)
  ·unfold OwnB
   rw [η,show Lib.byteCells (bs++m)=Lib.byteCells bs++Lib.byteCells m by simp [Lib.byteCells]]
   exact h1
  ·rcases hnew with e | e
   ·exact .inl (e▸hk)
   ·rw [e] at hk
    exact .inr (Nat.le_of_eq (ψ hk))
end
theorem encV_ne (n:Nat):encV n≠ []:=Ψ.1 (encV_pos n)
theorem A1.put {w w1:World} {B g:Nat} {f:Fld} {bv v v1:Value} {bs:List UInt8} (h:A1 w g f bv) (hp:Kf w B v w1 v1 bs) (hv:v.ownBlock≠some g):A1 w1 g f bv:=h.turned hp.tu hv
def PutP (w:World) (B:Nat) (v:Value) (bs:List UInt8) (e:Ending) (w':World):Prop:= ∃ v',e= .returned v'∧Kf w B v w' v' bs
theorem put_num (t n:Nat) (bs:List UInt8) (v bv:Value) (B:Nat) (w:World) (hB:B≤w.heap.size) (ho:OwnB w B v bs) (hl:bs.length≤100000) (ht:t≤31) (hn:n<18446744073709551616):
  Calls Tryz.prog 173 #[v,fdV ⟨t,false,n,[]⟩ bv] w (PutP w B v (bs++(encV (t*2)++encV n))):=by
 have HV:=Qh (show v.ownBlock≠some w.heap.size from fun e=>by have:=(World.ownsRow.lt ho _ e).2;omega)
 have hb0:=below_alloc w (.cells (fdCs ⟨t,false,n,[]⟩ bv) 257)
 have HS:=Qh (Kf.below (Kf.start ho) hb0)
 have HF0:=Qh (Cp w ⟨t,false,n,[]⟩ bv)
 have HP0:=Qh (Kf.start (ho.later hb0))
 have HE1:=Qh (Ds (t*2) (w.alloc (.cells (fdCs ⟨t,false,n,[]⟩ bv) 257)) (by omega))
 rw [show ((t*2:Nat):Int)=(t:Int)*2 by omega] at HE1
 have HE2:=Qh (fun W=>Ds n W hn)
 have HN:=Qh (show (encV (t*2)).length≤10∧(encV n).length≤10∧encV (t*2)≠ []∧encV n≠ [] from⟨Bl (by omega),Bl hn,encV_ne _,encV_ne _⟩)
 have hw1:IntKind.u64.wrap (t:Int)=(t:Int):=by rw [IntKind.wrap_u64];omega
 have hw2:IntKind.u64.wrap ((t:Int)*2)=(t:Int)*2:=by rw [IntKind.wrap_u64];omega
 have hB0:=μ hB hb0.size
 simp only [fdCs] at HF0 HP0 HE1 HS hB0
 clear ho hn ht hb0
 generalize encV (t*2)=p at*
 generalize encV n=q at*
 go_enter Tryz.func173,Tryz.ntmps173
 go_wp2_with fail
 refine HE1.out.mono ?_
 rintro e w1 ⟨v1,rfl,h1,h2⟩
 have H1:=Qh h1
 have HP1:=Qh (HP0.out.below h2)
 have hl1:bs.length+p.length≤140737488355328:=by have:=HN.out;omega
 clear h1 h2 HE1 hw1 hw2 HP0
 go_wp2_with (at_builtin;refine wpList_appP rfl _ _ rfl rfl rfl HP1.out hB0 H1.out.brow HN.out.2.2.1 hl1 ?_)
 intro v2 w2 h1
 have HP2:=Qh h1
 have c2:=(HF0.out.put h1 HV.out).c2
 have HE:=Qh (HE2.out w2)
 have hl2:(bs++p).length+q.length≤140737488355328:=by have:=HN.out;rw [η];omega
 clear h1 HP1 H1 hl1
 go_wp2_with fail
 refine HE.out.mono ?_
 rintro e w3 ⟨v3,rfl,h1,h2⟩
 have H3:=Qh h1
 have HP3:=Qh (HP2.out.below h2)
 clear h1 h2 c2 HP2
 go_wp2_with (at_builtin;refine wpList_appP rfl _ _ rfl rfl rfl HP3.out hB0 H3.out.brow HN.out.2.2.2 hl2 ?_)
 intro v4 w4 h1
 have HP4:=Qh h1
 clear h1
 go_wp2
 go_ret
 exact⟨v4,rfl,HS.out.then HP4.out⟩
theorem put_text (t:Nat) (l:List UInt8) (oa:Option Addr) (cap:Nat) (bs:List UInt8) (v:Value) (B:Nat) (w:World) (hB:B≤w.heap.size) (ho:OwnB w B v bs) (hl:bs.length≤100000) (ht:t≤31) (hn:l.length≤200) (h0:l≠ [])
  (hd:Ag (fun k=>v.ownBlock≠some k) w (.slice oa l.length cap) l):
  Calls Tryz.prog 173 #[v,fdV ⟨t,true,0,l⟩ (.slice oa l.length cap)] w (PutP w B v (bs++(encV (t*2+1)++encV l.length++l))):=by
 have HV:=Qh (show v.ownBlock≠some w.heap.size from fun e=>by have:=(World.ownsRow.lt ho _ e).2;omega)
 have hb0:=below_alloc w (.cells (fdCs ⟨t,true,0,l⟩ (.slice oa l.length cap)) 257)
 have HS:=Qh (Kf.below (Kf.start ho) hb0)
 have HF0:=Qh (Cp w ⟨t,true,0,l⟩ (.slice oa l.length cap))
 have HP0:=Qh (Kf.start (ho.later hb0))
 have HD0:=Qh (hd.below hb0)
 have HE1:=Qh (Ds (t*2+1) (w.alloc (.cells (fdCs ⟨t,true,0,l⟩ (.slice oa l.length cap)) 257)) (by omega))
 rw [show ((t*2+1:Nat):Int)=(t:Int)*2+1 by omega] at HE1
 have HE2:=Qh (fun W=>Ds l.length W (by omega))
 have HN:=Qh (show (encV (t*2+1)).length≤10∧(encV l.length).length≤10∧encV (t*2+1)≠ []∧encV l.length≠ []∧l.length≤200∧l≠ [] from⟨Bl (by omega),Bl (by omega),encV_ne _,encV_ne _,hn,h0⟩)
 have hw1:IntKind.u64.wrap (t:Int)=(t:Int):=by rw [IntKind.wrap_u64];omega
 have hw2:IntKind.u64.wrap ((t:Int)*2)=(t:Int)*2:=by rw [IntKind.wrap_u64];omega
 have hw3:IntKind.u64.wrap ((t:Int)*2+1)=(t:Int)*2+1:=by rw [IntKind.wrap_u64];omega
 have hw4:IntKind.u64.wrap (l.length:Int)=(l.length:Int):=by rw [IntKind.wrap_u64];omega
 have hB0:=μ hB hb0.size
 simp only [fdCs] at HF0 HP0 HE1 HS hB0 HD0
 clear ho hn ht hb0 hd h0
 generalize encV (t*2+1)=p at*
 generalize encV l.length=q at*
 go_enter Tryz.func173,Tryz.ntmps173
 go_wp2_with fail
 refine HE1.out.mono ?_
 rintro e w1 ⟨v1,rfl,h1,h2⟩
 have H1:=Qh h1
 have HP1:=Qh (HP0.out.below h2)
 have hl1:bs.length+p.length≤140737488355328:=by have:=HN.out;omega
 clear h1 h2 HE1 hw1 hw2 hw3 HP0
 go_wp2_with (at_builtin;refine wpList_appP rfl _ _ rfl rfl rfl HP1.out hB0 H1.out.brow HN.out.2.2.1 hl1 ?_)
 intro v2 w2 h1
 have HP2:=Qh h1
 have c3:=(HF0.out.put h1 HV.out).c3
 have HE:=Qh (HE2.out w2)
 have hl2:(bs++p).length+q.length≤140737488355328:=by have:=HN.out;rw [η];omega
 clear h1 HP1 H1 hl1
 go_wp2_with fail
 refine HE.out.mono ?_
 rintro e w3 ⟨v3,rfl,h1,h2⟩
 have H3:=Qh h1
 have HP3:=Qh (HP2.out.below h2)
 clear h1 h2 c3 HP2 hw4
 go_wp2_with (at_builtin;refine wpList_appP rfl _ _ rfl rfl rfl HP3.out hB0 H3.out.brow HN.out.2.2.2.1 hl2 ?_)
 intro v4 w4 h1
 have HP4:=Qh h1
 have c3:=(HF0.out.put h1 HV.out).c3
 have HD4:=Qh (Ag.turned HD0.out h1.tu fun k hk hs=>hk hs)
 have hl3:(bs++(p++q)).length+l.length≤140737488355328:=by have:=HN.out;simp only [η];omega
 clear h1 HP3 H3 hl2
 go_wp2_with (at_builtin;refine wpList_appP rfl _ _ rfl rfl rfl HP4.out hB0 HD4.out.brow HN.out.2.2.2.2.2 hl3 ?_)
 intro v5 w5 h1
 have HP5:=Qh h1
 clear h1 c3
 go_wp2
 go_ret
 exact⟨v5,rfl,by simpa only [List.append_assoc] using HS.out.then HP5.out⟩
theorem tlvPut_any (f:Fld) (bs:List UInt8) (v bv:Value) (B:Nat) (w:World) (hB:B≤w.heap.size) (ho:OwnB w B v bs) (hl:bs.length≤100000) (hd:Ag (fun k=>v.ownBlock≠some k) w bv f.data) (h:FldOk f):
  Calls Tryz.prog 173 #[v,fdV f bv] w (PutP w B v (bs++Hs f)):=by
 obtain⟨t,tx,n,l⟩:=f
 obtain⟨h1,h2,h3,h4,h5,h6,h7⟩:=h
 simp only at h1 h2 h4 h5 h6 h7 hd
 cases tx
 ·obtain rfl:=h7 rfl
  exact put_num t n bs v bv B w hB ho hl h2 h4
 ·obtain rfl:=h6 rfl
  obtain⟨oa,cap,rfl,h8,h9⟩:=hd
  exact put_text t l oa cap bs v B w hB ho hl h2 h5 (by simpa [nz] using h3) ⟨oa,cap,rfl,h8,h9⟩
theorem tlvEnc_any (xs:List (Fld×Value)) (v:Value) (B:Nat) (w:World) (hv:Ge w B v xs) (ho: ∀ x∈xs,FldOk x.1) (hp:xs.Pairwise fun a b=>a.1.tag<b.1.tag) (hl:xs.length≤100) (hr:(recEnc (xs.map (·.1))).length≤1024):
  Calls Tryz.prog 138 #[v] w fun e w'=> ∃ v',e= .returned (.tuple #[v',.int .i64 0])∧OwnB w' w.heap.size v' (recEnc (xs.map (·.1)))∧Below w.heap.size w w':=by
 have HSH:=Qh (Ja hv)
 have HV:=Qh hv
 have HO:=Qh ho
 have HP:=Qh hp
 obtain⟨oa,cap,rfl,_,_⟩:=Ja hv
 have HPre:=Qh (fun k=>show (recEnc ((xs.take k).map (·.1))).length≤1024 from by
  have e:recEnc (xs.map (·.1))=recEnc ((xs.take k).map (·.1))++recEnc ((xs.drop k).map (·.1)):=by
   unfold recEnc
   rw [←List.flatMap_append,←List.map_append,List.take_append_drop]
  rw [e,η] at hr
  omega)
 clear hv ho hp hr
 go_enter Tryz.func138,Tryz.ntmps138
 go_wp2
 go_loopw [4,5,11] (fun bv lv iv wr=> ∃ k:Nat,k≤xs.length∧iv= .int .i64 (k:Int)∧lv= .int .i64 (Je ((xs.take k).map (·.1)):Int)∧Hid (OwnB wr w.heap.size bv (recEnc ((xs.take k).map (·.1))))∧Hid (Below w.heap.size w wr)) (fun _ _ iv _=>xs.length - (intOf iv).toNat)
 case atStart=>exact⟨0,θ _,rfl,rfl,Qh (OwnB.nil w _),Qh (τ _ _)⟩
 case round=>
  obtain⟨k,hk,rfl,rfl,HB,HW⟩:=hrel
  by_cases hlt:k<xs.length
  ·obtain⟨x,hx,htk,hxm⟩:=Kc xs k hlt
   obtain⟨_,_,e2,_,hat⟩:=HSH.out
   simp only [Value.slice.injEq,true_and] at e2
   obtain⟨rfl,rfl⟩:=e2
   obtain⟨b,off,rfl,hcell⟩:=hat k x hx
   have q1:(k:Int)<(xs.length:Int):=by omega
   have HCE:=Qh (Ax hcell HW.out)
   have HOX:=Qh (HO.out x hxm)
   have hD0:=HV.out.2 x hxm
   obtain⟨ox,cx,ex,_,_⟩:=id hD0
   have HD:=Qh (hD0.low.below HW.out)
   have HLT:=Qh (show Je ((xs.take (k+1)).map (·.1))=x.1.tag∧recEnc ((xs.take (k+1)).map (·.1))=recEnc ((xs.take k).map (·.1))++Hs x.1 from by
    rw [htk]
    unfold Je recEnc
    simp)
   have HIN:=Qh (show FldIn x.1 (Je ((xs.take k).map (·.1))) from by
    obtain⟨a1,a2,a3,a4,a5,_⟩:=HOX.out
    refine⟨⟨a1,a2⟩,?_,a4,a5⟩
    unfold Je
    split
    ·omega
    ·rename_i f hf
     have hm:=List.mem_of_getLast? hf
     obtain⟨y,hy,rfl⟩:=List.mem_map.1 hm
     have h:=HP.out
     rw [←List.take_append_drop (k+1) xs,htk,List.append_assoc,List.pairwise_append] at h
     exact h.2.2 y hy x (by simp))
   have hk1:IntKind.i64.wrap ((k:Int)+1)=(k:Int)+1:=by rw [κ];omega
   have hlw:=HW.out.size
   have HBL:=Qh (show (recEnc ((xs.take k).map (·.1))).length≤100000 from μ (HPre.out k) (by decide))
   have HNZ:=Qh HOX.out.2.2.1
   generalize Je ((xs.take k).map (·.1))=la at*
   generalize recEnc ((xs.take k).map (·.1))=pre at*
   obtain⟨f,fv⟩:=x
   dsimp only at HCE HOX HD HLT HIN HNZ ex hD0
   have HFZ:=Qh (show A1 (wr.alloc (.cells #[.int .i64 0,.bool false,.int .u64 0,.slice none 0 0] 257)) wr.heap.size fld0 (.slice none 0 0) from Cp wr fld0 (.slice none 0 0))
   have HBZ:=Qh (below_alloc wr (.cells #[.int .i64 0,.bool false,.int .u64 0,.slice none 0 0] 257))
   have h1v:fv.oneCell'=true:=by rw [ex];rfl
   have HEX:=Qh ex
   clear hx htk hxm hcell hat hD0 ex
   go_wp2_with (first | (with_reducible refine wpList_load_fdAt rfl (.tmp 13) rfl b (off+k*4) f fv rfl HCE.out ?_) | (with_reducible refine wpList_store_fd rfl (.tmp 7) (.tmp 14) rfl wr.heap.size fld0 f (.slice none 0 0) fv rfl rfl HFZ.out h1v ?_))
   intro w3 hw3
   have HF3:=Qh (show A1 w3 wr.heap.size f fv by rw [hw3.out];exact HFZ.out.row)
   have HB3:=Qh (show Below wr.heap.size wr w3 by rw [hw3.out];exact Az HBZ.out (ξ _) _)
   clear hw3 HFZ HBZ HCE
   have HO3:=Qh (HB.out.later HB3.out)
   have HD3:=Qh (HD.out.below HB3.out)
   have HW3:=Qh (HW.out.trans (HB3.out.mono hlw))
   have hl3:=HB3.out.size
   clear HB HD HW HB3
   generalize wr.heap.size=gx at*
   have HCK:=Qh (by have:=check_any f la ox cx w3 HIN.out;rw [HNZ.out,←HEX.out] at this;exact this)
   go_wp2_with (with_reducible refine wpList_load_fd rfl (.tmp 7) rfl gx f fv rfl HF3.out ?_)
   refine HCK.out.mono ?_
   rintro e w4 ⟨rfl,hb4⟩
   have HF4:=Qh (HF3.out.below hb4)
   have HO4:=Qh (HO3.out.later hb4)
   have HD4:=Qh (HD3.out.below hb4)
   have HW4:=Qh (HW3.out.trans (hb4.mono (by omega)))
   have hl4:=hb4.size
   have c0:=HF4.out.c0
   clear hb4 HF3 HO3 HD3 HW3 HCK
   go_wp2_with (with_reducible refine wpList_load_fd rfl (.tmp 7) rfl gx f fv rfl HF4.out ?_)
   refine(tlvPut_any f pre _ fv w.heap.size w4 (by omega) HO4.out HBL.out (HD4.out.mono fun j hj he=> ?_) HOX.out).mono ?_
   ·have:=(World.ownsRow.lt HO4.out j he).1
    omega
   rintro e w5 ⟨v5,rfl,h5⟩
   have HO5:=Qh h5.own
   have HW5:=Qh (show Below w.heap.size w w5 from HW4.out.trans ⟨h5.tu.os,h5.tu.tape,h5.tu.output,h5.tu.size,fun j hj=>h5.tu.block j (by omega) fun he=>by have:=(World.ownsRow.lt HO4.out j he).1;omega⟩)
   clear h5 c0
   go_wp2
   go_roundw
   case rel=>exact⟨k+1,by omega,by go_num,by rw [HLT.out.1],Qh (by rw [HLT.out.2];exact HO5.out),HW5⟩
   case measure=>simp [intOf];omega
  ·obtain rfl:k=xs.length:=by omega
   have HLE:=Qh (HPre.out xs.length)
   rw [List.take_length] at HB HLE
   obtain⟨pre,hpre⟩: ∃ p,p=recEnc (xs.map (·.1)):=⟨_,rfl⟩
   rw [←hpre] at HB HLE
   have HPR:=Qh hpre
   clear hpre
   obtain⟨ob,cb,rfl,_,_⟩:=Ac HB.out
   have t1:decide (1024<(pre.length:Int))=false:=by have:=HLE.out;simp;omega
   go_wp2
   go_ret2
   exact⟨.slice ob pre.length cb,rfl,by rw [←HPR.out];exact HB.out,HW.out⟩
def Fo (w:World) (b:Nat) (v:Value) (n:Int):Prop:=w.heap[b]? =some (.cells #[v,.int .i64 n] 225 (0,0))
theorem Fo.lt {w:World} {b:Nat} {v:Value} {n:Int} (h:Fo w b v n):b<w.heap.size:=(δ.1 h).1
theorem Fo.c0 {w:World} {b:Nat} {v:Value} {n:Int} (h:Fo w b v n):w.cell? ⟨b,0,none⟩=some v:=by unfold Fo at h;simp [World.cell?,h]
theorem Fo.c1 {w:World} {b:Nat} {v:Value} {n:Int} (h:Fo w b v n):w.cell? ⟨b,1,none⟩=some (.int .i64 n):=by unfold Fo at h;simp [World.cell?,h]
theorem Fo.free {w:World} {b:Nat} {v:Value} {n:Int} (h:Fo w b v n) (j:Nat):w.frozen? ⟨b,j,none⟩=false:=by unfold Fo at h;simp [World.frozen?,h]
theorem Fo.turned {S:Nat→Prop} {w w':World} {b:Nat} {v:Value} {n:Int} (h:Fo w b v n) (ht:Turned S w w') (hS: ¬ S b):Fo w' b v n:=(ht.block b h.lt hS).trans h
theorem Fo.below {w w':World} {b:Nat} {v:Value} {n:Int} (h:Fo w b v n) (hb:Below w.heap.size w w'):Fo w' b v n:=(hb.block b h.lt).trans h
theorem Fo.set {w:World} {b j:Nat} {v u v':Value} {n n':Int} (h:Fo w b v n) (e:(#[v,.int .i64 n]:Array Value).setIfInBounds j u= #[v',.int .i64 n']):Fo (w.setCell ⟨b,j,none⟩ u) b v' n':=by
 unfold Fo at h ⊢
 rw [←e]
 simp only [World.setCell]
 rw [Array.getElem?_modify]
 simp [h]
structure WrAt (w:World) (b B:Nat) (v:Value) (xs:List (Fld×Value)):Prop where
 blk:Fo w b v 0
 own:Ge w B v xs
 lt:b<B
theorem WrAt.below {w w':World} {b B:Nat} {v:Value} {xs:List (Fld×Value)} (h:WrAt w b B v xs) (hb:Below w.heap.size w w'):WrAt w' b B v xs:=⟨h.blk.below hb,h.own.below hb,h.lt⟩
structure Ef (w:World) (b:Nat) (v:Value) (w':World) (v':Value):Prop where
 tu:Turned (fun k=>k=b∨v.ownBlock=some k) w w'
 bl: ∀ k,v'.ownBlock=some k→v.ownBlock=some k∨w.heap.size≤k
theorem Ef.below {w w':World} (b:Nat) (v:Value) (hb:Below w.heap.size w w'):Ef w b v w' v:=⟨Turned.below hb,fun _ h=> .inl h⟩
theorem Ef.trans {w w1 w2:World} {b:Nat} {v v1 v2:Value} (h:Ef w b v w1 v1) (h2:Ef w1 b v1 w2 v2):Ef w b v w2 v2:=
 ⟨h.tu.trans h2.tu fun k hk=>by
  rcases hk with hk | hk
  ·exact .inl (.inl hk)
  ·exact(h.bl k hk).imp .inr id,fun k hk=>by
  rcases h2.bl k hk with h3 | h3
  ·exact h.bl k h3
  ·exact .inr (μ h.tu.size h3)⟩
def WrL (w:World) (b B:Nat) (v:Value) (L:List Fld):Prop:= ∃ xs,xs.map (·.1)=L.filter nz∧WrAt w b B v xs
theorem WrL.below {w w':World} {b B:Nat} {v:Value} {L:List Fld} (h:WrL w b B v L) (hb:Below w.heap.size w w'):WrL w' b B v L:=by
 obtain⟨xs,h1,h2⟩:=h
 exact⟨xs,h1,h2.below hb⟩
def WrPost (w:World) (b B:Nat) (v:Value) (L:List Fld) (e:Ending) (w':World):Prop:=
 e= .returned (.pointer (some ⟨b,0,none⟩))∧ ∃ v',WrL w' b B v' L∧Ef w b v w' v'
theorem run_appFd {w:World} {B:Nat} {v:Value} {xs:List (Fld×Value)} {p:Fld} {dv:Value} (ty:TypeId) (hown:Ge w B v xs) (hB:B≤w.heap.size) (hd:Ag (fun k=>B≤k∧v.ownBlock≠some k) w dv p.data) (hl:xs.length+1≤1000000000):
  ∃ v' w',(Builtin.append_ #[223,223] ty #[v,.slice (some ⟨w.heap.size,0,none⟩) 1 1]).run Tryz.prog (w.alloc (.cells #[.int .i64 (p.tag:Int),.bool p.text,.int .u64 (p.num:Int),dv] 257))= .ok v' w'∧
   Ge w' B v' (xs++[(p,dv)])∧Turned (fun k=>v.ownBlock=some k) w w'∧v'.oneCell'=true∧ ∀ k,v'.ownBlock=some k→v.ownBlock=some k∨w.heap.size≤k:=by
 obtain⟨i0,hi,hz0,hz1,hz2⟩:=info_parts infoFd
 have hb:=below_alloc w (.cells #[.int .i64 (p.tag:Int),.bool p.text,.int .u64 (p.num:Int),dv] 257)
 have h1d:dv.oneCell'=true:=hd.one
 obtain⟨v',w',hr,hown',hg,hnew⟩:=F6 (P:=Tryz.prog) (w.alloc (.cells #[.int .i64 (p.tag:Int),.bool p.text,.int .u64 (p.num:Int),dv] 257)) B 223 ty 257 i0 zeroFd 4 48 Tryz.underlying223 hi hz0 hz1 hz2 rfl (by decide) v xs.length (H9 xs) (own_later hown.1 hb) ⟨w.heap.size,0,none⟩ 1 1 (fdCs p dv).toList rfl (fun j u hj=>by
  rw [Bc,Nat.zero_add,World.cell?_alloc_new]
  simpa [fdCs] using hj) (fun u hu=>by
  simp [fdCs] at hu;rcases hu with rfl | rfl | rfl | rfl
  ·rfl
  ·rfl
  ·rfl
  ·exact h1d) (by unfold maxLen;omega) (by omega) (μ hB hb.size) (by decide)
 have hrow: ∀ (x:Value) (l:List UInt8),Ag (fun k=>B≤k∧k<w.heap.size∧v.ownBlock≠some k) w x l→Ag (fun k=>B≤k∧k<w'.heap.size∧v'.ownBlock≠some k) w' x l:=fun x l hx=>
  ((hx.below hb).turned (S:=fun k=>v.ownBlock=some k) (Turned.grown hg fun _ hk=>hk) fun k hk hs=>hk.2.2 hs).mono fun k hk=>⟨hk.1,Nat.lt_of_lt_of_le hk.2.1 (μ hb.size hg.size),fun e=>by
   rcases hnew with h | h
   ·rw [h] at e;exact hk.2.2 e
   ·rw [h] at e
    have:=ψ e
    have:=hb.size
    omega⟩
 refine⟨v',w',hr,⟨?_,fun x hx=> ?_⟩,(Turned.below hb).trans (Turned.grown (S:=fun k=>v.ownBlock=some k) hg fun _ hk=>hk) fun _ h=> .inl h,?_,fun k hk=> ?_⟩
 ·rw [η,fdCells_snoc]
  exact hown'
 ·rcases List.mem_append.1 hx with hx | hx
  ·exact hrow _ _ (hown.2 x hx)
  ·simp at hx;rw [hx];exact hrow _ _ (hd.low.mono fun k hk=>⟨hk.1.1,hk.2,hk.1.2⟩)
 ·obtain⟨_,_,e,_⟩:=Ac hown';rw [e];rfl
 ·rcases hnew with h | h
  ·exact .inl (h▸hk)
  ·rw [h] at hk
   have:=ψ hk
   have:=hb.size
   exact .inr (by omega)
theorem wp_appFd {o:Oper} {a:Act} {Q:Exit→Act→World→Prop} {K:Act→World→Prop} {w:World} (s y:Operand) (ho:o.op= .call {callee:= .builtin .append,args:= #[s,y],argTypes:= #[223,223]}) {B:Nat} {v:Value} {xs:List (Fld×Value)} (p:Fld) (dv:Value)
  (hs:a.eval s=v) (hy:a.eval y= .slice (some ⟨w.heap.size,0,none⟩) 1 1) (hown:Ge w B v xs) (hB:B≤w.heap.size) (hd:Ag (fun k=>B≤k∧v.ownBlock≠some k) w dv p.data) (hl:xs.length+1≤1000000000)
  (h: ∀ v' w',Ge w' B v' (xs++[(p,dv)])→Turned (fun k=>v.ownBlock=some k) w w'→v'.oneCell'=true→(∀ k,v'.ownBlock=some k→v.ownBlock=some k∨w.heap.size≤k)→K (a.put o.dst v') w'):o.wp Tryz.prog a (w.alloc (.cells #[.int .i64 (p.tag:Int),.bool p.text,.int .u64 (p.num:Int),dv] 257)) K Q:=by
 obtain⟨v',w',hr,h1,h2,h3,h4⟩:=run_appFd o.type hown hB hd hl
 unfold Oper.wp execOp
 simp only [ho,resolve,invoke,builtin,Sem.run_bind,Sem.run_pure,Result.andThen_ok,List.map_toArray,List.map_cons,List.map_nil,hs,hy,hr]
 exact h v' w' h1 h2 h3 h4
theorem lastT_lt {fs:List Fld} {t:Nat} (h: ∀ f∈fs,f.tag<t) (ht:0<t):Je fs<t:=by
 unfold Je
 split
 ·exact ht
 ·rename_i f hf
  exact h f (List.mem_of_getLast? hf)
theorem wrAdd_any (w:World) (b B:Nat) (v:Value) (L:List Fld) (f:Fld) (bv:Value) (h:WrL w b B v L) (hB:B≤w.heap.size) (hd:Ag (fun k=>B≤k∧v.ownBlock≠some k) w bv f.data) (hf:FldIn f 0) (hu: ∀ g∈L,g.tag<f.tag) (hl:L.length≤100):
  Calls Tryz.prog 232 #[.pointer (some ⟨b,0,none⟩),fdV f bv] w (WrPost w b B v (L++[f])):=by
 obtain⟨xs,hxs,hw⟩:=h
 have hxl:xs.length≤100:=by
  have:xs.length=(L.filter nz).length:=by rw [←hxs,List.length_map]
  have:=List.length_filter_le nz L
  omega
 have hbo:=hw.own.1
 have hvb:v.ownBlock≠some b:=fun e=>by have:=(World.ownsRow.lt hbo b e).1;have:=hw.lt;omega
 have HIN:=Qh (show FldIn f (Je (xs.map (·.1))) from⟨hf.tag,lastT_lt (fun g hg=>by rw [hxs] at hg;exact hu g (List.mem_filter.1 hg).1) (by have:=hf.tag;omega),hf.num,hf.len⟩)
 have HFL:=Qh (show (L++[f]).filter nz=if nz f then xs.map (·.1)++[f] else xs.map (·.1) by
  rw [List.filter_append,hxs]
  rcases hz:nz f
  ·simp [hz]
  ·simp [hz])
 obtain⟨ob,cb,rfl,_,_⟩:=id hd
 have HB0:=Qh (below_alloc w (.cells (fdCs f (.slice ob f.data.length cb)) 257))
 have HW0:=Qh (hw.below HB0.out)
 have HF0:=Qh (Cp w f (.slice ob f.data.length cb))
 have HD:=Qh (hd.low)
 have hbl:=hw.blk.lt
 have HB:=Qh hB
 have HXL:=Qh hxl
 have HVB:=Qh hvb
 have HFP:=Qh (fun g (hg:v.ownBlock=some g)=>(World.ownsRow.lt hbo g hg).2)
 have HCK:=Qh (fun W=>check_any f (Je (xs.map (·.1))) ob cb W HIN.out)
 have c0:=HW0.out.blk.c0
 have c1:=HW0.out.blk.c1
 have hlast:(xs=[]∧Je (xs.map (·.1))=0)∨ ∃ g cap,v= .slice (some ⟨g,0,none⟩) xs.length cap∧xs.length≤cap∧0<xs.length∧(w.alloc (.cells (fdCs f (.slice ob f.data.length cb)) 257)).cell? ⟨g,0+(xs.length - 1)*4+0,none⟩=some (.int .i64 (Je (xs.map (·.1)):Int)):=by
  by_cases hn:xs=[]
  ·left;subst hn;exact⟨rfl,rfl⟩
  ·right
   have hp:=Ψ.2 hn
   obtain⟨g,cap,e,h1,h2⟩:=HW0.out.own.at hp
   refine⟨g,cap,e,h1,hp,?_⟩
   have hx:xs[xs.length - 1]? =some (xs.getLast hn):=by rw [List.getLast_eq_getElem];exact Δ (by omega)
   have:=h2 _ _ hx 0 (.int .i64 ((xs.getLast hn).1.tag:Int)) rfl
   rw [this]
   unfold Je
   rw [List.getLast?_map,List.getLast?_eq_some_getLast hn]
   rfl
 clear hw hxs hd hf hu hl hB hxl hbo hvb
 generalize Je (xs.map (·.1))=la at*
 simp only [fdCs] at HB0 HW0 HF0 c0 c1 hlast
 have hne: ¬ b=w.heap.size:=by omega
 obtain⟨fv,hfv⟩: ∃ fv,fv=Value.slice ob f.data.length cb:=⟨_,rfl⟩
 have HFV:=Qh (show fv.oneCell'=true by rw [hfv];rfl)
 rw [←hfv] at HB0 HW0 HF0 HD HCK c0 c1 hlast
 rw [←hfv]
 obtain⟨vg,hvg⟩: ∃ vg,vg=v:=⟨v,rfl⟩
 rw [←hvg]
 have HGO:=Qh (fun k (h:v.ownBlock=some k)=>show vg.ownBlock=some k from hvg▸h)
 clear hfv hvg
 rcases hlast with⟨hn,hla⟩ | ⟨g,cap,hvs,hcap,hp,hc⟩
 obtain⟨oa,cap,hvs,_,_⟩:=Ac HW0.out.own.1
 rw [hn] at hvs
 rw [hvs] at c0
 have HVS:=Qh hvs
 have HLA:=Qh hla
 clear hn hvs hla
 go_enter Tryz.func232,Tryz.ntmps232
 go_wp2_with (with_reducible refine wpList_load_fd rfl (.tmp 3) rfl w.heap.size f fv rfl HF0.out ?_)
 have HC1:=Qh (HCK.out (w.alloc (.cells #[.int .i64 (f.tag:Int),.bool f.text,.int .u64 (f.num:Int),fv] 257)))
 rw [HLA.out,show ((0:Nat):Int)=0 from rfl] at HC1
 rotate_left
 obtain⟨k,hk⟩: ∃ k,xs.length=k+1:=⟨xs.length - 1,by omega⟩
 rw [hk] at hvs hc hcap
 rw [hvs] at c0
 have HVS:=Qh hvs
 have HKX:=Qh hk
 simp only [Nat.add_sub_cancel,Nat.zero_add,Nat.add_zero] at hc
 have hk1:wrap64 (k:Int)=(k:Int):=by have:=HXL.out;unfold wrap64;omega
 have q1:decide (0<((k+1:Nat):Int))=true:=ν (by omega)
 have q2:(k:Int)<((k+1:Nat):Int):=by omega
 clear hvs hk hp
 go_enter Tryz.func232,Tryz.ntmps232
 go_wp2_with (with_reducible refine wpList_load_fd rfl (.tmp 3) rfl w.heap.size f fv rfl HF0.out ?_)
 have HC1:=Qh (HCK.out (w.alloc (.cells #[.int .i64 (f.tag:Int),.bool f.text,.int .u64 (f.num:Int),fv] 257)))
 all_goals
  rcases hz:nz f with _ | _
  ·rw [hz] at HC1 HFL
   simp only [Bool.false_eq_true,if_false] at HC1 HFL
   clear hz
   refine HC1.out.mono ?_
   rintro e w1 ⟨rfl,hb1⟩
   have HW1:=Qh (HW0.out.below hb1)
   have HB1:=Qh (Below.next HB0.out hb1)
   have d1:=HW1.out.blk.c1
   have f1:=HW1.out.blk.free 1
   clear hb1 HC1 HCK HB0 HW0
   go_wp2
   go_ret
   have HB3:=(HW1.out.blk.set (j:=1) (u:= .int .i64 22) (v':=v) (n':=22) rfl).set (j:=1) (u:= .int .i64 0) (v':=v) (n':=0) rfl
   have ht:=(Turned.setCell (S:=fun k=>k=b) w1 ⟨b,1,none⟩ (.int .i64 22) rfl).trans (Turned.setCell (S:=fun k=>k=b) _ ⟨b,1,none⟩ (.int .i64 0) rfl) fun _ h=> .inl h
   refine⟨rfl,v,⟨xs,HFL.out.symm,HB3,HW1.out.own.turned ht fun k hk=> .inl (by rw [hk];exact HW1.out.lt),HW1.out.lt⟩,⟨(Turned.below HB1.out).trans ht fun k hk=> .inl (.inl hk),fun k hk=> .inl (HGO.out k hk)⟩⟩
  ·rw [hz] at HC1 HFL
   simp only [if_true] at HC1 HFL
   clear hz
   refine HC1.out.mono ?_
   rintro e w1 ⟨rfl,hb1⟩
   have HW1:=Qh (HW0.out.below hb1)
   have HB1:=Qh (Below.next HB0.out hb1)
   have HF1:=Qh (HF0.out.below hb1)
   have HD1:=Qh (((HD.out.mono (A':=fun k=>B≤k∧v.ownBlock≠some k) fun k hk=>hk.1).below HB0.out).below hb1)
   have d1:=HW1.out.blk.c1
   have f1:=HW1.out.blk.free 1
   clear hb1 HC1 HCK HB0 HW0 HF0 HD
   go_wp2_with fail
   have HW2:=Qh (show WrAt (w1.setCell ⟨b,1,none⟩ (.int .i64 0)) b B v xs from⟨HW1.out.blk.set rfl,HW1.out.own.turned (Turned.setCell (S:=fun k=>k=b) w1 ⟨b,1,none⟩ (.int .i64 0) rfl) fun k hk=> .inl (by rw [hk];exact HW1.out.lt),HW1.out.lt⟩)
   have HT2:=Qh (show Turned (fun k=>k=b) w (w1.setCell ⟨b,1,none⟩ (.int .i64 0)) from(Turned.below HB1.out).trans (Turned.setCell (S:=fun k=>k=b) w1 ⟨b,1,none⟩ (.int .i64 0) rfl) fun _ h=> .inl h)
   have HF2:=Qh (show A1 (w1.setCell ⟨b,1,none⟩ (.int .i64 0)) w.heap.size f fv from HF1.out.other (fun e=>hne e.symm))
   have HD2:=Qh (HD1.out.turned (Turned.setCell (S:=fun k=>k=b) w1 ⟨b,1,none⟩ (.int .i64 0) rfl) fun k hk he=>by have:=HW1.out.lt;omega)
   clear d1 f1 HW1 HF1 HD1 HB1
   generalize w1.setCell ⟨b,1,none⟩ (.int .i64 0)=w2 at*
   refine ω (S:=fun w'=>Turned (fun k=>k=b∨v.ownBlock=some k) w2 w') (by kernel_rfl) (Turned.below (below_drewN' w2 1)) (fun hHeld=> ?_)
   refine tq 0 rfl ?_
   refine tq 1 rfl ?_
   refine tq 2 rfl ?_
   refine tq 3 rfl ?_
   refine tkl 5 w.heap.size 0 [.int .i64 (f.tag:Int),.bool f.text,.int .u64 (f.num:Int),fv] rfl rfl (fun w' h j u hu=>by rw [Nat.zero_add];exact h.cell (by rw [HF2.out.cell];simpa [fdCs] using hu) (by rintro(hc | hc);exact hne hc.symm;exact Nat.lt_irrefl _ (HFP.out _ hc))) Tryz.underlying257 rfl (by rw [fdInfo];rfl) ?_
   simp only [pA,pB,pC,pD]
   have hbd:Below w2.heap.size w2 (World.drew w2):=below_drewN' w2 1
   have HWd:=Qh (HW2.out.below hbd)
   have HDd:=Qh (HD2.out.below hbd)
   have HTd:=Qh (show Turned (fun k=>k=b) w (World.drew w2) from HT2.out.trans (Turned.below hbd) fun _ h=> .inl h)
   have HSd:=Qh (show Turned (fun k=>k=b∨v.ownBlock=some k) w2 (World.drew w2) from Turned.below hbd)
   clear hbd hHeld
   generalize World.drew w2=Wd at*
   have c0:Wd.cell? ⟨b,0,none⟩=some v:=HWd.out.blk.c0
   have HBA:=Qh (below_alloc Wd (.cells #[.int .i64 (f.tag:Int),.bool f.text,.int .u64 (f.num:Int),fv] 257))
   have HSA:=Qh (HSd.out.trans (Turned.below (S:=fun _=>False) HBA.out) fun _ h=>h.elim)
   refine wpAnyH_ready (rs:=[4,6]) (by kernel_rfl) (by simp) ?_
   refine AllReadyH.cons rfl (fun K hK=> ?_) (AllReadyH.cons rfl (fun K hK=> ?_) AllReadyH.nil)
   go_simp
   refine hK.out _ _ HSd.out (fun hHeld=> ?_)
   clear hK K c0
   refine Rd 6 rfl fun K hK=> ?_
   go_simp
   refine hK.out _ _ HSA.out (fun hHeld=> ?_)
   clear hK K
   rotate_left
   go_simp
   refine hK.out _ _ HSA.out (fun hHeld=> ?_)
   clear hK K c0
   have c0:(Wd.alloc (.cells #[.int .i64 (f.tag:Int),.bool f.text,.int .u64 (f.num:Int),fv] 257)).cell? ⟨b,0,none⟩=some v:=(HWd.out.below HBA.out).blk.c0
   refine Rd 4 rfl fun K hK=> ?_
   go_simp
   refine hK.out _ _ HSA.out (fun hHeld=> ?_)
   clear hK K c0
   all_goals
    refine Rd 7 rfl fun K hK=> ?_
    rw [ζ (by kernel_rfl)]
    refine wp_appFd (.tmp 57) (.tmp 59) rfl f fv rfl rfl HWd.out.own (μ HB.out HTd.out.size) HDd.out (by have:=HXL.out;omega) ?_
    intro v' W3 hown3 htu3 hone3 hbl3
    have HB3:=Qh (HWd.out.blk.turned htu3 HVB.out)
    have HO3:=Qh hown3
    have HT3:=Qh htu3
    have HL3:=Qh hbl3
    have HSE:=Qh (show Turned (fun k=>k=b∨v.ownBlock=some k) w2 W3 from HSd.out.trans htu3 fun k hk=> .inl (.inr hk))
    refine hK.out _ _ HSE.out (fun hHeld=> ?_)
    clear hK K hown3 htu3 hbl3
    refine tq 8 rfl ?_
    refine tq 9 rfl ?_
    refine Rd 10 rfl fun K hK=> ?_
    rw [ζ (by kernel_rfl)]
    refine Da 223 (.tmp 62) (.tmp 60) rfl b 0 v' v (by kernel_rfl) hone3 rfl rfl HB3.out.c0 (HB3.out.free 0) ?_
    have HSF:=Qh (show Turned (fun k=>k=b) W3 (W3.setCell ⟨b,0,none⟩ v') from Turned.setCell _ _ _ rfl)
    refine hK.out _ _ (HSE.out.trans HSF.out fun k hk=> .inl (.inl hk)) (fun _=> ?_)
    clear hK K
    refine Λ (by kernel_rfl) ?_ _
    go_wp2
    go_ret
    refine⟨rfl,v',⟨xs++[(f,fv)],by rw [HFL.out];simp,HB3.out.set rfl,HO3.out.turned HSF.out fun k hk=> .inl (by rw [hk];exact HWd.out.lt),HWd.out.lt⟩,⟨((HTd.out.mono fun k hk=> .inl hk).trans HT3.out fun k hk=> .inl (.inr (HGO.out k hk))).trans HSF.out fun k hk=> .inl (.inl hk),fun k hk=>(HL3.out k hk).imp (HGO.out k) (μ HTd.out.size)⟩⟩
theorem Di (w:World) (b B:Nat) (v:Value) (L:List Fld) (t:Nat) (ti n:Int) (hti:ti=(t:Int)) (h:WrL w b B v L) (hB:B≤w.heap.size) (hn:0≤n∧n<18446744073709551616) (ht:1≤t∧t≤31) (hu: ∀ g∈L,g.tag<t) (hl:L.length≤100):
  Calls Tryz.prog 229 #[.pointer (some ⟨b,0,none⟩),.int .i64 ti,.int .u64 n] w (WrPost w b B v (L++[nF t n])):=by
 have HA:=Qh (show Calls Tryz.prog 232 #[.pointer (some ⟨b,0,none⟩),.agg #[.int .i64 ti,.bool false,.int .u64 n,.slice none 0 0]] w (WrPost w b B v (L++[nF t n])) from by
  have:=wrAdd_any w b B v L (nF t n) (.slice none 0 0) h hB (Ex _ _) ⟨ht,by show 0<t;omega,by show n.toNat<_;omega,by show 0≤200;omega⟩ hu hl
  simp only [fdV,nF] at this
  rw [show ((n.toNat:Nat):Int)=n by omega,←hti] at this
  exact this)
 clear h hB hn ht hu hl hti
 go_enter Tryz.func229,Tryz.ntmps229
 go_wp2_with fail
 refine HA.out.mono ?_
 rintro e w1 ⟨rfl,v1,h1,h2⟩
 go_wp2
 go_ret
 exact⟨rfl,v1,h1,h2⟩
theorem u64_flip (a:Nat) (ha:a<18446744073709551616):bits .xor .u64 (a:Int) 18446744073709551615=18446744073709551615 - (a:Int):=by
 show IntKind.u64.wrap ((BitVec.ofInt 64 (a:Int)^^^BitVec.ofInt 64 18446744073709551615).toNat:Int)=_
 have h1:BitVec.ofInt 64 18446744073709551615=BitVec.allOnes 64:=by decide
 rw [h1,BitVec.xor_allOnes,BitVec.toNat_not,ofInt_u64 a ha,IntKind.wrap_u64]
 omega
theorem zig_any (n:Int) (w:World) (hn: -1000000≤n∧n≤1000000):Calls Tryz.prog 230 #[.int .i64 n] w fun e w'=>e= .returned (.int .u64 (zigV n:Int))∧w=w':=by
 have HZ:=Qh (show bits .xor .u64 (IntKind.u64.wrap (IntKind.u64.wrap n*2)) (IntKind.u64.wrap (n / 9223372036854775808))=(zigV n:Int) from by
  unfold zigV
  split
  ·rw [show n / 9223372036854775808=((0:Nat):Int) by omega,show IntKind.u64.wrap (IntKind.u64.wrap n*2)=((2*n).toNat:Int) by simp only [IntKind.wrap_u64];omega,show IntKind.u64.wrap ((0:Nat):Int)=((0:Nat):Int) from rfl,bits_xor_u64_nat _ _ (by omega) (by decide),Nat.xor_zero]
  ·rw [show n / 9223372036854775808= -1 by omega,show IntKind.u64.wrap (IntKind.u64.wrap n*2)=((18446744073709551616+2*n).toNat:Int) by simp only [IntKind.wrap_u64];omega,show IntKind.u64.wrap (-1)=18446744073709551615 from rfl,u64_flip _ (by omega)]
   omega)
 generalize zigV n=z at*
 rcases hk:decide (0≤n) with _ | _
 all_goals
  simp at hk
  have h1:IntKind.u64.wrap (IntKind.u64.wrap n*2)=IntKind.u64.wrap (IntKind.u64.wrap n*2):=rfl
  go_enter Tryz.func230,Tryz.ntmps230
  go_wp2
  go_ret
  refine⟨?_,rfl⟩
  rw [←HZ.out]
  simp [IntKind.wrap_u64]
  first
   | done
   | (congr 1<;>omega)
theorem wrInt_any (w:World) (b B:Nat) (v:Value) (L:List Fld) (t:Nat) (ti n:Int) (hti:ti=(t:Int)) (h:WrL w b B v L) (hB:B≤w.heap.size) (hn: -1000000≤n∧n≤1000000) (ht:1≤t∧t≤31) (hu: ∀ g∈L,g.tag<t) (hl:L.length≤100):
  Calls Tryz.prog 221 #[.pointer (some ⟨b,0,none⟩),.int .i64 ti,.int .i64 n] w (WrPost w b B v (L++[⟨t,false,zigV n,[]⟩])):=by
 have HZ:=Qh (zig_any n w hn)
 have hz:zigV n<18446744073709551616:=by unfold zigV;split<;>omega
 have HN:=Qh (Di w b B v L t ti (zigV n:Int) hti h hB ⟨by omega,by omega⟩ ht hu hl)
 have e:nF t (zigV n:Int)=⟨t,false,zigV n,[]⟩:=by unfold nF;rw [Int.toNat_natCast]
 rw [e] at HN
 clear h hB hn ht hu hl hti hz e
 generalize zigV n=z at*
 go_enter Tryz.func221,Tryz.ntmps221
 go_wp2_with fail
 refine HZ.out.mono ?_
 rintro e w1 ⟨rfl,rfl⟩
 go_wp2_with fail
 refine HN.out.mono ?_
 rintro e w1 ⟨rfl,v1,h1,h2⟩
 go_wp2
 go_ret
 exact⟨rfl,v1,h1,h2⟩
theorem wrText_any (w:World) (b B:Nat) (v x:Value) (L:List Fld) (t:Nat) (ti:Int) (l:List UInt8) (hti:ti=(t:Int)) (hx:A2 w x l) (h:WrL w b B v L) (hB:B≤w.heap.size) (hn:l.length≤200) (ht:1≤t∧t≤31) (hu: ∀ g∈L,g.tag<t) (hl:L.length≤100):
  Calls Tryz.prog 245 #[.pointer (some ⟨b,0,none⟩),.int .i64 ti,x] w (WrPost w b B v (L++[tF t l])):=by
 have HC:=Qh (clone_any l x w hx (by omega))
 have HA:=Qh (fun(w1:World) (x1:Value) (hb1:Below w.heap.size w w1) (ho1:OwnB w1 w.heap.size x1 l)=>show Calls Tryz.prog 232 #[.pointer (some ⟨b,0,none⟩),.agg #[.int .i64 ti,.bool true,.int .u64 0,x1]] w1 (WrPost w1 b B v (L++[tF t l])) from by
  have:=wrAdd_any w1 b B v L (tF t l) x1 (h.below hb1) (μ hB hb1.size) (browIn_own ho1 fun k hk=>⟨μ hB hk,fun e=>by
   obtain⟨xs,_,hw⟩:=h
   have:=(World.ownsRow.lt hw.own.1 k e).2
   omega⟩) ⟨ht,by show 0<t;omega,by show 0<_;omega,hn⟩ hu hl
  simp only [fdV,tF] at this
  rw [←hti] at this
  exact this)
 clear h hB hn ht hu hl hti hx
 go_enter Tryz.func245,Tryz.ntmps245
 go_wp2_with fail
 refine HC.out.mono ?_
 rintro e w1 ⟨x1,rfl,ho1,hb1⟩
 obtain⟨ox,cx,rfl,_,_⟩:=Ac ho1
 have HB1:=Qh hb1
 have HA1:=Qh (HA.out w1 _ hb1 ho1)
 clear HA hb1 ho1
 go_wp2_with fail
 refine HA1.out.mono ?_
 rintro e w2 ⟨rfl,v1,h1,h2⟩
 go_wp2
 go_ret
 exact⟨rfl,v1,h1,(Ef.below b v HB1.out).trans h2⟩
def WrQ (w:World) (b B:Nat) (v:Value) (L:List Fld) (e:Ending) (w':World):Prop:=e= .returned (.tuple #[])∧ ∃ v',WrL w' b B v' L∧Ef w b v w' v'
def L3 (e:Ev):List Fld:=[nF 1 e.kind,nF 2 e.order,nF 3 e.item]
structure EvNum (e:Ev):Prop where
 kind:0≤e.kind∧e.kind<9223372036854775808
 order:0≤e.order∧e.order<9223372036854775808
 item:0≤e.item∧e.item<9223372036854775808
 qty: -1000000≤e.qty∧e.qty≤1000000
 price:0≤e.price∧e.price<9223372036854775808
 cur:0≤e.cur∧e.cur<9223372036854775808
 tax:0≤e.tax∧e.tax<9223372036854775808
 stamp:0≤e.stamp∧e.stamp<9223372036854775808
theorem Ju {n:Int} (h:0≤n∧n<9223372036854775808):IntKind.u64.wrap n=n:=by rw [IntKind.wrap_u64];omega
structure BoxW (w w0:World) (b B:Nat) (v0 v:Value) (L:List Fld) (g:Nat) (cs:List Value):Prop where
 wr:WrL w0 b B v L
 st:Ef w b v0 w0 v
 sz:B≤w0.heap.size
 lt:g<w0.heap.size
 ne: ¬ (g=b∨v.ownBlock=some g)
 cell: ∀ (j:Nat) u,cs[j]? =some u→w0.cell? ⟨g,j,none⟩=some u
theorem Ig {w:World} {b B:Nat} {v:Value} {L:List Fld} (h:WrL w b B v L) (hB:B≤w.heap.size) (cs:List Value) (T:TypeId):BoxW w (w.alloc (.cells cs.toArray T)) b B v v L w.heap.size cs:=
 ⟨h.below (below_alloc w _),Ef.below b v (below_alloc w _),μ hB (below_alloc w _).size,by rw [Ω];omega,by
  obtain⟨xs,_,hw⟩:=h
  rintro(e | e)
  ·have:=hw.blk.lt;omega
  ·have:=(World.ownsRow.lt hw.own.1 _ e).2;omega,fun j u hj=>by rw [World.cell?_alloc_new];simpa using hj⟩
theorem BoxW.step {w w0 w1:World} {b B:Nat} {v0 v v1:Value} {L L1:List Fld} {g:Nat} {cs:List Value} (h:BoxW w w0 b B v0 v L g cs) (hL:WrL w1 b B v1 L1) (hs:Ef w0 b v w1 v1):BoxW w w1 b B v0 v1 L1 g cs:=
 ⟨hL,h.st.trans hs,μ h.sz hs.tu.size,Nat.lt_of_lt_of_le h.lt hs.tu.size,fun e=>by
  rcases e with e | e
  ·exact h.ne (.inl e)
  ·rcases hs.bl g e with e2 | e2
   ·exact h.ne (.inr e2)
   ·have:=h.lt;omega,fun j u hj=>hs.tu.cell (h.cell j u hj) h.ne⟩
theorem BoxW.old {w w0:World} {b B:Nat} {v0 v:Value} {L:List Fld} {g:Nat} {cs:List Value} (h:BoxW w w0 b B v0 v L g cs): ∀ k,w0.heap.size≤k→ ¬ (k=b∨v.ownBlock=some k):=by
 obtain⟨xs,_,hw⟩:=h.wr
 rintro k hk (e | e)
 ·have:=hw.blk.lt;omega
 ·have:=(World.ownsRow.lt hw.own.1 _ e).2;omega
theorem BoxW.below {w w0 w1:World} {b B:Nat} {v0 v:Value} {L:List Fld} {g:Nat} {cs:List Value} (h:BoxW w w0 b B v0 v L g cs) (hb:Below w0.heap.size w0 w1):BoxW w w1 b B v0 v L g cs:=h.step (h.wr.below hb) (Ef.below b v hb)
theorem conv_any (w:World) (l:List UInt8): ∃ oa cap w',(convert 9 39 (.string ⟨l.toArray⟩)).run Tryz.prog w= .ok (.slice oa l.length cap) w'∧Ag (fun k=>w.heap.size≤k) w' (.slice oa l.length cap) l∧Below w.heap.size w w':=by
 have h:=run_bytes_of_string (P:=Tryz.prog) w 9 39 5 ⟨l.toArray⟩ Tryz.underlying9 Tryz.underlying39 Tryz.underlying5
 refine⟨_,_,_,h,⟨_,_,rfl,?_,fun hn=>⟨_,_,rfl,ξ _,fun j x hj=> ?_⟩⟩,(below_drewN' w 1).trans (below_alloc w.drew _)⟩
 ·exact grownCap_ge w l.length 0 5
 ·have hjl:j<l.length:=(List.getElem?_eq_some_iff.1 hj).1
  have h0: ∀ (c:Array Value) (t:TypeId) (fz:Nat×Nat),(w.drew.alloc (.cells c t fz)).cell? ⟨w.heap.size,0+j,none⟩=c[j]? :=fun c t fz=>by
   rw [Nat.zero_add]
   have e:(w.drew.alloc (.cells c t fz)).heap[w.heap.size]? =some (.cells c t fz):=Array.getElem?_push_size
   unfold World.cell?
   rw [e]
   rfl
  rw [h0]
  unfold bytesRow
  rw [Array.getElem?_append_left (by simpa using hjl)]
  simp [hj]
theorem head_any (e:Ev) (w:World) (b B:Nat) (v:Value) (h:WrL w b B v []) (hB:B≤w.heap.size) (hn:EvNum e):
  Calls Tryz.prog 228 #[v1V e,.pointer (some ⟨b,0,none⟩)] w (WrQ w b B v (L3 e)):=by
 have HX:=Qh (Ig h hB [.int .i64 e.kind,.int .i64 e.order,.int .i64 e.item,.int .i64 e.qty,.int .i64 e.price] 227)
 have HN:=Qh hn
 have hk0:=Ju hn.kind
 have hk1:=Ju hn.order
 have hk2:=Ju hn.item
 clear h hn hB
 go_enter Tryz.func228,Tryz.ntmps228
 go_wp2_with fail
 generalize w.alloc (.cells #[.int .i64 e.kind,.int .i64 e.order,.int .i64 e.item,.int .i64 e.qty,.int .i64 e.price] 227)=w0 at*
 refine ω (S:=fun w'=>Turned (fun k=>k=b∨v.ownBlock=some k) w0 w') (by kernel_rfl) (Turned.below (below_drewN' w0 1)) (fun hHeld=> ?_)
 have FX1:=Qh (fun(wF:World) (hSw:(fun w'=>Turned (fun k=>k=b∨v.ownBlock=some k) w0 w') wF)=>And.intro ((hSw.cell (HX.out.cell 0 _ rfl) HX.out.ne)) (And.intro ((hSw.cell (HX.out.cell 1 _ rfl) HX.out.ne)) ((hSw.cell (HX.out.cell 2 _ rfl) HX.out.ne))))
 refine tf FX1 0 rfl ?_
 refine tf FX1 1 rfl ?_
 refine tf FX1 2 rfl ?_
 refine tf FX1 3 rfl ?_
 refine tf FX1 5 rfl ?_
 refine tf FX1 6 rfl ?_
 refine tf FX1 7 rfl ?_
 refine tf FX1 9 rfl ?_
 refine tf FX1 10 rfl ?_
 refine tf FX1 11 rfl ?_
 clear FX1
 have hbd:Below w0.heap.size w0 (World.drew w0):=below_drewN' w0 1
 have HR:=Qh (Ef.below b v hbd)
 replace HX:=Qh (HX.out.below hbd)
 clear hbd hHeld
 generalize World.drew w0=Wd at*
 refine Rd 4 rfl fun K hK=> ?_
 go_simp
 refine(Di Wd b B v _ 1 1 e.kind rfl HX.out.wr HX.out.sz (by have:=HN.out.kind;omega) (by omega) (fun g hg=>by cases hg) (by simp)).mono ?_
 rintro x w1 ⟨rfl,v1,hL,hS⟩
 replace HR:=Qh (HR.out.trans hS)
 replace HX:=Qh (HX.out.step hL hS)
 clear hL hS
 go_wp2_with fail
 refine hK.out _ _ HR.out.tu (fun hHeld=> ?_)
 clear hK K hHeld
 refine Rd 8 rfl fun K hK=> ?_
 go_simp
 refine(Di w1 b B v1 _ 2 2 e.order rfl HX.out.wr HX.out.sz (by have:=HN.out.order;omega) (by omega) (by simp [nF]) (by simp)).mono ?_
 rintro x w2 ⟨rfl,v2,hL,hS⟩
 replace HR:=Qh (HR.out.trans hS)
 replace HX:=Qh (HX.out.step hL hS)
 clear hL hS
 go_wp2_with fail
 refine hK.out _ _ HR.out.tu (fun hHeld=> ?_)
 clear hK K hHeld
 refine Rd 12 rfl fun K hK=> ?_
 go_simp
 refine(Di w2 b B v2 _ 3 3 e.item rfl HX.out.wr HX.out.sz (by have:=HN.out.item;omega) (by omega) (by simp [nF]) (by simp)).mono ?_
 rintro x w3 ⟨rfl,v3,hL,hS⟩
 replace HR:=Qh (HR.out.trans hS)
 replace HX:=Qh (HX.out.step hL hS)
 clear hL hS
 go_wp2_with fail
 refine hK.out _ _ HR.out.tu (fun hHeld=> ?_)
 clear hK K hHeld
 refine Λ (by kernel_rfl) ?_ _
 go_wp2
 exact π (v:= .tuple #[]) (by simp [results,Tryz.results228,go_sem]) rfl ⟨rfl,v3,by simpa [L3] using HX.out.wr,HX.out.st⟩
theorem write1_any (e:Ev) (w:World) (b B:Nat) (v:Value) (h:WrL w b B v []) (hB:B≤w.heap.size) (hn:EvNum e):
  Calls Tryz.prog 226 #[v1V e,.pointer (some ⟨b,0,none⟩)] w (WrQ w b B v (cand 1 e)):=by
 have HX:=Qh (Ig h hB [.int .i64 e.kind,.int .i64 e.order,.int .i64 e.item,.int .i64 e.qty,.int .i64 e.price] 227)
 have HN:=Qh hn
 have hk4:=Ju hn.price
 clear h hn hB
 go_enter Tryz.func226,Tryz.ntmps226
 go_wp2_with fail
 refine(head_any e _ b B v HX.out.wr HX.out.sz HN.out).mono ?_
 rintro x w1 ⟨rfl,v1,hL,hS⟩
 replace HX:=Qh (HX.out.step hL hS)
 clear hL hS
 go_wp2_with fail
 refine ω (S:=fun w'=>Turned (fun k=>k=b∨v1.ownBlock=some k) w1 w') (by kernel_rfl) (Turned.below (below_drewN' w1 1)) (fun hHeld=> ?_)
 have FX2:=Qh (fun(wF:World) (hSw:(fun w'=>Turned (fun k=>k=b∨v1.ownBlock=some k) w1 w') wF)=>And.intro ((hSw.cell (HX.out.cell 3 _ rfl) HX.out.ne)) ((hSw.cell (HX.out.cell 4 _ rfl) HX.out.ne)))
 refine tf FX2 0 rfl ?_
 refine tf FX2 1 rfl ?_
 refine tf FX2 2 rfl ?_
 refine tf FX2 4 rfl ?_
 refine tf FX2 5 rfl ?_
 refine tf FX2 6 rfl ?_
 clear FX2
 have hbd:Below w1.heap.size w1 (World.drew w1):=below_drewN' w1 1
 have HR:=Qh (Ef.below b v1 hbd)
 replace HX:=Qh (HX.out.below hbd)
 clear hbd hHeld
 generalize World.drew w1=Wd at*
 refine Rd 3 rfl fun K hK=> ?_
 go_simp
 refine(wrInt_any Wd b B v1 _ 4 4 e.qty rfl HX.out.wr HX.out.sz HN.out.qty (by omega) (by simp [L3,nF]) (by simp [L3])).mono ?_
 rintro x w2 ⟨rfl,v2,hL,hS⟩
 replace HR:=Qh (HR.out.trans hS)
 replace HX:=Qh (HX.out.step hL hS)
 clear hL hS
 go_wp2_with fail
 refine hK.out _ _ HR.out.tu (fun hHeld=> ?_)
 clear hK K hHeld
 refine Rd 7 rfl fun K hK=> ?_
 go_simp
 refine(Di w2 b B v2 _ 5 5 e.price rfl HX.out.wr HX.out.sz (by have:=HN.out.price;omega) (by omega) (by simp [L3,nF]) (by simp [L3])).mono ?_
 rintro x w3 ⟨rfl,v3,hL,hS⟩
 replace HR:=Qh (HR.out.trans hS)
 replace HX:=Qh (HX.out.step hL hS)
 clear hL hS
 go_wp2_with fail
 refine hK.out _ _ HR.out.tu (fun hHeld=> ?_)
 clear hK K hHeld
 refine Λ (by kernel_rfl) ?_ _
 go_wp2
 exact π (v:= .tuple #[]) (by simp [results,Tryz.results226,go_sem]) rfl ⟨rfl,v3,by simpa [L3,cand] using HX.out.wr,HX.out.st⟩
theorem write2_any (e:Ev) (w:World) (b B:Nat) (v:Value) (h:WrL w b B v []) (hB:B≤w.heap.size) (hn:EvNum e):
  Calls Tryz.prog 235 #[v2V e,.pointer (some ⟨b,0,none⟩)] w (WrQ w b B v (cand 2 e)):=by
 have HX:=Qh (Ig h hB [.int .i64 e.kind,.int .i64 e.order,.int .i64 e.item,.int .i64 e.qty,.int .i64 e.price,.int .i64 e.cur] 229)
 have HN:=Qh hn
 have hk5:=Ju hn.cur
 clear h hn hB
 go_enter Tryz.func235,Tryz.ntmps235
 go_wp2_with fail
 refine(write1_any e _ b B v HX.out.wr HX.out.sz HN.out).mono ?_
 rintro x w1 ⟨rfl,v1,hL,hS⟩
 replace HX:=Qh (HX.out.step hL hS)
 clear hL hS
 have c5:=HX.out.cell 5 _ rfl
 go_wp2_with fail
 refine(Di w1 b B v1 _ 6 6 e.cur rfl HX.out.wr HX.out.sz (by have:=HN.out.cur;omega) (by omega) (by simp [cand,nF]) (by simp [cand])).mono ?_
 rintro x w2 ⟨rfl,v2,hL,hS⟩
 replace HX:=Qh (HX.out.step hL hS)
 clear hL hS c5
 go_wp2
 exact π (v:= .tuple #[]) (by simp [results,Tryz.results235,go_sem]) rfl ⟨rfl,v2,by simpa [cand] using HX.out.wr,HX.out.st⟩
theorem write3_any (e:Ev) (w:World) (b B:Nat) (v:Value) (h:WrL w b B v []) (hB:B≤w.heap.size) (hn:EvNum e) (hq:0≤e.qty):
  Calls Tryz.prog 239 #[v3V e,.pointer (some ⟨b,0,none⟩)] w (WrQ w b B v (cand 3 e)):=by
 have HX:=Qh (Ig h hB [.int .i64 e.kind,.int .i64 e.order,.int .i64 e.item,.int .i64 e.qty,.int .i64 e.price,.int .i64 e.cur,.int .i64 e.tax] 231)
 have HN:=Qh hn
 have HQ:=Qh (show 0≤e.qty∧e.qty<9223372036854775808 from⟨hq,by have:=hn.qty;omega⟩)
 have hk3:=Ju HQ.out
 have hk4:=Ju hn.price
 have hk5:=Ju hn.cur
 have hk6:=Ju hn.tax
 clear h hn hB hq
 go_enter Tryz.func239,Tryz.ntmps239
 go_wp2_with fail
 refine(head_any e _ b B v HX.out.wr HX.out.sz HN.out).mono ?_
 rintro x w1 ⟨rfl,v1,hL,hS⟩
 replace HX:=Qh (HX.out.step hL hS)
 clear hL hS
 go_wp2_with fail
 refine ω (S:=fun w'=>Turned (fun k=>k=b∨v1.ownBlock=some k) w1 w') (by kernel_rfl) (Turned.below (below_drewN' w1 1)) (fun hHeld=> ?_)
 have FX3:=Qh (fun(wF:World) (hSw:(fun w'=>Turned (fun k=>k=b∨v1.ownBlock=some k) w1 w') wF)=>And.intro ((hSw.cell (HX.out.cell 3 _ rfl) HX.out.ne)) (And.intro ((hSw.cell (HX.out.cell 4 _ rfl) HX.out.ne)) (And.intro ((hSw.cell (HX.out.cell 5 _ rfl) HX.out.ne)) ((hSw.cell (HX.out.cell 6 _ rfl) HX.out.ne)))))
 refine tf FX3 0 rfl ?_
 refine tf FX3 1 rfl ?_
 refine tf FX3 2 rfl ?_
 refine tf FX3 3 rfl ?_
 refine tf FX3 4 rfl ?_
 refine tf FX3 5 rfl ?_
 refine tf FX3 7 rfl ?_
 refine tf FX3 8 rfl ?_
 refine tf FX3 9 rfl ?_
 refine tf FX3 10 rfl ?_
 refine tf FX3 11 rfl ?_
 refine tf FX3 13 rfl ?_
 refine tf FX3 14 rfl ?_
 refine tf FX3 15 rfl ?_
 refine tf FX3 16 rfl ?_
 refine tf FX3 18 rfl ?_
 refine tf FX3 19 rfl ?_
 refine tf FX3 20 rfl ?_
 clear FX3
 have hbd:Below w1.heap.size w1 (World.drew w1):=below_drewN' w1 1
 have HR:=Qh (Ef.below b v1 hbd)
 replace HX:=Qh (HX.out.below hbd)
 clear hbd hHeld
 generalize World.drew w1=Wd at*
 refine Rd 6 rfl fun K hK=> ?_
 go_simp
 refine(Di Wd b B v1 _ 4 4 e.qty rfl HX.out.wr HX.out.sz (by have:=HQ.out;omega) (by omega) (by simp [L3,nF]) (by simp [L3])).mono ?_
 rintro x w2 ⟨rfl,v2,hL,hS⟩
 replace HR:=Qh (HR.out.trans hS)
 replace HX:=Qh (HX.out.step hL hS)
 clear hL hS
 go_wp2_with fail
 refine hK.out _ _ HR.out.tu (fun hHeld=> ?_)
 clear hK K hHeld
 refine Rd 12 rfl fun K hK=> ?_
 go_simp
 refine(Di w2 b B v2 _ 5 5 e.price rfl HX.out.wr HX.out.sz (by have:=HN.out.price;omega) (by omega) (by simp [L3,nF]) (by simp [L3])).mono ?_
 rintro x w3 ⟨rfl,v3,hL,hS⟩
 replace HR:=Qh (HR.out.trans hS)
 replace HX:=Qh (HX.out.step hL hS)
 clear hL hS
 go_wp2_with fail
 refine hK.out _ _ HR.out.tu (fun hHeld=> ?_)
 clear hK K hHeld
 refine Rd 17 rfl fun K hK=> ?_
 go_simp
 refine(Di w3 b B v3 _ 6 6 e.cur rfl HX.out.wr HX.out.sz (by have:=HN.out.cur;omega) (by omega) (by simp [L3,nF]) (by simp [L3])).mono ?_
 rintro x w4 ⟨rfl,v4,hL,hS⟩
 replace HR:=Qh (HR.out.trans hS)
 replace HX:=Qh (HX.out.step hL hS)
 clear hL hS
 go_wp2_with fail
 refine hK.out _ _ HR.out.tu (fun hHeld=> ?_)
 clear hK K hHeld
 refine Rd 21 rfl fun K hK=> ?_
 go_simp
 refine(Di w4 b B v4 _ 7 7 e.tax rfl HX.out.wr HX.out.sz (by have:=HN.out.tax;omega) (by omega) (by simp [L3,nF]) (by simp [L3])).mono ?_
 rintro x w5 ⟨rfl,v5,hL,hS⟩
 replace HR:=Qh (HR.out.trans hS)
 replace HX:=Qh (HX.out.step hL hS)
 clear hL hS
 go_wp2_with fail
 refine hK.out _ _ HR.out.tu (fun hHeld=> ?_)
 clear hK K hHeld
 refine Λ (by kernel_rfl) ?_ _
 go_wp2
 exact π (v:= .tuple #[]) (by simp [results,Tryz.results239,go_sem]) rfl ⟨rfl,v5,by simpa [L3,cand] using HX.out.wr,HX.out.st⟩
theorem write4_any (e:Ev) (w:World) (b B:Nat) (v:Value) (h:WrL w b B v []) (hB:B≤w.heap.size) (hn:EvNum e) (hq:0≤e.qty) (hw:e.who.length≤200):
  Calls Tryz.prog 243 #[v4V e,.pointer (some ⟨b,0,none⟩)] w (WrQ w b B v (cand 4 e)):=by
 have HX:=Qh (Ig h hB [.int .i64 e.kind,.int .i64 e.order,.int .i64 e.item,.int .i64 e.qty,.int .i64 e.price,.int .i64 e.cur,.int .i64 e.tax,.string ⟨e.who.toArray⟩] 233)
 have HN:=Qh hn
 have HQ:=Qh hq
 have HW:=Qh hw
 clear h hn hB hq hw
 go_enter Tryz.func243,Tryz.ntmps243
 go_wp2_with fail
 refine(write3_any e _ b B v HX.out.wr HX.out.sz HN.out HQ.out).mono ?_
 rintro x w1 ⟨rfl,v1,hL,hS⟩
 replace HX:=Qh (HX.out.step hL hS)
 clear hL hS
 have c7:=HX.out.cell 7 _ rfl
 obtain⟨oa,cap,w2,hcv,hbr,hb⟩:=conv_any w1 e.who
 have HBR:=Qh hbr
 replace HX:=Qh (HX.out.below hb)
 clear hbr
 clear hb
 go_wp2_with fail
 refine(wrText_any w2 b B v1 _ _ 8 8 e.who rfl HBR.out.brow HX.out.wr HX.out.sz HW.out (by omega) (by simp [cand,nF]) (by simp [cand])).mono ?_
 rintro x w3 ⟨rfl,v3,hL,hS⟩
 replace HX:=Qh (HX.out.step hL hS)
 clear hL hS c7
 go_wp2
 exact π (v:= .tuple #[]) (by simp [results,Tryz.results243,go_sem]) rfl ⟨rfl,v3,by simpa [cand] using HX.out.wr,HX.out.st⟩
theorem write5_any (e:Ev) (w:World) (b B:Nat) (v:Value) (h:WrL w b B v []) (hB:B≤w.heap.size) (hn:EvNum e) (hq:0≤e.qty) (hw:e.who.length≤200) (hv:e.note.length≤200):
  Calls Tryz.prog 249 #[v5V e,.pointer (some ⟨b,0,none⟩)] w (WrQ w b B v (cand 5 e)):=by
 have HX:=Qh (Ig h hB [.int .i64 e.kind,.int .i64 e.order,.int .i64 e.item,.int .i64 e.qty,.int .i64 e.price,.int .i64 e.cur,.int .i64 e.tax,.string ⟨e.who.toArray⟩,.int .i64 e.stamp,.string ⟨e.note.toArray⟩] 235)
 have HN:=Qh hn
 have HQ:=Qh hq
 have HW:=Qh hw
 have HV:=Qh hv
 have hk8:=Ju hn.stamp
 clear h hn hB hq hw hv
 go_enter Tryz.func249,Tryz.ntmps249
 go_wp2_with fail
 refine(write4_any e _ b B v HX.out.wr HX.out.sz HN.out HQ.out HW.out).mono ?_
 rintro x w1 ⟨rfl,v1,hL,hS⟩
 replace HX:=Qh (HX.out.step hL hS)
 clear hL hS
 go_wp2_with fail
 refine ω (S:=fun w'=>Turned (fun k=>k=b∨v1.ownBlock=some k) w1 w') (by kernel_rfl) (Turned.below (below_drewN' w1 1)) (fun hHeld=> ?_)
 have FX4:=Qh (fun(wF:World) (hSw:(fun w'=>Turned (fun k=>k=b∨v1.ownBlock=some k) w1 w') wF)=>And.intro ((hSw.cell (HX.out.cell 8 _ rfl) HX.out.ne)) ((hSw.cell (HX.out.cell 9 _ rfl) HX.out.ne)))
 refine tf FX4 0 rfl ?_
 refine tf FX4 1 rfl ?_
 refine tf FX4 2 rfl ?_
 refine tf FX4 3 rfl ?_
 refine tf FX4 5 rfl ?_
 refine tf FX4 6 rfl ?_
 clear FX4
 have hbd:Below w1.heap.size w1 (World.drew w1):=below_drewN' w1 1
 have HR:=Qh (Ef.below b v1 hbd)
 replace HX:=Qh (HX.out.below hbd)
 clear hbd hHeld
 generalize World.drew w1=Wd at*
 have HX0:=Qh (HX.out.old)
 refine wpAnyH_ready (rs:=[4,7]) (by kernel_rfl) (by simp) ?_
 refine AllReadyH.cons rfl (fun K hK=> ?_) (AllReadyH.cons rfl (fun K hK=> ?_) AllReadyH.nil)
 go_simp
 refine(Di Wd b B v1 _ 9 9 e.stamp rfl HX.out.wr HX.out.sz (by have:=HN.out.stamp;omega) (by omega) (by simp [cand,nF,tF]) (by simp [cand])).mono ?_
 rintro x w2 ⟨rfl,v2,hL,hS⟩
 replace HR:=Qh (HR.out.trans hS)
 replace HX:=Qh (HX.out.step hL hS)
 clear hL hS
 go_wp2_with fail
 refine hK.out _ _ HR.out.tu (fun hHeld=> ?_)
 clear hK K hHeld
 obtain⟨oa,cap,w3,hcv,hbr,hb⟩:=conv_any w2 e.note
 have HBR:=Qh hbr
 replace HX:=Qh (HX.out.below hb)
 clear hbr
 replace HR:=Qh (HR.out.trans (Ef.below b v2 hb))
 clear hb
 refine Rd 7 rfl fun K hK=> ?_
 go_simp
 refine hK.out _ _ HR.out.tu (fun hHeld=> ?_)
 clear hK K hHeld hcv
 rotate_left
 obtain⟨oa,cap,w2,hcv,hbr,hb⟩:=conv_any Wd e.note
 have HBR:=Qh hbr
 replace HX:=Qh (HX.out.below hb)
 clear hbr
 replace HR:=Qh (HR.out.trans (Ef.below b v1 hb))
 have HVN:=Qh (show ∀ k,Wd.heap.size≤k→ ¬ (k=b∨v1.ownBlock=some k) from HX0.out)
 clear hb HX0
 go_simp
 refine hK.out _ _ HR.out.tu (fun hHeld=> ?_)
 clear hK K hHeld hcv
 refine Rd 4 rfl fun K hK=> ?_
 go_simp
 refine(Di w2 b B v1 _ 9 9 e.stamp rfl HX.out.wr HX.out.sz (by have:=HN.out.stamp;omega) (by omega) (by simp [cand,nF,tF]) (by simp [cand])).mono ?_
 rintro x w3 ⟨rfl,v2,hL,hS⟩
 replace HR:=Qh (HR.out.trans hS)
 replace HX:=Qh (HX.out.step hL hS)
 replace HBR:=Qh (HBR.out.turned hS.tu fun k hk=>HVN.out k hk)
 clear hL hS HVN
 go_wp2_with fail
 refine hK.out _ _ HR.out.tu (fun hHeld=> ?_)
 clear hK K hHeld
 all_goals
  refine Rd 8 rfl fun K hK=> ?_
  go_simp
  refine(wrText_any w3 b B v2 _ _ 10 10 e.note rfl HBR.out.brow HX.out.wr HX.out.sz HV.out (by omega) (by simp [cand,nF,tF]) (by simp [cand])).mono ?_
  rintro x w4 ⟨rfl,v4,hL,hS⟩
  replace HR:=Qh (HR.out.trans hS)
  replace HX:=Qh (HX.out.step hL hS)
  clear hL hS
  go_wp2_with fail
  refine hK.out _ _ HR.out.tu (fun hHeld=> ?_)
  clear hK K hHeld
  refine Λ (by kernel_rfl) ?_ _
  go_wp2
  exact π (v:= .tuple #[]) (by simp [results,Tryz.results249,go_sem]) rfl ⟨rfl,v4,by simpa [cand] using HX.out.wr,HX.out.st⟩
theorem Fz (w:World):Calls Tryz.prog 102 #[] w fun e w'=>e= .returned (.pointer (some ⟨w.heap.size,0,none⟩))∧w.alloc (.cells #[.slice none 0 0,.int .i64 0] 225)=w':=by
 go_enter Tryz.func102,Tryz.ntmps102
 go_wp2
 go_ret
 exact⟨rfl,rfl⟩
theorem Gr (w:World):WrL (w.alloc (.cells #[.slice none 0 0,.int .i64 0] 225)) w.heap.size (w.heap.size+1) (.slice none 0 0) []:=⟨[],rfl,σ w _,fdOwn_nil _ _,by omega⟩
theorem done_any (w:World) (b B:Nat) (v:Value) (L:List Fld) (h:WrL w b B v L) (hl:L.length≤100) (ho: ∀ f∈L.filter nz,FldOk f) (hp:L.Pairwise fun a b=>a.tag<b.tag) (hr:(recEnc (L.filter nz)).length≤1024):
  Calls Tryz.prog 104 #[.pointer (some ⟨b,0,none⟩)] w fun e w'=> ∃ v',e= .returned (.tuple #[v',.int .i64 0])∧OwnB w' w.heap.size v' (recEnc (L.filter nz))∧Below w.heap.size w w':=by
 obtain⟨xs,hx,hw⟩:=h
 have hlx:xs.length≤100:=by
  have h1:=congrArg List.length hx
  rw [List.length_map] at h1
  have:=List.length_filter_le nz L
  omega
 have HE:=Qh (tlvEnc_any xs v B w hw.own (fun x hm=>ho _ (by rw [←hx];exact List.mem_map_of_mem hm)) (by
  have h2:(L.filter nz).Pairwise fun a b=>a.tag<b.tag:=hp.filter _
  rw [←hx,List.pairwise_map] at h2
  exact h2) hlx (by rw [hx];exact hr))
 rw [hx] at HE
 have c0:=hw.blk.c0
 have c1:=hw.blk.c1
 clear hl ho hp hr hx hlx hw
 go_enter Tryz.func104,Tryz.ntmps104
 go_wp2_with fail
 refine HE.out.mono ?_
 rintro e w1 ⟨v1,rfl,h1,h2⟩
 go_wp2
 go_ret2
 exact⟨v1,rfl,h1,h2⟩
def evCs (e:Ev):Array Value:= #[.int .i64 e.kind,.int .i64 e.order,.int .i64 e.item,.int .i64 e.qty,.int .i64 e.price,.int .i64 e.cur,.int .i64 e.tax,.string ⟨e.who.toArray⟩,.int .i64 e.stamp,.string ⟨e.note.toArray⟩]
def Ai (w:World) (b:Nat) (e:Ev):Prop:=w.heap[b]? =some (.cells (evCs e) 38 (0,0))
theorem Ai.lt {w:World} {b:Nat} {e:Ev} (h:Ai w b e):b<w.heap.size:=(δ.1 h).1
theorem Ai.below {w w':World} {b:Nat} {e:Ev} (h:Ai w b e) (hb:Below w.heap.size w w'):Ai w' b e:=(hb.block _ h.lt).trans h
theorem evInfo:(Tryz.prog.info? 38).map (·.size)=some 10:=by kernel_rfl
theorem wpList_load_ev {ops:Array Oper} {rest:List Oper} {o:Oper} {a:Act} {w:World} {Q:Exit→Act→World→Prop} (hgd:o.guard=none) (x:Operand) (ho:o.op= .load 38 x)
  (g:Nat) (e:Ev) (hx:a.eval x= .pointer (some ⟨g,0,none⟩)) (hE:Ai w g e)
  (h:wpList Tryz.prog ops Q rest (a.put o.dst (Dx e)) w):wpList Tryz.prog ops Q (o::rest) a w:=
 wpList_load_row hgd 38 x ho g hx 38 (evCs e) (0,0) _ hE Tryz.underlying38 rfl evInfo h
theorem fit_num {v:Int} {e:Ev} (h:EvFit v e):EvNum e:=by
 have h1:=h.kind
 have h2:=h.order
 have h3:=h.item
 have h4:=h.qty
 have h5:=h.price
 have h6:=h.cur
 have h7:=h.tax
 have h8:=h.stamp
 exact⟨by omega,by omega,by omega,by split at h4<;>omega,by omega,by split at h6<;>omega,by split at h7<;>omega,by split at h8<;>omega⟩
theorem m1write (k:Nat) (e:Ev) (w:World):(Go.method (k+1) 227 (v1V e) "daybook/schema.write").run Tryz.prog w= .ok (226,v1V e) w:=by kernel_rfl
theorem m2write (k:Nat) (e:Ev) (w:World):(Go.method (k+1) 229 (v2V e) "daybook/schema.write").run Tryz.prog w= .ok (235,v2V e) w:=by kernel_rfl
theorem m3write (k:Nat) (e:Ev) (w:World):(Go.method (k+1) 231 (v3V e) "daybook/schema.write").run Tryz.prog w= .ok (239,v3V e) w:=by kernel_rfl
theorem m4write (k:Nat) (e:Ev) (w:World):(Go.method (k+1) 233 (v4V e) "daybook/schema.write").run Tryz.prog w= .ok (243,v4V e) w:=by kernel_rfl
theorem m5write (k:Nat) (e:Ev) (w:World):(Go.method (k+1) 235 (v5V e) "daybook/schema.write").run Tryz.prog w= .ok (249,v5V e) w:=by kernel_rfl
def EncQ (w:World) (l:List UInt8) (e:Ending) (w':World):Prop:= ∃ v,e= .returned (.tuple #[v,.int .i64 0])∧OwnB w' w.heap.size v l∧Below w.heap.size w w'
theorem schEnc1 (e:Ev) (w:World) (hok:I3 281474976710656 e) (hc:Af 1 e=0):Calls Tryz.prog 66 #[.int .i64 1,Dx e] w (EncQ w (recEnc (evFlds 1 e))):=by
 have hf:=evFit hc
 have HN:=Qh (fit_num hf)
 have HFL:=Qh (Kq hf)
 have HLN:=Qh (Iw hf)
 have HRI:=Qh (Gy e hf.ver)
 have HB0:=Qh (below_alloc w (.cells (evCs e) 38))
 have HE0:=Qh (show Ai (w.alloc (.cells (evCs e) 38)) w.heap.size e from σ w _)
 have HCK:=Qh (A8 1 e (w.alloc (.cells (evCs e) 38)) hok)
 rw [hc] at HCK
 have HTY:=Qh (fun W=>(show Gd 1 e=Value.iface 227 (v1V e) from rfl)▸D9 1 e W)
 have hm:=fun k W=>m1write k e W
 unfold evFlds at HFL HLN
 unfold evFlds
 simp only [evCs] at HB0 HE0 HCK
 clear hok hc hf
 go_enter Tryz.func66,Tryz.ntmps66
 go_wp2_with fail
 refine HCK.out.mono ?_
 rintro x w1 ⟨rfl,hb1⟩
 have HB1:=Qh (Below.next HB0.out hb1)
 have HE1:=Qh (HE0.out.below hb1)
 clear hb1 HB0 HE0 HCK
 go_wp2_with fail
 refine(Fz w1).mono ?_
 rintro x w2 ⟨rfl,rfl⟩
 have hsz:w1.heap.size+1=(w1.alloc (.cells #[.slice none 0 0,.int .i64 0] 225)).heap.size:=(Ω _ _).symm
 have hb2:=below_alloc w1 (.cells #[.slice none 0 0,.int .i64 0] 225)
 have HB2:=Qh (Below.next HB1.out hb2)
 have HE2:=Qh (HE1.out.below hb2)
 have HW2:=Qh (Gr w1)
 have HP:=Qh (HB1.out.size)
 clear hb2 HB1 HE1
 generalize w1.alloc (.cells #[.slice none 0 0,.int .i64 0] 225)=w2 at*
 go_wp2_with (with_reducible refine wpList_load_ev rfl (.tmp 3) rfl w.heap.size e rfl HE2.out ?_)
 refine(HTY.out w2).mono ?_
 rintro x w3 ⟨rfl,hb3⟩
 have HB3:=Qh (Below.next HB2.out hb3)
 have HW3:=Qh (HW2.out.below hb3)
 have HSZ:=Qh (show w1.heap.size+1≤w3.heap.size from hsz▸hb3.size)
 clear hb3 HB2 HW2 HE2 hsz
 go_wp2_with fail
 refine(write1_any e _ _ _ _ HW3.out HSZ.out HN.out).mono ?_
 rintro x w4 ⟨rfl,v4,hL,hS⟩
 have HB4:=Qh (show Below w.heap.size w w4 from turned_blw HB3.out hS.tu (fun k hk=>by
  rcases hk with rfl | hk
  ·exact HP.out
  ·cases hk) HB3.out.size)
 have HD:=Qh (done_any w4 _ _ _ _ hL (by simp [cand]) HFL.out.1 HRI.out (by have:=HLN.out;omega))
 clear hL hS HB3 HW3
 go_wp2_with fail
 refine HD.out.mono ?_
 rintro x w5 ⟨v5,rfl,ho5,hb5⟩
 have HO5:=Qh (ho5.mono HB4.out.size)
 have HB5:=Qh (Below.next HB4.out hb5)
 clear ho5 hb5 HD
 go_wp2
 go_ret2
 exact⟨v5,rfl,HO5.out,HB5.out⟩
theorem schEnc2 (e:Ev) (w:World) (hok:I3 281474976710656 e) (hc:Af 2 e=0):Calls Tryz.prog 66 #[.int .i64 2,Dx e] w (EncQ w (recEnc (evFlds 2 e))):=by
 have hf:=evFit hc
 have HN:=Qh (fit_num hf)
 have HFL:=Qh (Kq hf)
 have HLN:=Qh (Iw hf)
 have HRI:=Qh (Gy e hf.ver)
 have HB0:=Qh (below_alloc w (.cells (evCs e) 38))
 have HE0:=Qh (show Ai (w.alloc (.cells (evCs e) 38)) w.heap.size e from σ w _)
 have HCK:=Qh (A8 2 e (w.alloc (.cells (evCs e) 38)) hok)
 rw [hc] at HCK
 have HTY:=Qh (fun W=>(show Gd 2 e=Value.iface 229 (v2V e) from rfl)▸D9 2 e W)
 have hm:=fun k W=>m2write k e W
 unfold evFlds at HFL HLN
 unfold evFlds
 simp only [evCs] at HB0 HE0 HCK
 clear hok hc hf
 go_enter Tryz.func66,Tryz.ntmps66
 go_wp2_with fail
 refine HCK.out.mono ?_
 rintro x w1 ⟨rfl,hb1⟩
 have HB1:=Qh (Below.next HB0.out hb1)
 have HE1:=Qh (HE0.out.below hb1)
 clear hb1 HB0 HE0 HCK
 go_wp2_with fail
 refine(Fz w1).mono ?_
 rintro x w2 ⟨rfl,rfl⟩
 have hsz:w1.heap.size+1=(w1.alloc (.cells #[.slice none 0 0,.int .i64 0] 225)).heap.size:=(Ω _ _).symm
 have hb2:=below_alloc w1 (.cells #[.slice none 0 0,.int .i64 0] 225)
 have HB2:=Qh (Below.next HB1.out hb2)
 have HE2:=Qh (HE1.out.below hb2)
 have HW2:=Qh (Gr w1)
 have HP:=Qh (HB1.out.size)
 clear hb2 HB1 HE1
 generalize w1.alloc (.cells #[.slice none 0 0,.int .i64 0] 225)=w2 at*
 go_wp2_with (with_reducible refine wpList_load_ev rfl (.tmp 3) rfl w.heap.size e rfl HE2.out ?_)
 refine(HTY.out w2).mono ?_
 rintro x w3 ⟨rfl,hb3⟩
 have HB3:=Qh (Below.next HB2.out hb3)
 have HW3:=Qh (HW2.out.below hb3)
 have HSZ:=Qh (show w1.heap.size+1≤w3.heap.size from hsz▸hb3.size)
 clear hb3 HB2 HW2 HE2 hsz
 go_wp2_with fail
 refine(write2_any e _ _ _ _ HW3.out HSZ.out HN.out).mono ?_
 rintro x w4 ⟨rfl,v4,hL,hS⟩
 have HB4:=Qh (show Below w.heap.size w w4 from turned_blw HB3.out hS.tu (fun k hk=>by
  rcases hk with rfl | hk
  ·exact HP.out
  ·cases hk) HB3.out.size)
 have HD:=Qh (done_any w4 _ _ _ _ hL (by simp [cand]) HFL.out.1 HRI.out (by have:=HLN.out;omega))
 clear hL hS HB3 HW3
 go_wp2_with fail
 refine HD.out.mono ?_
 rintro x w5 ⟨v5,rfl,ho5,hb5⟩
 have HO5:=Qh (ho5.mono HB4.out.size)
 have HB5:=Qh (Below.next HB4.out hb5)
 clear ho5 hb5 HD
 go_wp2
 go_ret2
 exact⟨v5,rfl,HO5.out,HB5.out⟩
theorem schEnc3 (e:Ev) (w:World) (hok:I3 281474976710656 e) (hc:Af 3 e=0):Calls Tryz.prog 66 #[.int .i64 3,Dx e] w (EncQ w (recEnc (evFlds 3 e))):=by
 have hf:=evFit hc
 have HN:=Qh (fit_num hf)
 have HQ:=Qh (show 0≤e.qty from by have:=hf.qty;rw [γ (by decide)] at this;exact this.1)
 have HFL:=Qh (Kq hf)
 have HLN:=Qh (Iw hf)
 have HRI:=Qh (Gy e hf.ver)
 have HB0:=Qh (below_alloc w (.cells (evCs e) 38))
 have HE0:=Qh (show Ai (w.alloc (.cells (evCs e) 38)) w.heap.size e from σ w _)
 have HCK:=Qh (A8 3 e (w.alloc (.cells (evCs e) 38)) hok)
 rw [hc] at HCK
 have HTY:=Qh (fun W=>(show Gd 3 e=Value.iface 231 (v3V e) from rfl)▸D9 3 e W)
 have hm:=fun k W=>m3write k e W
 unfold evFlds at HFL HLN
 unfold evFlds
 simp only [evCs] at HB0 HE0 HCK
 clear hok hc hf
 go_enter Tryz.func66,Tryz.ntmps66
 go_wp2_with fail
 refine HCK.out.mono ?_
 rintro x w1 ⟨rfl,hb1⟩
 have HB1:=Qh (Below.next HB0.out hb1)
 have HE1:=Qh (HE0.out.below hb1)
 clear hb1 HB0 HE0 HCK
 go_wp2_with fail
 refine(Fz w1).mono ?_
 rintro x w2 ⟨rfl,rfl⟩
 have hsz:w1.heap.size+1=(w1.alloc (.cells #[.slice none 0 0,.int .i64 0] 225)).heap.size:=(Ω _ _).symm
 have hb2:=below_alloc w1 (.cells #[.slice none 0 0,.int .i64 0] 225)
 have HB2:=Qh (Below.next HB1.out hb2)
 have HE2:=Qh (HE1.out.below hb2)
 have HW2:=Qh (Gr w1)
 have HP:=Qh (HB1.out.size)
 clear hb2 HB1 HE1
 generalize w1.alloc (.cells #[.slice none 0 0,.int .i64 0] 225)=w2 at*
 go_wp2_with (with_reducible refine wpList_load_ev rfl (.tmp 3) rfl w.heap.size e rfl HE2.out ?_)
 refine(HTY.out w2).mono ?_
 rintro x w3 ⟨rfl,hb3⟩
 have HB3:=Qh (Below.next HB2.out hb3)
 have HW3:=Qh (HW2.out.below hb3)
 have HSZ:=Qh (show w1.heap.size+1≤w3.heap.size from hsz▸hb3.size)
 clear hb3 HB2 HW2 HE2 hsz
 go_wp2_with fail
 refine(write3_any e _ _ _ _ HW3.out HSZ.out HN.out HQ.out).mono ?_
 rintro x w4 ⟨rfl,v4,hL,hS⟩
 have HB4:=Qh (show Below w.heap.size w w4 from turned_blw HB3.out hS.tu (fun k hk=>by
  rcases hk with rfl | hk
  ·exact HP.out
  ·cases hk) HB3.out.size)
 have HD:=Qh (done_any w4 _ _ _ _ hL (by simp [cand]) HFL.out.1 HRI.out (by have:=HLN.out;omega))
 clear hL hS HB3 HW3
 go_wp2_with fail
 refine HD.out.mono ?_
 rintro x w5 ⟨v5,rfl,ho5,hb5⟩
 have HO5:=Qh (ho5.mono HB4.out.size)
 have HB5:=Qh (Below.next HB4.out hb5)
 clear ho5 hb5 HD
 go_wp2
 go_ret2
 exact⟨v5,rfl,HO5.out,HB5.out⟩
theorem schEnc4 (e:Ev) (w:World) (hok:I3 281474976710656 e) (hc:Af 4 e=0):Calls Tryz.prog 66 #[.int .i64 4,Dx e] w (EncQ w (recEnc (evFlds 4 e))):=by
 have hf:=evFit hc
 have HN:=Qh (fit_num hf)
 have HQ:=Qh (show 0≤e.qty from by have:=hf.qty;rw [γ (by decide)] at this;exact this.1)
 have HWH:=Qh (show e.who.length≤200 from by have:=hf.who;omega)
 have HFL:=Qh (Kq hf)
 have HLN:=Qh (Iw hf)
 have HRI:=Qh (Gy e hf.ver)
 have HB0:=Qh (below_alloc w (.cells (evCs e) 38))
 have HE0:=Qh (show Ai (w.alloc (.cells (evCs e) 38)) w.heap.size e from σ w _)
 have HCK:=Qh (A8 4 e (w.alloc (.cells (evCs e) 38)) hok)
 rw [hc] at HCK
 have HTY:=Qh (fun W=>(show Gd 4 e=Value.iface 233 (v4V e) from rfl)▸D9 4 e W)
 have hm:=fun k W=>m4write k e W
 unfold evFlds at HFL HLN
 unfold evFlds
 simp only [evCs] at HB0 HE0 HCK
 clear hok hc hf
 go_enter Tryz.func66,Tryz.ntmps66
 go_wp2_with fail
 refine HCK.out.mono ?_
 rintro x w1 ⟨rfl,hb1⟩
 have HB1:=Qh (Below.next HB0.out hb1)
 have HE1:=Qh (HE0.out.below hb1)
 clear hb1 HB0 HE0 HCK
 go_wp2_with fail
 refine(Fz w1).mono ?_
 rintro x w2 ⟨rfl,rfl⟩
 have hsz:w1.heap.size+1=(w1.alloc (.cells #[.slice none 0 0,.int .i64 0] 225)).heap.size:=(Ω _ _).symm
 have hb2:=below_alloc w1 (.cells #[.slice none 0 0,.int .i64 0] 225)
 have HB2:=Qh (Below.next HB1.out hb2)
 have HE2:=Qh (HE1.out.below hb2)
 have HW2:=Qh (Gr w1)
 have HP:=Qh (HB1.out.size)
 clear hb2 HB1 HE1
 generalize w1.alloc (.cells #[.slice none 0 0,.int .i64 0] 225)=w2 at*
 go_wp2_with (with_reducible refine wpList_load_ev rfl (.tmp 3) rfl w.heap.size e rfl HE2.out ?_)
 refine(HTY.out w2).mono ?_
 rintro x w3 ⟨rfl,hb3⟩
 have HB3:=Qh (Below.next HB2.out hb3)
 have HW3:=Qh (HW2.out.below hb3)
 have HSZ:=Qh (show w1.heap.size+1≤w3.heap.size from hsz▸hb3.size)
 clear hb3 HB2 HW2 HE2 hsz
 go_wp2_with fail
 refine(write4_any e _ _ _ _ HW3.out HSZ.out HN.out HQ.out HWH.out).mono ?_
 rintro x w4 ⟨rfl,v4,hL,hS⟩
 have HB4:=Qh (show Below w.heap.size w w4 from turned_blw HB3.out hS.tu (fun k hk=>by
  rcases hk with rfl | hk
  ·exact HP.out
  ·cases hk) HB3.out.size)
 have HD:=Qh (done_any w4 _ _ _ _ hL (by simp [cand]) HFL.out.1 HRI.out (by have:=HLN.out;omega))
 clear hL hS HB3 HW3
 go_wp2_with fail
 refine HD.out.mono ?_
 rintro x w5 ⟨v5,rfl,ho5,hb5⟩
 have HO5:=Qh (ho5.mono HB4.out.size)
 have HB5:=Qh (Below.next HB4.out hb5)
 clear ho5 hb5 HD
 go_wp2
 go_ret2
 exact⟨v5,rfl,HO5.out,HB5.out⟩
theorem schEnc5 (e:Ev) (w:World) (hok:I3 281474976710656 e) (hc:Af 5 e=0):Calls Tryz.prog 66 #[.int .i64 5,Dx e] w (EncQ w (recEnc (evFlds 5 e))):=by
 have hf:=evFit hc
 have HN:=Qh (fit_num hf)
 have HQ:=Qh (show 0≤e.qty from by have:=hf.qty;rw [γ (by decide)] at this;exact this.1)
 have HWH:=Qh (show e.who.length≤200 from by have:=hf.who;omega)
 have HNO:=Qh (show e.note.length≤200 from by have:=hf.note;omega)
 have HFL:=Qh (Kq hf)
 have HLN:=Qh (Iw hf)
 have HRI:=Qh (Gy e hf.ver)
 have HB0:=Qh (below_alloc w (.cells (evCs e) 38))
 have HE0:=Qh (show Ai (w.alloc (.cells (evCs e) 38)) w.heap.size e from σ w _)
 have HCK:=Qh (A8 5 e (w.alloc (.cells (evCs e) 38)) hok)
 rw [hc] at HCK
 have HTY:=Qh (fun W=>(show Gd 5 e=Value.iface 235 (v5V e) from rfl)▸D9 5 e W)
 have hm:=fun k W=>m5write k e W
 unfold evFlds at HFL HLN
 unfold evFlds
 simp only [evCs] at HB0 HE0 HCK
 clear hok hc hf
 go_enter Tryz.func66,Tryz.ntmps66
 go_wp2_with fail
 refine HCK.out.mono ?_
 rintro x w1 ⟨rfl,hb1⟩
 have HB1:=Qh (Below.next HB0.out hb1)
 have HE1:=Qh (HE0.out.below hb1)
 clear hb1 HB0 HE0 HCK
 go_wp2_with fail
 refine(Fz w1).mono ?_
 rintro x w2 ⟨rfl,rfl⟩
 have hsz:w1.heap.size+1=(w1.alloc (.cells #[.slice none 0 0,.int .i64 0] 225)).heap.size:=(Ω _ _).symm
 have hb2:=below_alloc w1 (.cells #[.slice none 0 0,.int .i64 0] 225)
 have HB2:=Qh (Below.next HB1.out hb2)
 have HE2:=Qh (HE1.out.below hb2)
 have HW2:=Qh (Gr w1)
 have HP:=Qh (HB1.out.size)
 clear hb2 HB1 HE1
 generalize w1.alloc (.cells #[.slice none 0 0,.int .i64 0] 225)=w2 at*
 go_wp2_with (with_reducible refine wpList_load_ev rfl (.tmp 3) rfl w.heap.size e rfl HE2.out ?_)
 refine(HTY.out w2).mono ?_
 rintro x w3 ⟨rfl,hb3⟩
 have HB3:=Qh (Below.next HB2.out hb3)
 have HW3:=Qh (HW2.out.below hb3)
 have HSZ:=Qh (show w1.heap.size+1≤w3.heap.size from hsz▸hb3.size)
 clear hb3 HB2 HW2 HE2 hsz
 go_wp2_with fail
 refine(write5_any e _ _ _ _ HW3.out HSZ.out HN.out HQ.out HWH.out HNO.out).mono ?_
 rintro x w4 ⟨rfl,v4,hL,hS⟩
 have HB4:=Qh (show Below w.heap.size w w4 from turned_blw HB3.out hS.tu (fun k hk=>by
  rcases hk with rfl | hk
  ·exact HP.out
  ·cases hk) HB3.out.size)
 have HD:=Qh (done_any w4 _ _ _ _ hL (by simp [cand]) HFL.out.1 HRI.out (by have:=HLN.out;omega))
 clear hL hS HB3 HW3
 go_wp2_with fail
 refine HD.out.mono ?_
 rintro x w5 ⟨v5,rfl,ho5,hb5⟩
 have HO5:=Qh (ho5.mono HB4.out.size)
 have HB5:=Qh (Below.next HB4.out hb5)
 clear ho5 hb5 HD
 go_wp2
 go_ret2
 exact⟨v5,rfl,HO5.out,HB5.out⟩
theorem schEnc_any (v:Int) (e:Ev) (w:World) (hok:I3 281474976710656 e) (hc:Af v e=0):Calls Tryz.prog 66 #[.int .i64 v,Dx e] w (EncQ w (recEnc (evFlds v e))):=by
 have hv:=(evFit hc).ver
 rcases (show v=1∨v=2∨v=3∨v=4∨v=5 by omega) with rfl | rfl | rfl | rfl | rfl
 ·exact schEnc1 e w hok hc
 ·exact schEnc2 e w hok hc
 ·exact schEnc3 e w hok hc
 ·exact schEnc4 e w hok hc
 ·exact schEnc5 e w hok hc
theorem pack_any (v:Int) (e:Ev) (w:World) (hok:I3 281474976710656 e) (hc:Af v e=0):Calls Tryz.prog 39 #[.int .i64 v,Dx e] w (EncQ w (J7 v e)):=by
 have hv:=(evFit hc).ver
 obtain⟨n,rfl⟩: ∃ n:Nat,v=(n:Int):=⟨v.toNat,by omega⟩
 have hn:n≤5:=by omega
 clear hv
 unfold J7
 rw [Int.toNat_natCast]
 have HB0:=Qh (below_alloc w (.cells (evCs e) 38))
 have HE:=Qh (schEnc_any (n:Int) e (w.alloc (.cells (evCs e) 38)) hok hc)
 have HV:=Qh (fun W=>Ds n W (by omega))
 have hw1:IntKind.u64.wrap (n:Int)=(n:Int):=by rw [IntKind.wrap_u64];omega
 have h1:(encV n).length≤10:=Bl (by omega)
 have h2:(recEnc (evFlds (n:Int) e)).length≤336:=Iw (evFit hc)
 have HL:=Qh (show (encV n).length+(recEnc (evFlds (n:Int) e)).length≤140737488355328 from by omega)
 clear h1 h2
 generalize encV n=p at*
 generalize recEnc (evFlds (n:Int) e)=q at*
 simp only [evCs] at HB0 HE
 clear hok hc hn
 go_enter Tryz.func39,Tryz.ntmps39
 go_wp2_with fail
 refine HE.out.mono ?_
 rintro x w1 ⟨v1,rfl,ho1,hb1⟩
 have HO1:=Qh ho1
 have HB1:=Qh (Below.next HB0.out hb1)
 have HV1:=Qh (HV.out w1)
 clear ho1 hb1 HE HB0 HV
 go_wp2_with fail
 refine HV1.out.mono ?_
 rintro x w2 ⟨v2,rfl,ho2,hb2⟩
 have HB2:=Qh (Below.next HB1.out hb2)
 have HO2:=Qh (ho2.mono HB1.out.size)
 have HQ2:=Qh (HO1.out.later hb2)
 clear ho2 hb2 HV1 HO1 hw1
 go_wp2_with (at_builtin;refine wpList_appB rfl _ _ rfl rfl rfl HO2.out ?c1 HQ2.out.brow HL.out ?_)
 case c1=>exact HB2.out.size
 intro v' w' h1 h2
 have HF:=Qh h1
 have HG:=Qh (HB2.out.trans h2)
 clear h1 h2
 go_wp2
 go_ret2
 exact⟨v',rfl,HF.out,HG.out⟩
theorem Dn (u:Nat) (w:World):Calls Tryz.prog 77 #[.int .u64 (u:Int)] w fun e w'=>e= .returned (.int .i64 (Cw u))∧w=w':=by
 have hm:min (u:Int) 4611686018427387904=Cw u:=by unfold Cw;omega
 have hw:IntKind.i64.wrap (Cw u)=Cw u:=by unfold Cw;rw [κ];omega
 go_enter Tryz.func77,Tryz.ntmps77
 go_wp2
 go_ret
 exact⟨rfl,rfl⟩
theorem i64_flip (a:Nat) (ha:a<9223372036854775808):bits .xor .i64 (a:Int) (-1)= -(a:Int) - 1:=by
 show IntKind.i64.wrap ((BitVec.ofInt 64 (a:Int)^^^BitVec.ofInt 64 (-1)).toNat:Int)=_
 have h1:BitVec.ofInt 64 (-1)=BitVec.allOnes 64:=by decide
 have h2:(BitVec.ofInt 64 (a:Int)).toNat=a:=by rw [BitVec.toNat_ofInt];omega
 rw [h1,BitVec.xor_allOnes,BitVec.toNat_not,h2,κ]
 omega
theorem i64_zero (a:Nat) (ha:a<9223372036854775808):bits .xor .i64 (a:Int) 0=(a:Int):=by
 show IntKind.i64.wrap ((BitVec.ofInt 64 (a:Int)^^^BitVec.ofInt 64 0).toNat:Int)=_
 have h1:BitVec.ofInt 64 0=0#64:=by decide
 have h2:(BitVec.ofInt 64 (a:Int)).toNat=a:=by rw [BitVec.toNat_ofInt];omega
 rw [h1,BitVec.xor_zero,h2,κ]
 omega
theorem u64_and1 (u:Nat) (hu:u<18446744073709551616):bits .and .u64 (u:Int) 1=((u % 2:Nat):Int):=by
 show IntKind.u64.wrap ((BitVec.ofInt 64 (u:Int)&&&BitVec.ofInt 64 1).toNat:Int)=_
 have h2:(BitVec.ofInt 64 (u:Int)).toNat=u:=by rw [BitVec.toNat_ofInt];omega
 have h3:(BitVec.ofInt 64 1).toNat=1:=by decide
 rw [BitVec.toNat_and,h2,h3,Nat.and_one_is_mod,IntKind.wrap_u64]
 omega
theorem zag_any (u:Nat) (w:World) (hu:u<18446744073709551616):Calls Tryz.prog 154 #[.int .u64 (u:Int)] w fun e w'=>e= .returned (.int .i64 (zagV u))∧w=w':=by
 have ha:=u64_and1 u hu
 have h1:IntKind.i64.wrap ((u:Int) / 2)=((u / 2:Nat):Int):=by rw [κ];omega
 have h2:IntKind.i64.wrap ((u % 2:Nat):Int)=((u % 2:Nat):Int):=by rw [κ];omega
 have h3:IntKind.i64.wrap (-((u % 2:Nat):Int))= -((u % 2:Nat):Int):=by rw [κ];omega
 have hx:bits .xor .i64 ((u / 2:Nat):Int) (-((u % 2:Nat):Int))=zagV u:=by
  unfold zagV
  rcases Nat.mod_two_eq_zero_or_one u with h | h
  ·rw [h,ζ rfl];exact i64_zero _ (by omega)
  ·rw [h,γ (by decide)];exact i64_flip _ (by omega)
 go_enter Tryz.func154,Tryz.ntmps154
 go_wp2
 go_ret
 exact⟨by rw [←hx];rfl,rfl⟩
def fOkQ (xs:List (Fld×Value)):Prop:= ∀ x∈xs,x.1.num<18446744073709551616∧x.1.data.length≤200
theorem takeP_ok {xs:List (Fld×Value)} (h:fOkQ xs) (bad k:Int) (t:Bool):(Bw xs bad k t).1.1.num<18446744073709551616∧(Bw xs bad k t).1.1.data.length≤200∧fOkQ (Bw xs bad k t).2.1:=by
 have h2:fOkQ (Bw xs bad k t).2.1:=fun x hx=>h x (takeP_sub x hx)
 rcases takeP_mem xs bad k t with e | e
 ·rw [e];exact⟨by decide,by decide,h2⟩
 ·exact⟨(h _ e).1,(h _ e).2,h2⟩
theorem fldV_num (b:List UInt8) (p last:Nat):(Df b p last).2.1.num<18446744073709551616:=by
 unfold Df
 dsimp only
 repeat' split
 all_goals first
  | exact(by decide:(0:Nat)<18446744073709551616)
  | exact decV_lt _
theorem tlvGo_num (b:List UInt8): ∀ (n p last:Nat) (fs:List Fld),(∀ f∈fs,f.num<18446744073709551616)→ ∀ f∈(Gu b n p last fs).2,f.num<18446744073709551616
 | 0,_,_,_=>fun h=>h
 | n+1,p,last,fs=>fun h=>by
  rw [Gu]
  split
  ·split
   ·refine tlvGo_num b n _ _ _ fun f hf=> ?_
    rcases List.mem_append.1 hf with hf | hf
    ·exact h f hf
    ·simp at hf;subst hf;exact fldV_num b p last
   ·intro f hf;cases hf
  ·exact h
theorem tlvDec_num {b:List UInt8}: ∀ f∈(B2 b).2,f.num<18446744073709551616:=by
 unfold B2
 split
 ·intro f hf;cases hf
 ·exact tlvGo_num b _ _ _ _ fun f hf=>by cases hf
def evZ (a b c:Int):Ev:=⟨a,b,c,0,0,0,0,[],0,[]⟩
structure DQ (w X W:World) (rb mb:Nat) (q:List Fld×Int) (o:Option (Nat×Ev)):Prop where
 rd: ∃ xs bad,q=(xs.map (·.1),bad)∧En W rb mb bad xs∧(∀ x∈xs,Ag (fun k=>(k≠rb∧k≠mb)∧k<X.heap.size) W x.2 x.1.data)∧fOkQ xs
 lt:rb<X.heap.size∧mb<X.heap.size∧w.heap.size<rb∧w.heap.size<mb
 res:Ai W w.heap.size evNone
 ev: ∀ g e,o=some (g,e)→X.heap.size≤g∧Ai W g e
 bl:Below w.heap.size w W
 sz:X.heap.size≤W.heap.size
section
variable {w X W W' : World} {rb mb : Nat} {q : List Fld × Int} {o : Option (Nat × Ev)}
theorem DQ.step {xs:List (Fld×Value)} {bad k:Int} {t:Bool} (h:DQ w X W rb mb q o) (hq:q=(xs.map (·.1),bad)) (hrow: ∀ x∈xs,Ag (fun k=>(k≠rb∧k≠mb)∧k<X.heap.size) W x.2 x.1.data) (hf:fOkQ xs)
  (h1:En W' rb mb (Bw xs bad k t).2.2 (Bw xs bad k t).2.1) (ht:Turned (fun j=>j=rb∨j=mb) W W'):DQ w X W' rb mb (Bx q k t).2 o:=by
 have hl:=h.lt
 have hk: ∀ j e,Ai W j e→j≠rb→j≠mb→Ai W' j e:=fun j e a b c=>(ht.block _ a.lt fun hc=>by rcases hc with hc | hc;exact b hc;exact c hc).trans a
 refine⟨⟨_,_,?_,h1,fun x hx=>Ag.turned (hrow x (takeP_sub x hx)) ht fun k hk hc=> ?_,(takeP_ok hf bad k t).2.2⟩,hl,hk _ _ h.res (by omega) (by omega),fun g e he=> ?_,turned_blw h.bl ht (fun k hk=>by rcases hk with hk | hk<;>omega) h.bl.size,μ h.sz ht.size⟩
 ·rw [hq,takeP_Q]
 ·rcases hc with hc | hc
  ·exact hk.1.1 hc
  ·exact hk.1.2 hc
 ·obtain⟨a,b⟩:=h.ev g e he
  exact⟨a,hk _ _ b (by omega) (by omega)⟩
theorem DQ.num (h:DQ w X W rb mb q o) (k:Int) (hk:0≤k∧k≤1000): ∃ (u:Nat) (y:Int×List Fld×Int),numQ q k=y∧Cw u=y.1∧Calls Tryz.prog 118 #[.pointer (some ⟨rb,0,none⟩),.int .i64 k] W fun e W'=>e= .returned (.int .u64 (u:Int))∧DQ w X W' rb mb y.2 o:=by
 obtain⟨xs,bad,e,h1,h2,h3⟩:=h.rd
 refine⟨(Bx q k false).1.num,_,rfl,rfl,?_⟩
 have e1:(Bx q k false).1.num=(Bw xs bad k false).1.1.num:=by rw [e,takeP_Q]
 rw [e1]
 refine(rdNum_any W rb mb bad k xs h1 hk).mono ?_
 rintro x w1 ⟨rfl,a,b⟩
 exact⟨rfl,h.step e h2 h3 a b⟩
theorem DQ.text (h:DQ w X W rb mb q o) (k:Int) (hk:0≤k∧k≤1000): ∃ y:Fld×List Fld×Int,Bx q k true=y∧y.1.data.length≤200∧Calls Tryz.prog 120 #[.pointer (some ⟨rb,0,none⟩),.int .i64 k] W fun e W'=> ∃ v,e= .returned v∧A2 W' v y.1.data∧DQ w X W' rb mb y.2 o:=by
 obtain⟨xs,bad,e,h1,h2,h3⟩:=h.rd
 refine⟨_,rfl,?_,?_⟩
 ·have e1:(Bx q k true).1.data=(Bw xs bad k true).1.1.data:=by rw [e,takeP_Q]
  rw [e1]
  exact(takeP_ok h3 bad k true).2.1
 ·have e1:(Bx q k true).1.data=(Bw xs bad k true).1.1.data:=by rw [e,takeP_Q]
  rw [e1]
  refine(rdText_any W rb mb bad k xs h1 hk).mono ?_
  rintro x w1 ⟨rfl,a,b,c⟩
  exact⟨_,rfl,a.brow,h.step e h2 h3 b c⟩
theorem DQ.err (h:DQ w X W rb mb q o):Calls Tryz.prog 121 #[.pointer (some ⟨rb,0,none⟩)] W fun e W'=>e= .returned (.int .i64 (errQ q))∧W=W':=by
 obtain⟨xs,bad,e,h1,h2,h3⟩:=h.rd
 rw [e,←errR_Q]
 exact rdErr_any W rb mb bad xs h1
theorem DQ.int (h:DQ w X W rb mb q o) (k:Int) (hk:0≤k∧k≤1000):(Bx q k false).1.num<18446744073709551616∧Calls Tryz.prog 119 #[.pointer (some ⟨rb,0,none⟩),.int .i64 k] W fun e W'=>e= .returned (.int .i64 (zagV (Bx q k false).1.num))∧DQ w X W' rb mb (Bx q k false).2 o:=by
 obtain⟨xs,bad,e,h1,h2,h3⟩:=h.rd
 have e1:(Bx q k false).1.num=(Bw xs bad k false).1.1.num:=by rw [e,takeP_Q]
 have hlt:=(takeP_ok h3 bad k false).1
 have HN:=Qh (rdNum_any W rb mb bad k xs h1 hk)
 have HQ:=Qh (fun W' (a:En W' rb mb (Bw xs bad k false).2.2 (Bw xs bad k false).2.1) (b:Turned (fun j=>j=rb∨j=mb) W W')=>h.step e h2 h3 a b)
 rw [e1]
 refine⟨hlt,?_⟩
 clear h h1 h2 h3 hk e1
 generalize (Bx q k false).2=z at*
 generalize Bw xs bad k false=y at*
 have HZ:=Qh (fun W=>zag_any _ W hlt)
 clear hlt e
 go_enter Tryz.func119,Tryz.ntmps119
 go_wp2_with fail
 refine HN.out.mono ?_
 rintro e w1 ⟨rfl,h1,h2⟩
 go_wp2_with fail
 refine(HZ.out _).mono ?_
 rintro e w2 ⟨rfl,rfl⟩
 go_wp2
 go_ret
 exact⟨rfl,HQ.out _ h1 h2⟩
theorem Ai.cell {w:World} {b:Nat} {e:Ev} (h:Ai w b e) (j:Nat):w.cell? ⟨b,j,none⟩=(evCs e)[j]? :=cell_of_row w b j _ _ _ h
theorem Ai.free {w:World} {b:Nat} {e:Ev} (h:Ai w b e) (j:Nat):w.frozen? ⟨b,j,none⟩=false:=by unfold Ai at h;simp [World.frozen?,h]
theorem Ai.set {w:World} {b:Nat} {e e':Ev} (h:Ai w b e) (j:Nat) (v:Value) (he:(evCs e).setIfInBounds j v=evCs e'):Ai (w.setCell ⟨b,j,none⟩ v) b e':=by
 unfold Ai at h ⊢
 rw [←he]
 simp only [World.setCell]
 rw [Array.getElem?_modify]
 simp [h]
theorem Ai.row {w:World} {b:Nat} {e e':Ev} (h:Ai w b e):Ai (w.setRow b (evCs e')) b e':=setRow_heap w b _ _ _ _ h
theorem evCs_all (e:Ev):(evCs e).all (·.oneCell')=true:=
 Array.all_eq_true_iff_forall_mem.2 (by
  intro u hu
  simp only [evCs,List.mem_toArray,Γ,List.not_mem_nil,or_false] at hu
  rcases hu with rfl | rfl | rfl | rfl | rfl | rfl | rfl | rfl | rfl | rfl<;>rfl)
theorem DQ.set {g j:Nat} {e e':Ev} {v:Value} (h:DQ w X W rb mb q (some (g,e))) (he:(evCs e).setIfInBounds j v=evCs e'):DQ w X (W.setCell ⟨g,j,none⟩ v) rb mb q (some (g,e')):=by
 have ht:Turned (fun k=>k=g) W (W.setCell ⟨g,j,none⟩ v):=Turned.setCell _ _ _ rfl
 obtain⟨xs,bad,hq,h1,h2,h3⟩:=h.rd
 have hl:=h.lt
 obtain⟨hg,hev⟩:=h.ev g e rfl
 have hsz:=h.sz
 have hxw:w.heap.size<X.heap.size:=by omega
 exact⟨⟨xs,bad,hq,h1.other (B:=X.heap.size) ht (fun k hk=>by omega) hl.1 hl.2.1 fun x hx=>(h2 x hx).mono fun k hk=>hk.2,fun x hx=>Ag.turned (h2 x hx) ht fun k hk hc=>by omega,h3⟩,hl,
  (ht.block _ h.res.lt fun hc=>by omega).trans h.res,fun g' e'' hh=>by simp only [Option.some.injEq,Prod.mk.injEq] at hh;obtain⟨rfl,rfl⟩:=hh;exact⟨hg,hev.set j v he⟩,turned_blw h.bl ht (fun k hk=>by omega) h.bl.size,μ h.sz ht.size⟩
theorem DQ.alloc {e:Ev} (h:DQ w X W rb mb q none):DQ w X (W.alloc (.cells (evCs e) 38)) rb mb q (some (W.heap.size,e)):=by
 have hb:=below_alloc W (.cells (evCs e) 38)
 obtain⟨xs,bad,hq,h1,h2,h3⟩:=h.rd
 exact⟨⟨xs,bad,hq,h1.below hb,fun x hx=>(h2 x hx).below hb,h3⟩,h.lt,h.res.below hb,fun g' e'' hh=>by simp only [Option.some.injEq,Prod.mk.injEq] at hh;obtain⟨rfl,rfl⟩:=hh;exact⟨h.sz,σ W _⟩,Below.next h.bl hb,μ h.sz hb.size⟩
end
theorem wpList_store_ev {ops:Array Oper} {rest:List Oper} {o:Oper} {a:Act} {w:World} {Q:Exit→Act→World→Prop} (hgd:o.guard=none) (x y:Operand) (ho:o.op= .store 38 x y)
  (g:Nat) (e e':Ev) (hx:a.eval x= .pointer (some ⟨g,0,none⟩)) (hy:a.eval y=Dx e') (hE:Ai w g e)
  (h: ∀ W,Hid (Ai W g e'∧Turned (fun k=>k=g) w W)→wpList Tryz.prog ops Q rest (a.put o.dst undef) W):wpList Tryz.prog ops Q (o::rest) a w:=
 wpList_store_row hgd 38 x y ho g (evCs e') hx hy 38 (evCs e) hE evInfo rfl (evCs_all e') (h _ (Qh ⟨hE.row,setRow_trn _ _ _⟩))
theorem C9 {fn:Func} {p q:Tmp} (h:fn.results= #[.cell p 38,.tmp q]) (tmps:Array Value) (w:World) (g:Nat) (e:Ev) (x:Value)
  (hp:tmps.getD p undef= .pointer (some ⟨g,0,none⟩)) (hq:tmps.getD q undef=x) (hE:Ai w g e):(results fn tmps).run Tryz.prog w= .ok (.tuple #[Dx e,x]) w:=by
 have hl:=run_loadVar_row (P:=Tryz.prog) w g 38 38 (evCs e) (0,0) _ hE Tryz.underlying38 rfl evInfo
 have hp':tmps[p]?.getD undef= .pointer (some ⟨g,0,none⟩):=by simpa using hp
 have hq':tmps[q]?.getD undef=x:=by simpa using hq
 simp [results,h,hp',hq',asAddr,hl]
 rfl
def EvQ (w:World) (r:Ev×Int) (e:Ending) (w':World):Prop:=e= .returned (.tuple #[Dx r.1,.int .i64 r.2])∧Below w.heap.size w w'
theorem D8 (q:List Fld×Int) (k:Int):I64 (numQ q k).1:=by
 unfold numQ Cw I64
 simp only
 omega
theorem zagV_rng {u:Nat} (hu:u<18446744073709551616):I64 (zagV u):=by
 unfold zagV I64
 split<;>omega
def finQ (v:Int) (q:List Fld×Int) (e:Ev):Ev×Int:=if errQ q≠0 then (evNone,errQ q) else if Af v e≠0 then (evNone,Af v e) else (e,0)
theorem schDec_any (v:Int) (b:List UInt8) (bv:Value) (w:World) (hv:A2 w bv b) (hl:b.length≤9223372036854775807):Calls Tryz.prog 78 #[.int .i64 v,bv] w (EvQ w (D4 v b)):=by
 have HB0:=Qh (below_alloc w (.cells #[.int .i64 0,.int .i64 0,.int .i64 0,.int .i64 0,.int .i64 0,.int .i64 0,.int .i64 0,.string ⟨#[]⟩,.int .i64 0,.string ⟨#[]⟩] 38))
 have HE0:=Qh (show Ai (w.alloc (.cells #[.int .i64 0,.int .i64 0,.int .i64 0,.int .i64 0,.int .i64 0,.int .i64 0,.int .i64 0,.string ⟨#[]⟩,.int .i64 0,.string ⟨#[]⟩] 38)) w.heap.size evNone from σ w _)
 have HNR:=Qh (newReader_any b bv _ (hv.below HB0.out) hl)
 clear hv hl
 rcases hq1:decide (v<1) with _ | _
 rotate_left
 ·have HR:=Qh (show D4 v b=(evNone,30) from by unfold D4;rw [ζ (.inl (χ hq1))])
  clear HNR
  go_enter Tryz.func78,Tryz.ntmps78
  go_wp2_with (with_reducible refine wpList_store_ev rfl (.tmp 4) (.tmp 17) rfl w.heap.size evNone evNone rfl rfl HE0.out ?_)
  intro wz hz
  have HZ:=Qh (show Ai wz w.heap.size evNone∧Below w.heap.size w wz from⟨hz.out.1,turned_blw HB0.out hz.out.2 (fun k hk=>by omega) HB0.out.size⟩)
  clear hz
  go_wp2
  exact π (v:= .tuple #[Dx evNone,.int .i64 30]) (C9 rfl _ _ w.heap.size evNone _ rfl rfl HZ.out.1) rfl ⟨by rw [HR.out],HZ.out.2⟩
 rcases hq2:decide (5<v) with _ | _
 rotate_left
 ·have HR:=Qh (show D4 v b=(evNone,30) from by unfold D4;rw [ζ (.inr (χ hq2))])
  clear HNR
  go_enter Tryz.func78,Tryz.ntmps78
  go_wp2_with (with_reducible refine wpList_store_ev rfl (.tmp 4) (.tmp 17) rfl w.heap.size evNone evNone rfl rfl HE0.out ?_)
  intro wz hz
  have HZ:=Qh (show Ai wz w.heap.size evNone∧Below w.heap.size w wz from⟨hz.out.1,turned_blw HB0.out hz.out.2 (fun k hk=>by omega) HB0.out.size⟩)
  clear hz
  go_wp2
  exact π (v:= .tuple #[Dx evNone,.int .i64 30]) (C9 rfl _ _ w.heap.size evNone _ rfl rfl HZ.out.1) rfl ⟨by rw [HR.out],HZ.out.2⟩
 have HDE:=Qh (show D4 v b=if (B2 b).1≠0 then (evNone,(B2 b).1) else Kl v ((B2 b).2,0) from by
  unfold D4
  rw [γ (fun h=>by rcases h with h | h;exact ε hq1 h;exact ε hq2 h)])
 have HVV:=Qh (show v=1∨v=2∨v=3∨v=4∨v=5 from by have:=ε hq1;have:=ε hq2;omega)
 have HNM:=Qh (@tlvDec_num b)
 have HDT:=Qh (@tlvDec_data b)
 obtain⟨r,hr⟩: ∃ r,r=B2 b:=⟨_,rfl⟩
 rw [←hr] at HNR HDE HNM HDT
 clear hr
 obtain⟨e0,fs⟩:=r
 unfold NewRdPost at HNR
 dsimp only at HNR HDE HNM HDT
 go_enter Tryz.func78,Tryz.ntmps78
 go_wp2_with fail
 refine HNR.out.mono ?_
 rintro e w1 ⟨h1,h2,hb1⟩
 have HB1:=Qh (Below.next HB0.out hb1)
 have HE1:=Qh (HE0.out.below hb1)
 have hsz0:w.heap.size<(w.alloc (.cells #[.int .i64 0,.int .i64 0,.int .i64 0,.int .i64 0,.int .i64 0,.int .i64 0,.int .i64 0,.string ⟨#[]⟩,.int .i64 0,.string ⟨#[]⟩] 38)).heap.size:=HE0.out.lt
 clear hb1 HNR HE0 HB0
 rcases he:(e0 != 0) with _ | _
 rotate_left
 ·have he0: ¬ e0=0:=by simpa using he
  have HR:=Qh (show D4 v b=(evNone,e0) from by rw [HDE.out,ζ he0])
  obtain rfl:=h1 he0
  clear h1 h2 he0 HDE
  go_wp2_with (with_reducible refine wpList_store_ev rfl (.tmp 4) (.tmp 25) rfl w.heap.size evNone evNone rfl rfl HE1.out ?_)
  intro wz hz
  have HZ:=Qh (show Ai wz w.heap.size evNone∧Below w.heap.size w wz from⟨hz.out.1,turned_blw HB1.out hz.out.2 (fun k hk=>by omega) HB1.out.size⟩)
  clear hz
  go_wp2
  exact π (v:= .tuple #[Dx evNone,.int .i64 e0]) (C9 rfl _ _ w.heap.size evNone _ rfl rfl HZ.out.1) rfl ⟨by rw [HR.out],HZ.out.2⟩
 have he0:e0=0:=by simpa using he
 subst he0
 obtain⟨rb,mb,xs,rfl,hxs,hrd,hrb,hmb⟩:=h2 rfl
 have HQ:=Qh (show DQ w w1 w1 rb mb (fs,0) none from⟨⟨xs,0,by rw [hxs],hrd,fun x hx=>(hrd.rows x hx).low,fun x hx=>⟨HNM.out _ (by rw [←hxs];exact List.mem_map_of_mem hx),HDT.out _ (by rw [←hxs];exact List.mem_map_of_mem hx)⟩⟩,⟨hrd.lt.1,hrd.lt.2,by omega,by omega⟩,HE1.out,(fun _ _ h=>by cases h),HB1.out,ξ _⟩)
 rw [γ (fun h=>h rfl)] at HDE
 clear h1 h2 hxs hrd hrb hmb HNM HDT HE1 HB1 hsz0 he
 go_wp2_with fail
 obtain⟨u1,y1,he1,hs1,hc1⟩:=HQ.out.num 1 (by decide)
 have HK1:=Qh he1
 refine hc1.mono ?_
 rintro e wq1 ⟨rfl,hq⟩
 replace HQ:=Qh hq
 clear hq hc1 he1
 go_wp2_with fail
 refine(Dn u1 _).mono ?_
 rintro e wr1 ⟨rfl,rfl⟩
 rw [hs1]
 clear hs1
 go_wp2_with fail
 obtain⟨u2,y2,he2,hs2,hc2⟩:=HQ.out.num 2 (by decide)
 have HK2:=Qh he2
 refine hc2.mono ?_
 rintro e wq2 ⟨rfl,hq⟩
 replace HQ:=Qh hq
 clear hq hc2 he2
 go_wp2_with fail
 refine(Dn u2 _).mono ?_
 rintro e wr2 ⟨rfl,rfl⟩
 rw [hs2]
 clear hs2
 go_wp2_with fail
 obtain⟨u3,y3,he3,hs3,hc3⟩:=HQ.out.num 3 (by decide)
 have HK3:=Qh he3
 refine hc3.mono ?_
 rintro e wq3 ⟨rfl,hq⟩
 replace HQ:=Qh hq
 clear hq hc3 he3
 go_wp2_with fail
 refine(Dn u3 _).mono ?_
 rintro e wr3 ⟨rfl,rfl⟩
 rw [hs3]
 clear hs3
 go_upto_if 38 with fail
 have HQ2:=Qh (show DQ w w1 (wq3.alloc (.cells #[.int .i64 y1.1,.int .i64 y2.1,.int .i64 y3.1,.int .i64 0,.int .i64 0,.int .i64 0,.int .i64 0,.string ⟨#[]⟩,.int .i64 0,.string ⟨#[]⟩] 38)) rb mb y3.2 (some (wq3.heap.size,evZ y1.1 y2.1 y3.1)) from HQ.out.alloc (e:=evZ y1.1 y2.1 y3.1))
 generalize wq3.alloc (.cells #[.int .i64 y1.1,.int .i64 y2.1,.int .i64 y3.1,.int .i64 0,.int .i64 0,.int .i64 0,.int .i64 0,.string ⟨#[]⟩,.int .i64 0,.string ⟨#[]⟩] 38)=wa at*
 generalize wq3.heap.size=g at*
 clear HQ
 go_cut [] from 37 to 45 (fun wx=> ∃ c:Int×List Fld×Int,Hid (I64 c.1)∧Hid ((if v<3 then (zagV (Bx y3.2 4 false).1.num,(Bx y3.2 4 false).2) else numQ y3.2 4)=c)∧Hid (DQ w w1 wx rb mb c.2 (some (g,{evZ y1.1 y2.1 y3.1 with qty:=c.1}))))
 case first=>
  rcases hq3:decide (v<3) with _ | _
  ·have HQ:=HQ2
   go_wp2_with fail
   obtain⟨u4,y4,he4,hs4,hc4⟩:=HQ.out.num 4 (by decide)
   have HK4:=Qh he4
   refine hc4.mono ?_
   rintro e wq4 ⟨rfl,hq⟩
   replace HQ:=Qh hq
   clear hq hc4 he4
   go_wp2_with fail
   refine(Dn u4 _).mono ?_
   rintro e wr4 ⟨rfl,rfl⟩
   rw [hs4]
   clear hs4
   have c3:wq4.cell? ⟨g,3,none⟩=some (.int .i64 0):=(HQ.out.ev g _ rfl).2.cell 3
   have f3:=(HQ.out.ev g _ rfl).2.free 3
   replace HQ:=Qh (HQ.out.set (j:=3) (v:= .int .i64 y4.1) (e':={evZ y1.1 y2.1 y3.1 with qty:=y4.1}) rfl)
   go_wp2_with fail
   go_meet
   exact⟨y4,Qh (by rw [←HK4.out];exact D8 _ _),Qh (by rw [γ (ε hq3)];exact HK4.out),HQ⟩
  ·go_wp2_with fail
   obtain⟨hz0,hz1⟩:=HQ2.out.int 4 (by decide)
   have HZR:=Qh (zagV_rng hz0)
   refine hz1.mono ?_
   rintro e wz ⟨rfl,hq⟩
   have HQ:=Qh hq
   clear hq HQ2 hz0 hz1
   have c3:wz.cell? ⟨g,3,none⟩=some (.int .i64 0):=(HQ.out.ev g _ rfl).2.cell 3
   have f3:=(HQ.out.ev g _ rfl).2.free 3
   generalize zagV (Bx y3.2 4 false).1.num=z at*
   replace HQ:=Qh (HQ.out.set (j:=3) (v:= .int .i64 z) (e':={evZ y1.1 y2.1 y3.1 with qty:=z}) rfl)
   go_wp2_with fail
   go_meet
   exact⟨(z,(Bx y3.2 4 false).2),HZR,Qh (by rw [ζ (χ hq3)]),HQ⟩
 case rest=>
  obtain⟨c,HCR,HC,HQ⟩:=hcut
  clear HQ2
  go_wp2_with fail
  obtain⟨u5,y5,he5,hs5,hc5⟩:=HQ.out.num 5 (by decide)
  have HK5:=Qh he5
  refine hc5.mono ?_
  rintro e wq5 ⟨rfl,hq⟩
  replace HQ:=Qh hq
  clear hq hc5 he5
  go_wp2_with fail
  refine(Dn u5 _).mono ?_
  rintro e wr5 ⟨rfl,rfl⟩
  rw [hs5]
  clear hs5
  have c4:wq5.cell? ⟨g,4,none⟩=some (.int .i64 0):=(HQ.out.ev g _ rfl).2.cell 4
  have f4:=(HQ.out.ev g _ rfl).2.free 4
  replace HQ:=Qh (HQ.out.set (j:=4) (v:= .int .i64 y5.1) (e':=⟨y1.1,y2.1,y3.1,c.1,y5.1,0,0,[],0,[]⟩) rfl)
  have HY1:=Qh (show I64 y1.1 from by rw [←HK1.out];exact D8 _ _)
  have HY2:=Qh (show I64 y2.1 from by rw [←HK2.out];exact D8 _ _)
  have HY3:=Qh (show I64 y3.1 from by rw [←HK3.out];exact D8 _ _)
  have HY5:=Qh (show I64 y5.1 from by rw [←HK5.out];exact D8 _ _)
  have hi0:I64 0:=⟨by decide,by decide⟩
  have HI0:=Qh hi0
  clear hi0
  rcases HVV.out with rfl | rfl | rfl | rfl | rfl
  focus
   go_wp2_with fail
   obtain⟨q,hq⟩: ∃ q,q=y5.2:=⟨_,rfl⟩
   obtain⟨E,hE⟩: ∃ E,E=(⟨y1.1,y2.1,y3.1,c.1,y5.1,0,0,[],0,[]⟩:Ev):=⟨_,rfl⟩
   have HO:=Qh (show I3 281474976710656 E from by
    rw [hE]
    exact⟨HY1.out,HY2.out,HY3.out,HCR.out,HY5.out,HI0.out,HI0.out,HI0.out,(θ _),(θ _)⟩)
   have HF:=Qh (show D4 1 b=finQ 1 q E from by
    rw [HDE.out,hq,hE]
    unfold Kl finQ
    dsimp only
    rw [HK1.out,HK2.out,HK3.out,HC.out,HK5.out]
    simp only [γ (show ¬ (1:Int)=5 by decide),γ (show ¬ (4:Int)≤1 by decide),γ (show ¬ (3:Int)≤1 by decide),γ (show ¬ (2:Int)≤1 by decide)])
   obtain⟨ck,hck⟩: ∃ ck,ck=Af 1 E:=⟨_,rfl⟩
   have HCK:=Qh (show ∀ W,Calls Tryz.prog 101 #[.int .i64 1,Dx E] W (Fe ck W) from fun W=>by rw [hck];exact A8 1 E W HO.out)
   unfold finQ at HF
   rw [←hck] at HF
   clear hck
   rw [←hq,←hE] at HQ
   clear hq hE
  rotate_left
  focus
   go_wp2_with fail
   obtain⟨u6,y6,he6,hs6,hc6⟩:=HQ.out.num 6 (by decide)
   have HK6:=Qh he6
   refine hc6.mono ?_
   rintro e wq6 ⟨rfl,hq⟩
   replace HQ:=Qh hq
   clear hq hc6 he6
   go_wp2_with fail
   refine(Dn u6 _).mono ?_
   rintro e wr6 ⟨rfl,rfl⟩
   rw [hs6]
   clear hs6
   have c5:wq6.cell? ⟨g,5,none⟩=some (.int .i64 0):=(HQ.out.ev g _ rfl).2.cell 5
   have f5:=(HQ.out.ev g _ rfl).2.free 5
   replace HQ:=Qh (HQ.out.set (j:=5) (v:= .int .i64 y6.1) (e':=⟨y1.1,y2.1,y3.1,c.1,y5.1,y6.1,0,[],0,[]⟩) rfl)
   go_wp2_with fail
   clear c5 f5
   obtain⟨q,hq⟩: ∃ q,q=y6.2:=⟨_,rfl⟩
   obtain⟨E,hE⟩: ∃ E,E=(⟨y1.1,y2.1,y3.1,c.1,y5.1,y6.1,0,[],0,[]⟩:Ev):=⟨_,rfl⟩
   have HO:=Qh (show I3 281474976710656 E from by
    rw [hE]
    exact⟨HY1.out,HY2.out,HY3.out,HCR.out,HY5.out,(by rw [←HK6.out];exact D8 _ _),HI0.out,HI0.out,(θ _),(θ _)⟩)
   have HF:=Qh (show D4 2 b=finQ 2 q E from by
    rw [HDE.out,hq,hE]
    unfold Kl finQ
    dsimp only
    rw [HK1.out,HK2.out,HK3.out,HC.out,HK5.out]
    simp only [γ (show ¬ (2:Int)=5 by decide),γ (show ¬ (4:Int)≤2 by decide),γ (show ¬ (3:Int)≤2 by decide),ζ (show (2:Int)≤2 by decide),HK6.out])
   obtain⟨ck,hck⟩: ∃ ck,ck=Af 2 E:=⟨_,rfl⟩
   have HCK:=Qh (show ∀ W,Calls Tryz.prog 101 #[.int .i64 2,Dx E] W (Fe ck W) from fun W=>by rw [hck];exact A8 2 E W HO.out)
   unfold finQ at HF
   rw [←hck] at HF
   clear hck
   rw [←hq,←hE] at HQ
   clear hq hE
  rotate_left
  focus
   go_wp2_with fail
   obtain⟨u7,y7,he7,hs7,hc7⟩:=HQ.out.num 7 (by decide)
   have HK7:=Qh he7
   refine hc7.mono ?_
   rintro e wq7 ⟨rfl,hq⟩
   replace HQ:=Qh hq
   clear hq hc7 he7
   go_wp2_with fail
   refine(Dn u7 _).mono ?_
   rintro e wr7 ⟨rfl,rfl⟩
   rw [hs7]
   clear hs7
   have c6:wq7.cell? ⟨g,6,none⟩=some (.int .i64 0):=(HQ.out.ev g _ rfl).2.cell 6
   have f6:=(HQ.out.ev g _ rfl).2.free 6
   replace HQ:=Qh (HQ.out.set (j:=6) (v:= .int .i64 y7.1) (e':=⟨y1.1,y2.1,y3.1,c.1,y5.1,0,y7.1,[],0,[]⟩) rfl)
   go_wp2_with fail
   clear c6 f6
   obtain⟨u6,y6,he6,hs6,hc6⟩:=HQ.out.num 6 (by decide)
   have HK6:=Qh he6
   refine hc6.mono ?_
   rintro e wq6 ⟨rfl,hq⟩
   replace HQ:=Qh hq
   clear hq hc6 he6
   go_wp2_with fail
   refine(Dn u6 _).mono ?_
   rintro e wr6 ⟨rfl,rfl⟩
   rw [hs6]
   clear hs6
   have c5:wq6.cell? ⟨g,5,none⟩=some (.int .i64 0):=(HQ.out.ev g _ rfl).2.cell 5
   have f5:=(HQ.out.ev g _ rfl).2.free 5
   replace HQ:=Qh (HQ.out.set (j:=5) (v:= .int .i64 y6.1) (e':=⟨y1.1,y2.1,y3.1,c.1,y5.1,y6.1,y7.1,[],0,[]⟩) rfl)
   go_wp2_with fail
   clear c5 f5
   obtain⟨q,hq⟩: ∃ q,q=y6.2:=⟨_,rfl⟩
   obtain⟨E,hE⟩: ∃ E,E=(⟨y1.1,y2.1,y3.1,c.1,y5.1,y6.1,y7.1,[],0,[]⟩:Ev):=⟨_,rfl⟩
   have HO:=Qh (show I3 281474976710656 E from by
    rw [hE]
    exact⟨HY1.out,HY2.out,HY3.out,HCR.out,HY5.out,(by rw [←HK6.out];exact D8 _ _),(by rw [←HK7.out];exact D8 _ _),HI0.out,(θ _),(θ _)⟩)
   have HF:=Qh (show D4 3 b=finQ 3 q E from by
    rw [HDE.out,hq,hE]
    unfold Kl finQ
    dsimp only
    rw [HK1.out,HK2.out,HK3.out,HC.out,HK5.out]
    simp only [γ (show ¬ (3:Int)=5 by decide),γ (show ¬ (4:Int)≤3 by decide),ζ (show (3:Int)≤3 by decide),HK7.out,ζ (show (2:Int)≤3 by decide),HK6.out])
   obtain⟨ck,hck⟩: ∃ ck,ck=Af 3 E:=⟨_,rfl⟩
   have HCK:=Qh (show ∀ W,Calls Tryz.prog 101 #[.int .i64 3,Dx E] W (Fe ck W) from fun W=>by rw [hck];exact A8 3 E W HO.out)
   unfold finQ at HF
   rw [←hck] at HF
   clear hck
   rw [←hq,←hE] at HQ
   clear hq hE
  rotate_left
  focus
   go_wp2_with fail
   obtain⟨n8,hk8,hl8,hc8⟩:=HQ.out.text 8 (by decide)
   have HT8:=Qh hk8
   have HL8:=Qh hl8
   refine hc8.mono ?_
   rintro e wt8 ⟨tv8,rfl,hb8,hq⟩
   replace HQ:=Qh hq
   have hcv:=conv_brow hb8
   clear hq hk8 hl8 hc8 hb8
   have c7:wt8.cell? ⟨g,7,none⟩=some (.string ⟨#[]⟩):=(HQ.out.ev g _ rfl).2.cell 7
   have f7:=(HQ.out.ev g _ rfl).2.free 7
   replace HQ:=Qh (HQ.out.set (j:=7) (v:= .string ⟨n8.1.data.toArray⟩) (e':=⟨y1.1,y2.1,y3.1,c.1,y5.1,0,0,n8.1.data,0,[]⟩) rfl)
   go_wp2_with fail
   clear hcv c7 f7
   obtain⟨u7,y7,he7,hs7,hc7⟩:=HQ.out.num 7 (by decide)
   have HK7:=Qh he7
   refine hc7.mono ?_
   rintro e wq7 ⟨rfl,hq⟩
   replace HQ:=Qh hq
   clear hq hc7 he7
   go_wp2_with fail
   refine(Dn u7 _).mono ?_
   rintro e wr7 ⟨rfl,rfl⟩
   rw [hs7]
   clear hs7
   have c6:wq7.cell? ⟨g,6,none⟩=some (.int .i64 0):=(HQ.out.ev g _ rfl).2.cell 6
   have f6:=(HQ.out.ev g _ rfl).2.free 6
   replace HQ:=Qh (HQ.out.set (j:=6) (v:= .int .i64 y7.1) (e':=⟨y1.1,y2.1,y3.1,c.1,y5.1,0,y7.1,n8.1.data,0,[]⟩) rfl)
   go_wp2_with fail
   clear c6 f6
   obtain⟨u6,y6,he6,hs6,hc6⟩:=HQ.out.num 6 (by decide)
   have HK6:=Qh he6
   refine hc6.mono ?_
   rintro e wq6 ⟨rfl,hq⟩
   replace HQ:=Qh hq
   clear hq hc6 he6
   go_wp2_with fail
   refine(Dn u6 _).mono ?_
   rintro e wr6 ⟨rfl,rfl⟩
   rw [hs6]
   clear hs6
   have c5:wq6.cell? ⟨g,5,none⟩=some (.int .i64 0):=(HQ.out.ev g _ rfl).2.cell 5
   have f5:=(HQ.out.ev g _ rfl).2.free 5
   replace HQ:=Qh (HQ.out.set (j:=5) (v:= .int .i64 y6.1) (e':=⟨y1.1,y2.1,y3.1,c.1,y5.1,y6.1,y7.1,n8.1.data,0,[]⟩) rfl)
   go_wp2_with fail
   clear c5 f5
   obtain⟨q,hq⟩: ∃ q,q=y6.2:=⟨_,rfl⟩
   obtain⟨E,hE⟩: ∃ E,E=(⟨y1.1,y2.1,y3.1,c.1,y5.1,y6.1,y7.1,n8.1.data,0,[]⟩:Ev):=⟨_,rfl⟩
   have HO:=Qh (show I3 281474976710656 E from by
    rw [hE]
    exact⟨HY1.out,HY2.out,HY3.out,HCR.out,HY5.out,(by rw [←HK6.out];exact D8 _ _),(by rw [←HK7.out];exact D8 _ _),HI0.out,(μ HL8.out (by decide)),(θ _)⟩)
   have HF:=Qh (show D4 4 b=finQ 4 q E from by
    rw [HDE.out,hq,hE]
    unfold Kl finQ
    dsimp only
    rw [HK1.out,HK2.out,HK3.out,HC.out,HK5.out]
    simp only [γ (show ¬ (4:Int)=5 by decide),ζ (show (4:Int)≤4 by decide),HT8.out,ζ (show (3:Int)≤4 by decide),HK7.out,ζ (show (2:Int)≤4 by decide),HK6.out])
   obtain⟨ck,hck⟩: ∃ ck,ck=Af 4 E:=⟨_,rfl⟩
   have HCK:=Qh (show ∀ W,Calls Tryz.prog 101 #[.int .i64 4,Dx E] W (Fe ck W) from fun W=>by rw [hck];exact A8 4 E W HO.out)
   unfold finQ at HF
   rw [←hck] at HF
   clear hck
   rw [←hq,←hE] at HQ
   clear hq hE
  rotate_left
  focus
   go_wp2_with fail
   obtain⟨n10,hk10,hl10,hc10⟩:=HQ.out.text 10 (by decide)
   have HT10:=Qh hk10
   have HL10:=Qh hl10
   refine hc10.mono ?_
   rintro e wt10 ⟨tv,rfl,hb10,hq⟩
   replace HQ:=Qh hq
   have hcv:=conv_brow hb10
   clear hq hk10 hl10 hc10 hb10
   have c9:wt10.cell? ⟨g,9,none⟩=some (.string ⟨#[]⟩):=(HQ.out.ev g _ rfl).2.cell 9
   have f9:=(HQ.out.ev g _ rfl).2.free 9
   replace HQ:=Qh (HQ.out.set (j:=9) (v:= .string ⟨n10.1.data.toArray⟩) (e':=⟨y1.1,y2.1,y3.1,c.1,y5.1,0,0,[],0,n10.1.data⟩) rfl)
   go_wp2_with fail
   clear hcv c9 f9
   obtain⟨u9,y9,he9,hs9,hc9⟩:=HQ.out.num 9 (by decide)
   have HK9:=Qh he9
   refine hc9.mono ?_
   rintro e wq9 ⟨rfl,hq⟩
   replace HQ:=Qh hq
   clear hq hc9 he9
   go_wp2_with fail
   refine(Dn u9 _).mono ?_
   rintro e wr9 ⟨rfl,rfl⟩
   rw [hs9]
   clear hs9
   have c8:wq9.cell? ⟨g,8,none⟩=some (.int .i64 0):=(HQ.out.ev g _ rfl).2.cell 8
   have f8:=(HQ.out.ev g _ rfl).2.free 8
   replace HQ:=Qh (HQ.out.set (j:=8) (v:= .int .i64 y9.1) (e':=⟨y1.1,y2.1,y3.1,c.1,y5.1,0,0,[],y9.1,n10.1.data⟩) rfl)
   go_wp2_with fail
   clear c8 f8
   obtain⟨n8,hk8,hl8,hc8⟩:=HQ.out.text 8 (by decide)
   have HT8:=Qh hk8
   have HL8:=Qh hl8
   refine hc8.mono ?_
   rintro e wt8 ⟨tv8,rfl,hb8,hq⟩
   replace HQ:=Qh hq
   have hcv:=conv_brow hb8
   clear hq hk8 hl8 hc8 hb8
   have c7:wt8.cell? ⟨g,7,none⟩=some (.string ⟨#[]⟩):=(HQ.out.ev g _ rfl).2.cell 7
   have f7:=(HQ.out.ev g _ rfl).2.free 7
   replace HQ:=Qh (HQ.out.set (j:=7) (v:= .string ⟨n8.1.data.toArray⟩) (e':=⟨y1.1,y2.1,y3.1,c.1,y5.1,0,0,n8.1.data,y9.1,n10.1.data⟩) rfl)
   go_wp2_with fail
   clear hcv c7 f7
   obtain⟨u7,y7,he7,hs7,hc7⟩:=HQ.out.num 7 (by decide)
   have HK7:=Qh he7
   refine hc7.mono ?_
   rintro e wq7 ⟨rfl,hq⟩
   replace HQ:=Qh hq
   clear hq hc7 he7
   go_wp2_with fail
   refine(Dn u7 _).mono ?_
   rintro e wr7 ⟨rfl,rfl⟩
   rw [hs7]
   clear hs7
   have c6:wq7.cell? ⟨g,6,none⟩=some (.int .i64 0):=(HQ.out.ev g _ rfl).2.cell 6
   have f6:=(HQ.out.ev g _ rfl).2.free 6
   replace HQ:=Qh (HQ.out.set (j:=6) (v:= .int .i64 y7.1) (e':=⟨y1.1,y2.1,y3.1,c.1,y5.1,0,y7.1,n8.1.data,y9.1,n10.1.data⟩) rfl)
   go_wp2_with fail
   clear c6 f6
   obtain⟨u6,y6,he6,hs6,hc6⟩:=HQ.out.num 6 (by decide)
   have HK6:=Qh he6
   refine hc6.mono ?_
   rintro e wq6 ⟨rfl,hq⟩
   replace HQ:=Qh hq
   clear hq hc6 he6
   go_wp2_with fail
   refine(Dn u6 _).mono ?_
   rintro e wr6 ⟨rfl,rfl⟩
   rw [hs6]
   clear hs6
   have c5:wq6.cell? ⟨g,5,none⟩=some (.int .i64 0):=(HQ.out.ev g _ rfl).2.cell 5
   have f5:=(HQ.out.ev g _ rfl).2.free 5
   replace HQ:=Qh (HQ.out.set (j:=5) (v:= .int .i64 y6.1) (e':=⟨y1.1,y2.1,y3.1,c.1,y5.1,y6.1,y7.1,n8.1.data,y9.1,n10.1.data⟩) rfl)
   go_wp2_with fail
   clear c5 f5
   obtain⟨q,hq⟩: ∃ q,q=y6.2:=⟨_,rfl⟩
   obtain⟨E,hE⟩: ∃ E,E=(⟨y1.1,y2.1,y3.1,c.1,y5.1,y6.1,y7.1,n8.1.data,y9.1,n10.1.data⟩:Ev):=⟨_,rfl⟩
   have HO:=Qh (show I3 281474976710656 E from by
    rw [hE]
    exact⟨HY1.out,HY2.out,HY3.out,HCR.out,HY5.out,(by rw [←HK6.out];exact D8 _ _),(by rw [←HK7.out];exact D8 _ _),(by rw [←HK9.out];exact D8 _ _),(μ HL8.out (by decide)),(μ HL10.out (by decide))⟩)
   have HF:=Qh (show D4 5 b=finQ 5 q E from by
    rw [HDE.out,hq,hE]
    unfold Kl finQ
    dsimp only
    rw [HK1.out,HK2.out,HK3.out,HC.out,HK5.out]
    rw [ζ (show (5:Int)=5 from rfl),HT10.out,HK9.out,ζ (show (4:Int)≤5 by decide),HT8.out,ζ (show (3:Int)≤5 by decide),HK7.out,ζ (show (2:Int)≤5 by decide),HK6.out])
   obtain⟨ck,hck⟩: ∃ ck,ck=Af 5 E:=⟨_,rfl⟩
   have HCK:=Qh (show ∀ W,Calls Tryz.prog 101 #[.int .i64 5,Dx E] W (Fe ck W) from fun W=>by rw [hck];exact A8 5 E W HO.out)
   unfold finQ at HF
   rw [←hck] at HF
   clear hck
   rw [←hq,←hE] at HQ
   clear hq hE
  rotate_left
  all_goals
   have HER:=Qh HQ.out.err
   obtain⟨er,her⟩: ∃ er,er=errQ q:=⟨_,rfl⟩
   rw [←her] at HER HF
   clear her
   refine HER.out.mono ?_
   rintro e we ⟨rfl,hwe⟩
   rw [←hwe]
   clear hwe HER
   rcases he2:(er != 0) with _ | _
   rotate_left
   ·have HR:=Qh (HF.out.trans (ζ (by simpa using he2)))
    clear HF
    go_wp2_with (with_reducible refine wpList_store_ev rfl (.tmp 4) (.tmp 83) rfl w.heap.size evNone evNone rfl rfl HQ.out.res ?_)
    intro wz hz
    have HZ:=Qh (show Ai wz w.heap.size evNone∧Below w.heap.size w wz from⟨hz.out.1,turned_blw HQ.out.bl hz.out.2 (fun k hk=>by omega) HQ.out.bl.size⟩)
    clear hz
    go_wp2
    exact π (v:= .tuple #[Dx evNone,.int .i64 er]) (C9 rfl _ _ w.heap.size evNone _ rfl rfl HZ.out.1) rfl ⟨by rw [HR.out],HZ.out.2⟩
   have he20:er=0:=by simpa using he2
   rw [γ (fun h=>h he20)] at HF
   clear he20
   have HEV:=Qh (HQ.out.ev g E rfl).2
   have HBL:=Qh HQ.out.bl
   have HRS:=Qh HQ.out.res
   clear HQ
   go_wp2_with (with_reducible refine wpList_load_ev rfl (.tmp 8) rfl g E rfl HEV.out ?_)
   refine(HCK.out _).mono ?_
   rintro e wk ⟨rfl,hb⟩
   replace HEV:=Qh (HEV.out.below hb)
   replace HRS:=Qh (HRS.out.below hb)
   replace HBL:=Qh (Below.next HBL.out hb)
   clear hb
   rcases hk2:(ck != 0) with _ | _
   rotate_left
   ·have HR:=Qh (HF.out.trans (ζ (by simpa using hk2)))
    clear HF
    go_wp2_with (with_reducible refine wpList_store_ev rfl (.tmp 4) (.tmp 90) rfl w.heap.size evNone evNone rfl rfl HRS.out ?_)
    intro wz hz
    have HZ:=Qh (show Ai wz w.heap.size evNone∧Below w.heap.size w wz from⟨hz.out.1,turned_blw HBL.out hz.out.2 (fun k hk=>by omega) HBL.out.size⟩)
    clear hz
    go_wp2
    exact π (v:= .tuple #[Dx evNone,.int .i64 ck]) (C9 rfl _ _ w.heap.size evNone _ rfl rfl HZ.out.1) rfl ⟨by rw [HR.out],HZ.out.2⟩
   have hk20:ck=0:=by simpa using hk2
   rw [γ (fun h=>h hk20)] at HF
   clear hk20
   go_wp2_with (first | (with_reducible refine wpList_load_ev rfl (.tmp 8) rfl g E rfl HEV.out ?_) | (with_reducible refine wpList_store_ev rfl (.tmp 4) (.tmp 92) rfl w.heap.size evNone E rfl rfl HRS.out ?_))
   intro wz hz
   have HZ:=Qh (show Ai wz w.heap.size E∧Below w.heap.size w wz from⟨hz.out.1,turned_blw HBL.out hz.out.2 (fun k hk=>by omega) HBL.out.size⟩)
   clear hz
   go_wp2
   exact π (v:= .tuple #[Dx E,.int .i64 0]) (C9 rfl _ _ w.heap.size E _ rfl rfl HZ.out.1) rfl ⟨by rw [HF.out],HZ.out.2⟩
theorem results_ev3 {fn:Func} {p q r:Tmp} (h:fn.results= #[.tmp p,.cell q 38,.tmp r]) (tmps:Array Value) (w:World) (g:Nat) (e:Ev) (x y:Value)
  (hp:tmps.getD p undef=x) (hq:tmps.getD q undef= .pointer (some ⟨g,0,none⟩)) (hr:tmps.getD r undef=y) (hE:Ai w g e):(results fn tmps).run Tryz.prog w= .ok (.tuple #[x,Dx e,y]) w:=by
 have hl:=run_loadVar_row (P:=Tryz.prog) w g 38 38 (evCs e) (0,0) _ hE Tryz.underlying38 rfl evInfo
 have hp':tmps[p]?.getD undef=x:=by simpa using hp
 have hq':tmps[q]?.getD undef= .pointer (some ⟨g,0,none⟩):=by simpa using hq
 have hr':tmps[r]?.getD undef=y:=by simpa using hr
 simp [results,h,hp',hq',hr',asAddr,hl]
 rfl
def UnpQ (w:World) (r:Int×Ev×Int) (e:Ending) (w':World):Prop:=e= .returned (.tuple #[.int .i64 r.1,Dx r.2.1,.int .i64 r.2.2])∧Below w.heap.size w w'
theorem unpack_any (b:List UInt8) (bv:Value) (w:World) (hv:A2 w bv b) (hl:b.length≤9223372036854775807):Calls Tryz.prog 51 #[bv] w (UnpQ w (Ca b)):=by
 have HB0:=Qh (below_alloc w (.cells #[.int .i64 0,.int .i64 0,.int .i64 0,.int .i64 0,.int .i64 0,.int .i64 0,.int .i64 0,.string ⟨#[]⟩,.int .i64 0,.string ⟨#[]⟩] 38))
 have HE0:=Qh (show Ai (w.alloc (.cells #[.int .i64 0,.int .i64 0,.int .i64 0,.int .i64 0,.int .i64 0,.int .i64 0,.int .i64 0,.string ⟨#[]⟩,.int .i64 0,.string ⟨#[]⟩] 38)) w.heap.size evNone from σ w _)
 have HV:=Qh (hv.below HB0.out)
 have HVD:=Qh (F2 b bv _ HV.out hl)
 have HDL:=Qh (@Gn b)
 have HUN:=Qh (show Ca b=if (decV b).2.2≠0 then (0,evNone,(decV b).2.2)
   else if (D4 (Cw (decV b).1) (b.drop (decV b).2.1)).2≠0 then (0,evNone,(D4 (Cw (decV b).1) (b.drop (decV b).2.1)).2)
   else (Cw (decV b).1,(D4 (Cw (decV b).1) (b.drop (decV b).2.1)).1,0) from rfl)
 obtain⟨r,hr⟩: ∃ r,r=decV b:=⟨_,rfl⟩
 rw [←hr] at HVD HUN HDL
 clear hr
 obtain⟨u,n,e0⟩:=r
 obtain⟨oa,cap,rfl,hlc,_⟩:=id hv
 unfold VarPost at HVD
 dsimp only at HVD HUN HDL
 have HL:=Qh hl
 clear hv hl
 go_enter Tryz.func51,Tryz.ntmps51
 go_wp2_with fail
 generalize w.alloc (.cells #[.int .i64 0,.int .i64 0,.int .i64 0,.int .i64 0,.int .i64 0,.int .i64 0,.int .i64 0,.string ⟨#[]⟩,.int .i64 0,.string ⟨#[]⟩] 38)=w0 at*
 refine HVD.out.mono ?_
 rintro e w1 ⟨rfl,hb1⟩
 have HB1:=Qh (Below.next HB0.out hb1)
 have HE1:=Qh (HE0.out.below hb1)
 have HV1:=Qh (HV.out.below hb1)
 clear hb1 HVD HB0 HE0 HV
 rcases he:(e0 != 0) with _ | _
 rotate_left
 ·have HR:=Qh (HUN.out.trans (ζ (by simpa using he)))
  clear HUN HDL
  go_wp2_with (with_reducible refine wpList_store_ev rfl (.tmp 3) (.tmp 18) rfl w.heap.size evNone evNone rfl rfl HE1.out ?_)
  intro wz hz
  have HZ:=Qh (show Ai wz w.heap.size evNone∧Below w.heap.size w wz from⟨hz.out.1,turned_blw HB1.out hz.out.2 (fun k hk=>by omega) HB1.out.size⟩)
  clear hz
  go_wp2
  exact π (v:= .tuple #[.int .i64 0,Dx evNone,.int .i64 e0]) (results_ev3 rfl _ _ w.heap.size evNone _ _ rfl rfl rfl HZ.out.1) rfl ⟨by rw [HR.out],HZ.out.2⟩
 have he0:e0=0:=by simpa using he
 have hn:=(HDL.out he0).2
 rw [γ (fun h=>h he0)] at HUN
 clear HDL he0
 go_wp2_with fail
 refine(Dn u _).mono ?_
 rintro e w1' ⟨rfl,hww⟩
 rw [←hww]
 clear hww
 generalize Cw u=v at*
 go_wp2_with (with_reducible refine wpList_cut_l rfl (.tmp 24) (.tmp 25) rfl oa cap n b rfl rfl HV1.out hn ?_)
 intro oa' cap' hbr
 have HD:=Qh (schDec_any v (b.drop n) _ w1 hbr (by rw [Ξ];have:=HL.out;omega))
 obtain⟨dr,hdr⟩: ∃ dr,dr=D4 v (b.drop n):=⟨_,rfl⟩
 rw [←hdr] at HD HUN
 clear hdr hbr hn
 obtain⟨E,e1⟩:=dr
 unfold EvQ at HD
 dsimp only at HD HUN
 go_wp2_with fail
 refine HD.out.mono ?_
 rintro e w2 ⟨rfl,hb2⟩
 have hba:=below_alloc w2 (.cells (evCs E) 38)
 have HEA:=Qh (show Ai (w2.alloc (.cells (evCs E) 38)) w2.heap.size E from σ w2 _)
 have HB2:=Qh (Below.next (Below.next HB1.out hb2) hba)
 have HE2:=Qh ((HE1.out.below hb2).below hba)
 have hne:w.heap.size<w2.heap.size:=(HE1.out.below hb2).lt
 simp only [evCs] at HEA HB2 HE2
 clear hb2 hba HB1 HE1 HV1 HD
 rcases he2:(e1 != 0) with _ | _
 rotate_left
 ·have HR:=Qh (HUN.out.trans (ζ (by simpa using he2)))
  clear HUN
  go_wp2_with (with_reducible refine wpList_store_ev rfl (.tmp 3) (.tmp 32) rfl w.heap.size evNone evNone rfl rfl HE2.out ?_)
  intro wz hz
  have HZ:=Qh (show Ai wz w.heap.size evNone∧Below w.heap.size w wz from⟨hz.out.1,turned_blw HB2.out hz.out.2 (fun k hk=>by omega) HB2.out.size⟩)
  clear hz
  go_wp2
  exact π (v:= .tuple #[.int .i64 0,Dx evNone,.int .i64 e1]) (results_ev3 rfl _ _ w.heap.size evNone _ _ rfl rfl rfl HZ.out.1) rfl ⟨by rw [HR.out],HZ.out.2⟩
 have HR:=Qh (HUN.out.trans (γ (fun h=>h (by simpa using he2))))
 clear HUN
 go_wp2_with fail
 generalize w2.alloc (.cells #[.int .i64 E.kind,.int .i64 E.order,.int .i64 E.item,.int .i64 E.qty,.int .i64 E.price,.int .i64 E.cur,.int .i64 E.tax,.string ⟨E.who.toArray⟩,.int .i64 E.stamp,.string ⟨E.note.toArray⟩] 38)=w3 at*
 generalize w2.heap.size=g at*
 have hbd:Below w3.heap.size w3 (World.drew w3):=below_drewN' w3 1
 refine ω (S:=fun w'=>Ai w' g E) (by kernel_rfl) (HEA.out.below hbd) (fun hHeld=> ?_)
 refine tq 0 rfl ?_
 refine tkl 1 g 0 [.int .i64 E.kind,.int .i64 E.order,.int .i64 E.item,.int .i64 E.qty,.int .i64 E.price,.int .i64 E.cur,.int .i64 E.tax,.string ⟨E.who.toArray⟩,.int .i64 E.stamp,.string ⟨E.note.toArray⟩] rfl rfl (fun w' h j u hj=>by rw [Nat.zero_add,h.cell];simpa [evCs] using hj) Tryz.underlying38 rfl (by rw [evInfo];rfl) ?_
 simp only [pA,pB,pC,pD]
 refine tq 2 rfl ?_
 have HE3:=Qh (HE2.out.below hbd)
 have HB3:=Qh (Below.next HB2.out hbd)
 clear hbd HEA HE2 HB2
 generalize World.drew _=wd at*
 refine Rd 3 rfl fun K hK=> ?_
 rw [ζ (by kernel_rfl)]
 refine wp_store_row 38 (.tmp 3) (.tmp 35) rfl w.heap.size (evCs E) rfl rfl 38 (evCs evNone) HE3.out evInfo rfl (evCs_all E) ?_
 have HZ:=Qh (show Ai (wd.setRow w.heap.size (evCs E)) w.heap.size E∧Below w.heap.size w (wd.setRow w.heap.size (evCs E)) from⟨HE3.out.row,Az HB3.out (ξ _) _⟩)
 refine hK.out _ _ (show Ai (wd.setRow w.heap.size (evCs E)) g E from(setRow_other _ _ _ _ (by omega)).trans hHeld) (fun hHeld=> ?_)
 clear hK K
 refine tq 4 rfl ?_
 generalize wd.setRow w.heap.size (evCs E)=we at*
 refine Λ (by kernel_rfl) ?_ _
 go_wp2
 exact π (v:= .tuple #[.int .i64 v,Dx E,.int .i64 0]) (results_ev3 rfl _ _ w.heap.size E _ _ rfl rfl rfl HZ.out.1) rfl ⟨by rw [HR.out],HZ.out.2⟩
def taxL:List Int:=[0,1900,2000,700]
def Bo (w:World):Prop:=Lib.TabIs Tryz.prog w "daybook/upcast.taxes" .i64 taxL
theorem Bo.below {w w':World} (h:Bo w) (hb:Below w.heap.size w w'):Bo w':=Joins.tab_stays (g:=0) (by kernel_rfl) h hb (ξ _)
theorem Bo.at {w:World} (h:Bo w) (k:Nat) (hk:k<4):w.cell? ⟨0,k,none⟩=some (.int .i64 (taxL.getD k 0)):=
 Lib.TabIs.cell (g:=0) h (by kernel_rfl) k (by simpa [taxL] using hk)
def hunV (e:Ev):Ev:={e with price:=e.price*100}
def Et (e:Ev):Ev:=
 if e.qty<0∧e.kind=2 then {e with kind:=6,qty:= -e.qty,tax:=taxL.getD e.cur.toNat 0} else {e with qty:=max 0 e.qty,tax:=taxL.getD e.cur.toNat 0}
def Hx (e:Ev):Ev:={e with who:=[111,108,100]}
def Cd (e:Ev):Ev:=if e.kind=4∧e.qty=0 then {e with kind:=10,item:=0} else e
def Fb (v:Int) (e:Ev):Ev:=
 let a:=if v≤1 then hunV e else e
 let b:=if v≤2 then Et a else a
 let c:=if v≤3 then Hx b else b
 if v≤4 then Cd c else c
def UpQ (w:World) (g:Nat) (e:Ev) (x:Ending) (w':World):Prop:=x= .returned (.tuple #[])∧Ai w' g e∧Turned (fun k=>k=g) w w'
section
variable {w w' : World} {g : Nat} {e e' : Ev}
theorem Ai.put (h:Ai w g e) (j:Nat) (v:Value) (he:(evCs e).setIfInBounds j v=evCs e'):Ai (w.setCell ⟨g,j,none⟩ v) g e'∧Turned (fun k=>k=g) w (w.setCell ⟨g,j,none⟩ v):=⟨h.set j v he,Turned.setCell _ _ _ rfl⟩
theorem hund_any (h:Ai w g e) (hp:0≤e.price∧e.price≤1000000000):Calls Tryz.prog 111 #[.pointer (some ⟨g,0,none⟩)] w (UpQ w g (hunV e)):=by
 have c4:w.cell? ⟨g,4,none⟩=some (.int .i64 e.price):=h.cell 4
 have f4:=h.free 4
 have hw:IntKind.i64.wrap (e.price*100)=e.price*100:=by rw [κ];omega
 have HP:=Qh (h.put (e':=hunV e) 4 (.int .i64 (e.price*100)) rfl)
 clear h hp
 generalize e.price=p at*
 go_enter Tryz.func111,Tryz.ntmps111
 go_wp2
 exact π (v:= .tuple #[]) (by simp [results,Tryz.results111,go_sem]) rfl ⟨rfl,HP.out.1,HP.out.2⟩
theorem signed_any (h:Ai w g e):Calls Tryz.prog 113 #[.pointer (some ⟨g,0,none⟩)] w (UpQ w g (Hx e)):=by
 have c7:w.cell? ⟨g,7,none⟩=some (.string ⟨e.who.toArray⟩):=h.cell 7
 have f7:=h.free 7
 have HP:=Qh (h.put (e':=Hx e) 7 (.string ⟨#[111,108,100]⟩) rfl)
 clear h
 generalize e.who=p at*
 go_enter Tryz.func113,Tryz.ntmps113
 go_wp2
 exact π (v:= .tuple #[]) (by simp [results,Tryz.results113,go_sem]) rfl ⟨rfl,HP.out.1,HP.out.2⟩
theorem Kj (h:Ai w g e):Calls Tryz.prog 114 #[.pointer (some ⟨g,0,none⟩)] w (UpQ w g (Cd e)):=by
 have c0:w.cell? ⟨g,0,none⟩=some (.int .i64 e.kind):=h.cell 0
 have c2:w.cell? ⟨g,2,none⟩=some (.int .i64 e.item):=h.cell 2
 have c3:w.cell? ⟨g,3,none⟩=some (.int .i64 e.qty):=h.cell 3
 have f0:=h.free 0
 have f2:=h.free 2
 have HH:=Qh h
 rcases hk:(e.kind==4) with _ | _
 ·have HE:=Qh (show Cd e=e by unfold Cd;rw [γ (fun h=>by simp [h.1] at hk)])
  clear h
  generalize e.kind=k at*
  go_enter Tryz.func114,Tryz.ntmps114
  go_wp2
  exact π (v:= .tuple #[]) (by simp [results,Tryz.results114,go_sem]) rfl ⟨rfl,by rw [HE.out];exact HH.out,Turned.refl _ _⟩
 ·rcases hz:(e.qty==0) with _ | _
  ·have HE:=Qh (show Cd e=e by unfold Cd;rw [γ (fun h=>by simp [h.2] at hz)])
   clear h
   generalize e.kind=k at*
   generalize e.qty=q at*
   go_enter Tryz.func114,Tryz.ntmps114
   go_wp2
   exact π (v:= .tuple #[]) (by simp [results,Tryz.results114,go_sem]) rfl ⟨rfl,by rw [HE.out];exact HH.out,Turned.refl _ _⟩
  ·have HE:=Qh (show Cd e={e with kind:=10,item:=0} by unfold Cd;rw [ζ ⟨by simpa using hk,by simpa using hz⟩])
   have h1:=h.put (e':={e with kind:=10}) 0 (.int .i64 10) rfl
   have h2:=h1.1.put (e':={e with kind:=10,item:=0}) 2 (.int .i64 0) rfl
   have HP:=Qh (show Ai _ g (Cd e)∧Turned (fun k=>k=g) w _ from⟨by rw [HE.out];exact h2.1,h1.2.trans h2.2 fun _ h=> .inl h⟩)
   clear h h1 h2
   generalize e.kind=k at*
   generalize e.qty=q at*
   generalize e.item=i at*
   go_enter Tryz.func114,Tryz.ntmps114
   go_wp2
   exact π (v:= .tuple #[]) (by simp [results,Tryz.results114,go_sem]) rfl ⟨rfl,HP.out.1,HP.out.2⟩
theorem drops_any (h:Ai w g e) (ht:Bo w) (hg:4≤g) (hc:0≤e.cur∧e.cur≤3) (hq: -1000000≤e.qty∧e.qty≤1000000):Calls Tryz.prog 112 #[.pointer (some ⟨g,0,none⟩)] w (UpQ w g (Et e)):=by
 have c0:w.cell? ⟨g,0,none⟩=some (.int .i64 e.kind):=h.cell 0
 have c3:w.cell? ⟨g,3,none⟩=some (.int .i64 e.qty):=h.cell 3
 have c5:w.cell? ⟨g,5,none⟩=some (.int .i64 e.cur):=h.cell 5
 have c6:w.cell? ⟨g,6,none⟩=some (.int .i64 e.tax):=h.cell 6
 have f0:=h.free 0
 have f3:=h.free 3
 have f6:=h.free 6
 obtain⟨cu,hcu⟩: ∃ cu:Nat,e.cur=(cu:Int):=⟨e.cur.toNat,by omega⟩
 have tb:=ht.at cu (by omega)
 have hcl:cu<4:=by omega
 have hng:g≠0:=fun hc=>by rw [hc] at hg;revert hg;decide
 have HT:=Qh (show taxL.getD e.cur.toNat 0=taxL.getD cu 0 by rw [hcu,Int.toNat_natCast])
 rw [hcu] at c5
 have q1:(cu:Int)<4:=by omega
 have hgn:0≠g:=fun hc=>hng hc.symm
 generalize taxL.getD cu 0=tx at*
 rcases hq0:decide (e.qty<0) with _ | _
 ·have HE:=Qh (show Et e={e with qty:=max 0 e.qty,tax:=tx} by unfold Et;rw [HT.out,γ (fun h=>by exact ε hq0 h.1)])
  have h1:=h.put (e':={e with qty:=max 0 e.qty}) 3 (.int .i64 (max 0 e.qty)) rfl
  have h2:=h1.1.put (e':={e with qty:=max 0 e.qty,tax:=tx}) 6 (.int .i64 tx) rfl
  have HP:=Qh (show Ai _ g (Et e)∧Turned (fun k=>k=g) w _ from⟨by rw [HE.out];exact h2.1,h1.2.trans h2.2 fun _ h=> .inl h⟩)
  clear h h1 h2 ht hq hc hcu HE
  generalize e.kind=k at*
  generalize e.qty=q at*
  generalize e.tax=ot at*
  go_enter Tryz.func112,Tryz.ntmps112
  go_wp2
  exact π (v:= .tuple #[]) (by simp [results,Tryz.results112,go_sem]) rfl ⟨rfl,HP.out.1,HP.out.2⟩
 ·rcases hk:(e.kind==2) with _ | _
  ·have HE:=Qh (show Et e={e with qty:=max 0 e.qty,tax:=tx} by unfold Et;rw [HT.out,γ (fun h=>by simp [h.2] at hk)])
   have h1:=h.put (e':={e with qty:=max 0 e.qty}) 3 (.int .i64 (max 0 e.qty)) rfl
   have h2:=h1.1.put (e':={e with qty:=max 0 e.qty,tax:=tx}) 6 (.int .i64 tx) rfl
   have HP:=Qh (show Ai _ g (Et e)∧Turned (fun k=>k=g) w _ from⟨by rw [HE.out];exact h2.1,h1.2.trans h2.2 fun _ h=> .inl h⟩)
   clear h h1 h2 ht hq hc hcu HE
   generalize e.kind=k at*
   generalize e.qty=q at*
   generalize e.tax=ot at*
   go_enter Tryz.func112,Tryz.ntmps112
   go_wp2
   exact π (v:= .tuple #[]) (by simp [results,Tryz.results112,go_sem]) rfl ⟨rfl,HP.out.1,HP.out.2⟩
  ·have hng2:IntKind.i64.wrap (-e.qty)= -e.qty:=by rw [κ];omega
   have hmx:max 0 (-e.qty)= -e.qty:=by have:=χ hq0;omega
   have HE:=Qh (show Et e={e with kind:=6,qty:= -e.qty,tax:=tx} by unfold Et;rw [HT.out,ζ ⟨χ hq0,by simpa using hk⟩])
   have h1:=h.put (e':={e with kind:=6}) 0 (.int .i64 6) rfl
   have h2:=h1.1.put (e':={e with kind:=6,qty:= -e.qty}) 3 (.int .i64 (-e.qty)) rfl
   have h3:=h2.1.put (e':={e with kind:=6,qty:= -e.qty}) 3 (.int .i64 (-e.qty)) rfl
   have h4:=h3.1.put (e':={e with kind:=6,qty:= -e.qty,tax:=tx}) 6 (.int .i64 tx) rfl
   have HP:=Qh (show Ai _ g (Et e)∧Turned (fun k=>k=g) w _ from⟨by rw [HE.out];exact h4.1,((h1.2.trans h2.2 fun _ h=> .inl h).trans h3.2 fun _ h=> .inl h).trans h4.2 fun _ h=> .inl h⟩)
   clear h h1 h2 h3 h4 ht hq hc hcu HE
   generalize e.kind=k at*
   generalize e.qty=q at*
   generalize e.tax=ot at*
   go_enter Tryz.func112,Tryz.ntmps112
   go_wp2
   exact π (v:= .tuple #[]) (by simp [results,Tryz.results112,go_sem]) rfl ⟨rfl,HP.out.1,HP.out.2⟩
theorem Bo.turned {S:Nat→Prop} (h:Bo w) (ht:Turned S w w') (hS: ¬ S 0) (hg:0<w.heap.size):Bo w':=by
 have hb:=ht.block 0 hg hS
 unfold Bo Lib.TabIs World.var? at*
 simp only [show Tryz.prog.globalNamed "daybook/upcast.taxes" =some 0 by kernel_rfl,Option.bind_some,hb] at*
 exact h
end
theorem Bo.lt {w:World} (h:Bo w):0<w.heap.size:=World.block_lt_of_cell? w _ (h.at 0 (by decide))
theorem Gi {fn:Func} {p:Tmp} (h:fn.results= #[.cell p 38]) (tmps:Array Value) (w:World) (g:Nat) (e:Ev)
  (hp:tmps.getD p undef= .pointer (some ⟨g,0,none⟩)) (hE:Ai w g e):(results fn tmps).run Tryz.prog w= .ok (Dx e) w:=by
 have hl:=run_loadVar_row (P:=Tryz.prog) w g 38 38 (evCs e) (0,0) _ hE Tryz.underlying38 rfl evInfo
 have hp':tmps[p]?.getD undef= .pointer (some ⟨g,0,none⟩):=by simpa using hp
 simp [results,h,hp',asAddr,hl]
 rfl
def RiseQ (w:World) (r:Ev) (e:Ending) (w':World):Prop:=e= .returned (Dx r)∧Below w.heap.size w w'
theorem riseV_1 (e:Ev):Fb 1 e=Cd (Hx (Et (hunV e))):=rfl
theorem riseV_2 (e:Ev):Fb 2 e=Cd (Hx (Et e)):=rfl
theorem riseV_3 (e:Ev):Fb 3 e=Cd (Hx e):=rfl
theorem riseV_4 (e:Ev):Fb 4 e=Cd e:=rfl
theorem riseV_5 (e:Ev):Fb 5 e=e:=rfl
theorem rise_any (v:Int) (e:Ev) (w:World) (hc:Af v e=0) (ht:Bo w) (hg:4≤w.heap.size):Calls Tryz.prog 74 #[.int .i64 v,Dx e] w (RiseQ w (Fb v e)):=by
 have hf:=evFit hc
 have h1:=hf.price
 have h2:=hf.cur
 have h3:=hf.qty
 have hq: -10000≤e.qty∧e.qty≤10000:=by split at h3<;>omega
 have hcu:0≤e.cur∧e.cur≤3:=by split at h2<;>omega
 have hb1:=below_alloc w (.cells (evCs e) 38)
 have hb2:=below_alloc (w.alloc (.cells (evCs e) 38)) (.cells (evCs evNone) 38)
 have HE0:=Qh (show Ai ((w.alloc (.cells (evCs e) 38)).alloc (.cells (evCs evNone) 38)) w.heap.size e from Ai.below (σ w _) hb2)
 have HZ0:=Qh (show Ai ((w.alloc (.cells (evCs e) 38)).alloc (.cells (evCs evNone) 38)) (w.heap.size+1) evNone from by
  have:=σ (w.alloc (.cells (evCs e) 38)) (.cells (evCs evNone) 38)
  rw [Ω] at this
  exact this)
 have HB0:=Qh (Below.next hb1 hb2)
 have HT0:=Qh ((ht.below hb1).below hb2)
 have HQ:=Qh hq
 have HC:=Qh hcu
 have HP:=Qh h1
 have HG:=Qh hg
 have HV:=Qh (show v=1∨v=2∨v=3∨v=4∨v=5 from by have:=hf.ver;omega)
 have HTX:=Qh (fun(W W':World) (a:Bo W) (t:Turned (fun k=>k=w.heap.size) W W')=>a.turned t (show ¬ ((0:Nat)=w.heap.size) by omega) a.lt)
 simp only [evCs,evNone] at HE0 HZ0 HB0 HT0
 clear hc hf h1 h2 h3 hq hcu hb1 hb2 ht hg
 have HW0:=Qh (show Bo _∧Ai _ w.heap.size e∧Ai _ (w.heap.size+1) evNone∧Below w.heap.size w _ from⟨HT0.out,HE0.out,HZ0.out,HB0.out⟩)
 clear HT0 HE0 HZ0 HB0
 rcases HV.out with rfl | rfl | rfl | rfl | rfl
 ·go_enter Tryz.func74,Tryz.ntmps74
  go_wp2_with fail
  refine(hund_any HW0.out.2.1 (by have:=HP.out;omega)).mono ?_
  rintro x w1 ⟨rfl,he,ht⟩
  replace HW0:=Qh (show Bo w1∧Ai w1 w.heap.size (hunV e)∧Ai w1 (w.heap.size+1) evNone∧Below w.heap.size w w1 from⟨HTX.out _ _ HW0.out.1 ht,he,(ht.block _ HW0.out.2.2.1.lt (by omega)).trans HW0.out.2.2.1,turned_blw HW0.out.2.2.2 ht (fun k hk=>by omega) HW0.out.2.2.2.size⟩)
  clear he ht
  go_wp2_with fail
  refine(drops_any HW0.out.2.1 HW0.out.1 HG.out HC.out (by have:=HQ.out;exact⟨by show -1000000≤e.qty;omega,by show e.qty≤1000000;omega⟩)).mono ?_
  rintro x w1 ⟨rfl,he,ht⟩
  replace HW0:=Qh (show Bo w1∧Ai w1 w.heap.size (Et (hunV e))∧Ai w1 (w.heap.size+1) evNone∧Below w.heap.size w w1 from⟨HTX.out _ _ HW0.out.1 ht,he,(ht.block _ HW0.out.2.2.1.lt (by omega)).trans HW0.out.2.2.1,turned_blw HW0.out.2.2.2 ht (fun k hk=>by omega) HW0.out.2.2.2.size⟩)
  clear he ht
  go_wp2_with fail
  refine(signed_any HW0.out.2.1).mono ?_
  rintro x w1 ⟨rfl,he,ht⟩
  replace HW0:=Qh (show Bo w1∧Ai w1 w.heap.size (Hx (Et (hunV e)))∧Ai w1 (w.heap.size+1) evNone∧Below w.heap.size w w1 from⟨HTX.out _ _ HW0.out.1 ht,he,(ht.block _ HW0.out.2.2.1.lt (by omega)).trans HW0.out.2.2.1,turned_blw HW0.out.2.2.2 ht (fun k hk=>by omega) HW0.out.2.2.2.size⟩)
  clear he ht
  go_wp2_with fail
  refine(Kj HW0.out.2.1).mono ?_
  rintro x w1 ⟨rfl,he,ht⟩
  replace HW0:=Qh (show Bo w1∧Ai w1 w.heap.size (Cd (Hx (Et (hunV e))))∧Ai w1 (w.heap.size+1) evNone∧Below w.heap.size w w1 from⟨HTX.out _ _ HW0.out.1 ht,he,(ht.block _ HW0.out.2.2.1.lt (by omega)).trans HW0.out.2.2.1,turned_blw HW0.out.2.2.2 ht (fun k hk=>by omega) HW0.out.2.2.2.size⟩)
  clear he ht
  obtain⟨E,hE⟩: ∃ E,E=Cd (Hx (Et (hunV e))):=⟨_,rfl⟩
  have HR:=Qh (show Fb 1 e=E from by rw [riseV_1,hE])
  rw [←hE] at HW0
  clear hE
  have HEE:=Qh HW0.out.2.1
  have HZZ:=Qh HW0.out.2.2.1
  go_wp2_with (first | (with_reducible refine wpList_load_ev rfl (.tmp 3) rfl w.heap.size E rfl HEE.out ?_) | (with_reducible refine wpList_store_ev rfl (.tmp 4) (.tmp 18) rfl (w.heap.size+1) evNone E rfl rfl HZZ.out ?_))
  intro wz hz
  have HZ:=Qh (show Ai wz (w.heap.size+1) E∧Below w.heap.size w wz from⟨hz.out.1,turned_blw HW0.out.2.2.2 hz.out.2 (fun k hk=>by omega) HW0.out.2.2.2.size⟩)
  clear hz
  go_wp2
  exact π (v:=Dx E) (Gi rfl _ _ (w.heap.size+1) E rfl HZ.out.1) rfl ⟨by rw [HR.out],HZ.out.2⟩
 ·go_enter Tryz.func74,Tryz.ntmps74
  go_wp2_with fail
  refine(drops_any HW0.out.2.1 HW0.out.1 HG.out HC.out (by have:=HQ.out;exact⟨by show -1000000≤e.qty;omega,by show e.qty≤1000000;omega⟩)).mono ?_
  rintro x w1 ⟨rfl,he,ht⟩
  replace HW0:=Qh (show Bo w1∧Ai w1 w.heap.size (Et e)∧Ai w1 (w.heap.size+1) evNone∧Below w.heap.size w w1 from⟨HTX.out _ _ HW0.out.1 ht,he,(ht.block _ HW0.out.2.2.1.lt (by omega)).trans HW0.out.2.2.1,turned_blw HW0.out.2.2.2 ht (fun k hk=>by omega) HW0.out.2.2.2.size⟩)
  clear he ht
  go_wp2_with fail
  refine(signed_any HW0.out.2.1).mono ?_
  rintro x w1 ⟨rfl,he,ht⟩
  replace HW0:=Qh (show Bo w1∧Ai w1 w.heap.size (Hx (Et e))∧Ai w1 (w.heap.size+1) evNone∧Below w.heap.size w w1 from⟨HTX.out _ _ HW0.out.1 ht,he,(ht.block _ HW0.out.2.2.1.lt (by omega)).trans HW0.out.2.2.1,turned_blw HW0.out.2.2.2 ht (fun k hk=>by omega) HW0.out.2.2.2.size⟩)
  clear he ht
  go_wp2_with fail
  refine(Kj HW0.out.2.1).mono ?_
  rintro x w1 ⟨rfl,he,ht⟩
  replace HW0:=Qh (show Bo w1∧Ai w1 w.heap.size (Cd (Hx (Et e)))∧Ai w1 (w.heap.size+1) evNone∧Below w.heap.size w w1 from⟨HTX.out _ _ HW0.out.1 ht,he,(ht.block _ HW0.out.2.2.1.lt (by omega)).trans HW0.out.2.2.1,turned_blw HW0.out.2.2.2 ht (fun k hk=>by omega) HW0.out.2.2.2.size⟩)
  clear he ht
  obtain⟨E,hE⟩: ∃ E,E=Cd (Hx (Et e)):=⟨_,rfl⟩
  have HR:=Qh (show Fb 2 e=E from by rw [riseV_2,hE])
  rw [←hE] at HW0
  clear hE
  have HEE:=Qh HW0.out.2.1
  have HZZ:=Qh HW0.out.2.2.1
  go_wp2_with (first | (with_reducible refine wpList_load_ev rfl (.tmp 3) rfl w.heap.size E rfl HEE.out ?_) | (with_reducible refine wpList_store_ev rfl (.tmp 4) (.tmp 18) rfl (w.heap.size+1) evNone E rfl rfl HZZ.out ?_))
  intro wz hz
  have HZ:=Qh (show Ai wz (w.heap.size+1) E∧Below w.heap.size w wz from⟨hz.out.1,turned_blw HW0.out.2.2.2 hz.out.2 (fun k hk=>by omega) HW0.out.2.2.2.size⟩)
  clear hz
  go_wp2
  exact π (v:=Dx E) (Gi rfl _ _ (w.heap.size+1) E rfl HZ.out.1) rfl ⟨by rw [HR.out],HZ.out.2⟩
 ·go_enter Tryz.func74,Tryz.ntmps74
  go_wp2_with fail
  refine(signed_any HW0.out.2.1).mono ?_
  rintro x w1 ⟨rfl,he,ht⟩
  replace HW0:=Qh (show Bo w1∧Ai w1 w.heap.size (Hx e)∧Ai w1 (w.heap.size+1) evNone∧Below w.heap.size w w1 from⟨HTX.out _ _ HW0.out.1 ht,he,(ht.block _ HW0.out.2.2.1.lt (by omega)).trans HW0.out.2.2.1,turned_blw HW0.out.2.2.2 ht (fun k hk=>by omega) HW0.out.2.2.2.size⟩)
  clear he ht
  go_wp2_with fail
  refine(Kj HW0.out.2.1).mono ?_
  rintro x w1 ⟨rfl,he,ht⟩
  replace HW0:=Qh (show Bo w1∧Ai w1 w.heap.size (Cd (Hx e))∧Ai w1 (w.heap.size+1) evNone∧Below w.heap.size w w1 from⟨HTX.out _ _ HW0.out.1 ht,he,(ht.block _ HW0.out.2.2.1.lt (by omega)).trans HW0.out.2.2.1,turned_blw HW0.out.2.2.2 ht (fun k hk=>by omega) HW0.out.2.2.2.size⟩)
  clear he ht
  obtain⟨E,hE⟩: ∃ E,E=Cd (Hx e):=⟨_,rfl⟩
  have HR:=Qh (show Fb 3 e=E from by rw [riseV_3,hE])
  rw [←hE] at HW0
  clear hE
  have HEE:=Qh HW0.out.2.1
  have HZZ:=Qh HW0.out.2.2.1
  go_wp2_with (first | (with_reducible refine wpList_load_ev rfl (.tmp 3) rfl w.heap.size E rfl HEE.out ?_) | (with_reducible refine wpList_store_ev rfl (.tmp 4) (.tmp 18) rfl (w.heap.size+1) evNone E rfl rfl HZZ.out ?_))
  intro wz hz
  have HZ:=Qh (show Ai wz (w.heap.size+1) E∧Below w.heap.size w wz from⟨hz.out.1,turned_blw HW0.out.2.2.2 hz.out.2 (fun k hk=>by omega) HW0.out.2.2.2.size⟩)
  clear hz
  go_wp2
  exact π (v:=Dx E) (Gi rfl _ _ (w.heap.size+1) E rfl HZ.out.1) rfl ⟨by rw [HR.out],HZ.out.2⟩
 ·go_enter Tryz.func74,Tryz.ntmps74
  go_wp2_with fail
  refine(Kj HW0.out.2.1).mono ?_
  rintro x w1 ⟨rfl,he,ht⟩
  replace HW0:=Qh (show Bo w1∧Ai w1 w.heap.size (Cd e)∧Ai w1 (w.heap.size+1) evNone∧Below w.heap.size w w1 from⟨HTX.out _ _ HW0.out.1 ht,he,(ht.block _ HW0.out.2.2.1.lt (by omega)).trans HW0.out.2.2.1,turned_blw HW0.out.2.2.2 ht (fun k hk=>by omega) HW0.out.2.2.2.size⟩)
  clear he ht
  obtain⟨E,hE⟩: ∃ E,E=Cd e:=⟨_,rfl⟩
  have HR:=Qh (show Fb 4 e=E from by rw [riseV_4,hE])
  rw [←hE] at HW0
  clear hE
  have HEE:=Qh HW0.out.2.1
  have HZZ:=Qh HW0.out.2.2.1
  go_wp2_with (first | (with_reducible refine wpList_load_ev rfl (.tmp 3) rfl w.heap.size E rfl HEE.out ?_) | (with_reducible refine wpList_store_ev rfl (.tmp 4) (.tmp 18) rfl (w.heap.size+1) evNone E rfl rfl HZZ.out ?_))
  intro wz hz
  have HZ:=Qh (show Ai wz (w.heap.size+1) E∧Below w.heap.size w wz from⟨hz.out.1,turned_blw HW0.out.2.2.2 hz.out.2 (fun k hk=>by omega) HW0.out.2.2.2.size⟩)
  clear hz
  go_wp2
  exact π (v:=Dx E) (Gi rfl _ _ (w.heap.size+1) E rfl HZ.out.1) rfl ⟨by rw [HR.out],HZ.out.2⟩
 ·go_enter Tryz.func74,Tryz.ntmps74
  obtain⟨E,hE⟩: ∃ E,E=e:=⟨_,rfl⟩
  have HR:=Qh (show Fb 5 e=E from by rw [riseV_5,hE])
  subst hE
  have HEE:=Qh HW0.out.2.1
  have HZZ:=Qh HW0.out.2.2.1
  go_wp2_with (first | (with_reducible refine wpList_load_ev rfl (.tmp 3) rfl w.heap.size E rfl HEE.out ?_) | (with_reducible refine wpList_store_ev rfl (.tmp 4) (.tmp 18) rfl (w.heap.size+1) evNone E rfl rfl HZZ.out ?_))
  intro wz hz
  have HZ:=Qh (show Ai wz (w.heap.size+1) E∧Below w.heap.size w wz from⟨hz.out.1,turned_blw HW0.out.2.2.2 hz.out.2 (fun k hk=>by omega) HW0.out.2.2.2.size⟩)
  clear hz
  go_wp2
  exact π (v:=Dx E) (Gi rfl _ _ (w.heap.size+1) E rfl HZ.out.1) rfl ⟨by rw [HR.out],HZ.out.2⟩
def ReadQ (w:World) (r:Ev×Int) (e:Ending) (w':World):Prop:=e= .returned (.tuple #[Dx r.1,.int .i64 r.2])∧Below w.heap.size w w'
def upV (b:List UInt8):Ev:=Fb (Ca b).1 (Ca b).2.1
theorem decEvQ_fin (v:Int) (q:List Fld×Int): ∃ q' e',Kl v q=finQ v q' e':=⟨_,_,rfl⟩
theorem decEv_check {v:Int} {b:List UInt8} (h:(D4 v b).2=0):Af v (D4 v b).1=0:=by
 unfold D4 at h ⊢
 split at h
 ·cases h
 ·rename_i h3
  rw [γ h3]
  split at h
  ·rename_i h4;exact absurd h h4
  ·rename_i h4
   rw [γ h4]
   obtain⟨q,e,hf⟩:=decEvQ_fin v ((B2 b).2,0)
   rw [hf] at h ⊢
   unfold finQ at h ⊢
   split at h
   ·rename_i h5;exact absurd h h5
   ·rename_i h5
    rw [γ h5]
    split at h
    ·rename_i h6;exact absurd h h6
    ·rename_i h6
     rw [γ h6]
     exact Decidable.not_not.1 h6
theorem unpack_check {b:List UInt8} (h:(Ca b).2.2=0):Af (Ca b).1 (Ca b).2.1=0:=by
 unfold Ca at h ⊢
 split at h
 ·rename_i h1;exact absurd h h1
 ·rename_i h1
  rw [γ h1]
  split at h
  ·rename_i h2;exact absurd h h2
  ·rename_i h2
   rw [γ h2]
   exact decEv_check (Decidable.not_not.1 h2)
theorem upRead_any (b:List UInt8) (bv:Value) (w:World) (hv:A2 w bv b) (hl:b.length≤9223372036854775807) (h0:(Ca b).2.2=0) (ht:Bo w) (hg:4≤w.heap.size):Calls Tryz.prog 44 #[bv] w (ReadQ w (upV b,0)):=by
 have hck:=unpack_check h0
 have hb1:=below_alloc w (.cells (evCs evNone) 38)
 have HZ0:=Qh (show Ai (w.alloc (.cells (evCs evNone) 38)) w.heap.size evNone from σ w _)
 have HB0:=Qh hb1
 have HT0:=Qh (ht.below hb1)
 have HUN:=Qh (unpack_any b bv _ (hv.below hb1) hl)
 have HCK:=Qh hck
 have HG:=Qh hg
 unfold upV
 obtain⟨u,hu⟩: ∃ u,u=Ca b:=⟨_,rfl⟩
 rw [←hu] at HUN HCK h0
 rw [←hu]
 obtain⟨v,e,e0⟩:=u
 dsimp only at h0 HCK
 subst h0
 unfold UnpQ at HUN
 simp only [evCs,evNone] at HZ0 HB0 HT0 HUN
 clear hck hb1 ht hg hv hl hu
 go_enter Tryz.func44,Tryz.ntmps44
 go_wp2_with fail
 generalize w.alloc (.cells #[.int .i64 0,.int .i64 0,.int .i64 0,.int .i64 0,.int .i64 0,.int .i64 0,.int .i64 0,.string ⟨#[]⟩,.int .i64 0,.string ⟨#[]⟩] 38)=w0 at*
 refine HUN.out.mono ?_
 rintro x w1 ⟨rfl,hb⟩
 have hba:=below_alloc w1 (.cells (evCs e) 38)
 have HE1:=Qh (show Ai (w1.alloc (.cells (evCs e) 38)) w1.heap.size e from σ w1 _)
 have HZ1:=Qh (show Ai (w1.alloc (.cells (evCs e) 38)) w.heap.size evNone from(HZ0.out.below hb).below hba)
 have HB1:=Qh (Below.next (Below.next HB0.out hb) hba)
 have HT1:=Qh ((HT0.out.below hb).below hba)
 simp only [evCs] at HE1 HZ1 HB1 HT1
 clear hb hba HZ0 HB0 HT0 HUN
 go_wp2_with (with_reducible refine wpList_load_ev rfl (.tmp 5) rfl w1.heap.size e rfl HE1.out ?_)
 refine(rise_any v e _ HCK.out HT1.out (μ HG.out HB1.out.size)).mono ?_
 rintro x w2 ⟨rfl,hb2⟩
 obtain⟨E,hE⟩: ∃ E,E=Fb v e:=⟨_,rfl⟩
 have HZ2:=Qh (HZ1.out.below hb2)
 have HB2:=Qh (Below.next HB1.out hb2)
 rw [←hE]
 have HEQ:=Qh hE
 clear hb2 hE HE1 HZ1 HT1 HB1
 go_wp2_with (with_reducible refine wpList_store_ev rfl (.tmp 2) (.tmp 19) rfl w.heap.size evNone E rfl rfl HZ2.out ?_)
 intro wz hz
 have HZ:=Qh (show Ai wz w.heap.size E∧Below w.heap.size w wz from⟨hz.out.1,turned_blw HB2.out hz.out.2 (fun k hk=>by omega) HB2.out.size⟩)
 clear hz
 go_wp2
 exact π (v:= .tuple #[Dx E,.int .i64 0]) (C9 rfl _ _ w.heap.size E _ rfl rfl HZ.out.1) rfl ⟨by rw [HEQ.out],HZ.out.2⟩
abbrev RecS:=Int×Ev
def rsCs (r:RecS):Array Value:= #[.int .i64 r.1,.int .i64 r.2.kind,.int .i64 r.2.order,.int .i64 r.2.item,.int .i64 r.2.qty,.int .i64 r.2.price,.int .i64 r.2.cur,.int .i64 r.2.tax,.string ⟨r.2.who.toArray⟩,.int .i64 r.2.stamp,.string ⟨r.2.note.toArray⟩]
def rsCells (rs:List RecS):List Value:=rs.flatMap fun r=>(rsCs r).toList
theorem rsCells_snoc (rs:List RecS) (r:RecS):rsCells (rs++[r])=rsCells rs++(rsCs r).toList:=by simp [rsCells]
def Jy (w:World) (B:Nat) (v:Value) (rs:List RecS):Prop:=w.ownsRow B 52 11 v rs.length (rsCells rs)
theorem rsOwn_nil (w:World) (B:Nat):Jy w B (.slice none 0 0) []:=⟨rfl,.inl ⟨rfl,rfl⟩⟩
def zeroRs:Value:= .agg #[.int .i64 0,.int .i64 0,.int .i64 0,.int .i64 0,.int .i64 0,.int .i64 0,.int .i64 0,.int .i64 0,.string ⟨#[]⟩,.int .i64 0,.string ⟨#[]⟩]
theorem infoRs:(Tryz.prog.info? 52).map (fun i=>(i.zero,i.size,i.bytes))=some (some zeroRs,11,104):=by kernel_rfl
theorem wpList_appRs {ops:Array Oper} {rest:List Oper} {o:Oper} {a:Act} {Q:Exit→Act→World→Prop} {w:World} (hgd:o.guard=none) (s y:Operand) (ho:o.op= .call {callee:= .builtin .append,args:= #[s,y],argTypes:= #[47,47]}) {B:Nat} {v:Value} {rs:List RecS} {r:RecS} {N:Nat}
  (hs:a.eval s=v) (hN:N=w.heap.size) (hy:a.eval y= .slice (some ⟨N,0,none⟩) 1 1) (hown:Jy w B v rs) (hB:B≤w.heap.size) (hl:rs.length≤1000000)
  (h: ∀ v' w',Jy w' B v' (rs++[r])→Turned (fun k=>v.ownBlock=some k) w w'→(∀ k,v'.ownBlock=some k→v.ownBlock=some k∨w.heap.size≤k)→wpList Tryz.prog ops Q rest (a.put o.dst v') w'):
  wpList Tryz.prog ops Q (o::rest) a (w.alloc (.cells #[.int .i64 r.1,.int .i64 r.2.kind,.int .i64 r.2.order,.int .i64 r.2.item,.int .i64 r.2.qty,.int .i64 r.2.price,.int .i64 r.2.cur,.int .i64 r.2.tax,.string ⟨r.2.who.toArray⟩,.int .i64 r.2.stamp,.string ⟨r.2.note.toArray⟩] 52)):=by
 subst hN
 obtain⟨i0,hi,hz0,hz1,hz2⟩:=info_parts infoRs
 have hb:=below_alloc w (.cells (rsCs r) 52)
 refine wpList_append_ownB _ hgd s y 47 ho B 52 i0 zeroRs 11 104 Tryz.underlying47 hi hz0 hz1 hz2 rfl (by decide) v rs.length (rsCells rs) hs (own_later hown hb) ⟨w.heap.size,0,none⟩ 1 1 (rsCs r).toList hy rfl (fun j u hj=> ?_) (fun u hu=> ?_) (by unfold maxLen;omega) (by omega) (μ hB hb.size) (by decide) ?_
 ·rw [Bc,Nat.zero_add,World.cell?_alloc_new]
  simpa [rsCs] using hj
 ·simp [rsCs] at hu;rcases hu with rfl | rfl | rfl | rfl | rfl | rfl | rfl | rfl | rfl | rfl | rfl<;>rfl
 ·intro v' w' hown' hg hnew
  refine h v' w' ?_ ((Turned.below hb).trans (Turned.grown (S:=fun k=>v.ownBlock=some k) hg fun _ hk=>hk) fun _ h=> .inl h) fun k hk=> ?_
  ·unfold Jy
   rw [η,rsCells_snoc]
   exact hown'
  ·rcases hnew with h | h
   ·exact .inl (h▸hk)
   ·rw [h] at hk
    have hk2:=ψ hk
    have hsz:=hb.size
    exact .inr (hk2▸hsz)
def recP (from_:Int) (ps:List Plc):List RecS:=(ps.filter fun p=>decide (from_≤(p.f.s:Int))).map fun p=>((p.f.s:Int),upV p.f.body)
theorem Fa (from_:Int) (a b:List Plc):recP from_ (a++b)=recP from_ a++recP from_ b:=by simp [recP]
theorem recP_le (from_:Int) (ps:List Plc):(recP from_ ps).length≤ps.length:=by unfold recP;rw [List.length_map];exact List.length_filter_le _ _
section
variable {w W W' : World} {b f m : Nat} {L : List Ad} {d d' : Ab} {s : Cb} {mv sv : Value} {g : Sg}
theorem PieceIn.rd {x:A7} {ms:List Mk} {en cnt:Nat} (h:PieceIn d s g x ms en cnt) (n:Nat):PieceIn (rdD d n) s g x ms en cnt:=⟨h.fil,h.src,h.le,h.rise,h.few,h.cnt,h.first⟩
theorem Jn.low {A:Nat→Prop} {v:Value} {ps:List Plc} (h:Jn A W v ps):Jn (fun k=>A k∧k<W.heap.size) W v ps:=by
 obtain⟨oa,cap,h1,h2,h3,h4⟩:=h
 refine⟨oa,cap,h1,h2,h3,fun hn=> ?_⟩
 obtain⟨b,off,e,ha,hc⟩:=h4 hn
 have hb:b<W.heap.size:=by
  obtain⟨p,r,rfl⟩:=List.exists_cons_of_ne_nil hn
  obtain⟨dv,h5,_⟩:=hc 0 p rfl
  exact World.block_lt_of_cell? W _ (h5 0 _ rfl)
 exact⟨b,off,e,⟨ha,hb⟩,fun i p hp=>by obtain⟨dv,h5,h6⟩:=hc i p hp;exact⟨dv,h5,h6.low⟩⟩
theorem take_flat {α:Type} (l:List (List α)) (k:Nat) (x:List α) (h:l[k]? =some x):(l.take (k+1)).flatten=(l.take k).flatten++x:=by
 rw [List.take_add_one,h]
 simp
theorem recP_take {from_:Int} {ps:List Plc} {j:Nat} {p:Plc} (h:ps[j]? =some p):recP from_ (ps.take (j+1))=recP from_ (ps.take j)++if from_≤(p.f.s:Int) then [((p.f.s:Int),upV p.f.body)] else []:=by
 rw [List.take_add_one,h,Fa]
 congr 1
 unfold recP
 simp only [Option.toList_some,List.filter_cons,List.filter_nil]
 split<;>simp_all
def SegIn (d:Ab) (s:Cb) (from_:Int) (g:Sg) (ps:List Plc):Prop:=
 (0<g.count∧g.first+g.count - 1<from_∧ps=[])∨(¬ (0<g.count∧g.first+g.count - 1<from_)∧ ∃ x ms en cnt,PieceIn d s g x ms en cnt∧
  ((seekM ms (max from_ g.first)=none∧cnt=0∧ps=[])∨ ∃ ks kp lf:Nat,seekM ms (max from_ g.first)=some ⟨(ks:Int),(kp:Int)⟩∧kp≤en∧g.first+(cnt:Int) - (ks:Int)=(lf:Int)∧0<lf∧lf≤1000000∧scanRun ((x.data.drop kp).take (en - kp)) 0 ks lf=(ps,en - kp)∧ps.length=lf))
theorem SJ.aside {S:Nat→Prop} {d0:Ab} (h0:SJ w b f m L d0 s mv sv) (h:SJ W b f m L d s mv sv) (tu:Turned (A0 b mv f m L) w W) (ht:Turned S W W') (hS: ∀ k,S k→w.heap.size≤k):SJ W' b f m L d s mv sv:=by
 have hno: ∀ k,A0 b mv f m L k→ ¬ S k:=fun k hk hs=>by have:=h0.lt k hk;have:=hS k hs;omega
 have tu2:Turned (A0 b mv f m L) w W':=tu.trans ht fun k hk=> .inr (hS k hk)
 refine⟨h.blk.keep (ht.block b h.blk.lt (hno b (.inl rfl))),h.fs.turned ht (fun k hk=>hno k (.inr (.inr hk))),h.mks.kept' fun k hk=>ht.block k (mk_lt h.mks k hk) (hno k (.inr (.inl hk))),?_,?_,⟨μ h.gl.1 ht.size,h.gl.2⟩,h.sep⟩
 ·exact(h0.sg.low.turned tu2 fun k hk hc=>hk.1 hc).mono fun k hk=>hk.1
 ·refine h.nib.turned ht (fun hc=> ?_) h.nib.lt
  have:=hS _ hc
  have:=h0.nib.lt
  omega
structure RW (w W:World) (b f m:Nat) (L:List Ad) (d:Ab) (s:Cb) (mv sv:Value) (ov:Value) (rs:List RecS):Prop where
 sj: ∃ n,SJ W b f m L (rdD d n) s mv sv
 tu:Turned (fun k=>k=f) w W
 out:Jy W w.heap.size ov rs
theorem RW.below {ov:Value} {rs:List RecS} (h:RW w W b f m L d s mv sv ov rs) (hb:Below W.heap.size W W'):RW w W' b f m L d s mv sv ov rs:=by
 obtain⟨n,h1⟩:=h.sj
 exact⟨⟨n,h1.below hb⟩,h.tu.trans (Turned.below (S:=fun k=>k=f) hb) fun _ h=> .inl h,own_later h.out hb⟩
theorem RW.app {S:Nat→Prop} {ov ov':Value} {rs rs':List RecS} (h0:SJ w b f m L d s mv sv) (h:RW w W b f m L d s mv sv ov rs) (ho:Jy W' w.heap.size ov' rs') (ht:Turned S W W') (hS: ∀ k,S k→w.heap.size≤k):RW w W' b f m L d s mv sv ov' rs':=by
 obtain⟨n,h1⟩:=h.sj
 exact⟨⟨n,h0.aside h1 (h.tu.mono fun k hk=> .inr (.inr (.inl hk))) ht hS⟩,h.tu.trans ht fun k hk=> .inr (hS k hk),ho⟩
def ReadS (w:World) (b f m:Nat) (L:List Ad) (d:Ab) (s:Cb) (mv sv:Value) (rs:List RecS) (gone:Nat) (e:Ending) (w':World):Prop:=
 ∃ v n,e= .returned (.tuple #[v,.int .i64 0])∧Jy w' w.heap.size v rs∧SJ w' b f m L (rdD d n) {s with decoded:=gone} mv sv∧Turned (A0 b mv f m L) w w'
theorem stoRead_none (from_:Int) (h:SJ w b f m L d s mv sv) (hs:SB s) (hc:s.closed=false) (hd:d.down=false) (hf:from_<1∨lastE s+1<from_):
  Calls Tryz.prog 15 #[.pointer (some ⟨b,0,none⟩),.int .i64 from_] w fun e w'=>e= .returned (.tuple #[.slice none 0 0,.int .i64 1])∧Below w.heap.size w w':=by
 have HAL:=Qh (Do h hc hd)
 have HLS:=Qh (Dp h hs)
 have hw9:IntKind.i64.wrap (lastE s+1)=lastE s+1:=by rw [κ];unfold lastE;have:=hs.first;have:=hs.count;omega
 clear h hs hc hd
 generalize lastE s=le at*
 rcases hq1:decide (from_<1) with _ | _
 ·have hq2:decide (le+1<from_)=true:=ν (by have:=ε hq1;omega)
  clear hf
  go_enter Tryz.func15,Tryz.ntmps15
  go_wp2_with fail
  refine HAL.out.mono ?_
  rintro e w1 ⟨rfl,hww⟩
  subst hww
  go_wp2_with fail
  refine HLS.out.mono ?_
  rintro e w1 ⟨rfl,hb⟩
  have HB:=Qh hb
  clear hb
  go_wp2
  go_ret2
  exact⟨rfl,HB.out⟩
 ·clear hf hw9 HLS
  go_enter Tryz.func15,Tryz.ntmps15
  go_wp2_with fail
  refine HAL.out.mono ?_
  rintro e w1 ⟨rfl,hww⟩
  subst hww
  go_wp2
  go_ret2
  exact⟨rfl,τ _ _⟩
theorem stoRead_end (h:SJ w b f m L d s mv sv) (hs:SB s) (hc:s.closed=false) (hd:d.down=false) (hfl:s.man.floor=0):
  Calls Tryz.prog 15 #[.pointer (some ⟨b,0,none⟩),.int .i64 (lastE s+1)] w (ReadS w b f m L d s mv sv [] 0):=by
 have hlo:0≤lastE s∧lastE s≤2199023255552:=by unfold lastE;have:=hs.first;have:=hs.count;omega
 have HAL:=Qh (Do h hc hd)
 have HLS:=Qh (fun W (hB:Below w.heap.size w W)=>Dp (h.below hB) hs)
 have hw9:IntKind.i64.wrap (lastE s+1)=lastE s+1:=by rw [κ];omega
 have HJ:=Qh h
 have HFL:=Qh hfl
 clear h hs hc hd hfl
 generalize lastE s=le at*
 have hq1:decide (le+1<1)=false:=ρ (by omega)
 have hq2:decide (le+1<le+1)=false:=ρ (by omega)
 have hq4:decide (le<le+1)=true:=ν (by omega)
 have HL:=Qh hlo
 clear hlo
 obtain⟨fr,hfr⟩: ∃ fr,fr=le+1:=⟨_,rfl⟩
 rw [←hfr] at hq1 hq4
 have hw10:IntKind.i64.wrap (le+1)=fr:=by rw [hfr];exact hw9
 clear hw9
 have hq2':decide (fr<fr)=false:=by simp
 have hq3:decide (fr≤0)=false:=ρ (by have:=HL.out;omega)
 rw [←hfr]
 clear hq2
 have HFR:=Qh hfr
 clear hfr
 go_enter Tryz.func15,Tryz.ntmps15
 go_wp2_with fail
 refine HAL.out.mono ?_
 rintro e w1 ⟨rfl,hww⟩
 subst hww
 go_wp2_with fail
 refine(HLS.out _ (τ _ _)).mono ?_
 rintro e w1 ⟨rfl,hb⟩
 have HB:=Qh hb
 have c8:w1.cell? ⟨b,8,none⟩=some (.int .i64 0):=by rw [←HFL.out];exact(HJ.out.below hb).blk.cell 8
 clear hb
 go_wp2_with fail
 refine(HLS.out _ HB.out).mono ?_
 rintro e w2 ⟨rfl,hb2⟩
 have HB2:=Qh (Below.next HB.out hb2)
 have HJ2:=Qh (HJ.out.below HB2.out)
 clear hb2 c8
 have c13:w2.cell? ⟨b,13,none⟩=some (.int .i64 (s.decoded:Int)):=HJ2.out.blk.cell 13
 have f13:=HJ2.out.blk.free 13
 obtain⟨hj,ht⟩:=HJ2.out.set (s':={s with decoded:=0}) (j:=13) (v:= .int .i64 0) (by simp [Gw]) rfl rfl
 have HJ3:=Qh hj
 have HT3:=Qh ((Turned.below (S:=A0 b mv f m L) HB2.out).trans ht fun _ h=> .inl h)
 clear hj ht
 go_wp2
 go_ret2
 exact⟨_,0,rfl,rsOwn_nil _ _,by rw [Hm HJ.out.fs.ok];exact HJ3.out,HT3.out⟩
theorem stoRead_any (from_:Int) (pcs:List (List Plc)) (h:SJ w b f m L d s mv sv) (ht:Bo w) (hs:SB s) (hc:s.closed=false) (hd:d.down=false) (hfl:s.man.floor=0) (hf:1≤from_∧from_≤lastE s) (hsl:s.man.segs.length≤256)
  (hpl:pcs.length=s.man.segs.length) (hpc: ∀ (i:Nat) g ps,s.man.segs[i]? =some g→pcs[i]? =some ps→SegIn d s from_ g ps) (hsg: ∀ g∈s.man.segs,0≤g.first∧g.first≤1099511627777∧0≤g.count∧g.count≤512) (hb: ∀ ps∈pcs,ps.length≤512∧ ∀ p∈ps,BodyOk p.f.body):
  Calls Tryz.prog 15 #[.pointer (some ⟨b,0,none⟩),.int .i64 from_] w (ReadS w b f m L d s mv sv (recP from_ pcs.flatten) pcs.flatten.length):=by
 have hlo:0≤lastE s∧lastE s≤2199023255552:=by unfold lastE;have:=hs.first;have:=hs.count;omega
 have HAL:=Qh (Do h hc hd)
 have HLS:=Qh (fun W (hB:Below w.heap.size w W)=>Dp (h.below hB) hs)
 have hw9:IntKind.i64.wrap (lastE s+1)=lastE s+1:=by rw [κ];omega
 have HJ:=Qh h
 have HFL:=Qh hfl
 have HPL:=Qh hpl
 have HPC:=Qh hpc
 have HSG:=Qh hsg
 have HBD:=Qh hb
 have HSB:=Qh hs
 have HDN:=Qh hd
 have HSL:=Qh hsl
 have HNB:=Qh (show ¬ (0:Nat)=f from fun hc=>h.gl.2 0 (by decide) (.inr (.inr (.inl hc))))
 have HTX:=Qh (fun W (t:Turned (fun k=>k=f) w W)=>ht.turned t HNB.out ht.lt)
 have HGL:=Qh h.gl.1
 have HFW:=Qh (show f<w.heap.size from h.fs.hd.lt)
 have hq1:decide (from_<1)=false:=ρ (by omega)
 have hq2:decide (lastE s+1<from_)=false:=ρ (by omega)
 have hq3:decide (from_≤0)=false:=ρ (by omega)
 have hq4:decide (lastE s<from_)=false:=ρ (by omega)
 clear h ht hs hc hd hfl hf hsl hpl hpc hsg hb hlo
 generalize lastE s=le at*
 go_enter Tryz.func15,Tryz.ntmps15
 go_wp2_with fail
 refine HAL.out.mono ?_
 rintro e w1 ⟨rfl,hww⟩
 subst hww
 go_wp2_with fail
 refine(HLS.out _ (τ _ _)).mono ?_
 rintro e w1 ⟨rfl,hb⟩
 have HB:=Qh hb
 have c8:w1.cell? ⟨b,8,none⟩=some (.int .i64 0):=by rw [←HFL.out];exact(HJ.out.below hb).blk.cell 8
 clear hb
 go_wp2_with fail
 refine(HLS.out _ HB.out).mono ?_
 rintro e w2 ⟨rfl,hb2⟩
 have HB2:=Qh (Below.next HB.out hb2)
 have HJ2:=Qh (HJ.out.below HB2.out)
 clear hb2 c8 HB HLS HAL hw9
 obtain⟨osv,csv,hsv,_,_,_⟩:=id HJ2.out.sg
 subst hsv
 have c11:w2.cell? ⟨b,11,none⟩=some (.slice osv s.man.segs.length csv):=HJ2.out.blk.cell 11
 have HRW:=Qh (show RW w w2 b f m L d s mv _ (.slice none 0 0) [] from⟨⟨0,by rw [Hm HJ.out.fs.ok];exact HJ2.out⟩,Turned.below HB2.out,rsOwn_nil _ _⟩)
 obtain⟨n,hn⟩: ∃ n,n=s.man.segs.length:=⟨_,rfl⟩
 rw [←hn] at c11
 have HN:=Qh hn
 have hn256:n≤256:=by have:=HSL.out;omega
 clear hn HB2 HJ2
 go_wp2
 go_loopw [7,8,54] (fun ov gv iv wr=> ∃ (k:Nat),k≤n∧iv= .int .i64 (k:Int)∧gv= .int .i64 ((pcs.take k).flatten.length:Int)∧Hid (RW w wr b f m L d s mv (.slice osv s.man.segs.length csv) ov (recP from_ (pcs.take k).flatten))) (fun _ _ iv _=>n - (intOf iv).toNat)
 case atStart=>exact⟨0,θ _,rfl,rfl,Qh (by simpa [recP] using HRW.out)⟩
 case round=>
  obtain⟨k,hk,rfl,rfl,HR⟩:=hrel
  clear HRW c11
  by_cases hlt:k<n
  ·obtain⟨g,hg⟩: ∃ g,s.man.segs[k]? =some g:=⟨s.man.segs[k]'(by rw [←HN.out];exact hlt),Δ _⟩
   obtain⟨ps,hps⟩: ∃ ps,pcs[k]? =some ps:=⟨pcs[k]'(by rw [HPL.out,←HN.out];exact hlt),Δ _⟩
   have hgf:=HSG.out g (List.mem_of_getElem? hg)
   have HPB:=Qh (HBD.out ps (List.mem_of_getElem? hps))
   have HTF:=Qh (take_flat pcs k ps hps)
   have hsi:=HPC.out k g ps hg hps
   have hgl:(pcs.take k).flatten.length≤131072:=by
    have h1: ∀ (l:List (List Plc)),(∀ x∈l,x.length≤512)→l.flatten.length≤512*l.length:=fun l=>by
     induction l with
     | nil=>intro _;simp
     | cons x r ih=>intro h;have:=ih (fun y hy=>h y (by simp [hy]));have:=h x (by simp);simp only [List.flatten_cons,η,φ];omega
    have:=h1 (pcs.take k) fun x hx=>(HBD.out x (List.mem_of_mem_take hx)).1
    rw [Θ] at this
    omega
   obtain⟨n0,HJr⟩:=HR.out.sj
   obtain⟨_,_,e2,_,_,hat⟩:=id HJr.sg
   simp only [Value.slice.injEq,true_and] at e2
   obtain⟨rfl,rfl⟩:=e2
   obtain⟨gb,off,rfl,_,hcell⟩:=hat k g hg
   have HCE:=Qh hcell
   have HJR:=Qh HJr
   have q0:(k:Int)<(n:Int):=by omega
   have hw1:IntKind.i64.wrap (g.first+g.count)=g.first+g.count:=by rw [κ];omega
   have hw2:IntKind.i64.wrap (g.first+g.count - 1)=g.first+g.count - 1:=by rw [κ];omega
   have hk1:IntKind.i64.wrap ((k:Int)+1)=(k:Int)+1:=by rw [κ];omega
   have hba:=below_alloc wr (.cells (sgCs g) 72)
   have HG0:=Qh (show Dk (wr.alloc (.cells (sgCs g) 72)) wr.heap.size g from σ wr _)
   have HZR:=Qh HR.out.tu.size
   have HOVR:=Qh (fun q (hq:u7.ownBlock=some q)=>(World.ownsRow.lt HR.out.out q hq).2)
   have HR0:=Qh (HR.out.below hba)
   have HJ0:=Qh (HJR.out.below hba)
   have HGF:=Qh hgf
   have HGLE:=Qh hgl
   obtain⟨G,hG⟩: ∃ G,G=(pcs.take k).flatten.length:=⟨_,rfl⟩
   rw [←hG] at HGLE
   have HGG:=Qh hG
   rw [←hG]
   simp only [sgCs] at HG0 HR0 HJ0
   clear hg hps hgf hgl hat hcell HJr hba HR HJR hG
   rcases hsi with⟨h1,h2,h3⟩ | ⟨h1,x,ms,en,cnt,h2,h3⟩
   ·have q1:decide (0<g.count)=true:=ν h1
    have q2:decide (g.first+g.count - 1<from_)=true:=ν h2
    clear h1 h2
    go_wp2_with (with_reducible refine wpList_load_sg rfl (.tmp 56) rfl gb (off+k*4) g rfl HCE.out ?_)
    go_roundw
    case rel=>exact⟨k+1,by omega,rfl,by rw [HTF.out,h3,List.append_nil,←HGG.out],Qh (by rw [HTF.out,h3,List.append_nil];exact HR0.out)⟩
    case measure=>simp [intOf];omega
   ·have H1:=Qh h1
    have H2:=Qh h2
    have H3:=Qh h3
    clear h1 h2 h3
    go_upto_region 17 with(with_reducible refine wpList_load_sg rfl (.tmp 56) rfl gb (off+k*4) g rfl HCE.out ?_)
    generalize wr.alloc (.cells #[.int .i64 g.num,.int .i64 g.first,.int .i64 g.count,.int .i64 g.foot] 72)=wa at*
    generalize wr.heap.size=ga at*
    have cc:wa.cell? ⟨ga,2,none⟩=some (.int .i64 g.count):=HG0.out.cell 2
    go_cut [71] from 64 to 71 (fun c wx=>c= .bool false∧wx=wa)
    case first=>
     rcases q1:decide (0<g.count) with _ | _
     ·go_wp2_with fail
      go_meet
      exact⟨rfl,rfl⟩
     ·have q2:decide (g.first+g.count - 1<from_)=false:=ρ fun hh=>H1.out ⟨χ q1,hh⟩
      go_wp2_with fail
      go_meet
      exact⟨rfl,rfl⟩
    case rest=>
     obtain⟨rfl,rfl⟩:=hcut
     clear cc
     have cf:wc.cell? ⟨ga,1,none⟩=some (.int .i64 g.first):=HG0.out.cell 1
     have HPI:=Qh (piece_any (w:=wc) x ms en cnt (max from_ g.first) ps HJ0.out HDN.out (H2.out.rd n0) H3.out)
     go_wp2_with (with_reducible refine wpList_load_sg rfl (.tmp 10) rfl ga 0 g rfl HG0.out.range ?_)
     refine HPI.out.mono ?_
     rintro e w4 ⟨pv,n1,rfl,hpc,hj,ht⟩
     have HR4:=Qh (show RW w w4 b f m L d s mv _ u7 (recP from_ (pcs.take k).flatten) from⟨⟨n0+n1,by rw [←rdD_rdD];exact hj⟩,HR0.out.tu.trans ht fun q hq=> .inl hq,own_turnedB' HR0.out.out ht fun q hq hc=>by have:=(World.ownsRow.lt HR0.out.out q hq).1;have:=HFW.out;omega⟩)
     have HP4:=Qh hpc.low
     have HO4:=Qh (show (∀ q,u7.ownBlock=some q→q<wc.heap.size∨w4.heap.size≤q)∧wc.heap.size≤w4.heap.size from⟨fun q hq=> .inl (by have:=HOVR.out q hq;have:=(δ.1 HG0.out).1;omega),ht.size⟩)
     obtain⟨op,cp,rfl,_,_,_⟩:=hpc.shape
     have hg1:IntKind.i64.wrap ((G:Int)+(ps.length:Int))=((G+ps.length:Nat):Int):=by have:=HGLE.out;have:=HPB.out.1;rw [κ];omega
     have HPL2:=Qh HPB.out.1
     clear hpc hj ht HPI HG0 HR0 HJ0 HCE cf
     go_wp2
     go_loopw [7,90] (fun ov2 jv wy=> ∃ j,j≤ps.length∧jv= .int .i64 (j:Int)∧Hid (RW w wy b f m L d s mv (.slice (some ⟨gb,off,none⟩) s.man.segs.length csv) ov2 (recP from_ ((pcs.take k).flatten++ps.take j)))∧Hid (Jn (fun q=>wc.heap.size≤q∧q<w4.heap.size) wy (.slice op ps.length cp) ps)∧Hid ((∀ q,ov2.ownBlock=some q→q<wc.heap.size∨w4.heap.size≤q)∧w4.heap.size≤wy.heap.size)) (fun _ jv _=>ps.length - (intOf jv).toNat)
     case atStart=>exact⟨0,θ _,rfl,Qh (by simpa using HR4.out),HP4,Qh ⟨HO4.out.1,ξ _⟩⟩
     case round=>
      obtain⟨j,hj,rfl,HRy,HPy,HOy⟩:=hrel
      clear HR4 HP4 HO4
      by_cases hjl:j<ps.length
      ·obtain⟨p,hp⟩: ∃ p,ps[j]? =some p:=⟨ps[j]'hjl,Δ _⟩
       have hbo:=HPB.out.2 p (List.mem_of_getElem? hp)
       have HTP:=Qh (@recP_take from_ ps j p hp)
       obtain⟨_,_,e3,_,_,hat2⟩:=HPy.out.shape
       simp only [Value.slice.injEq,true_and] at e3
       obtain⟨rfl,rfl⟩:=e3
       obtain⟨pb,poff,rfl,_,dv,hpcell,hpbody⟩:=hat2 j p hp
       obtain⟨od,cd,rfl,_,_⟩:=id hpbody
       obtain⟨dl,hdl⟩: ∃ dl,dl=p.f.body.length:=⟨_,rfl⟩
       rw [←hdl] at hpcell hpbody
       clear hdl
       have HPE:=Qh hpcell
       have qj:(j:Int)<(ps.length:Int):=by omega
       have hj1:IntKind.i64.wrap ((j:Int)+1)=(j:Int)+1:=by have:=HPL2.out;rw [κ];omega
       have hba:=below_alloc wr (.cells (pcCs p (.slice od dl cd)) 103)
       have HPB0:=Qh (show Eu (wr.alloc (.cells (pcCs p (.slice od dl cd)) 103)) wr.heap.size p (.slice od dl cd) from σ wr _)
       have HRy0:=Qh (HRy.out.below hba)
       have HPy0:=Qh (HPy.out.below hba)
       have HDV:=Qh (hpbody.brow.below hba)
       have HOy0:=Qh (show (∀ q,u7.ownBlock=some q→q<wc.heap.size∨w4.heap.size≤q)∧w4.heap.size≤(wr.alloc (.cells (pcCs p (.slice od dl cd)) 103)).heap.size from⟨HOy.out.1,μ HOy.out.2 hba.size⟩)
       have c3:(wr.alloc (.cells (pcCs p (.slice od dl cd)) 103)).cell? ⟨wr.heap.size,3,none⟩=some (.int .i64 (p.f.s:Int)):=HPB0.out.cell 3
       have c4:(wr.alloc (.cells (pcCs p (.slice od dl cd)) 103)).cell? ⟨wr.heap.size,4,none⟩=some (.slice od dl cd):=HPB0.out.cell 4
       simp only [pcCs] at HPB0 HRy0 HPy0 HDV HOy0 c3 c4
       have HBO:=Qh hbo
       clear hp hbo hpcell hpbody hat2 hba HRy HPy HOy
       rcases hq:decide ((p.f.s:Int)<from_) with _ | _
       rotate_left
       ·go_wp2_with (with_reducible refine wpList_load_pcA rfl (.tmp 92) rfl pb (poff+j*5) p (.slice od dl cd) rfl HPE.out ?_)
        go_roundw
        case rel=>exact⟨j+1,by omega,rfl,Qh (by rw [Fa,HTP.out,γ (by have:=χ hq;omega),List.append_nil,←Fa];exact HRy0.out),HPy0,HOy0⟩
        case measure=>simp [intOf];omega
       ·have HTP2:=Qh (show recP from_ (ps.take (j+1))=recP from_ (ps.take j)++[((p.f.s:Int),upV p.f.body)] from by rw [HTP.out,ζ (by have:=ε hq;omega)])
        have HUR:=Qh (upRead_any p.f.body (.slice od dl cd) _ HDV.out (μ HBO.out.2 (by decide)) HBO.out.1 (HTX.out _ HRy0.out.tu) (μ HGL.out HRy0.out.tu.size))
        obtain⟨E,hE⟩: ∃ E,E=upV p.f.body:=⟨_,rfl⟩
        rw [←hE] at HUR HTP2
        unfold ReadQ at HUR
        dsimp only at HUR
        clear hE HTP
        go_wp2_with (with_reducible refine wpList_load_pcA rfl (.tmp 92) rfl pb (poff+j*5) p (.slice od dl cd) rfl HPE.out ?_)
        refine HUR.out.mono ?_
        rintro e w6 ⟨rfl,hb6⟩
        have hbb:=below_alloc w6 (.cells (evCs E) 38)
        have HEV:=Qh (show Ai (w6.alloc (.cells (evCs E) 38)) w6.heap.size E from σ w6 _)
        have HRy1:=Qh ((HRy0.out.below hb6).below hbb)
        have HPy1:=Qh ((HPy0.out.below hb6).below hbb)
        have hz1:w4.heap.size≤(w6.alloc (.cells (evCs E) 38)).heap.size:=μ (μ HOy0.out.2 hb6.size) hbb.size
        have c5:(w6.alloc (.cells (evCs E) 38)).cell? ⟨wr.heap.size,3,none⟩=some (.int .i64 (p.f.s:Int)):=cell_later hbb (cell_later hb6 (HPB0.out.cell 3))
        have HO1:=Qh HOy0.out.1
        have HZ1:=Qh hz1
        simp only [evCs] at HEV HRy1 HPy1 HZ1 c5
        clear hb6 hbb hz1 HUR HRy0 HPy0 HOy0 HPB0 HDV c3 c4 HPE
        have HOW:=Qh HRy1.out.out
        have hsz:=HRy1.out.tu.size
        have hle:(recP from_ ((pcs.take k).flatten++ps.take j)).length≤1000000:=by
         have h1:=recP_le from_ ((pcs.take k).flatten++ps.take j)
         rw [η,Θ,←HGG.out] at h1
         have:=HGLE.out
         have:=HPL2.out
         omega
        go_wp2_with (first | (with_reducible refine wpList_load_ev rfl (.tmp 16) rfl w6.heap.size E rfl HEV.out ?_) | (with_reducible refine wpList_appRs (v:=u7) (r:=((p.f.s:Int),E)) rfl (.tmp 108) (.tmp 114) rfl rfl (Ω _ _).symm rfl HOW.out hsz hle ?_))
        intro v' wn ho' ht' hn'
        have HRn:=Qh (show RW w wn b f m L d s mv (.slice (some ⟨gb,off,none⟩) s.man.segs.length csv) v' (recP from_ ((pcs.take k).flatten++ps.take (j+1))) from
         RW.app HJ.out HRy1.out (by rw [Fa,HTP2.out,←List.append_assoc,←Fa];exact ho') ht' fun q hq=>(World.ownsRow.lt HOW.out q hq).1)
        have HPn:=Qh (HPy1.out.turned ht' fun q hA hq=>by have:=HO1.out q hq;omega)
        have HOn:=Qh (show (∀ q,v'.ownBlock=some q→q<wc.heap.size∨w4.heap.size≤q)∧w4.heap.size≤wn.heap.size from⟨fun q hq=>by
         rcases hn' q hq with h1 | h1
         ·exact HO1.out q h1
         ·exact .inr (by have:=HZ1.out;rw [Ω] at this;omega),μ HZ1.out ht'.size⟩)
        clear ho' ht' hn' HRy1 HPy1 HOW HEV c5
        go_wp2_with fail
        go_roundw
        case rel=>exact⟨j+1,by omega,by go_num,HRn,HPn,HOn⟩
        case measure=>simp [intOf];omega
      ·obtain rfl:j=ps.length:=by omega
       have HRf:=Qh (show RW w wr b f m L d s mv (.slice (some ⟨gb,off,none⟩) s.man.segs.length csv) u7 (recP from_ (pcs.take (k+1)).flatten) from by have:=HRy.out;rw [List.take_length,←HTF.out] at this;exact this)
       clear HRy HPy HOy
       go_wp2
       go_roundw
       case rel=>exact⟨k+1,by omega,by go_num,by rw [HTF.out,η,←HGG.out];push_cast;rfl,HRf⟩
       case measure=>simp [intOf];omega
  ·obtain rfl:k=n:=by omega
   have HRf:=Qh (show RW w wr b f m L d s mv (.slice osv s.man.segs.length csv) u7 (recP from_ pcs.flatten) from by have:=HR.out;rw [show pcs.take k=pcs from by rw [HN.out,←HPL.out,List.take_length]] at this;exact this)
   have HGF:=Qh (show (pcs.take k).flatten.length=pcs.flatten.length from by rw [HN.out,←HPL.out,List.take_length])
   rw [HGF.out]
   obtain⟨n0,HJr⟩:=HRf.out.sj
   have c13:wr.cell? ⟨b,13,none⟩=some (.int .i64 (s.decoded:Int)):=HJr.blk.cell 13
   have f13:=HJr.blk.free 13
   obtain⟨hj,ht⟩:=HJr.set (s':={s with decoded:=pcs.flatten.length}) (j:=13) (v:= .int .i64 (pcs.flatten.length:Int)) (by simp [Gw]) rfl rfl
   have HJ3:=Qh hj
   have HT3:=Qh ((HRf.out.tu.mono (S':=A0 b mv f m L) fun q hq=> .inr (.inr (.inl hq))).trans ht fun _ h=> .inl h)
   have HO3:=Qh (show Jy (wr.setCell ⟨b,13,none⟩ (.int .i64 (pcs.flatten.length:Int))) w.heap.size u7 (recP from_ pcs.flatten) from own_turnedB' HRf.out.out (Turned.setCell (S:=fun q=>q=b) _ ⟨b,13,none⟩ _ rfl) fun q hq hc=>by have:=(World.ownsRow.lt HRf.out.out q hq).1;have:=HJ.out.blk.lt;omega)
   generalize pcs.flatten.length=G at*
   clear HR HRf HJr hj ht HGF
   go_wp2
   go_ret2
   exact⟨_,n0,rfl,HO3.out,HJ3.out,HT3.out⟩
end
def Kh (a b:Nat):Array Value:= #[.int .i64 (a:Int),.int .i64 (b:Int)]
theorem cfInfo:(Tryz.prog.info? 24).map (·.size)=some 2:=by kernel_rfl
theorem wpList_load_cf {ops:Array Oper} {rest:List Oper} {o:Oper} {a:Act} {w:World} {Q:Exit→Act→World→Prop} (hgd:o.guard=none) (x:Operand) (ho:o.op= .load 24 x)
  (g p q:Nat) (hx:a.eval x= .pointer (some ⟨g,0,none⟩)) (hE:w.heap[g]? =some (.cells (Kh p q) 24 (0,0)))
  (h:wpList Tryz.prog ops Q rest (a.put o.dst (.agg #[.int .i64 (p:Int),.int .i64 (q:Int)])) w):wpList Tryz.prog ops Q (o::rest) a w:=
 wpList_load_row hgd 24 x ho g hx 24 (Kh p q) (0,0) _ hE Tryz.underlying24 rfl cfInfo h
def OpenQ (w:World) (f m:Nat) (L:List Ad) (d1:Ab) (s:Cb) (e:Ending) (w':World):Prop:=
 ∃ sb mv sv L' n,e= .returned (.tuple #[.pointer (some ⟨sb,0,none⟩),.int .i64 0])∧SJ w' sb f m L' (rdD d1 n) s mv sv∧Turned (foot f m L) w w'∧w.heap.size≤sb∧ ∀ k,A0 sb mv f m L' k→foot f m L k∨w.heap.size≤k
theorem stoOpen_bad (a b:Int) (w:World) (f:Nat) (h:a<1∨64<a∨b<1∨512<b):
  Calls Tryz.prog 9 #[.pointer (some ⟨f,0,none⟩),.agg #[.int .i64 a,.int .i64 b]] w fun e w'=>e= .returned (.tuple #[.pointer none,.int .i64 1])∧Below w.heap.size w w':=by
 have HB:=Qh (below_alloc w (.cells #[.int .i64 a,.int .i64 b] 24))
 rcases q1:decide (a<1) with _ | _
 ·rcases q2:decide (64<a) with _ | _
  ·rcases q3:decide (b<1) with _ | _
   ·have q4:decide (512<b)=true:=ν (by have:=ε q1;have:=ε q2;have:=ε q3;omega)
    clear h
    go_enter Tryz.func9,Tryz.ntmps9
    go_wp2
    go_ret2
    exact⟨rfl,HB.out⟩
   ·clear h
    go_enter Tryz.func9,Tryz.ntmps9
    go_wp2
    go_ret2
    exact⟨rfl,HB.out⟩
  ·clear h
   go_enter Tryz.func9,Tryz.ntmps9
   go_wp2
   go_ret2
   exact⟨rfl,HB.out⟩
 ·clear h
  go_enter Tryz.func9,Tryz.ntmps9
  go_wp2
  go_ret2
  exact⟨rfl,HB.out⟩
theorem stoOpen_good (stride segEv:Nat) (p:Pl) (d1:Ab) (x:A7) (num first at_ n0:Nat) (ps:List Plc) (w:World) (f m:Nat) (d:Ab) (L:List Ad) (h:FsAt w f m d L) (hn:NibTab w) (hg:4≤w.heap.size∧ ∀ k,k<4→ ¬ foot f m L k) (hst:d.steps≤1152921504606846976) (h0:(loadM d).1.1.snap≤0)
  (hc1:1≤stride∧stride≤64) (hc2:1≤segEv∧segEv≤512) (hrun:runR d=((p,0),d1)) (hseg:p.man.segs≠ []) (hx:atF d1.files (segN p.man)=some x) (hd1:d1.down=false) (hcut:p.cut=(x.data.length:Int)) (hhd:A6 x.data=(num,first,at_,0)) (hat:at_≤x.data.length)
  (hff:(lastSg p.man).first=(first:Int)) (hsc:scanRun x.data at_ first 512=(ps,n0)) (hlen:x.data.length≤67108864) (hpl:ps.length≤512):
  Calls Tryz.prog 9 #[.pointer (some ⟨f,0,none⟩),.agg #[.int .i64 (stride:Int),.int .i64 (segEv:Int)]] w (OpenQ w f m L d1 ⟨ps.length,x.data.length,bldM stride 0 ps,stride,segEv,p.man,false,0⟩):=by
 have HB0:=Qh (below_alloc w (.cells #[.int .i64 (stride:Int),.int .i64 (segEv:Int)] 24))
 have HC0:=Qh (show (w.alloc (.cells #[.int .i64 (stride:Int),.int .i64 (segEv:Int)] 24)).heap[w.heap.size]? =some (.cells (Kh stride segEv) 24 (0,0)) from σ w _)
 have HRU:=Qh (by have:=run_bookless _ f m d L (h.below HB0.out) (hn.below HB0.out) (hg.2 _ (by decide)) hst h0;rw [hrun] at this;exact this)
 have HLT:=Qh h.lt
 have HFW:=Qh (show f<w.heap.size from h.hd.lt)
 have HNB:=Qh (hn.below HB0.out)
 have HNL:=Qh (hn.below HB0.out).lt
 have HG:=Qh hg
 have HX:=Qh hx
 have HD1:=Qh hd1
 have HCUT:=Qh hcut
 have HHD:=Qh hhd
 have HAT:=Qh hat
 have HFF:=Qh hff
 have HSC:=Qh hsc
 have HLEN:=Qh hlen
 have HPL:=Qh hpl
 have HSEG:=Qh hseg
 have HST:=Qh hc1
 have q1:decide ((stride:Int)<1)=false:=ρ (by omega)
 have q2:decide (64<(stride:Int))=false:=ρ (by omega)
 have q3:decide ((segEv:Int)<1)=false:=ρ (by omega)
 have q4:decide (512<(segEv:Int))=false:=ρ (by omega)
 unfold RunQ at HRU
 dsimp only at HRU
 clear h hn hg hst h0 hc1 hc2 hrun hseg hx hd1 hcut hhd hat hff hsc hlen hpl
 go_enter Tryz.func9,Tryz.ntmps9
 go_wp2_with fail
 generalize w.alloc (.cells #[.int .i64 (stride:Int),.int .i64 (segEv:Int)] 24)=w0 at*
 refine HRU.out.mono ?_
 rintro e w1 ⟨sv,rv,L',rfl,hsg,hst1,hone,hrone,hf1,ht1,hl1⟩
 obtain⟨osv,csv,rfl,_,_,_⟩:=id hsg
 obtain⟨orv,crv,rfl,_,_,_⟩:=id hst1
 have hba:=below_alloc w1 (.cells (plCs p (.slice osv p.man.segs.length csv) (.slice orv p.remove.length crv)) 75)
 have HP2:=Qh (show A5 (w1.alloc (.cells (plCs p (.slice osv p.man.segs.length csv) (.slice orv p.remove.length crv)) 75)) w1.heap.size p (.slice osv p.man.segs.length csv) (.slice orv p.remove.length crv) from σ w1 _)
 have hf0: ∀ k,foot f m L k→k<w0.heap.size:=fun k hk=>by have:=HLT.out k hk;have:=HB0.out.size;omega
 have hcw:w.heap.size<w0.heap.size:=(δ.1 HC0.out).1
 have hnf: ¬ foot f m L w.heap.size:=fun hc=>by have:=HLT.out _ hc;omega
 have HC1:=Qh (show (w1.alloc (.cells (plCs p (.slice osv p.man.segs.length csv) (.slice orv p.remove.length crv)) 75)).heap[w.heap.size]? =some (.cells (Kh stride segEv) 24 (0,0)) from
  (hba.block _ (by have:=ht1.size;omega)).trans ((ht1.block _ hcw hnf).trans HC0.out))
 have HSG1:=Qh (hsg.low)
 have HF1:=Qh hf1
 have HT1:=Qh (show Turned (foot f m L) w w1 from(Turned.below HB0.out).trans ht1 fun k hk=> .inl hk)
 have HL1:=Qh (show ∀ k,foot f m L' k→foot f m L k∨w.heap.size≤k from fun k hk=>(hl1 k hk).imp id fun h=>μ HB0.out.size h)
 have HN1:=Qh (show NibTab w1 from HNB.out.turned ht1 (HG.out.2 _ (by decide)) HNL.out)
 have HWW:=Qh (show w.heap.size<w1.heap.size from by have:=ht1.size;omega)
 simp only [plCs] at HP2 HC1 hba
 have HBA:=Qh hba
 clear hsg hst1 hf1 ht1 hl1 hba hf0 hcw hnf HRU HC0 HNB HNL HLT HB0
 obtain⟨sl,hsl⟩: ∃ sl,sl=p.man.segs.length:=⟨_,rfl⟩
 rw [←hsl] at HP2 HC1 HSG1 HBA
 rw [←hsl]
 have HSL:=Qh hsl
 clear hsl
 have HMR:=Qh (show World.rangeAt _ w1.heap.size 1 (mnCs p.man (.slice osv sl csv)).toList from fun j u hj=>by
  have h9:=HP2.out
  unfold A5 at h9
  rw [cell_of_row _ _ _ _ _ _ h9]
  match j,hj with
  | 0,hj=>exact hj
  | 1,hj=>exact hj
  | 2,hj=>exact hj
  | 3,hj=>exact hj
  | 4,hj=>exact hj
  | 5,hj=>exact hj)
 go_wp2_with (first | (with_reducible refine wpList_load_cf rfl (.tmp 3) rfl w.heap.size stride segEv rfl HC1.out ?_) | (with_reducible refine wpList_load_mnAt rfl (.tmp 46) rfl w1.heap.size 1 p.man (.slice osv sl csv) rfl HMR.out ?_))
 generalize hw2:w1.alloc (.cells #[.bool p.fresh,.int .i64 p.man.gen,.int .i64 p.man.next,.int .i64 p.man.floor,.int .i64 p.man.snap,.int .i64 p.man.snapSeq,.slice osv sl csv,.slice orv p.remove.length crv,.int .i64 p.cut,.int .i64 p.last] 75)=w2 at*
 have hbs:=below_alloc w2 (.cells #[.int .i64 0,.int .i64 0,.slice none 0 0,.pointer (some ⟨f,0,none⟩),.int .i64 (stride:Int),.int .i64 (segEv:Int),.int .i64 p.man.gen,.int .i64 p.man.next,.int .i64 p.man.floor,.int .i64 p.man.snap,.int .i64 p.man.snapSeq,.slice osv sl csv,.bool false,.int .i64 0] 82)
 have HSBK:=Qh (show B0 (w2.alloc (.cells #[.int .i64 0,.int .i64 0,.slice none 0 0,.pointer (some ⟨f,0,none⟩),.int .i64 (stride:Int),.int .i64 (segEv:Int),.int .i64 p.man.gen,.int .i64 p.man.next,.int .i64 p.man.floor,.int .i64 p.man.snap,.int .i64 p.man.snapSeq,.slice osv sl csv,.bool false,.int .i64 0] 82)) w2.heap.size f ⟨0,0,[],stride,segEv,p.man,false,0⟩ (.slice none 0 0) (.slice osv sl csv) from σ w2 _)
 have HSZ2:=Qh (show w1.heap.size<w2.heap.size from HP2.out.lt)
 have HJ3:=Qh (show SJ (w2.alloc (.cells #[.int .i64 0,.int .i64 0,.slice none 0 0,.pointer (some ⟨f,0,none⟩),.int .i64 (stride:Int),.int .i64 (segEv:Int),.int .i64 p.man.gen,.int .i64 p.man.next,.int .i64 p.man.floor,.int .i64 p.man.snap,.int .i64 p.man.snapSeq,.slice osv sl csv,.bool false,.int .i64 0] 82)) w2.heap.size f m L' d1 ⟨0,0,[],stride,segEv,p.man,false,0⟩ (.slice none 0 0) (.slice osv sl csv) from by
  have hb:=Below.next HBA.out hbs
  have hfl: ∀ k,foot f m L' k→k<w1.heap.size:=HF1.out.lt
  have h2:=HSZ2.out
  refine⟨HSBK.out,HF1.out.below hb,mkOwn_nil _ _,(HSG1.out.below hb).mono fun k hk hc=> ?_,HN1.out.below hb,⟨?_,fun k hk hc=> ?_⟩,fun hc=> ?_,(by intro hc;cases hc),fun k hk=>by cases hk⟩
  ·rcases hc with hc | hc | hc
   ·omega
   ·cases hc
   ·exact hk.1.2 hc
  ·have:=HG.out.1;have:=HWW.out;have:=hb.size;omega
  ·rcases hc with hc | hc | hc
   ·have:=HG.out.1;have:=HWW.out;omega
   ·cases hc
   ·rcases HL1.out k hc with h3 | h3
    ·exact HG.out.2 k hk h3
    ·have:=HG.out.1;omega
  ·have:=hfl _ hc;omega)
 have HP3:=Qh (HP2.out.below hbs)
 have HC3:=Qh ((hbs.block _ (by have:=HWW.out;have:=HSZ2.out;omega)).trans HC1.out)
 have HT3:=Qh (show Turned (foot f m L) w (w2.alloc (.cells #[.int .i64 0,.int .i64 0,.slice none 0 0,.pointer (some ⟨f,0,none⟩),.int .i64 (stride:Int),.int .i64 (segEv:Int),.int .i64 p.man.gen,.int .i64 p.man.next,.int .i64 p.man.floor,.int .i64 p.man.snap,.int .i64 p.man.snapSeq,.slice osv sl csv,.bool false,.int .i64 0] 82)) from HT1.out.trans (Turned.below (S:=fun _=>False) (Below.next HBA.out hbs)) fun _ h=>h.elim)
 have HOWN:=Qh (show ∀ k,A0 w2.heap.size (.slice none 0 0) f m L' k→foot f m L k∨w.heap.size≤k from fun k hk=>by
  rcases hk with hk | hk | hk
  ·have:=HWW.out;have:=HSZ2.out;exact .inr (by omega)
  ·cases hk
  ·exact HL1.out k hk)
 have HWS:=Qh (show w.heap.size≤w2.heap.size from by have:=HWW.out;have:=HSZ2.out;omega)
 have hsz2:w2.heap.size=w1.heap.size+1:=by rw [←hw2,Ω]
 clear HSBK hbs HP2 HC1 HMR HT1 hw2
 generalize w2.alloc (.cells #[.int .i64 0,.int .i64 0,.slice none 0 0,.pointer (some ⟨f,0,none⟩),.int .i64 (stride:Int),.int .i64 (segEv:Int),.int .i64 p.man.gen,.int .i64 p.man.next,.int .i64 p.man.floor,.int .i64 p.man.snap,.int .i64 p.man.snapSeq,.slice osv sl csv,.bool false,.int .i64 0] 82)=w3 at*
 rw [hsz2] at HJ3 HOWN HWS
 clear hsz2
 have HSBW:=Qh (show w1.heap.size<w1.heap.size+1 from Nat.lt_succ_self _)
 generalize w1.heap.size+1=sb at*
 have HNM:=Qh (fun W (hB:Below w3.heap.size w3 W)=>Fc (HJ3.out.below hB) HSEG.out)
 have hbd:Below w3.heap.size w3 (World.drew w3):=below_drewN' w3 1
 have C8:=Qh (show w3.cell? ⟨w1.heap.size,8,none⟩=some (.int .i64 (x.data.length:Int)) from by
  have h9:=HP3.out
  unfold A5 at h9
  rw [cell_of_row _ _ _ _ _ _ h9]
  show some (Value.int .i64 p.cut)=_
  rw [HCUT.out])
 refine ω (S:=fun w'=>w'.cell? ⟨w1.heap.size,8,none⟩=some (.int .i64 (x.data.length:Int))) (by kernel_rfl) C8.out (fun hHeld=> ?_)
 have FX1:=Qh (fun(wF:World) (hSw:(fun w'=>w'.cell? ⟨w1.heap.size,8,none⟩=some (.int .i64 (x.data.length:Int))) wF)=>(hSw))
 refine tf FX1 0 rfl ?_
 refine tf FX1 1 rfl ?_
 refine tf FX1 3 rfl ?_
 refine tf FX1 4 rfl ?_
 clear FX1
 generalize World.drew w3=wd at*
 refine Rd 2 rfl fun K hK=> ?_
 go_simp
 refine(HNM.out _ hbd).mono ?_
 rintro e w4 ⟨rfl,hb4⟩
 have hb34:=Below.next hbd hb4
 have HJ4:=Qh (HJ3.out.below hb34)
 have HP4:=Qh (HP3.out.below hb34)
 have HC4:=Qh ((hb34.block _ (by have:=(δ.1 HC3.out).1;exact this)).trans HC3.out)
 have HT4:=Qh (HT3.out.trans (Turned.below (S:=fun _=>False) hb34) fun _ h=>h.elim)
 have C84:=Qh (cell_later hb34 C8.out)
 clear hb34 hb4 hbd HNM HJ3 HP3 HC3 HT3 C8
 go_wp2_with fail
 refine hK.out _ _ C84.out (fun hHeld=> ?_)
 clear hK K
 have HRD:=Qh (Hn w4 f m d1 L' HJ4.out.fs (segN p.man) x (Ek HJ4.out.fs.ok HD1.out HX.out) HX.out 0 x.data.length (by omega))
 rw [show (x.data.drop 0).take x.data.length=x.data from by rw [List.drop_zero,List.take_length]] at HRD
 refine Rd 5 rfl fun K hK=> ?_
 go_simp
 refine HRD.out.mono ?_
 rintro e w5 ⟨v5,rfl,ho5,hf5,ht5⟩
 have HJ5:=Qh (HJ4.out.read hf5 ht5)
 have hfn:w1.heap.size≠f∧w.heap.size≠f:=by have:=HFW.out;have:=HWW.out;omega
 have HP5:=Qh (show A5 w5 w1.heap.size p (.slice osv sl csv) (.slice orv p.remove.length crv) from(ht5.block _ HP4.out.lt hfn.1).trans HP4.out)
 have HC5:=Qh ((ht5.block _ (δ.1 HC4.out).1 hfn.2).trans HC4.out)
 have HT5:=Qh (show Turned (foot f m L) w w5 from HT4.out.trans ht5 fun k hk=>by subst hk;exact HL1.out _ (.inl rfl))
 obtain⟨o5,c5,rfl,_,_⟩:=Ac ho5
 have HV5:=Qh ho5.brow
 have C85:=Qh (show w5.cell? ⟨w1.heap.size,8,none⟩=some (.int .i64 (x.data.length:Int)) from ht5.cell C84.out (by simpa using hfn.1))
 clear ho5 hf5 ht5 HRD HJ4 HP4 HC4 HT4 C84 hfn
 go_wp2_with fail
 refine hK.out _ _ C85.out (fun hHeld=> ?_)
 clear hK K
 refine tq 6 rfl ?_
 refine tq 7 rfl ?_
 refine tq 8 rfl ?_
 refine tq 9 rfl ?_
 refine tq 10 rfl ?_
 refine Λ (by kernel_rfl) ?_ _
 clear hHeld
 go_wp2_with fail
 refine(Hb HJ5.out HSEG.out).mono ?_
 rintro e w6 ⟨rfl,hb6⟩
 have hba6:=below_alloc w6 (.cells (sgCs (lastSg p.man)) 72)
 have HGB:=Qh (show Dk (w6.alloc (.cells (sgCs (lastSg p.man)) 72)) w6.heap.size (lastSg p.man) from σ w6 _)
 have hb56:=Below.next hb6 hba6
 have HJ6:=Qh (HJ5.out.below hb56)
 have HC6:=Qh ((hb56.block _ (δ.1 HC5.out).1).trans HC5.out)
 have HT6:=Qh (HT5.out.trans (Turned.below (S:=fun _=>False) hb56) fun _ h=>h.elim)
 have HV6:=Qh (HV5.out.below hb56)
 have C86:=Qh (cell_later hb56 C85.out)
 simp only [sgCs] at HGB HJ6 HC6 HT6 HV6 C86
 clear hb6 hba6 hb56 HJ5 HC5 HT5 HV5 C85 HP5
 go_wp2_with fail
 have HHO:=Qh (by have:=hdrOf_any x.data _ _ HV6.out (by have:=HLEN.out;omega) HJ6.out.nib;rw [HHD.out] at this;exact this)
 unfold HdrPost at HHO
 dsimp only at HHO
 generalize w6.alloc (.cells #[.int .i64 (lastSg p.man).num,.int .i64 (lastSg p.man).first,.int .i64 (lastSg p.man).count,.int .i64 (lastSg p.man).foot] 72)=w7 at*
 generalize w6.heap.size=gb at*
 refine HHO.out.mono ?_
 rintro e w8 ⟨rfl,hb8⟩
 have HJ8:=Qh (HJ6.out.below hb8)
 have HC8:=Qh ((hb8.block _ (δ.1 HC6.out).1).trans HC6.out)
 have HT8:=Qh (HT6.out.trans (Turned.below (S:=fun _=>False) hb8) fun _ h=>h.elim)
 have HV8:=Qh (HV6.out.below hb8)
 have C88:=Qh (cell_later hb8 C86.out)
 have cfi:w8.cell? ⟨gb,1,none⟩=some (.int .i64 (first:Int)):=by rw [←HFF.out];exact cell_later hb8 (cell_of_row w7 gb 1 _ _ _ HGB.out)
 have HSR:=Qh (Jk x.data _ at_ first 512 w8 HV8.out HLEN.out HJ8.out.nib HAT.out (by decide) (by decide))
 rw [HSC.out] at HSR
 unfold RunP at HSR
 dsimp only at HSR
 clear hb8 HHO HJ6 HC6 HT6 HV6 C86 HGB
 go_wp2_with fail
 refine HSR.out.mono ?_
 rintro e w9 ⟨pv,rfl,hp9,hb9⟩
 have HJ9:=Qh (HJ8.out.below hb9)
 have HC9:=Qh ((hb9.block _ (δ.1 HC8.out).1).trans HC8.out)
 have HT9:=Qh (HT8.out.trans (Turned.below (S:=fun _=>False) hb9) fun _ h=>h.elim)
 have C89:=Qh (cell_later hb9 C88.out)
 have HP9:=Qh hp9
 obtain⟨op,cp,rfl,_,_,_⟩:=hp9.shape
 clear hb9 hp9 HSR HJ8 HC8 HT8 HV8 C88 cfi
 go_wp2_with fail
 have hbd:Below w9.heap.size w9 (World.drew w9):=below_drewN' w9 1
 have hcf: ∀ W:World,W.heap[w.heap.size]? =some (.cells (Kh stride segEv) 24 (0,0))→W.cell? ⟨w.heap.size,0,none⟩=some (.int .i64 (stride:Int)):=fun W h=>cell_of_row W w.heap.size 0 _ _ _ h
 refine ω (S:=fun w'=>w'.cell? ⟨w1.heap.size,8,none⟩=some (.int .i64 (x.data.length:Int))∧w'.cell? ⟨w.heap.size,0,none⟩=some (.int .i64 (stride:Int))) (by kernel_rfl) ⟨C89.out,hcf _ HC9.out⟩ (fun hHeld=> ?_)
 have FX2:=Qh (fun(wF:World) (hSw:(fun w'=>w'.cell? ⟨w1.heap.size,8,none⟩=some (.int .i64 (x.data.length:Int))∧w'.cell? ⟨w.heap.size,0,none⟩=some (.int .i64 (stride:Int))) wF)=>And.intro ((hSw.1)) ((hSw.2)))
 refine tf FX2 0 rfl ?_
 refine tf FX2 1 rfl ?_
 refine tf FX2 2 rfl ?_
 refine tf FX2 3 rfl ?_
 refine tf FX2 4 rfl ?_
 refine tf FX2 5 rfl ?_
 refine tf FX2 6 rfl ?_
 refine tf FX2 7 rfl ?_
 clear FX2
 have HJA:=Qh (HJ9.out.below hbd)
 have HPA:=Qh (HP9.out.below hbd)
 have HTA:=Qh (HT9.out.trans (Turned.below (S:=fun _=>False) hbd) fun _ h=>h.elim)
 clear hbd HJ9 HP9 HT9 HC9 C89 hcf
 generalize World.drew w9=wa at*
 refine Rd 8 rfl fun K hK=> ?_
 go_simp
 refine(build_any ps _ stride _ wa HPA.out HST.out HPL.out).mono ?_
 rintro e wb ⟨mv,rfl,hmo,hbb⟩
 obtain⟨om,cm,rfl,_,_⟩:=Ac hmo
 have HSGB:=Qh (HJA.out.sg.low.below hbb)
 have HJB:=Qh (HJA.out.below hbb)
 have HTB:=Qh (HTA.out.trans (Turned.below (S:=fun _=>False) hbb) fun _ h=>h.elim)
 have HMO:=Qh hmo
 have HMZ:=Qh (show ∀ k,(Value.slice om (bldM stride 0 ps).length cm).ownBlock=some k→wa.heap.size≤k∧k<wb.heap.size from fun k hk=>World.ownsRow.lt hmo k hk)
 have HLA:=Qh (show sb<wa.heap.size∧(∀ k,foot f m L' k→k<wa.heap.size)∧w.heap.size≤wa.heap.size∧4≤wa.heap.size from⟨HJA.out.blk.lt,HJA.out.fs.lt,HTA.out.size,HJA.out.gl.1⟩)
 have hone:(Value.slice om (bldM stride 0 ps).length cm).oneCell'=true:=rfl
 go_wp2_with fail
 refine hK.out _ _ ⟨cell_later hbb hHeld.1,cell_later hbb hHeld.2⟩ (fun hHeld=> ?_)
 clear hK K hbb hmo HJA HTA HPA
 refine tq 9 rfl ?_
 refine Rd 10 rfl fun K hK=> ?_
 go_simp
 refine hK.out _ _ hHeld (fun hHeld=> ?_)
 clear hK K
 refine Rd 11 rfl fun K hK=> ?_
 go_simp
 refine hK.out _ _ hHeld (fun hHeld=> ?_)
 clear hK K
 refine Rd 12 rfl fun K hK=> ?_
 rw [ζ (by kernel_rfl)]
 refine wp_store_mid 80 (.tmp 87) (.tmp 85) rfl sb 0 #[.int .i64 (ps.length:Int),.int .i64 (x.data.length:Int),(Value.slice om (bldM stride 0 ps).length cm)] rfl rfl (HJB.out.blk.there 0 3 (by omega)) tailInfo (Array.all_eq_true_iff_forall_mem.2 (by
  intro u hu
  simp only [List.mem_toArray,Γ,List.not_mem_nil,or_false] at hu
  rcases hu with rfl | rfl | rfl
  ·rfl
  ·rfl
  ·exact hone)) ?_
 have hts:=setCells_trn sb [.int .i64 (ps.length:Int),.int .i64 (x.data.length:Int),(Value.slice om (bldM stride 0 ps).length cm)] 0 wb
 have hbk:=setCells_blk [.int .i64 (ps.length:Int),.int .i64 (x.data.length:Int),(Value.slice om (bldM stride 0 ps).length cm)] 0 wb _ HJB.out.blk
 have HJZ:=Qh (show SJ (wb.setCells sb 0 [.int .i64 (ps.length:Int),.int .i64 (x.data.length:Int),(Value.slice om (bldM stride 0 ps).length cm)]) sb f m L' (rdD d1 x.data.length) ⟨ps.length,x.data.length,bldM stride 0 ps,stride,segEv,p.man,false,0⟩ (Value.slice om (bldM stride 0 ps).length cm) (.slice osv sl csv) from by
  have ha:=HLA.out
  have hj:=HJB.out
  refine⟨by
   have e:K2 (Gw f ⟨0,0,[],stride,segEv,p.man,false,0⟩ (.slice none 0 0) (.slice osv sl csv)) 0 [.int .i64 (ps.length:Int),.int .i64 (x.data.length:Int),(Value.slice om (bldM stride 0 ps).length cm)]=Gw f ⟨ps.length,x.data.length,bldM stride 0 ps,stride,segEv,p.man,false,0⟩ (Value.slice om (bldM stride 0 ps).length cm) (.slice osv sl csv):=by simp [K2,Gw]
   unfold B0
   rw [←e]
   exact hbk,hj.fs.turned hts (fun k hk hc=>hj.sep.1 (hc▸hk)),?_,?_,hj.nib.turned hts (fun hc=>hj.gl.2 _ (by decide) (.inl hc)) hj.nib.lt,⟨μ hj.gl.1 hts.size,fun k hk hc=> ?_⟩,hj.sep.1,fun hc=> ?_,fun k hk hc=> ?_⟩
  ·exact(Cm.mono HMO.out (θ _)).kept' fun k hk=>hts.block k (HMZ.out k hk).2 (by have:=(HMZ.out k hk).1;omega)
  ·refine(HSGB.out.turned hts fun k hk hc=>hk.1 (.inl hc)).mono fun k hk hc=> ?_
   rcases hc with hc | hc | hc
   ·exact hk.1 (.inl hc)
   ·have:=(HMZ.out k hc).1;have:=hk.2;omega
   ·exact hk.1 (.inr (.inr hc))
  ·rcases hc with hc | hc | hc
   ·exact hj.gl.2 k hk (.inl hc)
   ·have:=(HMZ.out k hc).1;omega
   ·exact hj.gl.2 k hk (.inr (.inr hc))
  ·have:=(HMZ.out _ hc).1;omega
  ·have:=(HMZ.out k hk).1;have:=ha.2.1 k hc;omega)
 refine hK.out _ _ ⟨hts.cell hHeld.1 (by have:=HSBW.out;show ¬ w1.heap.size=sb;omega),hts.cell hHeld.2 (by have:=HSBW.out;have:=HWW.out;show ¬ w.heap.size=sb;omega)⟩ (fun _=> ?_)
 have HTZ:=Qh (show Turned (foot f m L) w (wb.setCells sb 0 [.int .i64 (ps.length:Int),.int .i64 (x.data.length:Int),(Value.slice om (bldM stride 0 ps).length cm)]) from HTB.out.trans hts fun k hk=> .inr (by rw [hk];exact HWS.out))
 clear hK K hHeld hts hbk HJB HTB
 generalize wb.setCells sb 0 [.int .i64 (ps.length:Int),.int .i64 (x.data.length:Int),(Value.slice om (bldM stride 0 ps).length cm)]=wz at*
 refine Λ (by kernel_rfl) ?_ _
 go_wp2
 go_ret2
 refine⟨sb,(Value.slice om (bldM stride 0 ps).length cm),_,L',x.data.length,rfl,HJZ.out,HTZ.out,HWS.out,fun k hk=> ?_⟩
 rcases hk with hk | hk | hk
 ·exact HOWN.out k (.inl hk)
 ·have:=(HMZ.out k hk).1;have:=HLA.out;exact .inr (by omega)
 ·exact HOWN.out k (.inr (.inr hk))
theorem decGo_ten: ∀ (b:List UInt8) (i u:Nat),i≤9→(decGo i u b).2.2=0→(decGo i u b).2.1≤10
 | [],_,_=>by simp [decGo]
 | c::r,i,u=>by
  intro hi
  rw [decGo]
  split
  ·simp
  ·rename_i h1
   split
   ·rename_i h2
    exact decGo_ten r (i+1) _ (by omega)
   ·split
    ·simp
    ·intro _;simp only;omega
theorem unpack_len {b:List UInt8} (h:(Ca b).2.2=0):b.length≤1040:=by
 unfold Ca at h
 split at h
 ·rename_i h1;exact absurd h h1
 ·rename_i h1
  split at h
  ·rename_i h2;exact absurd h h2
  ·rename_i h2
   have h2':(D4 (Cw (decV b).1) (b.drop (decV b).2.1)).2=0:=by omega
   unfold D4 at h2'
   split at h2'
   ·cases h2'
   ·split at h2'
    ·rename_i h3;exact absurd h2' h3
    ·rename_i h3
     have h4:(b.drop (decV b).2.1).length≤1024:=by
      rcases Nat.lt_or_ge 1024 (b.drop (decV b).2.1).length with hc | hc
      ·exfalso;apply h3;unfold B2;rw [ζ hc];decide
      ·exact hc
     have h5:(decV b).2.1≤10:=decGo_ten b 0 0 (by decide) (by unfold decV at h1;omega)
     rw [Ξ] at h4
     omega
theorem pack_body {v:Int} {e:Ev} (hc:Af v e=0):BodyOk (J7 v e):=⟨by rw [If hc],unpack_len (by rw [If hc])⟩
theorem Sta.same {fs fs':List A7} {s:Cb} {G:List Grp} {g:Sg} {bs:List (List UInt8)} (h:Sta fs s G g bs) (hd: ∀ k,datF fs' k=datF fs k):Sta fs' s G g bs:=by
 refine⟨h.ok,h.snap,h.segs,(hd _).trans h.man,(hd _).trans h.act,h.cnt,h.size,h.marks,fun x hx=> ?_,h.body,h.cfg,fun k x hx=> ?_,h.top⟩
 ·have:=h.seals x hx
  exact⟨(hd _).trans this.dat,this.len,this.count,this.foot⟩
 ·have:=hd k
  rw [Gm hx] at this
  obtain⟨y,hy,_⟩:=Dg this.symm
  exact h.clean k y hy
theorem Dt.dec {d:Ab} {s:Cb} {E:List (List UInt8)} (h:Dt d s E) (n:Nat):Dt d {s with decoded:=n} E:=by
 obtain⟨G,g,bs,hs,hE⟩:=h.sta
 exact⟨h.ok,h.up,⟨G,g,bs,⟨hs.ok,hs.snap,hs.segs,hs.man,hs.act,hs.cnt,hs.size,hs.marks,hs.seals,hs.body,hs.cfg,hs.clean,hs.top⟩,hE⟩,h.floor,h.closed⟩
theorem sync_files {fs:List A7} {n:List UInt8} {x:A7} (hr:Ff fs) (ha:atF fs n=some x) (k:List UInt8):datF (Cg fs (opSync n)) k=datF fs k:=by
 have e:Cg fs (opSync n)=setF n (fun _=>{x with safe:=(x.data.length:Int)}) fs:=by
  rw [chgL_set (x:=x) hr ha (by simp [opSync]) (by simp [opSync]) (by simp [opSync])]
  simp [H8,opSync]
 have hn:x.name=n:=(Bi ha).1
 rw [e]
 unfold datF
 by_cases hk:k=n
 ·subst hk
  rw [at_set_same (y:={x with safe:=(x.data.length:Int)}) ha hn,ha]
  rfl
 ·rw [Hz (y:={x with safe:=(x.data.length:Int)}) hn hk]
structure Like (d d':Ab):Prop where
 room:d'.room=d.room
 used:usedF d'.files=usedF d.files
 len:d'.files.length=d.files.length
 dat: ∀ k,datF d'.files k=datF d.files k
theorem sync_like {fs:List A7} {n:List UInt8} {x:A7} (hr:Ff fs) (ha:atF fs n=some x):usedF (Cg fs (opSync n))=usedF fs∧(Cg fs (opSync n)).length=fs.length:=by
 have e:Cg fs (opSync n)=setF n (fun _=>{x with safe:=(x.data.length:Int)}) fs:=by
  rw [chgL_set (x:=x) hr ha (by simp [opSync]) (by simp [opSync]) (by simp [opSync])]
  simp [H8,opSync]
 have:=G9 (f':={x with safe:=(x.data.length:Int)}) hr ha (Bi ha).1
 rw [e]
 exact⟨by simp only at this;omega,by unfold setF;rw [List.length_map]⟩
theorem sync_ok {d:Ab} {s:Cb} {E:List (List UInt8)} (h:Dt d s E) (hf:d.fuse=0):
  (Aq d (opSync (segN s.man))).2.2.2=0∧Dt (Aq d (opSync (segN s.man))).1 s E∧(Aq d (opSync (segN s.man))).1.room=d.room∧(Aq d (opSync (segN s.man))).1.fuse=0∧Like d (Aq d (opSync (segN s.man))).1:=by
 obtain⟨G,g,bs,hs,rfl⟩:=h.sta
 obtain⟨x,hx,hxd⟩:=Dg hs.act
 rw [hs.name]
 have hw:=went_sync (P:=fun _=>True) (Q:=fun fs=>fs=Cg d.files (opSync (Aa g.num))) (ops:=[]) h.ok h.up hx trivial fun d' f _ n o _=>went_nil o n f
 have hdat:=sync_files h.ok.rise hx
 by_cases h0:(Aq d (opSync (Aa g.num))).2.2.2=0
 ·have e:Aw d [opSync (Aa g.num)]=((Aq d (opSync (Aa g.num))).1,0):=by rw [Ce h0];rfl
  rw [e] at hw
  rcases hw.out with⟨_,h2,h3,h4⟩ | ⟨h1,_⟩
  ·exact⟨h0,⟨hw.ok,h3,⟨G,g,bs,by have:=hs.same (fs':=(Aq d (opSync (Aa g.num))).1.files) (fun k=>by simp only at h2;rw [h2];exact hdat k);exact this,rfl⟩,h.floor,h.closed⟩,hw.room,h4 hf,hw.room,by simp only at h2;rw [h2];exact(sync_like h.ok.rise hx).1,by simp only at h2;rw [h2];exact(sync_like h.ok.rise hx).2,fun k=>by simp only at h2;rw [h2];exact hdat k⟩
  ·cases h1
 ·rw [Be h0] at hw
  rcases hw.out with⟨h1,_⟩ | ⟨_,h2,_⟩
  ·exact absurd h1 h0
  ·exact absurd hf h2
theorem Lim.sync {d:Ab} {s:Cb} {E:List (List UInt8)} {k:Nat} (h:Lim d s E k):(Aq d (opSync (segN s.man))).2.2.2=0∧Lim (Aq d (opSync (segN s.man))).1 s E (k+1):=by
 obtain⟨a1,a2,_,a4,_⟩:=sync_ok h.ok h.fuse
 have:=(A3 d (opSync (segN s.man))).1
 exact⟨a1,a2,a4,by have:=h.next;omega,by have:=h.gen;omega,by have:=h.steps;omega,by have:=h.len;omega⟩
theorem load_snap {d:Ab} {s:Cb} {E:List (List UInt8)} (h:Dt d s E):(loadM d).1.1.snap≤0:=by
 obtain⟨G,g,bs,hs,rfl⟩:=h.sta
 obtain⟨x,hx,hxd⟩:=Dg hs.man
 unfold loadM
 rw [Kn h.ok h.up,hx]
 dsimp only
 rw [hxd,decMan_enc hs.ok]
 rw [γ (by simp)]
 exact Int.le_of_eq hs.snap
theorem reopen {d:Ab} {s:Cb} {E:List (List UInt8)} {k:Nat} (h:Lim d s E k): ∃ d1,runR d=((⟨false,s.man,[],s.size,lastE s⟩,0),d1)∧Lim d1 s E (k+1)∧Like d d1:=by
 obtain⟨G,g,bs,hs,hE⟩:=h.ok.sta
 obtain⟨x,hx,hxd⟩:=Dg hs.act
 have hp:(Ay d).1=(⟨false,s.man,[],s.size,lastE s⟩,0):=by rw [planD_on h.ok.ok h.ok.up];exact find_sta hs _
 generalize hn:(Ay d).2=n
 have hr:Lim (rdD d n) s E k:=⟨h.ok.rd n,h.fuse,h.next,h.gen,h.steps,h.len⟩
 obtain⟨a1,a2⟩:=hr.sync
 have hx':atF (rdD d n).files (segN s.man)=some x:=by rw [hs.name];exact hx
 have e:B1 (rdD d n) ⟨false,s.man,[],s.size,lastE s⟩=((Aq (rdD d n) (opSync (segN s.man))).1,0):=by
  unfold B1
  rw [show (⟨false,s.man,[],s.size,lastE s⟩:Pl).man=s.man from rfl,hs.ok]
  simp only [if_true]
  have e:refOps (rdD d n) ⟨false,s.man,[],s.size,lastE s⟩=[opSize (segN s.man),opSync (segN s.man)]:=by
   unfold refOps G5
   simp only [List.map_nil,List.nil_append,Bool.false_eq_true,if_false,List.any_nil]
   rw [hx']
   unfold cutOps
   dsimp only
   rw [γ (by rw [hxd,hs.size];omega)]
   rfl
  have ho:=Ek hr.ok.ok hr.ok.up hx'
  rw [e,Ce (by rw [sizeO ho hx']),sizeO ho hx',Ce a1]
  rfl
 have hlk:=(sync_ok hr.ok hr.fuse).2.2.2.2
 refine⟨_,?_,a2,⟨hlk.room,hlk.used,hlk.len,hlk.dat⟩⟩
 have h0:(Ay d).1.2=0:=by rw [hp]
 rw [runR_good h0 (by rw [hn,hp];exact congrArg (·.2) e),hn,hp]
 rw [show (((⟨false,s.man,[],s.size,lastE s⟩:Pl),(0:Int)).1)=⟨false,s.man,[],s.size,lastE s⟩ from rfl,e]
theorem new_sta {stride segEv:Nat} (h:1≤stride∧stride≤64) (h2:1≤segEv∧segEv≤512):Sta (Gp []) ⟨0,22,[],stride,segEv,firstM,false,0⟩ [] ⟨1,1,0,0⟩ []:=by
 have hm:atF (Gp []) Am=some ⟨Am,Fr,29⟩:=rfl
 have hg:atF (Gp []) (Aa 1)=some ⟨Aa 1,Ep,22⟩:=by
  unfold Gp
  rw [Fg (by rw [seg1];decide)]
  exact Co (f:=⟨Aa 1,Ep,22⟩) (fun _ h=>(List.not_mem_nil h).elim)
 have hl:(segB ⟨1,1,0,0⟩ []).length=22:=by unfold segB;rw [η];exact G1.1
 refine⟨firstM_ok,rfl,rfl,?_,?_,⟨rfl,by decide⟩,hl.symm,rfl,fun _ h=>(List.not_mem_nil h).elim,⟨fun _ h=>(List.not_mem_nil h).elim,fun _ h=>(List.not_mem_nil h).elim⟩,⟨h,h2⟩,?_,by decide⟩
 ·unfold datF;rw [hm];rfl
 ·unfold datF;rw [hg]
  show some Ep=some (Ep++[])
  rw [List.append_nil]
 ·intro k x hx
  have hk:=(Bi hx)
  have hmem:x∈Bu ⟨Am,Fr,29⟩ (Bu ⟨Aa 1,Ep,22⟩ []):=hk.2
  rw [←hk.1]
  have:x=⟨Am,Fr,29⟩∨x=⟨Aa 1,Ep,22⟩:=by
   simp only [Bu] at hmem
   split at hmem<;>simp at hmem
   ·exact hmem
   ·exact hmem.symm
  rcases this with rfl | rfl
  ·exact ns_man true firstM
  ·show strayN true firstM (Aa 1)=false
   rw [seg1];decide
theorem new_run {room:Int} (hr:51≤(Ht room).room): ∃ d1,runR (Ht room)=((planF,0),d1)∧At d1∧d1.down=false∧d1.fuse=0∧d1.room=(Ht room).room∧d1.files=Gp []∧d1.steps≤7:=by
 have hok:=newD_ok room
 have hp:(Ay (Ht room)).1=(planF,0):=by
  rw [planD_on hok rfl]
  show newB (Ht room).room []=_
  unfold newB
  rw [γ (by simp [Ew,usedF];omega)]
  rfl
 generalize hn:(Ay (Ht room)).2=n
 have hw:=begin_went (d:=rdD (Ht room) n) (rdD_okS hok n) rfl rfl rfl (by show (51:Int)≤(Ht room).room - ((usedF []:Nat):Int);simp [usedF];omega) (by show ([]:List A7).length≤698;decide)
 have e:B1 (rdD (Ht room) n) planF=Aw (rdD (Ht room) n) (Cx (segN firstM) (lastSg firstM) firstM):=by
  unfold B1
  rw [show planF.man=firstM from rfl,firstM_ok]
  rfl
 have hst:=Kz (Cx (segN firstM) (lastSg firstM) firstM) (rdD (Ht room) n)
 rw [←e] at hw hst
 rcases hw.out with⟨h1,h2,h3,h4⟩ | ⟨_,h2,_⟩
 ·refine⟨_,?_,hw.ok,h3,h4 rfl,hw.room,h2,hst⟩
  have h0:(Ay (Ht room)).1.2=0:=by rw [hp]
  rw [runR_good h0 (by rw [hn,hp];exact h1),hn,hp]
 ·exact absurd rfl h2
theorem new_lim {stride segEv:Nat} (h:1≤stride∧stride≤64) (h2:1≤segEv∧segEv≤512) {d1:Ab} (h3:At d1) (h4:d1.down=false) (h5:d1.fuse=0) (h6:d1.files=Gp []) (h7:d1.steps≤7):Lim d1 ⟨0,22,[],stride,segEv,firstM,false,0⟩ [] 0:=
 ⟨⟨h3,h4,⟨[],⟨1,1,0,0⟩,[],by rw [h6];exact new_sta h h2,rfl⟩,rfl,rfl⟩,h5,by show (2:Int)≤((0:Nat):Int)+2;decide,by show (1:Int)≤((0:Nat):Int)+1;decide,by omega,ξ _⟩
theorem open_calls {w:World} {f m:Nat} {L:List Ad} {d d1:Ab} {p:Pl} {s:Cb} {E:List (List UInt8)} (h:FsAt w f m d L) (hn:NibTab w) (hg:4≤w.heap.size∧ ∀ k,k<4→ ¬ foot f m L k) (hst:d.steps≤1152921504606846976) (h0:(loadM d).1.1.snap≤0)
  (hrun:runR d=((p,0),d1)) (ho:Dt d1 s E) (hp:p.man=s.man∧p.cut=(s.size:Int)) (hdec:s.decoded=0):
  Calls Tryz.prog 9 #[.pointer (some ⟨f,0,none⟩),.agg #[.int .i64 (s.stride:Int),.int .i64 (s.segEv:Int)]] w (OpenQ w f m L d1 s):=by
 obtain⟨G,g,bs,hs,hE⟩:=ho.sta
 obtain⟨x,hx,hxd⟩:=Dg hs.act
 have hsg:=hs.seg
 obtain⟨_,a2,a3,_⟩:=act_found hsg.1 ⟨hsg.2.1,hs.top⟩ hs.body.2 hs.cnt.2
 have hpl:(plcs (hdB g).length (posL 0 (evFr g.first.toNat bs))).length=bs.length:=by rw [E8,Ec,Dm]
 have hz:=hs.sizeLe
 have hbl:bldM s.stride 0 (plcs (hdB g).length (posL 0 (evFr g.first.toNat bs)))=s.marks:=by rw [bldM_lay,hs.marks,Nat.add_zero]
 have:=stoOpen_good s.stride s.segEv p d1 x g.num.toNat g.first.toNat (hdB g).length (segB g bs).length (plcs (hdB g).length (posL 0 (evFr g.first.toNat bs))) w f m d L h hn hg hst h0 hs.cfg.1 hs.cfg.2 hrun (by rw [hp.1];exact ho.seg) (by rw [hp.1,hs.name];exact hx) ho.up (by rw [hp.2,hs.size,hxd]) (by rw [hxd];exact a2)
  (by rw [hxd];unfold segB;rw [η];omega) (by rw [hp.1,hs.last];omega) (by rw [hxd];exact a3) (by rw [hxd];omega) (by rw [hpl];exact hs.cnt.2)
 rw [hpl,hbl,hxd,←hs.size,←hs.cnt.1,hp.1] at this
 have e:(⟨s.count,s.size,s.marks,s.stride,s.segEv,s.man,false,0⟩:Cb)=s:=by
  have hc:=ho.closed
  obtain⟨_,_,_,_,_,_,_,_⟩:=s
  simp only at hc hdec
  rw [hc,hdec]
 rw [e] at this
 exact this
theorem schEnc_bad (v:Int) (e:Ev) (w:World) (hok:I3 281474976710656 e) (hc:Af v e≠0):Calls Tryz.prog 66 #[.int .i64 v,Dx e] w fun x w'=>x= .returned (.tuple #[.slice none 0 0,.int .i64 (Af v e)])∧Below w.heap.size w w':=by
 have HB0:=Qh (below_alloc w (.cells (evCs e) 38))
 have HCK:=Qh (A8 v e (w.alloc (.cells (evCs e) 38)) hok)
 obtain⟨n,hn⟩: ∃ n,n=Af v e:=⟨_,rfl⟩
 rw [←hn] at HCK hc ⊢
 have hb:(n==0)=false:=by simpa using hc
 simp only [evCs] at HB0 HCK
 clear hok hn hc
 go_enter Tryz.func66,Tryz.ntmps66
 go_wp2_with fail
 refine HCK.out.mono ?_
 rintro x w1 ⟨rfl,hb1⟩
 have HB1:=Qh (Below.next HB0.out hb1)
 clear hb1 HB0 HCK
 go_wp2
 go_ret2
 exact⟨rfl,HB1.out⟩
theorem pack_bad (v:Int) (e:Ev) (w:World) (hok:I3 281474976710656 e) (hc:Af v e≠0):Calls Tryz.prog 39 #[.int .i64 v,Dx e] w fun x w'=>x= .returned (.tuple #[.slice none 0 0,.int .i64 (Af v e)])∧Below w.heap.size w w':=by
 have HB0:=Qh (below_alloc w (.cells (evCs e) 38))
 have HE:=Qh (schEnc_bad v e (w.alloc (.cells (evCs e) 38)) hok hc)
 obtain⟨n,hn⟩: ∃ n,n=Af v e:=⟨_,rfl⟩
 rw [←hn] at HE hc ⊢
 have hb:(n==0)=false:=by simpa using hc
 simp only [evCs] at HB0 HE
 clear hok hn hc
 go_enter Tryz.func39,Tryz.ntmps39
 go_wp2_with fail
 refine HE.out.mono ?_
 rintro x w1 ⟨rfl,hb1⟩
 have HB1:=Qh (Below.next HB0.out hb1)
 clear hb1 HB0 HE
 go_wp2
 go_ret2
 exact⟨rfl,HB1.out⟩
section
variable {w W : World} {b f m : Nat} {L : List Ad} {d d' : Ab} {s s' : Cb} {mv sv : Value} {E E' : List (List UInt8)} {k u : Nat}
theorem Lim.fit (h:Lim d s E k) (hk:k≤1000) {n:Nat} (hn:n≤1040) (hc:s.count<s.segEv):Fit d s n:=by
 obtain⟨G,g,bs,hs,hE⟩:=h.ok.sta
 have hz:=hs.sizeLe
 have hsz:=hs.size
 have hst:=h.steps
 exact⟨h.sb hk,by rw [hs.marks];exact μ (mksG_len _ _ _ _ _) hs.cnt.2,by omega,hc,by omega⟩
theorem push_calls {raw:List UInt8} {rv:Value} (h:SJ w b f m L d s mv sv) (hl:Lim d s E k) (hk:k<1000) (hb:BodyOk raw) (hr:Ag (fun k=> ¬ A0 b mv f m L k) w rv raw):Calls Tryz.prog 40 #[.pointer (some ⟨b,0,none⟩),rv] w (PushQ w b f m L mv (Cy d s raw)):=by
 have hb2:=hb.2
 refine stoPush_any raw rv h (hl.sb (by omega)) hb2 hr (fun hc=>hl.fit (by omega) hb2 hc) fun hge=>⟨fun W hW=>turn_calls hW hl (by omega) (by omega),fun h0=> ?_⟩
 obtain⟨t1,t2,t3⟩:=turn_ok hl.ok hl.fuse (raw.length+20)
 rcases t3 with⟨a1,a2,_,_⟩ | ⟨a1,a2,a3,a4⟩
 ·exact absurd (a1.symm.trans h0) a2
 ·have hlm:=hl.grow t2 t1 (by have:=hl.len;omega)
  exact⟨hlm.fit (by omega) hb2 (by have:=(hlm.sb (by omega)).segEv;omega),by rw [t1.last,hl.ok.last]⟩
theorem stoAppend_any (v:Int) (e:Ev) (hok:I3 281474976710656 e) (h:SJ w b f m L d s mv sv) (hl:Lim d s E k) (hk:k<1000):
  Calls Tryz.prog 12 #[.pointer (some ⟨b,0,none⟩),.int .i64 v,Dx e] w (PushQ w b f m L mv (if Af v e=0 then Cy d s (J7 v e) else ((0,Af v e),s,d))):=by
 have HB0:=Qh (below_alloc w (.cells (evCs e) 38))
 have HJ0:=Qh (h.below HB0.out)
 have HE0:=Qh (show Ai (w.alloc (.cells (evCs e) 38)) w.heap.size e from σ w _)
 have HAL:=Qh (Do HJ0.out hl.ok.closed hl.ok.up)
 have HJ:=Qh h
 have HL:=Qh hl
 rcases hz:decide (Af v e=0) with _ | _
 ·have hne:=ε hz
  rw [γ hne]
  have HPK:=Qh (pack_bad v e (w.alloc (.cells (evCs e) 38)) hok hne)
  obtain⟨n,hn⟩: ∃ n,n=Af v e:=⟨_,rfl⟩
  rw [←hn] at HPK hne ⊢
  have hb:(n==0)=false:=by simpa using hne
  simp only [evCs] at HB0 HE0 HAL HPK HJ0
  clear hok h hl hn hne hz
  go_enter Tryz.func12,Tryz.ntmps12
  go_wp2_with fail
  refine HAL.out.mono ?_
  rintro x w1 ⟨rfl,rfl⟩
  go_wp2_with (with_reducible refine wpList_load_ev rfl (.tmp 5) rfl w.heap.size e rfl HE0.out ?_)
  refine HPK.out.mono ?_
  rintro x w2 ⟨rfl,hb2⟩
  have HPO:=Qh (Dc.below HJ.out (Below.next HB0.out hb2))
  clear hb2
  go_wp2
  go_ret2
  exact⟨rfl,HPO.out⟩
 ·have heq:=χ hz
  rw [ζ heq]
  have HPK:=Qh (pack_any v e (w.alloc (.cells (evCs e) 38)) hok heq)
  have HBO:=Qh (show BodyOk (J7 v e) from pack_body heq)
  simp only [evCs] at HB0 HE0 HAL HPK HJ0
  obtain⟨raw,hraw⟩: ∃ raw,raw=J7 v e:=⟨_,rfl⟩
  rw [←hraw] at HPK HBO ⊢
  obtain⟨R,hR⟩: ∃ R,Cy d s raw=R:=⟨_,rfl⟩
  rw [hR]
  obtain⟨⟨a1,a2⟩,s2,d2⟩:=R
  have HRR:=Qh hR
  clear hok h hl hz heq hraw hR
  go_enter Tryz.func12,Tryz.ntmps12
  go_wp2_with fail
  refine HAL.out.mono ?_
  rintro x w1 ⟨rfl,rfl⟩
  go_wp2_with (with_reducible refine wpList_load_ev rfl (.tmp 5) rfl w.heap.size e rfl HE0.out ?_)
  refine HPK.out.mono ?_
  rintro x w2 ⟨v2,rfl,ho2,hb2⟩
  obtain⟨o2,c2,rfl,_,_⟩:=Ac ho2
  have HB2:=Qh (Below.next HB0.out hb2)
  have HJ2:=Qh (HJ.out.below HB2.out)
  have HR2:=Qh (browIn_own (A:=fun k=> ¬ A0 b mv f m L k) ho2 fun k hk hc=>by have:=HJ0.out.lt k hc;omega)
  have HPC:=Qh (by have:=push_calls HJ2.out HL.out hk HBO.out HR2.out;rw [HRR.out] at this;exact this)
  clear ho2 hb2 HPK HAL HE0 HJ0 HR2
  go_wp2_with fail
  unfold PushQ at HPC
  refine HPC.out.mono ?_
  rintro x w3 ⟨rfl,hp⟩
  have HPO:=Qh (hp.then (Turned.below HB2.out) fun _ h=> .inl h)
  clear hp
  go_wp2
  go_ret2
  exact⟨rfl,HPO.out⟩
theorem stoPut_any (raw:List UInt8) (rv:Value) (h:SJ w b f m L d s mv sv) (hl:Lim d s E k) (hk:k<1000) (hr:Ag (fun k=> ¬ A0 b mv f m L k) w rv raw) (hll:raw.length≤9223372036854775807):
  Calls Tryz.prog 21 #[.pointer (some ⟨b,0,none⟩),rv] w (PushQ w b f m L mv (if (Ca raw).2.2=0 then Cy d s raw else ((0,(Ca raw).2.2),s,d))):=by
 have HAL:=Qh (Do h hl.ok.closed hl.ok.up)
 have HJ:=Qh h
 have HL:=Qh hl
 have HR:=Qh hr
 have HUN:=Qh (unpack_any raw rv w hr.brow hll)
 have HBO:=Qh (show (Ca raw).2.2=0→BodyOk raw from fun h=>⟨h,unpack_len h⟩)
 obtain⟨orv,crv,rfl,_,_⟩:=id hr
 unfold UnpQ at HUN
 clear h hl hr hll
 obtain⟨U,hU⟩: ∃ U,U=Ca raw:=⟨_,rfl⟩
 rw [←hU] at HUN HBO ⊢
 clear hU
 obtain⟨u1,u2,u3⟩:=U
 dsimp only at HUN HBO ⊢
 unfold Dx at HUN
 rcases hz:(u3==0) with _ | _
 ·rw [γ (show ¬ u3=0 by simpa using hz)]
  go_enter Tryz.func21,Tryz.ntmps21
  go_wp2_with fail
  refine HAL.out.mono ?_
  rintro x w1 ⟨rfl,rfl⟩
  go_wp2_with fail
  refine HUN.out.mono ?_
  rintro x w2 ⟨rfl,hb2⟩
  have HPO:=Qh (Dc.below HJ.out (Below.next hb2 (below_alloc w2 (.cells (evCs u2) 38))))
  simp only [evCs] at HPO
  clear hb2
  go_wp2
  go_ret2
  exact⟨rfl,HPO.out⟩
 ·obtain rfl:u3=0:=by simpa using hz
  rw [ζ rfl]
  obtain⟨R,hR⟩: ∃ R,Cy d s raw=R:=⟨_,rfl⟩
  rw [hR]
  obtain⟨⟨a1,a2⟩,s2,d2⟩:=R
  have HRR:=Qh hR
  clear hR
  go_enter Tryz.func21,Tryz.ntmps21
  go_wp2_with fail
  refine HAL.out.mono ?_
  rintro x w1 ⟨rfl,rfl⟩
  go_wp2_with fail
  refine HUN.out.mono ?_
  rintro x w2 ⟨rfl,hb2⟩
  have HB2:=Qh (Below.next hb2 (below_alloc w2 (.cells (evCs u2) 38)))
  have HPC:=Qh (by have:=push_calls (HJ.out.below HB2.out) HL.out hk (HBO.out (by first | rfl | trivial)) (HR.out.below HB2.out);rw [HRR.out] at this;exact this)
  simp only [evCs] at HB2 HPC
  clear hb2 HUN HAL
  go_wp2_with fail
  unfold PushQ at HPC
  refine HPC.out.mono ?_
  rintro x w3 ⟨rfl,hp⟩
  have HPO:=Qh (hp.then (Turned.below HB2.out) fun _ h=> .inl h)
  clear hp
  go_wp2
  go_ret2
  exact⟨rfl,HPO.out⟩
theorem stoRotate_any (h:SJ w b f m L d s mv sv) (hl:Lim d s E k) (hk:k<1000):
  Calls Tryz.prog 23 #[.pointer (some ⟨b,0,none⟩)] w (StepQ w b f m L mv (Bn d s 0)):=by
 have HAL:=Qh (Do h hl.ok.closed hl.ok.up)
 have HTC:=Qh (turn_calls (more:=0) h hl (by omega) (by decide))
 obtain⟨R,hR⟩: ∃ R,R=Bn d s 0:=⟨_,rfl⟩
 rw [←hR] at HTC ⊢
 clear h hl hR
 obtain⟨e1,s1,d1⟩:=R
 unfold StepQ at HTC
 go_enter Tryz.func23,Tryz.ntmps23
 go_wp2_with fail
 refine HAL.out.mono ?_
 rintro x w1 ⟨rfl,rfl⟩
 go_wp2_with fail
 refine HTC.out.mono ?_
 rintro x w2 ⟨rfl,hp⟩
 have HPO:=Qh hp
 clear hp
 go_wp2
 go_ret
 exact⟨rfl,HPO.out⟩
end
def numb:Nat→List (List UInt8)→List RecS
 | _,[]=>[]
 | n,b::r=>((n:Int),upV b)::numb (n+1) r
theorem numb_append: ∀ (a b:List (List UInt8)) (n:Nat),numb n (a++b)=numb n a++numb (n+a.length) b
 | [],b,n=>by simp [numb]
 | x::a,b,n=>by rw [List.cons_append,numb,numb_append a b,numb,φ,List.cons_append,Nat.add_assoc,Nat.add_comm 1]
theorem numb_length: ∀ (a:List (List UInt8)) (n:Nat),(numb n a).length=a.length
 | [],_=>rfl
 | x::a,n=>by rw [numb,φ,numb_length a,φ]
theorem numb_ge: ∀ (a:List (List UInt8)) (n:Nat),∀ r∈numb n a,(n:Int)≤r.1∧r.1<(n:Int)+(a.length:Int)
 | [],n,r,h=>by simp [numb] at h
 | x::a,n,r,h=>by
  rw [numb] at h
  rcases Γ.1 h with rfl | h
  ·simp only [φ];omega
  ·have:=numb_ge a (n+1) r h
   simp only [φ]
   omega
def Hh (from_:Int) (rs:List RecS):List RecS:=rs.filter fun r=>decide (from_≤r.1)
theorem Kr (from_:Int) (a b:List RecS):Hh from_ (a++b)=Hh from_ a++Hh from_ b:=by simp [Hh]
theorem fromN_all {from_:Int} {a:List (List UInt8)} {n:Nat} (h:from_≤(n:Int)):Hh from_ (numb n a)=numb n a:=
 List.filter_eq_self.2 fun r hr=>by have:=(numb_ge a n r hr).1;exact ν (by omega)
theorem fromN_none {from_:Int} {a:List (List UInt8)} {n:Nat} (h:(n:Int)+(a.length:Int)≤from_):Hh from_ (numb n a)=[]:=
 List.filter_eq_nil_iff.2 fun r hr=>by have:=(numb_ge a n r hr).2;simp;omega
theorem recP_lay (from_:Int): ∀ (bs:List (List UInt8)) (n p q:Nat),recP from_ (plcs p (posL q (evFr n bs)))=Hh from_ (numb n bs)
 | [],n,p,q=>rfl
 | b::r,n,p,q=>by
  have ih:=recP_lay from_ r (n+1) p (q+b.length+20)
  rw [evFr,posL]
  show recP from_ ([⟨p+q,b.length+20,⟨1,n,b⟩⟩]++plcs p (posL (q+b.length+20) (evFr (n+1) r)))=_
  rw [Fa,ih,numb,show (((n:Int),upV b)::numb (n+1) r:List RecS)=[((n:Int),upV b)]++numb (n+1) r from rfl,Kr]
  congr 1
  unfold recP Hh
  simp only [List.filter_cons,List.filter_nil]
  split<;>rfl
theorem plcs_mem {bs:List (List UInt8)} {n p q:Nat} {x:Plc} (h:x∈plcs p (posL q (evFr n bs))):x.f.body∈bs:=by
 induction bs generalizing n q with
 | nil=>simp [evFr,posL,plcs] at h
 | cons b r ih=>
  rw [evFr,posL] at h
  rcases Γ.1 (show x∈(⟨p+q,b.length+20,⟨1,n,b⟩⟩:Plc)::plcs p (posL (q+b.length+20) (evFr (n+1) r)) from h) with rfl | h
  ·simp
  ·exact List.mem_cons_of_mem _ (ih h)
def goneOk (stride:Nat) (from_:Int) (n len k:Nat):Prop:=(from_≤(n:Int)→k=len)∧((n:Int)+(len:Int)≤from_→k=0)∧((n:Int)≤from_→from_<(n:Int)+(len:Int)→(n:Int)+(len:Int) - from_≤(k:Int)∧(k:Int)≤(n:Int)+(len:Int) - from_+(stride:Int) - 1)
theorem seg_piece {d:Ab} {s:Cb} {from_:Int} {g:Sg} {bs:List (List UInt8)} {x:A7} {rest:List UInt8} (hx:atF d.files (Aa g.num)=some x) (hxd:x.data=segB g bs++rest) (h1:1≤g.num∧g.num≤999999) (h2:1≤g.first∧g.first+(bs.length:Int)≤1099511627777)
  (hb: ∀ b∈bs,BodyOk b) (hl:bs.length≤512) (hst:1≤s.stride∧s.stride≤64)
  (hsrc:(0<g.count∧g.foot=((segB g bs).length:Int)∧g.count=(bs.length:Int)∧Ba rest g=some (mksG s.stride 0 g.first.toNat (hdB g).length bs,s.stride))∨(g.count=0∧s.marks=mksG s.stride 0 g.first.toNat (hdB g).length bs∧s.size=(segB g bs).length∧s.count=bs.length∧(from_≤g.first∨from_<g.first+(bs.length:Int)))):
  ∃ ps,SegIn d s from_ g ps∧recP from_ ps=Hh from_ (numb g.first.toNat bs)∧goneOk s.stride from_ g.first.toNat bs.length ps.length∧(ps.length≤512∧ ∀ p∈ps,BodyOk p.f.body):=by
 obtain⟨n,hn⟩: ∃ n,n=g.first.toNat:=⟨_,rfl⟩
 have hnn:g.first=(n:Int):=by omega
 rw [←hn] at hsrc
 rw [←hn]
 have hhl:=Ks h1 (by omega:1≤g.first∧g.first≤1099511627777)
 have hll:=G3 hb n
 have hsl:(segB g bs).length=(hdB g).length+(lay (evFr n bs)).length:=by unfold segB;rw [η,←hn]
 have hmk:By (mksG s.stride 0 n (hdB g).length bs)=true:=by
  unfold By
  rw [mksG_ok s.stride bs 0 n _ 0 (-1) (by omega) (by omega) (by omega) (by omega),ν (μ (mksG_len s.stride bs 0 n _) hl)]
  rfl
 have hpi:PieceIn d s g x (mksG s.stride 0 n (hdB g).length bs) (segB g bs).length bs.length:=by
  refine⟨hx,?_,by rw [hxd,η];omega,marksV_pair hmk,μ (mksG_len _ _ _ _ _) hl,hl,by omega⟩
  rcases hsrc with⟨a,b,c,e⟩ | ⟨a,b,c,e,_⟩
  ·exact .inl ⟨a,b,c,s.stride,by rw [hxd,List.drop_left];exact e⟩
  ·exact .inr ⟨a,b.symm,c.symm,e.symm⟩
 by_cases hskip:0<g.count∧g.first+g.count - 1<from_
 ·have hc:g.count=(bs.length:Int):=by
   rcases hsrc with⟨_,_,c,_⟩ | ⟨a,_⟩
   ·exact c
   ·omega
  refine⟨[],.inl ⟨hskip.1,hskip.2,rfl⟩,?_,⟨fun h=> ?_,fun _=>rfl,fun h h'=> ?_⟩,by simp,fun p hp=>by cases hp⟩
  ·rw [fromN_none (by omega)];rfl
  ·rw [Φ];omega
  ·omega
 ·by_cases h0:bs=[]
  ·subst h0
   refine⟨[],.inr ⟨hskip,x,_,_,_,hpi,.inl ⟨rfl,rfl,rfl⟩⟩,rfl,⟨fun _=>rfl,fun _=>rfl,fun h h'=> ?_⟩,by simp,fun p hp=>by cases hp⟩
   simp only [Φ] at h' ⊢
   omega
  ·have hpos:=Ψ.2 h0
   have hfr:from_<(n:Int)+(bs.length:Int):=by
    rcases hsrc with⟨a,_,c,_⟩ | ⟨_,_,_,_,e⟩
    ·omega
    ·rcases e with e | e<;>omega
   obtain⟨i,hi⟩: ∃ i:Nat,max from_ g.first=((n+i:Nat):Int):=⟨(max from_ g.first - (n:Int)).toNat,by omega⟩
   have hil:i<bs.length:=by omega
   obtain⟨j,hj1,hj2,hj3⟩:=seek_ok (s:=n) (p:=(hdB g).length) hst.1 hil
   rw [←hi] at hj3
   have hdl:(bs.drop j).length=bs.length - j:=Ξ
   have hcut:segB g bs=(hdB g++lay (evFr n (bs.take j)))++lay (evFr (n+j) (bs.drop j)):=by
    unfold segB
    rw [←hn]
    have e:evFr n bs=evFr n (bs.take j)++evFr (n+j) (bs.drop j):=by
     have:=evFr_append (bs.take j) (bs.drop j) n
     rw [List.take_append_drop,Θ,Nat.min_eq_left (by omega)] at this
     exact this
    rw [e,lay_append,List.append_assoc]
   have hsc:=scan_lay (n:=n+j) (most:=bs.length - j) (bs:=bs.drop j) (fun b hm=>hb b (List.mem_of_mem_drop hm)) (by rw [hdl];omega) (by rw [hdl];exact ξ _) []
   rw [List.nil_append,Φ] at hsc
   have hcl:(segB g bs).length=(hdB g).length+(lay (evFr n (bs.take j))).length+(lay (evFr (n+j) (bs.drop j))).length:=by rw [hcut,η,η]
   refine⟨plcs 0 (posL 0 (evFr (n+j) (bs.drop j))),.inr ⟨hskip,x,_,_,_,hpi,.inr ⟨n+j,(hdB g).length+(lay (evFr n (bs.take j))).length,bs.length - j,hj3,by omega,by omega,by omega,by omega,?_,?_⟩⟩,?_,⟨fun h=> ?_,fun h=> ?_,fun h h'=> ?_⟩,?_,fun p hp=>hb _ (List.mem_of_mem_drop (plcs_mem hp))⟩
   ·have e:(x.data.drop ((hdB g).length+(lay (evFr n (bs.take j))).length)).take ((segB g bs).length - ((hdB g).length+(lay (evFr n (bs.take j))).length))=lay (evFr (n+j) (bs.drop j)):=by
     rw [←List.drop_take,hxd,List.take_left,hcut,←η,List.drop_left]
    rw [e,hsc]
    simp only [Prod.mk.injEq,true_and]
    omega
   ·rw [E8,Ec,Dm,hdl]
   ·rw [recP_lay]
    have e:numb n bs=numb n (bs.take j)++numb (n+j) (bs.drop j):=by
     have:=numb_append (bs.take j) (bs.drop j) n
     rw [List.take_append_drop,Θ,Nat.min_eq_left (by omega)] at this
     exact this
    rw [e,Kr]
    by_cases hj0:j=0
    ·subst hj0
     simp [numb,Hh]
    ·rw [fromN_none (a:=bs.take j) (by rw [Θ];omega),List.nil_append]
   ·rw [E8,Ec,Dm,hdl];omega
   ·omega
   ·rw [E8,Ec,Dm,hdl];omega
   ·rw [E8,Ec,Dm,hdl];omega
theorem mark_go {stride:Nat} {from_:Int} {n len len2 k k2:Nat} (h:goneOk stride from_ n len k) (h2:goneOk stride from_ (n+len) len2 k2):goneOk stride from_ n (len+len2) (k+k2):=by
 obtain⟨a1,a2,a3⟩:=h
 obtain⟨b1,b2,b3⟩:=h2
 refine⟨fun h=> ?_,fun h=> ?_,fun h h'=> ?_⟩
 ·rw [a1 h,b1 (by omega)]
 ·rw [a2 (by omega),b2 (by omega)]
 ·by_cases hc:from_<(n:Int)+(len:Int)
  ·have:=a3 h hc
   have:=b1 (by omega)
   omega
  ·have:=a2 (by omega)
   have:=b3 (by omega) (by omega)
   omega
theorem segs_pieces {d:Ab} {s:Cb} {from_:Int} (P:Sg→List (List UInt8)→Prop) (hP: ∀ g bs,P g bs→ ∃ ps,SegIn d s from_ g ps∧recP from_ ps=Hh from_ (numb g.first.toNat bs)∧goneOk s.stride from_ g.first.toNat bs.length ps.length∧(ps.length≤512∧ ∀ p∈ps,BodyOk p.f.body)):
  ∀ (G:List Grp) (n:Nat),(∀ x∈G,P x.1 x.2)→(∀ (i:Nat) x,G[i]? =some x→x.1.first.toNat=n+((G.take i).flatMap (·.2)).length)→
   ∃ pcs:List (List Plc),pcs.length=G.length∧(∀ (i:Nat) g ps,(G.map (·.1))[i]? =some g→pcs[i]? =some ps→SegIn d s from_ g ps)∧recP from_ pcs.flatten=Hh from_ (numb n (G.flatMap (·.2)))∧goneOk s.stride from_ n (G.flatMap (·.2)).length pcs.flatten.length∧ ∀ ps∈pcs,ps.length≤512∧ ∀ p∈ps,BodyOk p.f.body
 | [],n,_,_=>⟨[],rfl,fun i g ps h=>by simp at h,rfl,⟨fun _=>rfl,fun _=>rfl,fun h h'=>by simp only [List.flatMap_nil,Φ,List.flatten_nil] at h' ⊢;omega⟩,fun ps h=>by cases h⟩
 | x::G,n,hG,hn=>by
  have h0:=hn 0 x rfl
  simp only [List.take_zero,List.flatMap_nil,Φ,Nat.add_zero] at h0
  obtain⟨ps,p1,p2,p3,p4⟩:=hP x.1 x.2 (hG x (by simp))
  obtain⟨pcs,q1,q2,q3,q4,q5⟩:=segs_pieces P hP G (n+x.2.length) (fun y hy=>hG y (by simp [hy])) fun i y hy=>by
   have:=hn (i+1) y (by simpa using hy)
   rw [List.take_succ_cons,List.flatMap_cons,η] at this
   omega
  rw [h0] at p2 p3
  refine⟨ps::pcs,by simp [q1],fun i g ps' hg hp=> ?_,?_,?_,fun ps' h=> ?_⟩
  ·match i with
   | 0=>
    simp only [List.map_cons,List.getElem?_cons_zero,Option.some.injEq] at hg hp
    subst hg hp
    exact p1
   | i+1=>exact q2 i g ps' (by simpa using hg) (by simpa using hp)
  ·rw [List.flatten_cons,Fa,p2,q3,List.flatMap_cons,numb_append,Kr]
  ·rw [List.flatten_cons,η,List.flatMap_cons,η]
   exact mark_go p3 q4
  ·rcases Γ.1 h with rfl | h
   ·exact p4
   ·exact q5 ps' h
theorem chain_first (nx:Int) (g:Sg): ∀ (G:List Grp) (first num:Int),chainOk nx first num (G.map (·.1)++[g])=true→(∀ x∈G,x.1.count=(x.2.length:Int))→ ∀ (i:Nat) x,G[i]? =some x→x.1.first=first+(((G.take i).flatMap (·.2)).length:Int)
 | [],_,_,_,_,i,x,h=>by simp at h
 | y::G,first,num,h,hc,0,x,hx=>by
  simp only [List.getElem?_cons_zero,Option.some.injEq] at hx
  subst hx
  have e:(G.map (·.1)++[g]).isEmpty=false:=by cases G<;>rfl
  simp only [List.map_cons,List.cons_append,chainOk,e,Bool.and_eq_true,decide_eq_true_eq,Bool.false_eq_true,if_false] at h
  simp
  omega
 | y::G,first,num,h,hc,i+1,x,hx=>by
  have e:(G.map (·.1)++[g]).isEmpty=false:=by cases G<;>rfl
  simp only [List.map_cons,List.cons_append,chainOk,e,Bool.and_eq_true,decide_eq_true_eq,Bool.false_eq_true,if_false] at h
  have ih:=chain_first nx g G _ _ h.2.2 (fun z hz=>hc z (by simp [hz])) i x (by simpa using hx)
  have:=hc y (by simp)
  rw [List.take_succ_cons,List.flatMap_cons,η]
  omega
theorem read_plain {d:Ab} {s:Cb} {E:List (List UInt8)} {from_:Int} (h:Dt d s E) (h2:from_≤(E.length:Int)):
  ∃ pcs:List (List Plc),pcs.length=s.man.segs.length∧(∀ (i:Nat) g ps,s.man.segs[i]? =some g→pcs[i]? =some ps→SegIn d s from_ g ps)∧(∀ ps∈pcs,ps.length≤512∧ ∀ p∈ps,BodyOk p.f.body)∧
   recP from_ pcs.flatten=Hh from_ (numb 1 E)∧goneOk s.stride from_ 1 E.length pcs.flatten.length:=by
 obtain⟨G,g,bs,hs,rfl⟩:=h.sta
 have hev:=hs.events h.floor
 have hch:=(B7 hs.ok).chain
 rw [hs.segs,h.floor] at hch
 have hgr:=chain_first _ g G _ _ hch fun x hx=>(hs.seals x hx).count
 obtain⟨x,hx,hxd⟩:=Dg hs.act
 have hsg:=hs.seg
 have hac:g.count=0∧g.foot=0:=by
  obtain⟨y,a,b,c,_⟩:=Is _ _ _ _ hch
  rw [List.getLast?_concat] at a
  simp only [Option.some.injEq] at a
  subst a
  exact⟨b,c⟩
 have key:=segs_pieces (d:=d) (s:=s) (from_:=from_) (fun g' bs'=>(g',bs')∈G∨(g'=g∧bs'=bs)) (fun g' bs' hp=> ?_) (G++[(g,bs)]) 1 (fun y hy=>by
   rcases List.mem_append.1 hy with hy | hy
   ·exact .inl hy
   ·simp only [List.mem_singleton] at hy
    subst hy
    exact .inr ⟨rfl,rfl⟩) (fun i y hy=> ?_)
 ·obtain⟨pcs,a1,a2,a3,a4,a5⟩:=key
  rw [List.flatMap_append] at a3 a4
  simp only [List.flatMap_cons,List.flatMap_nil,List.append_nil] at a3 a4
  exact⟨pcs,by rw [a1,hs.segs];simp,fun i g' ps hg hp=>a2 i g' ps (by rw [hs.segs] at hg;simpa using hg) hp,a5,a3,a4⟩
 ·rcases hp with hp | ⟨rfl,rfl⟩
  ·have hse:=hs.seals _ hp
   have hsl:=hs.sealed hp
   have htp:=hs.sealTop hp
   obtain⟨y,hy,hyd⟩:=Dg hse.dat
   have hnn:=hs.sealSeg hp
   have ht:=hs.top
   simp only at htp hnn hse hsl hy hyd
   have hl1:=hse.len
   have hc1:=hse.count
   have hf1:=hse.foot
   simp only at hl1 hc1 hf1
   exact seg_piece hy hyd hnn.1 ⟨hnn.2,by omega⟩ (hs.body.1 _ hp) hl1.2 hs.cfg.1 (.inl ⟨by omega,hf1,hc1,hsl.2⟩)
  ·exact seg_piece (rest:=[]) hx (by rw [hxd,List.append_nil]) hsg.1 ⟨hsg.2.1,hs.top⟩ hs.body.2 hs.cnt.2 hs.cfg.1 (.inr ⟨hac.1,hs.marks,hs.size,hs.cnt.1,by
    rw [η] at h2
    have:=hs.events h.floor
    omega⟩)
 ·rcases Nat.lt_or_ge i G.length with hi | hi
  ·rw [List.getElem?_append_left hi] at hy
   have:=hgr i y hy
   rw [List.take_append_of_le_length (Nat.le_of_lt hi)]
   omega
  ·rw [List.getElem?_append_right hi] at hy
   have hi0:i - G.length=0:=by
    rcases Nat.eq_zero_or_pos (i - G.length) with h | h
    ·exact h
    ·rw [List.getElem?_eq_none_iff.2 (by simp;omega)] at hy;cases hy
   rw [hi0] at hy
   simp only [List.getElem?_cons_zero,Option.some.injEq] at hy
   subst hy
   obtain rfl:i=G.length:=by omega
   rw [List.take_append_of_le_length (ξ _),List.take_length]
   simp only
   omega
def Jm (P:Nat→Prop) (w:World) (f m b:Nat) (d:Ab) (s:Cb) (E:List (List UInt8)) (k:Nat):Prop:=
 ∃ L mv sv,SJ w b f m L d s mv sv∧(∀ i,A0 b mv f m L i→P i)∧(∀ i,w.heap.size≤i→P i)∧Lim d s E k
def Ft (P:Nat→Prop) (w w':World) (f m b:Nat) (d':Ab) (s':Cb) (E':List (List UInt8)) (k:Nat):Prop:=Jm P w' f m b d' s' E' k∧Turned P w w'
section
variable {P : Nat → Prop} {w w' : World} {f m b : Nat} {L : List Ad} {d d' : Ab} {s s' : Cb} {mv sv : Value} {E E' : List (List UInt8)} {k k' : Nat}
theorem Jm.below (h:Jm P w f m b d s E k) (hb:Below w.heap.size w w'):Jm P w' f m b d s E k:=by
 obtain⟨L,mv,sv,h1,h2,h3,h4⟩:=h
 exact⟨L,mv,sv,h1.below hb,h2,fun i hi=>h3 i (μ hb.size hi),h4⟩
theorem Jm.out (h1:Dc w b f m L mv d' s' w') (hB: ∀ i,w.heap.size≤i→P i) (h2: ∀ i,A0 b mv f m L i→P i) (h4:Lim d' s' E' k'):Ft P w w' f m b d' s' E' k':=by
 obtain⟨L',mv',sv',a1,a2,a3⟩:=h1
 refine⟨⟨L',mv',sv',a1,fun i hi=> ?_,fun i hi=>hB i (μ a2.size hi),h4⟩,a2.mono h2⟩
 rcases a3 i hi with h | h
 ·exact h2 i h
 ·exact hB i h
theorem Ft.still (h:Jm P w f m b d s E k) (hb:Below w.heap.size w w'):Ft P w w' f m b d s E k:=⟨h.below hb,Turned.below hb⟩
theorem atSync (h:Jm P w f m b d s E k) (hk:k<1000):
  Calls Tryz.prog 27 #[.pointer (some ⟨b,0,none⟩)] w fun x w'=> ∃ d',x= .returned (.int .i64 0)∧Ft P w w' f m b d' s E (k+1)∧Like d d':=by
 obtain⟨L,mv,sv,h1,h2,h3,h4⟩:=h
 obtain⟨a1,a2,a3,a4,a5⟩:=sync_ok h4.ok h4.fuse
 have hst:=h4.steps
 refine(stoSync_any h1 h4.ok.seg (by omega) h4.ok.closed h4.ok.up).mono ?_
 rintro x w' hq
 unfold SyncQ at hq
 rw [a1] at hq
 obtain⟨rfl,hp⟩:=hq
 rw [show shutS s 0=s from by unfold shutS;rw [γ (by decide)]] at hp
 exact⟨_,rfl,Jm.out hp h3 h2 h4.sync.2,a5⟩
theorem Lim.rd (h:Lim d s E k) (n:Nat):Lim (rdD d n) s E k:=⟨h.ok.rd n,h.fuse,h.next,h.gen,h.steps,h.len⟩
theorem Lim.dec (h:Lim d s E k) (n:Nat):Lim d {s with decoded:=n} E k:=⟨h.ok.dec n,h.fuse,h.next,h.gen,h.steps,h.len⟩
def ShutS (P:Nat→Prop) (w:World) (f m:Nat) (d:Ab) (s:Cb) (E:List (List UInt8)) (k:Nat):Prop:=
 ∃ L,FsAt w f m d L∧(∀ i,foot f m L i→P i)∧NibTab w∧(4≤w.heap.size∧ ∀ i,i<4→ ¬ P i)∧(∀ i,w.heap.size≤i→P i)∧Lim d s E k
theorem atClose (h:Jm P w f m b d s E k) (hk:k<1000) (hB: ∀ i,i<4→ ¬ P i):
  Calls Tryz.prog 28 #[.pointer (some ⟨b,0,none⟩)] w fun x w'=> ∃ d',x= .returned (.int .i64 0)∧ShutS P w' f m d' s E (k+1)∧Turned P w w'∧Like d d':=by
 obtain⟨L,mv,sv,h1,h2,h3,h4⟩:=h
 obtain⟨a1,a2,a3,a4,a5⟩:=sync_ok h4.ok h4.fuse
 have hst:=h4.steps
 refine(stoClose_any h1 h4.ok.seg (by omega) h4.ok.closed h4.ok.up).mono ?_
 rintro x w' hq
 unfold CloseQ at hq
 rw [a1] at hq
 obtain⟨rfl,L',mv',sv',b1,b2,b3⟩:=hq
 refine⟨_,rfl,⟨L',b1.fs,fun i hi=> ?_,b1.nib,⟨b1.gl.1,hB⟩,fun i hi=>h3 i (μ b2.size hi),h4.sync.2⟩,b2.mono h2,a5⟩
 rcases b3 i (.inr (.inr hi)) with h | h
 ·exact h2 i h
 ·exact h3 i h
theorem atOpen (h:ShutS P w f m d s E k) (hk:k<1000):
  Calls Tryz.prog 9 #[.pointer (some ⟨f,0,none⟩),.agg #[.int .i64 (s.stride:Int),.int .i64 (s.segEv:Int)]] w fun x w'=> ∃ b d',x= .returned (.tuple #[.pointer (some ⟨b,0,none⟩),.int .i64 0])∧Ft P w w' f m b d' {s with decoded:=0} E (k+1)∧Like d d':=by
 obtain⟨L,h1,h2,h3,h4,h5,h6⟩:=h
 obtain⟨d1,hr,hl,hlk⟩:=reopen h6
 have hst:=h6.steps
 refine(open_calls (s:={s with decoded:=0}) (E:=E) h1 h3 ⟨h4.1,fun i hi hc=>h4.2 i hi (h2 i hc)⟩ (by omega) (load_snap h6.ok) hr (hl.ok.dec 0) ⟨rfl,rfl⟩ rfl).mono ?_
 rintro x w' ⟨sb,mv,sv,L',n,rfl,b1,b2,b3,b4⟩
 refine⟨sb,_,rfl,⟨⟨L',mv,sv,b1,fun i hi=> ?_,fun i hi=>h5 i (μ b2.size hi),(hl.dec 0).rd n⟩,b2.mono h2⟩,⟨hlk.room,hlk.used,hlk.len,hlk.dat⟩⟩
 rcases b4 i hi with h | h
 ·exact h2 i h
 ·exact h5 i h
theorem Sta.segBd {fs:List A7} {G:List Grp} {g:Sg} {bs:List (List UInt8)} (h:Sta fs s G g bs): ∀ x∈s.man.segs,0≤x.first∧x.first≤1099511627777∧0≤x.count∧x.count≤512:=by
 intro x hx
 have hf:=(B7 h.ok).seg x hx
 have hg:=h.seg
 rw [h.segs] at hx
 rcases List.mem_append.1 hx with hx | hx
 ·obtain⟨y,hy,rfl⟩:=List.mem_map.1 hx
  have:=h.sealTop hy
  omega
 ·simp only [List.mem_singleton] at hx
  subst hx
  omega
theorem atRead {from_:Int} (h:Jm P w f m b d s E k) (hk:k<1000) (ht:Bo w):
  Calls Tryz.prog 15 #[.pointer (some ⟨b,0,none⟩),.int .i64 from_] w fun x w'=> ∃ v r d' n,x= .returned (.tuple #[v,.int .i64 r])∧Ft P w w' f m b d' {s with decoded:=n} E k∧d'.files=d.files∧d'.room=d.room∧
   ((r=1∧(from_<1∨(E.length:Int)+1<from_)∧v= .slice none 0 0∧n=s.decoded)∨(r=0∧(1≤from_∧from_≤(E.length:Int)+1)∧Jy w' w.heap.size v (Hh from_ (numb 1 E))∧goneOk s.stride from_ 1 E.length n)):=by
 have hbk:=h
 obtain⟨L,mv,sv,h1,h2,h3,h4⟩:=h
 have hsb:=h4.sb (by omega)
 have hla:=h4.ok.last
 by_cases hf:from_<1∨lastE s+1<from_
 ·refine(stoRead_none from_ h1 hsb h4.ok.closed h4.ok.up hf).mono ?_
  rintro x w' ⟨rfl,hb⟩
  exact⟨_,_,d,s.decoded,rfl,Ft.still hbk hb,rfl,rfl,.inl ⟨rfl,by omega,rfl,rfl⟩⟩
 ·by_cases he:from_=lastE s+1
  ·subst he
   refine(stoRead_end h1 hsb h4.ok.closed h4.ok.up h4.ok.floor).mono ?_
   rintro x w' ⟨v,n,rfl,a1,a2,a3⟩
   refine⟨_,_,_,0,rfl,⟨⟨L,mv,sv,a2,h2,fun i hi=>h3 i (μ a3.size hi),(h4.dec 0).rd n⟩,a3.mono h2⟩,rfl,rfl,.inr ⟨rfl,by omega,?_,⟨fun h=>by omega,fun _=>rfl,fun h h'=>by omega⟩⟩⟩
   rw [fromN_none (by omega)]
   exact a1
  ·obtain⟨G,g,bs,hs,hE⟩:=h4.ok.sta
   obtain⟨pcs,p1,p2,p3,p4,p5⟩:=read_plain (from_:=from_) h4.ok (by omega)
   refine(stoRead_any from_ pcs h1 ht hsb h4.ok.closed h4.ok.up h4.ok.floor (by omega) (B7 hs.ok).len p1 p2 hs.segBd p3).mono ?_
   rintro x w' ⟨v,n,rfl,a1,a2,a3⟩
   rw [p4] at a1
   exact⟨_,_,_,_,rfl,⟨⟨L,mv,sv,a2,h2,fun i hi=>h3 i (μ a3.size hi),(h4.dec _).rd n⟩,a3.mono h2⟩,rfl,rfl,.inr ⟨rfl,by omega,a1,p5⟩⟩
theorem atLast (h:Jm P w f m b d s E k) (hk:k<1000):Calls Tryz.prog 16 #[.pointer (some ⟨b,0,none⟩)] w fun x w'=>x= .returned (.int .i64 (E.length:Int))∧Below w.heap.size w w':=by
 obtain⟨L,mv,sv,h1,h2,h3,h4⟩:=h
 have:=stoLastP_any h1 h4.ok.closed (h4.sb (by omega))
 rw [h4.ok.last] at this
 exact this
theorem atDecoded (h:Jm P w f m b d s E k):Calls Tryz.prog 17 #[.pointer (some ⟨b,0,none⟩)] w fun x w'=>x= .returned (.int .i64 (s.decoded:Int))∧w=w':=by
 obtain⟨L,mv,sv,h1,h2,h3,h4⟩:=h
 exact stoDecoded_any h1 h4.ok.closed
end
end Go.Proofs.YtgkdenejkcngnaaGreatDoor
