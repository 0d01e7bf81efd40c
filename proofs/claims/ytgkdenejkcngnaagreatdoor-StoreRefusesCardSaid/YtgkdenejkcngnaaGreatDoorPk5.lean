import Derived.Deep.MidRow
import Derived.Deep.CutRange
import Derived.Test.YtgkdenejkcngnaaGreatDoorPk4
set_option maxRecDepth 100000
set_option maxHeartbeats 8000000
namespace Go.Proofs.YtgkdenejkcngnaaGreatDoor
open Go.RowKit
theorem fsDown_any (w:World) (f m:Nat) (d:Ab) (L:List Ad) (h:FsAt w f m d L):Calls Tryz.prog 26 #[.pointer (some ⟨f,0,none⟩)] w fun e w'=>e= .returned (.bool d.down)∧w=w':=by
 have c6:w.cell? ⟨f,6,none⟩=some (.bool d.down):=h.hd.c6
 clear h
 generalize d.down=x at*
 go_enter Tryz.func26,Tryz.ntmps26
 go_wp2
 go_ret
 exact⟨rfl,rfl⟩
theorem fsFree_any (w:World) (f m:Nat) (d:Ab) (L:List Ad) (h:FsAt w f m d L):Calls Tryz.prog 69 #[.pointer (some ⟨f,0,none⟩)] w fun e w'=>e= .returned (.int .i64 (d.room - (usedF d.files:Int)))∧Below w.heap.size w w':=by
 have c1:w.cell? ⟨f,1,none⟩=some (.int .i64 d.room):=h.hd.c1
 have c2:w.cell? ⟨f,2,none⟩=some (.int .i64 (usedF d.files:Int)):=h.hd.c2
 have hr:=h.ok.room
 have hu:=h.ok.used
 have hw:IntKind.i64.wrap (d.room - (usedF d.files:Int))=d.room - (usedF d.files:Int):=by rw [κ];omega
 have HW:=Qh hw
 have C1:=Qh c1
 have C2:=Qh c2
 clear h hr hu c1 c2 hw
 generalize d.room=x at*
 generalize (usedF d.files:Int)=y at*
 go_enter Tryz.func69,Tryz.ntmps69
 go_wp2_with fail
 refine ω (S:=fun w'=>Below w.heap.size w w') (by kernel_rfl) (below_drewN' w 1) (fun hHeld=> ?_)
 have FX1:=Qh (fun(wF:World) (hSw:(fun w'=>Below w.heap.size w w') wF)=>And.intro ((cell_later hSw C1.out)) ((cell_later hSw C2.out)))
 refine tf FX1 0 rfl ?_
 refine tf FX1 1 rfl ?_
 refine tf FX1 2 rfl ?_
 refine tf FX1 3 rfl ?_
 refine tf FX1 4 rfl ?_
 refine tf FX1 5 rfl ?_
 refine tf FX1 6 rfl ?_
 refine tf FX1 7 rfl ?_
 clear FX1
 have FX2:=Qh (fun(wF:World) (hSw:(fun w'=>Below w.heap.size w w') wF)=>(HW.out))
 refine tf FX2 8 rfl ?_
 clear FX2
 refine tq 9 rfl ?_
 refine Λ (by kernel_rfl) ?_ _
 go_wp2
 go_ret
 exact⟨rfl,below_drewN' _ _⟩
section
variable {w : World} {b f m : Nat} {L : List Ad} {d : Ab} {s : Cb} {mv sv : Value}
theorem J2 {l:B3} (h:l.segs≠ []):l.segs[l.segs.length - 1]? =some (lastSg l):=by
 unfold lastSg
 rw [List.getLast?_eq_getElem?]
 rcases hg:l.segs[l.segs.length - 1]? with _ | g
 ·have:=Ψ.2 h
  rw [List.getElem?_eq_none_iff] at hg
  omega
 ·rfl
theorem SJ.segs (h:SJ w b f m L d s mv sv) (hn:s.man.segs≠ []): ∃ gb off cap,sv= .slice (some ⟨gb,off,none⟩) s.man.segs.length cap∧s.man.segs.length≤cap∧ ¬ A0 b mv f m L gb∧w.rangeAt gb (off+(s.man.segs.length - 1)*4) (sgCs (lastSg s.man)).toList:=by
 obtain⟨oa,cap,rfl,h1,_,h2⟩:=h.sg
 obtain⟨gb,off,rfl,⟨h3,_⟩,h4⟩:=h2 _ _ (J2 hn)
 exact⟨gb,off,cap,rfl,h1,h3,h4⟩
theorem results_sg1 {fn:Func} {p:Tmp} (h:fn.results= #[.cell p 72]) (tmps:Array Value) (w:World) (b:Nat) (g:Sg) (hp:tmps.getD p undef= .pointer (some ⟨b,0,none⟩)) (hE:Dk w b g):(results fn tmps).run Tryz.prog w= .ok (sgV g) w:=by
 have hl:(loadVar 72 ⟨b,0,none⟩).run Tryz.prog w= .ok (sgV g) w:=run_loadVar_row (P:=Tryz.prog) w b 72 72 (sgCs g) (0,0) _ hE Tryz.underlying72 rfl sgInfo
 have hp':tmps[p]?.getD undef= .pointer (some ⟨b,0,none⟩):=by simpa using hp
 simp [results,h,hp',asAddr,hl]
theorem Hb (h:SJ w b f m L d s mv sv) (hn:s.man.segs≠ []):Calls Tryz.prog 34 #[.pointer (some ⟨b,0,none⟩)] w fun e w'=>e= .returned (sgV (lastSg s.man))∧Below w.heap.size w w':=by
 obtain⟨gb,off,cap,rfl,hcp,_,hr⟩:=h.segs hn
 have HBL:=Qh h.blk.lt
 have C11:=Qh (show w.cell? ⟨b,11,none⟩=some (.slice (some ⟨gb,off,none⟩) s.man.segs.length cap) from h.blk.cell 11)
 have HR:=Qh hr
 have hp:=Ψ.2 hn
 have hml:s.man.segs.length≤9223372036854775807:=by
  obtain⟨_,_,e,h1,h2,_⟩:=h.sg
  simp only [Value.slice.injEq] at e
  obtain⟨_,_,rfl⟩:=e
  omega
 obtain⟨n,hnn⟩: ∃ n,n=s.man.segs.length:=⟨_,rfl⟩
 rw [←hnn] at C11 HR hp hcp hml
 have q0:0<n:=hp
 have qm:n - 1<n:=by omega
 have qn:((n - 1:Nat):Int)<(n:Int):=by omega
 have hwn:IntKind.i64.wrap ((n:Int) - 1)=((n - 1:Nat):Int):=by rw [κ];omega
 have HB0:=Qh (below_alloc w (.cells #[.int .i64 0,.int .i64 0,.int .i64 0,.int .i64 0] 72))
 have HG:=Qh (show Dk (w.alloc (.cells #[.int .i64 0,.int .i64 0,.int .i64 0,.int .i64 0] 72)) w.heap.size ⟨0,0,0,0⟩ from σ w _)
 generalize lastSg s.man=g at*
 clear h hn hnn hr hp hml
 go_enter Tryz.func34,Tryz.ntmps34
 go_wp2_with fail
 have C11':=Qh (cell_later HB0.out C11.out)
 have HR':=Qh (Ax HR.out HB0.out)
 have HBN:=Qh (show ¬ b=w.heap.size from fun e=>by have:=HBL.out;omega)
 have HGN:=Qh (show ¬ gb=w.heap.size from Nat.ne_of_lt (World.block_lt_of_cell? w _ (HR.out 0 _ rfl)))
 generalize w.alloc (.cells #[.int .i64 0,.int .i64 0,.int .i64 0,.int .i64 0] 72)=W at*
 refine ω (S:=fun w'=>Turned (fun k=>k=w.heap.size) W w') (by kernel_rfl) (Turned.below (below_drewN' W 1)) (fun hHeld=> ?_)
 have FX3:=Qh (fun(wF:World) (hSw:(fun w'=>Turned (fun k=>k=w.heap.size) W w') wF)=>(hSw.cell C11'.out HBN.out))
 refine tf FX3 0 rfl ?_
 refine tf FX3 1 rfl ?_
 refine tf FX3 2 rfl ?_
 refine tf FX3 3 rfl ?_
 refine tf FX3 4 rfl ?_
 refine tf FX3 5 rfl ?_
 refine tf FX3 6 rfl ?_
 refine tf FX3 7 rfl ?_
 refine tf FX3 8 rfl ?_
 refine tf FX3 9 rfl ?_
 refine tf FX3 10 rfl ?_
 clear FX3
 have FX4:=Qh (fun(wF:World) (hSw:(fun w'=>Turned (fun k=>k=w.heap.size) W w') wF)=>(hwn))
 refine tf FX4 11 rfl ?_
 refine tf FX4 12 rfl ?_
 clear FX4
 refine tkl 13 gb (off+(n - 1)*4) [.int .i64 g.num,.int .i64 g.first,.int .i64 g.count,.int .i64 g.foot] rfl rfl (fun w' h=>fun j u hj=>h.cell (HR'.out j u hj) HGN.out) Tryz.underlying72 rfl (by rw [sgInfo];rfl) ?_
 simp only [pA,pB,pC,pD]
 have HGd:=Qh (show Dk (World.drew W) w.heap.size ⟨0,0,0,0⟩ from HG.out)
 have HBd:=Qh (show Below w.heap.size w (World.drew W) from Below.next HB0.out (below_drewN' W 1))
 generalize World.drew _=Wd at*
 refine Rd 14 rfl fun K hK=> ?_
 rw [ζ (by kernel_rfl)]
 refine wp_store_row 72 (.tmp 2) (.tmp 16) rfl w.heap.size (sgCs g) rfl rfl 72 (sgCs ⟨0,0,0,0⟩) HGd.out sgInfo rfl (Array.all_eq_true_iff_forall_mem.2 (by intro u hu;simp only [sgCs,List.mem_toArray,Γ,List.not_mem_nil,or_false] at hu;rcases hu with rfl | rfl | rfl | rfl<;>rfl)) ?_
 have HS:=Qh (show Dk (Wd.setRow w.heap.size (sgCs g)) w.heap.size g from setRow_heap Wd _ _ _ _ _ HGd.out)
 have HBS:=Qh (show Below w.heap.size w (Wd.setRow w.heap.size (sgCs g)) from Az HBd.out (ξ _) _)
 refine hK.out _ _ (hHeld.trans (setRow_trn _ _ _) fun _ h=> .inl h) (fun hHeld=> ?_)
 generalize Wd.setRow w.heap.size (sgCs g)=We at*
 clear hK K hHeld
 refine Λ (by kernel_rfl) ?_ _
 go_wp2
 exact π (results_sg1 rfl _ _ _ _ rfl HS.out) rfl ⟨rfl,HBS.out⟩
theorem Fc (h:SJ w b f m L d s mv sv) (hn:s.man.segs≠ []):Calls Tryz.prog 33 #[.pointer (some ⟨b,0,none⟩)] w fun e w'=>e= .returned (.string ⟨(segN s.man).toArray⟩)∧Below w.heap.size w w':=by
 have HA:=Qh (Hb h hn)
 unfold sgV at HA
 unfold segN
 clear h hn
 generalize lastSg s.man=g at*
 have hfl: ∀ (W:World),(Instr.field 72 (.agg #[.int .i64 g.num,.int .i64 g.first,.int .i64 g.count,.int .i64 g.foot]) 0).run Tryz.prog W= .ok (.int .i64 g.num) W:=fun W=>by kernel_rfl
 go_enter Tryz.func33,Tryz.ntmps33
 go_wp2_with fail
 refine HA.out.mono ?_
 rintro e w1 ⟨rfl,hb1⟩
 have HB1:=Qh hb1
 have HS:=Qh (Gf g.num w1)
 clear hb1 HA
 go_wp2_with fail
 refine HS.out.mono ?_
 rintro e w2 ⟨rfl,hb2⟩
 have HB2:=Qh (Below.next HB1.out hb2)
 clear hb2 HS
 go_wp2
 go_ret
 exact⟨rfl,HB2.out⟩
structure SB (s:Cb):Prop where
 segs:s.man.segs≠ []
 first:1≤(lastSg s.man).first∧(lastSg s.man).first≤1099511627776
 num:1≤(lastSg s.man).num∧(lastSg s.man).num≤999999
 count:s.count≤512
 size:s.size≤67108864
 stride:1≤s.stride∧s.stride≤64
 segEv:1≤s.segEv∧s.segEv≤512
theorem Dp (h:SJ w b f m L d s mv sv) (hs:SB s):Calls Tryz.prog 42 #[.pointer (some ⟨b,0,none⟩)] w fun e w'=>e= .returned (.int .i64 (lastE s))∧Below w.heap.size w w':=by
 have HA:=Qh (fun W (hB:Below w.heap.size w W)=>Hb (h.below hB) hs.segs)
 unfold sgV at HA
 have C0:=Qh (show w.cell? ⟨b,0,none⟩=some (.int .i64 (s.count:Int)) from h.blk.cell 0)
 unfold lastE
 have hf:=hs.first
 have hc:=hs.count
 have hw1:IntKind.i64.wrap ((lastSg s.man).first+(s.count:Int))=(lastSg s.man).first+(s.count:Int):=by rw [κ];omega
 have hw2:IntKind.i64.wrap ((lastSg s.man).first+(s.count:Int) - 1)=(lastSg s.man).first+(s.count:Int) - 1:=by rw [κ];omega
 have HW1:=Qh hw1
 have HW2:=Qh hw2
 clear h hs hf hc hw1 hw2
 generalize lastSg s.man=g at*
 generalize (s.count:Int)=c at*
 have hfl: ∀ (W:World),(Instr.field 72 (.agg #[.int .i64 g.num,.int .i64 g.first,.int .i64 g.count,.int .i64 g.foot]) 1).run Tryz.prog W= .ok (.int .i64 g.first) W:=fun W=>by kernel_rfl
 go_enter Tryz.func42,Tryz.ntmps42
 go_wp2_with fail
 refine ω (S:=fun w'=>Below w.heap.size w w') (by kernel_rfl) (below_drewN' w 1) (fun hHeld=> ?_)
 have FX5:=Qh (fun(wF:World) (hSw:(fun w'=>Below w.heap.size w w') wF)=>(cell_later hSw C0.out))
 refine tf FX5 0 rfl ?_
 refine tf FX5 3 rfl ?_
 refine tf FX5 4 rfl ?_
 refine tf FX5 5 rfl ?_
 refine tf FX5 6 rfl ?_
 refine tf FX5 7 rfl ?_
 clear FX5
 generalize World.drew _=Wd at*
 refine Rd 1 rfl fun K hK=> ?_
 go_simp
 refine(HA.out Wd hHeld).mono ?_
 rintro e w1 ⟨rfl,hb1⟩
 have HB1:=Qh (Below.next hHeld hb1)
 clear hb1 hHeld HA
 go_wp2_with fail
 refine hK.out _ _ HB1.out (fun hHeld=> ?_)
 clear hK K hHeld
 have hw1:=HW1.out
 have hw2:=HW2.out
 have FX6:=Qh (fun(wF:World) (hSw:(fun w'=>Below w.heap.size w w') wF)=>(hw1))
 refine tf FX6 2 rfl ?_
 refine tf FX6 8 rfl ?_
 refine tf FX6 9 rfl ?_
 clear FX6
 refine tq 10 rfl ?_
 refine Λ (by kernel_rfl) ?_ _
 go_wp2
 go_ret
 exact⟨rfl,HB1.out⟩
theorem Js (h:SJ w b f m L d s mv sv):Calls Tryz.prog 45 #[.pointer (some ⟨b,0,none⟩)] w fun e w'=>e= .returned (.bool s.closed)∧w=w':=by
 have c12:w.cell? ⟨b,12,none⟩=some (.bool s.closed):=h.blk.cell 12
 clear h
 generalize s.closed=x at*
 go_enter Tryz.func45,Tryz.ntmps45
 go_wp2
 go_ret
 exact⟨rfl,rfl⟩
theorem Do (h:SJ w b f m L d s mv sv) (hc:s.closed=false) (hd:d.down=false):Calls Tryz.prog 38 #[.pointer (some ⟨b,0,none⟩)] w fun e w'=>e= .returned (.int .i64 0)∧w=w':=by
 have c12:w.cell? ⟨b,12,none⟩=some (.bool s.closed):=h.blk.cell 12
 have c3:w.cell? ⟨b,3,none⟩=some (.pointer (some ⟨f,0,none⟩)):=h.blk.cell 3
 have HD:=Qh (fsDown_any w f m d L h.fs)
 rw [hc] at c12
 rw [hd] at HD
 clear h hc hd
 go_enter Tryz.func38,Tryz.ntmps38
 go_wp2_with fail
 refine HD.out.mono ?_
 rintro e w1 ⟨rfl,rfl⟩
 go_wp2
 go_ret
 exact⟨rfl,rfl⟩
theorem K6 (e:Int) (h:SJ w b f m L d s mv sv):Calls Tryz.prog 54 #[.pointer (some ⟨b,0,none⟩),.int .i64 e] w fun x w'=>x= .returned (.int .i64 e)∧SJ w' b f m L d (shutS s e) mv sv∧Turned (A0 b mv f m L) w w':=by
 by_cases he:e=3
 ·subst he
  have c12:w.cell? ⟨b,12,none⟩=some (.bool s.closed):=h.blk.cell 12
  have f12:=h.blk.free 12
  have HP:=Qh (h.set (s':={s with closed:=true}) (j:=12) (v:= .bool true) rfl rfl rfl)
  clear h
  go_enter Tryz.func54,Tryz.ntmps54
  go_wp2
  go_ret
  exact⟨rfl,HP.out⟩
 ·have h3:(e==3)=false:=by simpa using he
  have HP:=Qh h
  have HE:=Qh (show shutS s e=s by unfold shutS;rw [γ he])
  clear h he
  go_enter Tryz.func54,Tryz.ntmps54
  go_wp2
  go_ret
  exact⟨rfl,by rw [HE.out];exact HP.out,Turned.refl _ _⟩
end
def K2 (cs:Array Value):Nat→List Value→Array Value
 | _,[]=>cs
 | o,v::r=>K2 (cs.setIfInBounds o v) (o+1) r
theorem setCells_blk {b:Nat} {T:TypeId} {fz:Nat×Nat}: ∀ (vs:List Value) (o:Nat) (w:World) (cs:Array Value),w.heap[b]? =some (.cells cs T fz)→(w.setCells b o vs).heap[b]? =some (.cells (K2 cs o vs) T fz)
 | [],_,_,_,h=>h
 | v::r,o,w,cs,h=>by
  rw [World.setCells,K2]
  refine setCells_blk r (o+1) _ _ ?_
  simp only [World.setCell]
  rw [Array.getElem?_modify]
  simp [h]
theorem setCells_trn (b:Nat): ∀ (vs:List Value) (o:Nat) (w:World),Turned (fun k=>k=b) w (w.setCells b o vs)
 | [],_,_=>Turned.refl _ _
 | v::r,o,w=>(Turned.setCell (S:=fun k=>k=b) w ⟨b,o,none⟩ v rfl).trans (setCells_trn b r (o+1) _) fun _ h=> .inl h
section
variable {w w' : World} {b f m : Nat} {L L' : List Ad} {d d' : Ab} {s s' : Cb} {mv sv : Value}
theorem B0.there (h:B0 w b f s mv sv) (o n:Nat) (hn:o+n≤14):w.there b o n:=fun j hj=>by
 refine⟨?_,h.free _⟩
 rw [h.cell,Array.getElem?_eq_getElem (by show o+j<14;omega)]
 rfl
theorem Dl.disk {l:List Sg} {v:Value} (h:Dl (fun k=> ¬ A0 b mv f m L k) w v l) (ht:Turned (A0 b mv f m L) w w') (hL: ∀ k,A0 b mv f m L' k→A0 b mv f m L k∨w.heap.size≤k):Dl (fun k=> ¬ A0 b mv f m L' k) w' v l:=
 (h.low.turned ht fun k hk hc=>hk.1 hc).mono fun k hk hc=>by
  rcases hL k hc with hc | hc
  ·exact hk.1 hc
  ·omega
theorem manOk_segs {mn:B3} (h:Bt mn=true):mn.segs≠ []:=by
 intro e
 unfold Bt at h
 simp only [Bool.and_eq_true] at h
 have:=h.2
 rw [e] at this
 simp [chainOk] at this
theorem ownF_nil (b f m:Nat) (mv:Value) (L:List Ad): ∀ k,A0 b (.slice none 0 0) f m L k→A0 b mv f m L k:=by
 rintro k (hk | hk | hk)
 ·exact .inl hk
 ·cases hk
 ·exact .inr (.inr hk)
theorem tailInfo:(Tryz.prog.info? 80).map (·.size)=some 3:=by kernel_rfl
theorem SJ.put (h:SJ w b f m L d s mv sv) {sv':Value} (ht:Turned (fun k=>k=b) w w') (hb:B0 w' b f s' (.slice none 0 0) sv') (hm:s'.marks=[]) (hg:Dl (fun k=> ¬ A0 b (.slice none 0 0) f m L k) w sv' s'.man.segs):SJ w' b f m L d s' (.slice none 0 0) sv':=
 ⟨hb,h.fs.turned ht (fun k hk e=>h.sep.1 (e▸hk)),hm▸mkOwn_nil w' 0,hg.turned ht fun k hk e=>hk (.inl e),h.nib.turned ht (fun hc=>h.gl.2 _ (by decide) (.inl hc)) h.nib.lt,⟨μ h.gl.1 ht.size,fun k hk hc=>h.gl.2 k hk (ownF_nil b f m mv L k hc)⟩,h.sep.1,nofun,nofun⟩
theorem oneSl (a:Option Addr) (n c:Nat):(Value.slice a n c).oneCell'=true:=rfl
theorem setMany_man (f:Nat) (s:Cb) (mv sv sv':Value) (mn:B3):K2 (Gw f s mv sv) 6 (mnCs mn sv').toList=Gw f {s with man:=mn} mv sv':=by
 simp [K2,Gw,mnCs]
theorem wpList_store_tail {ops:Array Oper} {rest:List Oper} {o:Oper} {a:Act} {w:World} {Q:Exit→Act→World→Prop} (hgd:o.guard=none) (x y:Operand) (ho:o.op= .store 80 x y) (n:Nat)
  (hx:a.eval x= .pointer (some ⟨b,0,none⟩)) (hy:a.eval y= .agg #[.int .i64 0,.int .i64 (n:Int),.slice none 0 0]) (hE:B0 w b f s mv sv)
  (h: ∀ W,B0 W b f {s with count:=0,size:=n,marks:=[]} (.slice none 0 0) sv→Turned (fun k=>k=b) w W→wpList Tryz.prog ops Q rest (a.put o.dst undef) W):wpList Tryz.prog ops Q (o::rest) a w:=
 wpList_store_mid hgd 80 x y ho b 0 #[.int .i64 0,.int .i64 (n:Int),.slice none 0 0] hx hy (hE.there 0 3 (by omega)) tailInfo (Array.all_eq_true_iff_forall_mem.2 (by
  intro u hu
  simp only [List.mem_toArray,Γ,List.not_mem_nil,or_false] at hu
  rcases hu with rfl | rfl | rfl<;>rfl)) (h _ (setCells_blk _ 0 _ _ hE) (setCells_trn _ _ _ _))
theorem wpList_store_man {ops:Array Oper} {rest:List Oper} {o:Oper} {a:Act} {w:World} {Q:Exit→Act→World→Prop} (hgd:o.guard=none) (x y:Operand) (ho:o.op= .store 69 x y) (mn:B3) (sv':Value) (h1:sv'.oneCell'=true)
  (hx:a.eval x= .pointer (some ⟨b,6,none⟩)) (hy:a.eval y=mnV mn sv') (hE:B0 w b f s mv sv)
  (h: ∀ W,B0 W b f {s with man:=mn} mv sv'→Turned (fun k=>k=b) w W→wpList Tryz.prog ops Q rest (a.put o.dst undef) W):wpList Tryz.prog ops Q (o::rest) a w:=
 wpList_store_mid hgd 69 x y ho b 6 (mnCs mn sv') hx hy (hE.there 6 6 (by omega)) mnInfo (Array.all_eq_true_iff_forall_mem.2 (by
  intro u hu
  simp only [mnCs,List.mem_toArray,Γ,List.not_mem_nil,or_false] at hu
  rcases hu with rfl | rfl | rfl | rfl | rfl | rfl<;>first | rfl | assumption)) (h _ (by have:=setCells_blk (mnCs mn sv').toList 6 w _ hE;rw [setMany_man] at this;exact this) (setCells_trn _ _ _ _))
theorem stoSave_any (mn:B3) (sv':Value) (n:Nat) (h:SJ w b f m L d s mv sv) (hs:d.steps+4<4611686018427387904) (hr:Dl (fun k=> ¬ A0 b mv f m L k) w sv' mn.segs) (hok:Bt mn=true) (hsg:s.man.segs≠ []) (hne:(lastSg mn).num≠(lastSg s.man).num):
  Calls Tryz.prog 127 #[.pointer (some ⟨b,0,none⟩),mnV mn sv',.int .i64 (n:Int)] w fun e w'=>e= .returned (.int .i64 (Aw d (Cf mn)).2)∧
   Dc w b f m L mv (Aw d (Cf mn)).1 (if (Aw d (Cf mn)).2=0 then {s with count:=0,size:=n,marks:=[],man:=mn} else s) w':=by
 obtain⟨oa,cap,rfl,hl1,hl2,hc⟩:=id hr
 obtain⟨gb,off,rfl,hgo,hgr⟩:=hc _ _ (J2 (manOk_segs hok))
 have hb0:=below_alloc w (.cells (mnCs mn (.slice (some ⟨gb,off,none⟩) mn.segs.length cap)) 69)
 have HM0:=Qh (A4 w mn (.slice (some ⟨gb,off,none⟩) mn.segs.length cap))
 have HJ0:=Qh (h.below hb0)
 have HB0:=Qh hb0
 have HR0:=Qh (hr.below hb0)
 have HNF:=Qh (show ¬ A0 b mv f m L w.heap.size from fun hc=>Nat.lt_irrefl _ (h.lt _ hc))
 have HSV:=Qh (fun W (hB:FsAt W f m d L) (hR:Jz W (.slice (some ⟨gb,off,none⟩) mn.segs.length cap) mn.segs) (hN:NibTab W)=>save_any W f m d L hB hs mn _ hR hN hok)
 have HSG:=Qh hsg
 have HMS:=Qh (manOk_segs hok)
 have HNE:=Qh (show ((lastSg mn).num != (lastSg s.man).num)=true by simpa using hne)
 have hp:=Ψ.2 (manOk_segs hok)
 clear h hs hr hok hsg hne hb0 hc hgo hgr
 obtain⟨D,E,hDE⟩: ∃ D E,Aw d (Cf mn)=(D,E):=⟨_,_,rfl⟩
 rw [hDE]
 have HDE:=Qh hDE
 clear hDE
 simp only [mnCs] at HM0 HJ0 HB0 HR0
 go_enter Tryz.func127,Tryz.ntmps127
 go_wp2_with fail
 generalize w.alloc (.cells #[.int .i64 mn.gen,.int .i64 mn.next,.int .i64 mn.floor,.int .i64 mn.snap,.int .i64 mn.snapSeq,.slice (some ⟨gb,off,none⟩) mn.segs.length cap] 69)=w0 at*
 have C3:=Qh (show w0.cell? ⟨b,3,none⟩=some (.pointer (some ⟨f,0,none⟩)) from HJ0.out.blk.cell 3)
 refine ω (S:=fun w'=>w'.cell? ⟨b,3,none⟩=some (.pointer (some ⟨f,0,none⟩))∧Ah w' w.heap.size mn (.slice (some ⟨gb,off,none⟩) mn.segs.length cap)) (by kernel_rfl) ⟨C3.out,HM0.out⟩ (fun hHeld=> ?_)
 have FX1:=Qh (fun(wF:World) (hSw:(fun w'=>w'.cell? ⟨b,3,none⟩=some (.pointer (some ⟨f,0,none⟩))∧Ah w' w.heap.size mn (.slice (some ⟨gb,off,none⟩) mn.segs.length cap)) wF)=>(hSw.1))
 refine tf FX1 0 rfl ?_
 refine tf FX1 1 rfl ?_
 refine tf FX1 2 rfl ?_
 refine tf FX1 3 rfl ?_
 clear FX1
 refine tkl 4 w.heap.size 0 [.int .i64 mn.gen,.int .i64 mn.next,.int .i64 mn.floor,.int .i64 mn.snap,.int .i64 mn.snapSeq,.slice (some ⟨gb,off,none⟩) mn.segs.length cap] rfl rfl (fun w' h j u hj=>by rw [Nat.zero_add,h.2.cell];simpa [mnCs] using hj) Tryz.underlying69 rfl (by rw [mnInfo];rfl) ?_
 simp only [pA]
 have hbd:=below_drewN' w0 1
 have HJd:=Qh (show SJ (World.drew w0) b f m L d s mv sv from HJ0.out.below hbd)
 have HRd:=Qh (show Dl _ (World.drew w0) _ _ from HR0.out.below hbd)
 have HBd:=Qh (show Below w.heap.size w (World.drew w0) from Below.next HB0.out hbd)
 have HMd:=Qh (show Ah (World.drew w0) _ _ _ from HM0.out)
 clear hbd
 generalize World.drew _=Wd at*
 refine Rd 5 rfl fun K hK=> ?_
 go_simp
 refine(HSV.out Wd HJd.out.fs HRd.out.row HJd.out.nib).mono ?_
 unfold Dd
 rw [HDE.out]
 rintro e w1 ⟨rfl,hfp⟩
 obtain⟨L1,hj1,ht1,hl1'⟩:=HJd.out.disk hfp
 have HJ1:=Qh hj1
 have HR1:=Qh (HRd.out.disk ht1 hl1')
 have HM1:=Qh (show Ah w1 w.heap.size mn (.slice (some ⟨gb,off,none⟩) mn.segs.length cap) from(ht1.block _ HMd.out.lt HNF.out).trans HMd.out)
 have HT1:=Qh (show Turned (A0 b mv f m L) w w1 from(Turned.below HBd.out).trans ht1 fun _ h=> .inl h)
 have HL1:=Qh (fun k (hk:A0 b mv f m L1 k)=>show A0 b mv f m L k∨w.heap.size≤k from(hl1' k hk).imp id (μ HBd.out.size))
 clear hfp hj1 ht1 hl1'
 go_wp2_with fail
 refine hK.out _ _ ⟨HJ1.out.blk.cell 3,HM1.out⟩ (fun hHeld=> ?_)
 clear hK K
 refine tq 6 rfl ?_
 refine Λ (by kernel_rfl) ?_ _
 rcases hE:(E==0) with _ | _
 ·have hE2: ¬ E=0:=by simpa using hE
  go_wp2
  go_ret
  exact⟨rfl,L1,mv,sv,HJ1.out,HT1.out,HL1.out⟩
 obtain rfl:E=0:=by simpa using hE
 clear hE
 clear hHeld
 have C5:=Qh (show w1.cell? ⟨w.heap.size,5,none⟩=some (.slice (some ⟨gb,off,none⟩) mn.segs.length cap) from HM1.out.cell 5)
 have HGR:=Qh (show w1.rangeAt gb (off+(mn.segs.length - 1)*4) (sgCs (lastSg mn)).toList from by
  obtain⟨_,_,e,_,_,hc⟩:=HR1.out
  simp only [Value.slice.injEq] at e
  obtain⟨rfl,_,rfl⟩:=e
  obtain⟨_,_,e,_,hgr⟩:=hc _ _ (J2 HMS.out)
  simp only [Option.some.injEq,Addr.mk.injEq,and_true] at e
  obtain⟨rfl,rfl⟩:=e
  exact hgr)
 have CN:=Qh (show w1.cell? ⟨gb,off+(mn.segs.length - 1)*4,none⟩=some (.int .i64 (lastSg mn).num) from HGR.out 0 _ rfl)
 have HAC:=Qh (fun W (hB:Below w1.heap.size w1 W)=>by have:=Hb (HJ1.out.below hB) HSG.out;unfold sgV at this;exact this)
 have HOK:=Qh (show Dl (fun k=> ¬ A0 b (.slice none 0 0) f m L1 k) w1 (.slice (some ⟨gb,off,none⟩) mn.segs.length cap) mn.segs from HR1.out.mono fun k hk hc=>hk (ownF_nil b f m mv L1 k hc))
 obtain⟨k,hk⟩: ∃ k,k=mn.segs.length:=⟨_,rfl⟩
 rw [←hk] at C5 CN hp HM1 HOK hl1
 have q0:0<k:=hp
 have qm:k - 1<k:=by omega
 have qn:((k - 1:Nat):Int)<(k:Int):=by omega
 have hwn:IntKind.i64.wrap ((k:Int) - 1)=((k - 1:Nat):Int):=by rw [κ];omega
 have hne:=HNE.out
 have hfl: ∀ (W:World),(Instr.field 72 (.agg #[.int .i64 (lastSg s.man).num,.int .i64 (lastSg s.man).first,.int .i64 (lastSg s.man).count,.int .i64 (lastSg s.man).foot]) 0).run Tryz.prog W= .ok (.int .i64 (lastSg s.man).num) W:=fun W=>by kernel_rfl
 generalize (lastSg mn).num=nn at*
 rw [←hk]
 have HK:=Qh hk
 clear hk HR1 HGR HMS HM0 HJ0 HB0 HR0 C3 HJd HRd HBd HMd HSV
 go_wp2_with fail
 refine ω (S:=fun w'=>Below w1.heap.size w1 w') (by kernel_rfl) (below_drewN' w1 1) (fun hHeld=> ?_)
 have FX2:=Qh (fun(wF:World) (hSw:(fun w'=>Below w1.heap.size w1 w') wF)=>And.intro ((cell_later hSw C5.out)) (And.intro ((cell_later hSw CN.out)) ((hwn))))
 refine tf FX2 0 rfl ?_
 refine tf FX2 1 rfl ?_
 refine tf FX2 2 rfl ?_
 refine tf FX2 3 rfl ?_
 refine tf FX2 4 rfl ?_
 refine tf FX2 5 rfl ?_
 refine tf FX2 6 rfl ?_
 refine tf FX2 7 rfl ?_
 refine tf FX2 8 rfl ?_
 refine tf FX2 9 rfl ?_
 clear FX2
 generalize World.drew _=We at*
 refine Rd 10 rfl fun K hK=> ?_
 go_simp
 refine(HAC.out We hHeld).mono ?_
 rintro e w2 ⟨rfl,hb2⟩
 have HB2:=Qh (Below.next hHeld hb2)
 clear hb2 hHeld
 go_wp2_with fail
 refine hK.out _ _ HB2.out (fun hHeld=> ?_)
 clear hK K
 have FX3:=Qh (fun(wF:World) (hSw:(fun w'=>Below w1.heap.size w1 w') wF)=>(hfl))
 refine tf FX3 11 rfl ?_
 refine tf FX3 12 rfl ?_
 clear FX3
 refine Λ (by kernel_rfl) ?_ _
 have HJ2:=Qh (HJ1.out.below HB2.out)
 have HM2:=Qh (HM1.out.below HB2.out)
 have HG2:=Qh (HOK.out.below HB2.out)
 have HBN:=Qh (show ¬ w.heap.size=b from fun e=>HNF.out (.inl e))
 clear hfl HM1 HOK HAC C5 CN HNE hHeld
 go_wp2_with (with_reducible refine wpList_store_tail rfl (.tmp 34) (.tmp 32) rfl n rfl rfl HJ2.out.blk ?_)
 intro w3 hs3 ht3
 have HS3:=Qh hs3
 have HT3:=Qh ht3
 have HM3:=Qh (show Ah w3 w.heap.size mn (.slice (some ⟨gb,off,none⟩) k cap) from(ht3.block _ HM2.out.lt HBN.out).trans HM2.out)
 clear hs3 ht3
 go_wp2_with (first | with_reducible refine wpList_load_mn rfl (.tmp 4) rfl w.heap.size mn (.slice (some ⟨gb,off,none⟩) k cap) rfl HM3.out ?_ | with_reducible refine wpList_store_man rfl (.tmp 38) (.tmp 36) rfl mn (.slice (some ⟨gb,off,none⟩) k cap) (oneSl _ _ _) rfl rfl HS3.out ?_)
 intro w4 hs4 ht4
 have HS4:=Qh hs4
 have HT4:=Qh ht4
 clear hs4 ht4
 go_wp2
 go_ret
 have ht:=HT3.out.trans HT4.out fun _ h=> .inl h
 refine⟨rfl,L1,.slice none 0 0,_,HJ2.out.put ht HS4.out rfl HG2.out,((HT1.out.trans (Turned.below (S:=fun _=>False) HB2.out) fun _ h=>h.elim).trans ht fun k hk=> .inl (.inl hk)),fun k hk=>HL1.out k (ownF_nil b f m mv L1 k hk)⟩
end
structure SW (w w1:World) (b f m:Nat) (L L1:List Ad) (d1:Ab) (s:Cb) (mv sv:Value) (mn:B3) (sv' fv hv:Value) (F H:List UInt8):Prop where
 sj:SJ w1 b f m L1 d1 s mv sv
 tu:Turned (A0 b mv f m L) w w1
 sub: ∀ k,A0 b mv f m L1 k→A0 b mv f m L k∨w.heap.size≤k
 sg:Dl (fun k=> ¬ A0 b mv f m L1 k) w1 sv' mn.segs
 fb:Ag (fun k=> ¬ A0 b mv f m L1 k) w1 fv F
 hb:Ag (fun k=> ¬ A0 b mv f m L1 k) w1 hv H
 mb:Ah w1 w.heap.size mn sv'
 nf: ¬ A0 b mv f m L1 w.heap.size
section
variable {w w1 w2 : World} {b f m : Nat} {L L1 : List Ad} {d d1 d2 : Ab} {s : Cb} {mv sv : Value} {mn : B3} {sv' fv hv : Value} {F H : List UInt8}
theorem Ag.disk {L':List Ad} {l:List UInt8} {v:Value} (h:Ag (fun k=> ¬ A0 b mv f m L k) w v l) (ht:Turned (A0 b mv f m L) w w1) (hL: ∀ k,A0 b mv f m L' k→A0 b mv f m L k∨w.heap.size≤k):Ag (fun k=> ¬ A0 b mv f m L' k) w1 v l:=
 (h.low.turned ht fun _ hk hc=>hk.1 hc).mono fun k hk hc=>by
  rcases hL k hc with hc | hc
  ·exact hk.1 hc
  ·omega
theorem SW.below (h:SW w w1 b f m L L1 d1 s mv sv mn sv' fv hv F H) (hb:Below w1.heap.size w1 w2):SW w w2 b f m L L1 d1 s mv sv mn sv' fv hv F H:=
 ⟨h.sj.below hb,h.tu.trans (Turned.below (S:=fun _=>False) hb) fun _ h=>h.elim,h.sub,h.sg.below hb,h.fb.below hb,h.hb.below hb,h.mb.below hb,h.nf⟩
theorem SW.disk (h:SW w w1 b f m L L1 d1 s mv sv mn sv' fv hv F H) (hp:FsPost w1 f m L1 d2 w2): ∃ L2,SW w w2 b f m L L2 d2 s mv sv mn sv' fv hv F H:=by
 obtain⟨L2,h1,h2,h3⟩:=h.sj.disk hp
 refine⟨L2,h1,h.tu.trans h2 h.sub,fun k hk=> ?_,h.sg.disk h2 h3,h.fb.disk h2 h3,h.hb.disk h2 h3,(h2.block _ h.mb.lt h.nf).trans h.mb,fun hc=> ?_⟩
 ·rcases h3 k hk with hk | hk
  ·exact h.sub k hk
  ·exact .inr (μ h.tu.size hk)
 ·rcases h3 _ hc with hc | hc
  ·exact h.nf hc
  ·exact Nat.lt_irrefl _ (Nat.lt_of_lt_of_le h.mb.lt hc)
theorem SW.post (h:SW w w1 b f m L L1 d1 s mv sv mn sv' fv hv F H):Dc w b f m L mv d1 s w1:=⟨L1,mv,sv,h.sj,h.tu,h.sub⟩
theorem SW.c3 (h:SW w w1 b f m L L1 d1 s mv sv mn sv' fv hv F H):w1.cell? ⟨b,3,none⟩=some (.pointer (some ⟨f,0,none⟩)):=h.sj.blk.cell 3
theorem Ag.off {L1:List Ad} {l:List UInt8} {v:Value} (h:Ag (fun k=> ¬ A0 b mv f m L1 k) w v l):Ag (fun k=> ¬ foot f m L1 k) w v l:=h.mono fun _ hk hc=>hk (.inr (.inr hc))
def sealR (s:Cb) (F H:List UInt8) (mn:B3):List Io:=[opAppend (segN s.man) F,opSync (segN s.man),opCreate (Aa (lastSg mn).num),opAppend (Aa (lastSg mn).num) H,opSync (Aa (lastSg mn).num)]++Cf mn
def SealQ (w:World) (b f m:Nat) (L:List Ad) (mv:Value) (s:Cb) (H:List UInt8) (mn:B3) (R:Ab×Int) (e:Ending) (w':World):Prop:=
 e= .returned (.int .i64 R.2)∧Dc w b f m L mv R.1 (if R.2=0 then {s with count:=0,size:=H.length,marks:=[],man:=mn} else s) w'
theorem stoSeal_any (mn:B3) (sv' fv hv:Value) (F H:List UInt8) (h:SJ w b f m L d s mv sv) (hs:d.steps+20<4611686018427387904) (hr:Dl (fun k=> ¬ A0 b mv f m L k) w sv' mn.segs) (hok:Bt mn=true) (hsg:s.man.segs≠ []) (hne:(lastSg mn).num≠(lastSg s.man).num)
  (hF:Ag (fun k=> ¬ A0 b mv f m L k) w fv F) (hH:Ag (fun k=> ¬ A0 b mv f m L k) w hv H):
  Calls Tryz.prog 83 #[.pointer (some ⟨b,0,none⟩),mnV mn sv',fv,hv] w (SealQ w b f m L mv s H mn (Aw d (sealR s F H mn))):=by
 obtain⟨oa,cap,rfl,hl1,hl2,hc⟩:=id hr
 obtain⟨gb,off,rfl,hgo,hgr⟩:=hc _ _ (J2 (manOk_segs hok))
 have hb0:=below_alloc w (.cells (mnCs mn (.slice (some ⟨gb,off,none⟩) mn.segs.length cap)) 69)
 have HW:=Qh (show SW w (w.alloc (.cells (mnCs mn (.slice (some ⟨gb,off,none⟩) mn.segs.length cap)) 69)) b f m L L d s mv sv mn _ fv hv F H from
  ⟨h.below hb0,Turned.below hb0,fun _ h=> .inl h,hr.below hb0,hF.below hb0,hH.below hb0,A4 w mn _,fun hc=>Nat.lt_irrefl _ (h.lt _ hc)⟩)
 obtain⟨of,cf,rfl,_,_⟩:=id hF
 obtain⟨oh,ch,rfl,_,_⟩:=id hH
 have HSG:=Qh hsg
 have HOK:=Qh hok
 have HNE:=Qh hne
 have HST:=Qh hs
 clear h hs hr hok hsg hne hb0 hc hgo hgr hF hH
 unfold sealR
 simp only [List.cons_append,List.nil_append]
 obtain⟨R,hR⟩: ∃ R,Aw d (opAppend (segN s.man) F::opSync (segN s.man)::opCreate (Aa (lastSg mn).num)::opAppend (Aa (lastSg mn).num) H::opSync (Aa (lastSg mn).num)::Cf mn)=R:=⟨_,rfl⟩
 rw [hR]
 simp only [mnCs] at HW
 go_enter Tryz.func83,Tryz.ntmps83
 go_wp2_with fail
 generalize w.alloc (.cells #[.int .i64 mn.gen,.int .i64 mn.next,.int .i64 mn.floor,.int .i64 mn.snap,.int .i64 mn.snapSeq,.slice (some ⟨gb,off,none⟩) mn.segs.length cap] 69)=w0 at*
 have HNM:=Qh (fun W (hB:Below w0.heap.size w0 W)=>Fc (HW.out.sj.below hB) HSG.out)
 have hbd:Below w0.heap.size w0 (World.drew w0):=below_drewN' w0 1
 refine ω (S:=fun w'=>w'.cell? ⟨b,3,none⟩=some (.pointer (some ⟨f,0,none⟩))) (by kernel_rfl) HW.out.c3 (fun hHeld=> ?_)
 have FX1:=Qh (fun(wF:World) (hSw:(fun w'=>w'.cell? ⟨b,3,none⟩=some (.pointer (some ⟨f,0,none⟩))) wF)=>(hSw))
 refine tf FX1 0 rfl ?_
 refine tf FX1 1 rfl ?_
 refine tf FX1 2 rfl ?_
 refine tf FX1 3 rfl ?_
 refine tf FX1 4 rfl ?_
 refine tf FX1 6 rfl ?_
 clear FX1
 replace HW:=Qh (show SW w (World.drew w0) b f m L _ _ s mv sv mn _ _ _ F H from HW.out.below hbd)
 generalize World.drew _=Wd at*
 refine Rd 5 rfl fun K hK=> ?_
 go_simp
 refine(HNM.out _ hbd).mono ?_
 rintro e We ⟨rfl,hb⟩
 replace HW:=Qh (HW.out.below hb)
 clear hb HNM hbd
 go_wp2_with fail
 refine hK.out _ _ HW.out.c3 (fun hHeld=> ?_)
 clear hK K
 refine Rd 7 rfl fun K hK=> ?_
 go_simp
 refine(Iq We f m _ _ HW.out.sj.fs (by have:=HST.out;omega) (segN s.man) F _ HW.out.fb.off).mono ?_
 rintro e w1 ⟨rfl,hfp⟩
 obtain⟨L1,hw⟩:=HW.out.disk hfp
 replace HW:=Qh hw
 clear hw hfp
 go_wp2_with fail
 refine hK.out _ _ HW.out.c3 (fun hHeld=> ?_)
 clear hK K
 refine tq 8 rfl ?_
 refine Λ (by kernel_rfl) ?_ _
 have hst1:=A3 d (opAppend (segN s.man) F)
 rcases hE:((Aq d (opAppend (segN s.man) F)).2.2.2==0) with _ | _
 ·have hE2: ¬ (Aq d (opAppend (segN s.man) F)).2.2.2=0:=by simpa using hE
  rw [Be hE2] at hR
  subst hR
  have HX:=Qh HW.out.post
  clear HW HST hst1
  generalize (Aq d (opAppend (segN s.man) F)).2.2.2=E at*
  go_wp2
  go_ret
  exact⟨rfl,by rw [γ hE2];exact HX.out⟩
 have hE2:(Aq d (opAppend (segN s.man) F)).2.2.2=0:=by simpa using hE
 rw [Ce hE2] at hR
 rw [hE2]
 replace HST:=Qh (show (Aq d (opAppend (segN s.man) F)).1.steps+18<4611686018427387904 from by have:=HST.out;omega)
 clear hE hE2 hst1
 generalize (Aq d (opAppend (segN s.man) F)).1=d1 at*
 go_wp2_with fail
 have HNM:=Qh (fun W (hB:Below w1.heap.size w1 W)=>Fc (HW.out.sj.below hB) HSG.out)
 have hbd:Below w1.heap.size w1 (World.drew w1):=below_drewN' w1 1
 refine ω (S:=fun w'=>w'.cell? ⟨b,3,none⟩=some (.pointer (some ⟨f,0,none⟩))) (by kernel_rfl) HW.out.c3 (fun hHeld=> ?_)
 have FX2:=Qh (fun(wF:World) (hSw:(fun w'=>w'.cell? ⟨b,3,none⟩=some (.pointer (some ⟨f,0,none⟩))) wF)=>(hSw))
 refine tf FX2 0 rfl ?_
 refine tf FX2 1 rfl ?_
 refine tf FX2 2 rfl ?_
 refine tf FX2 3 rfl ?_
 refine tf FX2 4 rfl ?_
 clear FX2
 replace HW:=Qh (show SW w (World.drew w1) b f m L _ _ s mv sv mn _ _ _ F H from HW.out.below hbd)
 generalize World.drew _=Wd at*
 refine Rd 5 rfl fun K hK=> ?_
 go_simp
 refine(HNM.out _ hbd).mono ?_
 rintro e We ⟨rfl,hb⟩
 replace HW:=Qh (HW.out.below hb)
 clear hb HNM hbd
 go_wp2_with fail
 refine hK.out _ _ HW.out.c3 (fun hHeld=> ?_)
 clear hK K
 refine Rd 6 rfl fun K hK=> ?_
 go_simp
 refine(Hq We f m _ _ HW.out.sj.fs (by have:=HST.out;omega) (segN s.man)).mono ?_
 rintro e w2 ⟨rfl,hfp⟩
 obtain⟨L2,hw⟩:=HW.out.disk hfp
 replace HW:=Qh hw
 clear hw hfp
 go_wp2_with fail
 refine hK.out _ _ HW.out.c3 (fun hHeld=> ?_)
 clear hK K
 refine tq 7 rfl ?_
 refine Λ (by kernel_rfl) ?_ _
 have hst2:=A3 d1 (opSync (segN s.man))
 rcases hE:((Aq d1 (opSync (segN s.man))).2.2.2==0) with _ | _
 ·have hE2: ¬ (Aq d1 (opSync (segN s.man))).2.2.2=0:=by simpa using hE
  rw [Be hE2] at hR
  subst hR
  have HX:=Qh HW.out.post
  clear HW HST hst2
  generalize (Aq d1 (opSync (segN s.man))).2.2.2=E at*
  go_wp2
  go_ret
  exact⟨rfl,by rw [γ hE2];exact HX.out⟩
 have hE2:(Aq d1 (opSync (segN s.man))).2.2.2=0:=by simpa using hE
 rw [Ce hE2] at hR
 rw [hE2]
 replace HST:=Qh (show (Aq d1 (opSync (segN s.man))).1.steps+16<4611686018427387904 from by have:=HST.out;omega)
 clear hE hE2 hst2
 generalize (Aq d1 (opSync (segN s.man))).1=d2 at*
 have C5:=Qh (show w2.cell? ⟨w.heap.size,5,none⟩=some (.slice (some ⟨gb,off,none⟩) mn.segs.length cap) from HW.out.mb.cell 5)
 have CN:=Qh (show w2.cell? ⟨gb,off+(mn.segs.length - 1)*4,none⟩=some (.int .i64 (lastSg mn).num) from by
  obtain⟨_,_,e,_,_,hc⟩:=HW.out.sg
  simp only [Value.slice.injEq] at e
  obtain⟨rfl,_,rfl⟩:=e
  obtain⟨_,_,e,_,hgr⟩:=hc _ _ (J2 (manOk_segs HOK.out))
  simp only [Option.some.injEq,Addr.mk.injEq,and_true] at e
  obtain⟨rfl,rfl⟩:=e
  exact hgr 0 _ rfl)
 have hp:=Ψ.2 (manOk_segs HOK.out)
 obtain⟨k,hk⟩: ∃ k,k=mn.segs.length:=⟨_,rfl⟩
 rw [←hk] at C5 CN hp HW hl1
 have q0:0<k:=hp
 have qm:k - 1<k:=by omega
 have qn:((k - 1:Nat):Int)<(k:Int):=by omega
 have hwn:IntKind.i64.wrap ((k:Int) - 1)=((k - 1:Nat):Int):=by rw [κ];omega
 rw [←hk]
 have HK:=Qh hk
 clear hk
 have c5:=C5.out
 have cn:=CN.out
 go_wp2_with fail
 refine(Gf (lastSg mn).num w2).mono ?_
 rintro e We ⟨rfl,hb⟩
 replace HW:=Qh (HW.out.below hb)
 clear hb c5 cn C5 CN
 have c3:=HW.out.c3
 go_wp2_with fail
 refine(create_any We f m _ _ HW.out.sj.fs (by have:=HST.out;omega) (Aa (lastSg mn).num)).mono ?_
 rintro e w3 ⟨rfl,hfp⟩
 obtain⟨L3,hw⟩:=HW.out.disk hfp
 replace HW:=Qh hw
 clear hw hfp c3
 have hst3:=A3 d2 (opCreate (Aa (lastSg mn).num))
 rcases hE:((Aq d2 (opCreate (Aa (lastSg mn).num))).2.2.2==0) with _ | _
 ·have hE2: ¬ (Aq d2 (opCreate (Aa (lastSg mn).num))).2.2.2=0:=by simpa using hE
  rw [Be hE2] at hR
  subst hR
  have HX:=Qh HW.out.post
  clear HW HST hst3
  generalize (Aq d2 (opCreate (Aa (lastSg mn).num))).2.2.2=E at*
  go_wp2
  go_ret
  exact⟨rfl,by rw [γ hE2];exact HX.out⟩
 have hE2:(Aq d2 (opCreate (Aa (lastSg mn).num))).2.2.2=0:=by simpa using hE
 rw [Ce hE2] at hR
 rw [hE2]
 replace HST:=Qh (show (Aq d2 (opCreate (Aa (lastSg mn).num))).1.steps+14<4611686018427387904 from by have:=HST.out;omega)
 clear hE hE2 hst3
 generalize (Aq d2 (opCreate (Aa (lastSg mn).num))).1=d3 at*
 have c3:=HW.out.c3
 go_wp2_with fail
 refine(Iq w3 f m _ _ HW.out.sj.fs (by have:=HST.out;omega) (Aa (lastSg mn).num) H _ HW.out.hb.off).mono ?_
 rintro e w4 ⟨rfl,hfp⟩
 obtain⟨L4,hw⟩:=HW.out.disk hfp
 replace HW:=Qh hw
 clear hw hfp c3
 have hst4:=A3 d3 (opAppend (Aa (lastSg mn).num) H)
 rcases hE:((Aq d3 (opAppend (Aa (lastSg mn).num) H)).2.2.2==0) with _ | _
 ·have hE2: ¬ (Aq d3 (opAppend (Aa (lastSg mn).num) H)).2.2.2=0:=by simpa using hE
  rw [Be hE2] at hR
  subst hR
  have HX:=Qh HW.out.post
  clear HW HST hst4
  generalize (Aq d3 (opAppend (Aa (lastSg mn).num) H)).2.2.2=E at*
  go_wp2
  go_ret
  exact⟨rfl,by rw [γ hE2];exact HX.out⟩
 have hE2:(Aq d3 (opAppend (Aa (lastSg mn).num) H)).2.2.2=0:=by simpa using hE
 rw [Ce hE2] at hR
 rw [hE2]
 replace HST:=Qh (show (Aq d3 (opAppend (Aa (lastSg mn).num) H)).1.steps+12<4611686018427387904 from by have:=HST.out;omega)
 clear hE hE2 hst4
 generalize (Aq d3 (opAppend (Aa (lastSg mn).num) H)).1=d4 at*
 have c3:=HW.out.c3
 go_wp2_with fail
 refine(Hq w4 f m _ _ HW.out.sj.fs (by have:=HST.out;omega) (Aa (lastSg mn).num)).mono ?_
 rintro e w5 ⟨rfl,hfp⟩
 obtain⟨L5,hw⟩:=HW.out.disk hfp
 replace HW:=Qh hw
 clear hw hfp c3
 have hst5:=A3 d4 (opSync (Aa (lastSg mn).num))
 rcases hE:((Aq d4 (opSync (Aa (lastSg mn).num))).2.2.2==0) with _ | _
 ·have hE2: ¬ (Aq d4 (opSync (Aa (lastSg mn).num))).2.2.2=0:=by simpa using hE
  rw [Be hE2] at hR
  subst hR
  have HX:=Qh HW.out.post
  clear HW HST hst5
  generalize (Aq d4 (opSync (Aa (lastSg mn).num))).2.2.2=E at*
  go_wp2
  go_ret
  exact⟨rfl,by rw [γ hE2];exact HX.out⟩
 have hE2:(Aq d4 (opSync (Aa (lastSg mn).num))).2.2.2=0:=by simpa using hE
 rw [Ce hE2] at hR
 rw [hE2]
 replace HST:=Qh (show (Aq d4 (opSync (Aa (lastSg mn).num))).1.steps+10<4611686018427387904 from by have:=HST.out;omega)
 clear hE hE2 hst5
 generalize (Aq d4 (opSync (Aa (lastSg mn).num))).1=d5 at*
 go_wp2_with (with_reducible refine wpList_load_mn rfl (.tmp 5) rfl w.heap.size mn (.slice (some ⟨gb,off,none⟩) k cap) rfl HW.out.mb ?_)
 have hsv:=stoSave_any mn (.slice (some ⟨gb,off,none⟩) k cap) H.length HW.out.sj (by have:=HST.out;omega) HW.out.sg HOK.out HSG.out HNE.out
 rw [hR] at hsv
 refine hsv.mono ?_
 rintro e w6 ⟨rfl,hpo⟩
 have HPO:=Qh (hpo.then HW.out.tu HW.out.sub)
 clear hpo hsv
 go_wp2
 go_ret
 exact⟨rfl,HPO.out⟩
end
section
variable {w w1 w2 : World} {b f m : Nat} {L L1 : List Ad} {d d1 d2 : Ab} {s s' : Cb} {mv sv : Value}
theorem wp_appMk {o:Oper} {a:Act} {Q:Exit→Act→World→Prop} {K:Act→World→Prop} {w:World} (x y:Operand) (ho:o.op= .call {callee:= .builtin .append,args:= #[x,y],argTypes:= #[78,78]}) {v:Value} {ms:List Mk} (p:Mk)
  (hs:a.eval x=v) (hy:a.eval y= .slice (some ⟨w.heap.size,0,none⟩) 1 1) (hown:Cm w 0 v ms) (hl:ms.length≤100000)
  (h: ∀ v' w',Cm w' 0 v' (ms++[p])→Turned (fun k=>v.ownBlock=some k) w w'→v'.oneCell'=true→(∀ k,v'.ownBlock=some k→v.ownBlock=some k∨w.heap.size≤k)→K (a.put o.dst v') w'):o.wp Tryz.prog a (w.alloc (.cells #[.int .i64 p.s,.int .i64 p.p] 135)) K Q:=by
 obtain⟨i0,hi,hz0,hz1,hz2⟩:=info_parts infoMk
 have hb:=below_alloc w (.cells #[.int .i64 p.s,.int .i64 p.p] 135)
 obtain⟨v',w',hr,hown',hg,hnew⟩:=F6 (P:=Tryz.prog) (w.alloc (.cells #[.int .i64 p.s,.int .i64 p.p] 135)) 0 78 o.type 135 i0 (mkV ⟨0,0⟩) 2 16 Tryz.underlying78 hi hz0 hz1 hz2 rfl (by decide) v ms.length (Id ms) (hown.later hb) ⟨w.heap.size,0,none⟩ 1 1 [.int .i64 p.s,.int .i64 p.p] rfl (fun j u hj=>by
  rw [Bc,Nat.zero_add,World.cell?_alloc_new]
  simpa using hj) (fun u hu=>by
  simp at hu;rcases hu with rfl | rfl<;>rfl) (by unfold maxLen;omega) (by omega) (θ _) (by decide)
 unfold Oper.wp execOp
 simp only [ho,resolve,invoke,builtin,Sem.run_bind,Sem.run_pure,Result.andThen_ok,List.map_toArray,List.map_cons,List.map_nil,hs,hy,hr]
 refine h v' w' ?_ ((Turned.below hb).trans (Turned.grown (S:=fun k=>v.ownBlock=some k) hg fun _ hk=>hk) fun _ h=> .inl h) ?_ fun k hk=> ?_
 ·unfold Cm
  rw [η,mkCells_snoc]
  exact hown'
 ·obtain⟨_,_,e,_⟩:=Ac hown';rw [e];rfl
 ·rcases hnew with h | h
  ·exact .inl (h▸hk)
  ·rw [h] at hk
   have:=ψ hk
   have:=hb.size
   exact .inr (by omega)
theorem SJ.mark (h:SJ w b f m L d s mv sv) {v':Value} (hm:Cm w1 0 v' s'.marks) (ht:Turned (fun k=>mv.ownBlock=some k) w w1) (hn: ∀ k,v'.ownBlock=some k→mv.ownBlock=some k∨w.heap.size≤k)
  (e:(Gw f s mv sv).setIfInBounds 2 v'=Gw f s' v' sv) (e2:s'.man.segs=s.man.segs):SJ (w1.setCell ⟨b,2,none⟩ v') b f m L d s' v' sv∧Turned (A0 b mv f m L) w (w1.setCell ⟨b,2,none⟩ v')∧ ∀ k,A0 b v' f m L k→A0 b mv f m L k∨w.heap.size≤k:=by
 have hs:Turned (fun k=>k=b) w1 (w1.setCell ⟨b,2,none⟩ v'):=Turned.setCell _ _ _ rfl
 have ha:Turned (fun k=>mv.ownBlock=some k∨k=b) w (w1.setCell ⟨b,2,none⟩ v'):=(ht.mono fun _ hk=> .inl hk).trans hs fun _ hk=> .inl (.inr hk)
 have hb:B0 w1 b f s mv sv:=h.blk.keep (ht.block b h.blk.lt h.sep.2.1)
 have hsub: ∀ k,A0 b v' f m L k→A0 b mv f m L k∨w.heap.size≤k:=by
  rintro k (hk | hk | hk)
  ·exact .inl (.inl hk)
  ·exact(hn k hk).imp (fun x=> .inr (.inl x)) id
  ·exact .inl (.inr (.inr hk))
 refine⟨⟨hb.set 2 v' e,h.fs.turned ha (fun k hk hc=> ?_),hm.kept' (fun k hk=>hs.block k (mk_lt hm k hk) fun hc=> ?_),?_,h.nib.turned ha (fun hc=> ?_) h.nib.lt,⟨μ h.gl.1 ha.size,fun k hk hc=> ?_⟩,h.sep.1,fun hc=> ?_,fun k hk hc=> ?_⟩,ha.mono fun k hk=> ?_,hsub⟩
 ·rcases hc with hc | hc
  ·exact h.sep.2.2 k hc hk
  ·exact h.sep.1 (hc▸hk)
 ·rcases hn k hk with h1 | h1
  ·exact h.sep.2.1 (hc▸h1)
  ·have:=h.blk.lt;omega
 ·rw [e2]
  refine(h.sg.low.turned ha fun k hk hc=>hk.1 ?_).mono fun k hk hc=> ?_
  ·rcases hc with hc | hc
   ·exact .inr (.inl hc)
   ·exact .inl hc
  ·rcases hsub k hc with hc | hc
   ·exact hk.1 hc
   ·omega
 ·rcases hc with hc | hc
  ·exact h.gl.2 _ (by decide) (.inr (.inl hc))
  ·exact h.gl.2 _ (by decide) (.inl hc)
 ·rcases hsub k hc with hc | hc
  ·exact h.gl.2 k hk hc
  ·have:=h.gl.1;omega
 ·rcases hn b hc with h1 | h1
  ·exact h.sep.2.1 h1
  ·have:=h.blk.lt;omega
 ·rcases hn k hk with h1 | h1
  ·exact h.sep.2.2 k h1 hc
  ·have:=h.fs.lt k hc;omega
 ·rcases hk with hk | hk
  ·exact .inr (.inl hk)
  ·exact .inl hk
def PushQ (w:World) (b f m:Nat) (L:List Ad) (mv:Value) (R:(Int×Int)×Cb×Ab) (e:Ending) (w':World):Prop:=e= .returned (.tuple #[.int .i64 R.1.1,.int .i64 R.1.2])∧Dc w b f m L mv R.2.2 R.2.1 w'
end
section
variable {w : World} {b f m : Nat} {L : List Ad} {d : Ab} {s : Cb} {mv sv : Value}
def SyncQ (w:World) (b f m:Nat) (L:List Ad) (mv:Value) (s:Cb) (R:Ab×Int) (e:Ending) (w':World):Prop:=e= .returned (.int .i64 R.2)∧Dc w b f m L mv R.1 (shutS s R.2) w'
theorem stoSync_any (h:SJ w b f m L d s mv sv) (hsg:s.man.segs≠ []) (hst:d.steps<4611686018427387904) (hc:s.closed=false) (hd:d.down=false):
  Calls Tryz.prog 27 #[.pointer (some ⟨b,0,none⟩)] w (SyncQ w b f m L mv s ((Aq d (opSync (segN s.man))).1,(Aq d (opSync (segN s.man))).2.2.2)):=by
 have HAL:=Qh (Do h hc hd)
 have HJ:=Qh h
 have HST:=Qh hst
 have HNM:=Qh (fun W (hB:Below w.heap.size w W)=>Fc (h.below hB) hsg)
 clear h hsg hst hc hd
 obtain⟨D,hD⟩: ∃ D,(Aq d (opSync (segN s.man))).1=D:=⟨_,rfl⟩
 obtain⟨E,hE⟩: ∃ E,(Aq d (opSync (segN s.man))).2.2.2=E:=⟨_,rfl⟩
 rw [hD,hE]
 have HD:=Qh hD
 have HE:=Qh hE
 clear hD hE
 go_enter Tryz.func27,Tryz.ntmps27
 go_wp2_with fail
 refine HAL.out.mono ?_
 rintro e w1 ⟨rfl,rfl⟩
 go_wp2_with fail
 have hbd:Below w.heap.size w (World.drew w):=below_drewN' w 1
 refine ω (S:=fun w'=>w'.cell? ⟨b,3,none⟩=some (.pointer (some ⟨f,0,none⟩))) (by kernel_rfl) (HJ.out.blk.cell 3) (fun hHeld=> ?_)
 have FX1:=Qh (fun(wF:World) (hSw:(fun w'=>w'.cell? ⟨b,3,none⟩=some (.pointer (some ⟨f,0,none⟩))) wF)=>(hSw))
 refine tf FX1 0 rfl ?_
 refine tf FX1 1 rfl ?_
 refine tf FX1 2 rfl ?_
 refine tf FX1 3 rfl ?_
 refine tf FX1 4 rfl ?_
 refine tf FX1 5 rfl ?_
 clear FX1
 generalize World.drew w=Wd at*
 refine Rd 6 rfl fun K hK=> ?_
 go_simp
 refine(HNM.out _ hbd).mono ?_
 rintro e w2 ⟨rfl,hb2⟩
 have HB2:=Qh (Below.next hbd hb2)
 have HJ2:=Qh (HJ.out.below HB2.out)
 clear hb2 hbd HNM HAL
 go_wp2_with fail
 refine hK.out _ _ (HJ2.out.blk.cell 3) (fun hHeld=> ?_)
 clear hK K
 refine Rd 7 rfl fun K hK=> ?_
 go_simp
 refine(Hq w2 f m d L HJ2.out.fs HST.out (segN s.man)).mono ?_
 rw [HD.out,HE.out]
 rintro e w3 ⟨rfl,hfp⟩
 obtain⟨L3,hj3,ht3,hl3⟩:=HJ2.out.disk hfp
 have HJ3:=Qh hj3
 have HT3:=Qh (show Turned (A0 b mv f m L) w w3 from(Turned.below HB2.out).trans ht3 fun _ h=> .inl h)
 have HL3:=Qh (fun k (hk:A0 b mv f m L3 k)=>show A0 b mv f m L k∨w.heap.size≤k from(hl3 k hk).imp id (μ HB2.out.size))
 clear hfp hj3 ht3 hl3
 go_wp2_with fail
 refine hK.out _ _ (HJ3.out.blk.cell 3) (fun hHeld=> ?_)
 clear hK K
 refine Rd 8 rfl fun K hK=> ?_
 go_simp
 refine(K6 E HJ3.out).mono ?_
 rintro e w4 ⟨rfl,hj4,ht4⟩
 have HJ4:=Qh hj4
 have HT4:=Qh (HT3.out.trans ht4 HL3.out)
 clear hj4 ht4
 go_wp2_with fail
 refine hK.out _ _ (HJ4.out.blk.cell 3) (fun hHeld=> ?_)
 clear hK K
 refine tq 9 rfl ?_
 refine Λ (by kernel_rfl) ?_ _
 go_wp2
 go_ret
 exact⟨rfl,L3,mv,sv,HJ4.out,HT4.out,HL3.out⟩
def CloseQ (w:World) (b f m:Nat) (L:List Ad) (mv:Value) (s:Cb) (R:Ab×Int) (e:Ending) (w':World):Prop:=e= .returned (.int .i64 R.2)∧Dc w b f m L mv R.1 {s with closed:=true} w'
theorem stoClose_any (h:SJ w b f m L d s mv sv) (hsg:s.man.segs≠ []) (hst:d.steps<4611686018427387904) (hc:s.closed=false) (hd:d.down=false):
  Calls Tryz.prog 28 #[.pointer (some ⟨b,0,none⟩)] w (CloseQ w b f m L mv s ((Aq d (opSync (segN s.man))).1,(Aq d (opSync (segN s.man))).2.2.2)):=by
 have HAL:=Qh (Do h hc hd)
 have HJ:=Qh h
 have HST:=Qh hst
 have HNM:=Qh (fun W (hB:Below w.heap.size w W)=>Fc (h.below hB) hsg)
 clear h hsg hst hc hd
 obtain⟨D,hD⟩: ∃ D,(Aq d (opSync (segN s.man))).1=D:=⟨_,rfl⟩
 obtain⟨E,hE⟩: ∃ E,(Aq d (opSync (segN s.man))).2.2.2=E:=⟨_,rfl⟩
 rw [hD,hE]
 have HD:=Qh hD
 have HE:=Qh hE
 clear hD hE
 go_enter Tryz.func28,Tryz.ntmps28
 go_wp2_with fail
 refine HAL.out.mono ?_
 rintro e w1 ⟨rfl,rfl⟩
 go_wp2_with fail
 have hbd:Below w.heap.size w (World.drew w):=below_drewN' w 1
 refine ω (S:=fun w'=>w'.cell? ⟨b,3,none⟩=some (.pointer (some ⟨f,0,none⟩))) (by kernel_rfl) (HJ.out.blk.cell 3) (fun hHeld=> ?_)
 have FX2:=Qh (fun(wF:World) (hSw:(fun w'=>w'.cell? ⟨b,3,none⟩=some (.pointer (some ⟨f,0,none⟩))) wF)=>(hSw))
 refine tf FX2 0 rfl ?_
 refine tf FX2 1 rfl ?_
 refine tf FX2 2 rfl ?_
 refine tf FX2 3 rfl ?_
 refine tf FX2 4 rfl ?_
 clear FX2
 generalize World.drew w=Wd at*
 refine Rd 5 rfl fun K hK=> ?_
 go_simp
 refine(HNM.out _ hbd).mono ?_
 rintro e w2 ⟨rfl,hb2⟩
 have HB2:=Qh (Below.next hbd hb2)
 have HJ2:=Qh (HJ.out.below HB2.out)
 clear hb2 hbd HNM HAL
 go_wp2_with fail
 refine hK.out _ _ (HJ2.out.blk.cell 3) (fun hHeld=> ?_)
 clear hK K
 refine Rd 6 rfl fun K hK=> ?_
 go_simp
 refine(Hq w2 f m d L HJ2.out.fs HST.out (segN s.man)).mono ?_
 rw [HD.out,HE.out]
 rintro e w3 ⟨rfl,hfp⟩
 obtain⟨L3,hj3,ht3,hl3⟩:=HJ2.out.disk hfp
 have HJ3:=Qh hj3
 have HT3:=Qh (show Turned (A0 b mv f m L) w w3 from(Turned.below HB2.out).trans ht3 fun _ h=> .inl h)
 have HL3:=Qh (fun k (hk:A0 b mv f m L3 k)=>show A0 b mv f m L k∨w.heap.size≤k from(hl3 k hk).imp id (μ HB2.out.size))
 clear hfp hj3 ht3 hl3
 go_wp2_with fail
 refine hK.out _ _ (HJ3.out.blk.cell 3) (fun hHeld=> ?_)
 clear hK K
 refine tq 7 rfl ?_
 refine Λ (by kernel_rfl) ?_ _
 have f12:=HJ3.out.blk.free 12
 have c12:w3.cell? ⟨b,12,none⟩=some (.bool s.closed):=HJ3.out.blk.cell 12
 obtain⟨hj4,ht4⟩:=HJ3.out.set (s':={s with closed:=true}) (j:=12) (v:= .bool true) rfl rfl rfl
 have HJ4:=Qh hj4
 have HT4:=Qh (HT3.out.trans ht4 HL3.out)
 clear hj4 ht4
 go_wp2
 go_ret
 exact⟨rfl,L3,mv,sv,HJ4.out,HT4.out,HL3.out⟩
end
theorem sgCells_of: ∀ (l:List Sg) (j:Nat) (u:Value),(sgCells l)[j]? =some u→ ∃ g,l[j / 4]? =some g∧(sgCs g).toList[j % 4]? =some u
 | [],j,u,h=>by simp [sgCells] at h
 | g::r,j,u,h=>by
  unfold sgCells at h
  rw [List.flatMap_cons] at h
  by_cases hj:j<4
  ·rw [List.getElem?_append_left (by simpa [sgCs] using hj)] at h
   exact⟨g,by rw [Nat.div_eq_of_lt hj];rfl,by rw [Nat.mod_eq_of_lt hj];exact h⟩
  ·rw [List.getElem?_append_right (by simp [sgCs];omega)] at h
   obtain⟨x,h1,h2⟩:=sgCells_of r (j - 4) u (by unfold sgCells;rw [show (sgCs g).toList.length=4 from rfl] at h;exact h)
   refine⟨x,?_,?_⟩
   ·rw [show j / 4=(j - 4) / 4+1 by omega,List.getElem?_cons_succ];exact h1
   ·rw [show j % 4=(j - 4) % 4 by omega];exact h2
theorem sgSome_eq (w:World) (ad:Addr) (n cap:Nat):(binOp .eql 67 (.slice (some ad) n cap) (.slice none 0 0)).run Tryz.prog w= .ok (.bool false) w:=by kernel_rfl
def SgOwn (w:World) (B:Nat) (v:Value) (l:List Sg):Prop:=w.ownsRow B 72 4 v l.length (sgCells l)
theorem SgOwn.mono {w:World} {B B':Nat} {v:Value} {l:List Sg} (h:SgOwn w B v l) (hB:B'≤B):SgOwn w B' v l:=by
 refine⟨h.1,?_⟩
 rcases h.2 with hn | ⟨g,cap,cur,e,hb1,rest⟩
 ·exact .inl hn
 ·exact .inr ⟨g,cap,cur,e,μ hB hb1,rest⟩
theorem cloneSg_any (l:List Sg) (v:Value) (w:World) (hv:Jz w v l) (hne:l≠ []) (hn:l.length≤1000):
  Calls Tryz.prog 56 #[v] w fun e w'=> ∃ v',e= .returned v'∧SgOwn w' w.heap.size v' l∧Below w.heap.size w w':=by
 obtain⟨oa,cap,rfl,hl,hl2,hc⟩:=hv
 have hp:=Ψ.2 hne
 obtain⟨b,off,rfl,_⟩:=hc 0 (l[0]'hp) (Δ hp)
 have h1:=sgSome_eq w ⟨b,off,none⟩ l.length cap
 obtain⟨i0,hi,hz0,hz1,hz2⟩:=info_parts infoSg
 have HC:=Qh (show ∀ (j:Nat) (u:Value),(sgCells l)[j]? =some u→w.cell? ⟨b,off+j,none⟩=some u from fun j u hj=>by
  obtain⟨g,h2,h3⟩:=sgCells_of l j u hj
  obtain⟨b',off',e,hr⟩:=hc _ _ h2
  simp only [Option.some.injEq,Addr.mk.injEq,and_true] at e
  obtain⟨rfl,rfl⟩:=e
  have:=hr _ _ h3
  rwa [show off+j / 4*4+j % 4=off+j by omega] at this)
 have HCL:=Qh (show (sgCells l).length=l.length*4 from sgCells_length l)
 have HO:=Qh (show SgOwn (w.alloc (.cells #[] 72)) w.heap.size (.slice (some ⟨w.heap.size,0,none⟩) 0 0) [] from own_fresh w 72 4 w.heap.size (ξ _))
 have HB:=Qh (below_alloc w (.cells #[] 72))
 have HONE:=Qh (show ∀ u∈sgCells l,u.oneCell'=true from fun u hu=>by
  obtain⟨g,_,hg⟩:=List.mem_flatMap.1 hu
  simp [sgCs] at hg
  rcases hg with rfl | rfl | rfl | rfl<;>rfl)
 clear hc hl2
 go_enter Tryz.func56,Tryz.ntmps56
 go_wp2_with (at_builtin;refine wpList_append_ownB _ rfl _ _ 67 rfl w.heap.size 72 i0 zeroSg 4 32 Tryz.underlying67 hi hz0 hz1 hz2 rfl (by decide) _ 0 [] rfl HO.out ⟨b,off,none⟩ l.length cap (sgCells l) rfl (sgCells_length l) (fun j u hj=>by rw [Bc];exact cell_later HB.out (HC.out j u hj)) HONE.out (by unfold maxLen;omega) (by omega) HB.out.size hp ?_)
 intro v' w' h2 hg hnew
 have HF:=Qh (show SgOwn w' w.heap.size v' l from by unfold SgOwn;simpa using h2)
 have HG:=Qh (show Below w.heap.size w w' from HB.out.trans (Bf HO.out HB.out.size hg))
 clear h2 hg hnew
 go_wp2
 go_ret
 exact⟨_,rfl,HF.out,HG.out⟩
section
variable {w : World} {b f m : Nat} {L : List Ad} {d : Ab} {s : Cb} {mv sv : Value}
theorem B0.manAt {sv:Value} (h:B0 w b f s mv sv):w.rangeAt b 6 (mnCs s.man sv).toList:=fun j u hj=>by
 rw [h.cell]
 match j,hj with
 | 0,hj=>exact hj
 | 1,hj=>exact hj
 | 2,hj=>exact hj
 | 3,hj=>exact hj
 | 4,hj=>exact hj
 | 5,hj=>exact hj
theorem stoManifest_any (h:SJ w b f m L d s mv sv) (hc:s.closed=false) (hsg:s.man.segs≠ []) (hl:s.man.segs.length≤1000):
  Calls Tryz.prog 30 #[.pointer (some ⟨b,0,none⟩)] w fun e w'=> ∃ v',e= .returned (mnV s.man v')∧SgOwn w' w.heap.size v' s.man.segs∧Below w.heap.size w w':=by
 obtain⟨gb,off,cap,rfl,_,_,_⟩:=h.segs hsg
 have hb0:=below_alloc w (.cells (mnCs ⟨0,0,0,0,0,[]⟩ (.slice none 0 0)) 69)
 have HJ0:=Qh (h.below hb0)
 have HB0:=Qh hb0
 have HZ0:=Qh (A4 w ⟨0,0,0,0,0,[]⟩ (.slice none 0 0))
 have HCL:=Qh (by have:=Js HJ0.out;rw [hc] at this;exact this)
 have HSG:=Qh hsg
 have HLL:=Qh hl
 simp only [mnCs] at HJ0 HB0 HZ0 HCL
 clear h hc hsg hl hb0
 go_enter Tryz.func30,Tryz.ntmps30
 go_wp2_with fail
 refine HCL.out.mono ?_
 rintro e w1 ⟨rfl,rfl⟩
 generalize w.alloc (.cells #[.int .i64 0,.int .i64 0,.int .i64 0,.int .i64 0,.int .i64 0,.slice none 0 0] 69)=w0 at*
 go_wp2_with (with_reducible refine wpList_load_mnAt rfl (.tmp 9) rfl b 6 s.man (.slice (some ⟨gb,off,none⟩) s.man.segs.length cap) rfl HJ0.out.blk.manAt ?_)
 have hb1:=below_alloc w0 (.cells (mnCs s.man (.slice (some ⟨gb,off,none⟩) s.man.segs.length cap)) 69)
 have HM1:=Qh (A4 w0 s.man (.slice (some ⟨gb,off,none⟩) s.man.segs.length cap))
 have HR1:=Qh (HJ0.out.sg.row.below hb1)
 have HB1:=Qh (Below.next HB0.out hb1)
 have HZ1:=Qh (HZ0.out.below hb1)
 have HNE:=Qh (show ¬ w0.heap.size=w.heap.size from fun e=>by have:=HZ0.out.lt;omega)
 simp only [mnCs] at HM1 HR1 HB1 HZ1
 generalize w0.alloc (.cells #[.int .i64 s.man.gen,.int .i64 s.man.next,.int .i64 s.man.floor,.int .i64 s.man.snap,.int .i64 s.man.snapSeq,.slice (some ⟨gb,off,none⟩) s.man.segs.length cap] 69)=w1 at*
 refine(cloneSg_any s.man.segs _ w1 HR1.out HSG.out HLL.out).mono ?_
 rintro e w2 ⟨v2,rfl,ho2,hb2⟩
 obtain⟨o2,c2',rfl,_,_⟩:=Ac ho2
 have HM2:=Qh (HM1.out.below hb2)
 have c5:=HM2.out.c5
 have f5:w2.frozen? ⟨w0.heap.size,5,none⟩=false:=by have:=HM2.out;unfold Ah at this;simp [World.frozen?,this]
 have HM3:=Qh (show Ah (w2.setCell ⟨w0.heap.size,5,none⟩ (.slice o2 s.man.segs.length c2')) w0.heap.size s.man (.slice o2 s.man.segs.length c2') from HM2.out.set rfl)
 have ht3:Turned (fun k=>k=w0.heap.size) w2 (w2.setCell ⟨w0.heap.size,5,none⟩ (.slice o2 s.man.segs.length c2')):=Turned.setCell _ _ _ rfl
 have HT3:=Qh ht3
 have HO2:=Qh ho2
 have HB2:=Qh (Below.next HB1.out hb2)
 have HZ3:=Qh (show Ah (w2.setCell ⟨w0.heap.size,5,none⟩ (.slice o2 s.man.segs.length c2')) w.heap.size ⟨0,0,0,0,0,[]⟩ (.slice none 0 0) from(ht3.block _ (HZ1.out.below hb2).lt fun e=>HNE.out e.symm).trans (HZ1.out.below hb2))
 clear ho2 hb1 hb2 ht3
 go_wp2_with (first | with_reducible refine wpList_load_mn rfl (.tmp 3) rfl w0.heap.size s.man (.slice o2 s.man.segs.length c2') rfl HM3.out ?_ | with_reducible refine wpList_store_mn rfl (.tmp 2) (.tmp 15) rfl w.heap.size ⟨0,0,0,0,0,[]⟩ s.man (.slice none 0 0) (.slice o2 s.man.segs.length c2') rfl rfl HZ3.out (oneSl _ _ _) ?_)
 intro W hW
 have HW:=Qh (show Ah W w.heap.size s.man (.slice o2 s.man.segs.length c2') from by rw [hW.out];exact HZ3.out.row)
 have h4:Turned (fun k=>k=w.heap.size) (w2.setCell ⟨w0.heap.size,5,none⟩ (.slice o2 s.man.segs.length c2')) W:=by rw [hW.out];exact setRow_trn _ _ _
 have ht:Turned (fun k=>k=w0.heap.size∨k=w.heap.size) w2 W:=(HT3.out.mono (S':=fun k=>k=w0.heap.size∨k=w.heap.size) fun _ h=> .inl h).trans h4 fun _ h=> .inl (.inr h)
 have HO:=Qh (show SgOwn W w.heap.size (.slice o2 s.man.segs.length c2') s.man.segs from SgOwn.mono (B:=w1.heap.size) (own_turnedB' HO2.out ht fun k hk hc=>by
  have h1:=(World.ownsRow.lt HO2.out k hk).1
  have h2:=HM1.out.lt
  have h3:=HZ1.out.lt
  omega) HB1.out.size)
 have HB:=Qh (show Below w.heap.size w W from turned_blw HB2.out ht (fun k hk=>by
  rcases hk with rfl | rfl
  ·exact HB0.out.size
  ·exact ξ _) HB2.out.size)
 clear h4 ht hW
 go_wp2
 exact π (results_mn1 rfl _ _ _ _ _ rfl HW.out) rfl ⟨_,rfl,HO.out,HB.out⟩
theorem stoDecoded_any (h:SJ w b f m L d s mv sv) (hc:s.closed=false):Calls Tryz.prog 17 #[.pointer (some ⟨b,0,none⟩)] w fun e w'=>e= .returned (.int .i64 (s.decoded:Int))∧w=w':=by
 have HC:=Qh (by have:=Js h;rw [hc] at this;exact this)
 have c:w.cell? ⟨b,13,none⟩=some (.int .i64 (s.decoded:Int)):=h.blk.cell 13
 clear h hc
 go_enter Tryz.func17,Tryz.ntmps17
 go_wp2_with fail
 refine HC.out.mono ?_
 rintro e w1 ⟨rfl,rfl⟩
 go_wp2
 go_ret
 exact⟨rfl,rfl⟩
theorem stoLastP_any (h:SJ w b f m L d s mv sv) (hc:s.closed=false) (hs:SB s):Calls Tryz.prog 16 #[.pointer (some ⟨b,0,none⟩)] w fun e w'=>e= .returned (.int .i64 (lastE s))∧Below w.heap.size w w':=by
 have HC:=Qh (by have:=Js h;rw [hc] at this;exact this)
 have HL:=Qh (Dp h hs)
 clear h hc hs
 go_enter Tryz.func16,Tryz.ntmps16
 go_wp2_with fail
 refine HC.out.mono ?_
 rintro e w1 ⟨rfl,rfl⟩
 go_wp2_with fail
 refine HL.out.mono ?_
 rintro e w2 ⟨rfl,hb⟩
 have HB:=Qh hb
 clear hb
 go_wp2
 go_ret
 exact⟨rfl,HB.out⟩
end
theorem own_setIn {w:World} {B size n g cap j:Nat} {e:TypeId} {u:Value} {xs:List Value} (h:w.ownsRow B e size (.slice (some ⟨g,0,none⟩) n cap) n xs):(w.setCell ⟨g,j,none⟩ u).ownsRow B e size (.slice (some ⟨g,0,none⟩) n cap) n (xs.set j u):=by
 refine⟨by rw [List.length_set];exact h.1,?_⟩
 rcases h.2 with⟨hn,_⟩ | ⟨g',cap',cur,e1,hb1,hg,h1,h2,h3,h4⟩
 ·cases hn
 ·simp only [Value.slice.injEq,Option.some.injEq,Addr.mk.injEq,and_true,true_and] at e1
  obtain⟨rfl,rfl⟩:=e1
  refine .inr ⟨g,cap,cur.setIfInBounds j u,rfl,hb1,?_,h1,h2,by simp [h3],?_⟩
  ·simp only [World.setCell]
   rw [Array.getElem?_modify]
   simp [hg]
  ·rw [←h4,Array.toList_setIfInBounds,List.take_set]
theorem sgCells_set (l:List Sg) (g:Sg) (j:Nat) (u:Value):(sgCells (l++[g])).set (l.length*4+j) u=sgCells l++(sgCs g).toList.set j u:=by
 unfold sgCells
 rw [List.flatMap_append,List.set_append_right _ _ (by have:=sgCells_length l;unfold sgCells at this;omega)]
 have:=sgCells_length l
 unfold sgCells at this
 rw [this,Nat.add_sub_cancel_left]
 simp
theorem K3 (l:List Sg) (g:Sg):sgCells (l++[g])=sgCells l++(sgCs g).toList:=by simp [sgCells]
theorem wp_appSg {o:Oper} {a:Act} {Q:Exit→Act→World→Prop} {K:Act→World→Prop} {w:World} (x y:Operand) (ho:o.op= .call {callee:= .builtin .append,args:= #[x,y],argTypes:= #[67,67]}) {B:Nat} {v:Value} {l:List Sg} (p:Sg)
  (hs:a.eval x=v) (hy:a.eval y= .slice (some ⟨w.heap.size,0,none⟩) 1 1) (hown:SgOwn w B v l) (hB:B≤w.heap.size) (hl:l.length≤100000)
  (h: ∀ v' w',SgOwn w' B v' (l++[p])→Turned (fun k=>v.ownBlock=some k) w w'→v'.oneCell'=true→(∀ k,v'.ownBlock=some k→v.ownBlock=some k∨w.heap.size≤k)→K (a.put o.dst v') w'):o.wp Tryz.prog a (w.alloc (.cells (sgCs p) 72)) K Q:=by
 obtain⟨i0,hi,hz0,hz1,hz2⟩:=info_parts infoSg
 have hb:=below_alloc w (.cells (sgCs p) 72)
 obtain⟨v',w',hr,hown',hg,hnew⟩:=F6 (P:=Tryz.prog) (w.alloc (.cells (sgCs p) 72)) B 67 o.type 72 i0 zeroSg 4 32 Tryz.underlying67 hi hz0 hz1 hz2 rfl (by decide) v l.length (sgCells l) (own_later hown hb) ⟨w.heap.size,0,none⟩ 1 1 (sgCs p).toList rfl (fun j u hj=>by
  rw [Bc,Nat.zero_add,World.cell?_alloc_new]
  simpa using hj) (fun u hu=>by
  simp [sgCs] at hu;rcases hu with rfl | rfl | rfl | rfl<;>rfl) (by unfold maxLen;omega) (by omega) (μ hB hb.size) (by decide)
 unfold Oper.wp execOp
 simp only [ho,resolve,invoke,builtin,Sem.run_bind,Sem.run_pure,Result.andThen_ok,List.map_toArray,List.map_cons,List.map_nil,hs,hy,hr]
 refine h v' w' ?_ ((Turned.below hb).trans (Turned.grown (S:=fun k=>v.ownBlock=some k) hg fun _ hk=>hk) fun _ h=> .inl h) ?_ fun k hk=> ?_
 ·unfold SgOwn
  rw [η,K3]
  exact hown'
 ·obtain⟨_,_,e,_⟩:=Ac hown';rw [e];rfl
 ·rcases hnew with h | h
  ·exact .inl (h▸hk)
  ·rw [h] at hk
   have:=ψ hk
   have:=hb.size
   exact .inr (by omega)
section
variable {w : World} {b f m : Nat} {L : List Ad} {d : Ab} {s : Cb} {mv sv : Value}
theorem In {more:Nat} {e:Int} (h:Cv d s more=e) (h0:e≠0):Bn d s more=(e,s,if e=54 then rdD d s.size else d):=by unfold Bn;rw [h,γ h0]
def StepQ (w:World) (b f m:Nat) (L:List Ad) (mv:Value) (R:Int×Cb×Ab) (e:Ending) (w':World):Prop:=e= .returned (.int .i64 R.1)∧Dc w b f m L mv R.2.2 R.2.1 w'
structure TW (X W:World) (g:Nat) (mn:B3) (sv':Value):Prop where
 bl:Below X.heap.size X W
 own:SgOwn W X.heap.size sv' mn.segs
 man:Ah W g mn sv'
 gw:X.heap.size≤g
 ne: ∀ k,sv'.ownBlock=some k→k≠g
theorem TW.below {X W W':World} {g:Nat} {mn:B3} {sv':Value} (h:TW X W g mn sv') (hb:Below W.heap.size W W'):TW X W' g mn sv':=
 ⟨Below.next h.bl hb,own_later h.own hb,h.man.below hb,h.gw,h.ne⟩
theorem own_freeG {w:World} {B size g n cap:Nat} {e:TypeId} {xs:List Value} (h:w.ownsRow B e size (.slice (some ⟨g,0,none⟩) n cap) n xs) (j:Nat):w.frozen? ⟨g,j,none⟩=false:=by
 rcases h.2 with⟨hn,_⟩ | ⟨g',cap',cur,e1,_,hg,_⟩
 ·cases hn
 ·simp only [Value.slice.injEq,Option.some.injEq,Addr.mk.injEq,and_true,true_and] at e1
  obtain⟨rfl,rfl⟩:=e1
  simp [World.frozen?,hg]
theorem TW.put {X W:World} {g g4 k cap j:Nat} {mn mn':B3} {u:Value} (h:TW X W g mn (.slice (some ⟨g4,0,none⟩) k cap)) (hk:k=mn.segs.length) (hl:mn'.segs.length=mn.segs.length) (hc:(sgCells mn.segs).set j u=sgCells mn'.segs) (hm: ∀ v,mnCs mn v=mnCs mn' v):
  TW X (W.setCell ⟨g4,j,none⟩ u) g mn' (.slice (some ⟨g4,0,none⟩) k cap):=by
 subst hk
 have ho:=h.own
 have hg4:X.heap.size≤g4:=(World.ownsRow.lt ho g4 rfl).1
 refine⟨h.bl.setCell hg4 _,?_,?_,h.gw,h.ne⟩
 ·unfold SgOwn at ho ⊢
  rw [hl,←hc]
  exact own_setIn ho
 ·have hne:=h.ne g4 rfl
  have:=h.man.otherCell (k:=g4) (fun e=>hne e.symm) j u
  unfold Ah at this ⊢
  rw [←hm]
  exact this
theorem TW.set {X W:World} {g j:Nat} {mn mn':B3} {sv u:Value} (h:TW X W g mn sv) (hs:mn'.segs=mn.segs) (hc:(mnCs mn sv).setIfInBounds j u=mnCs mn' sv):TW X (W.setCell ⟨g,j,none⟩ u) g mn' sv:=by
 refine⟨h.bl.setCell h.gw _,?_,?_,h.gw,h.ne⟩
 ·rw [hs]
  unfold SgOwn
  exact own_turnedB' h.own (Turned.setCell (S:=fun k=>k=g) _ ⟨g,j,none⟩ _ rfl) fun k hk hc=>h.ne k hk hc
 ·have hm:=h.man
  unfold Ah at hm ⊢
  rw [←hc]
  simp only [World.setCell]
  rw [Array.getElem?_modify]
  simp [hm]
theorem TW.app {X W W':World} {g:Nat} {mn:B3} {sv v':Value} {p:Sg} (h:TW X W g mn sv) (hm:SgOwn W' X.heap.size v' (mn.segs++[p])) (ht:Turned (fun k=>sv.ownBlock=some k) W W') (hn: ∀ k,v'.ownBlock=some k→sv.ownBlock=some k∨W.heap.size≤k):
  Ah W' g mn sv∧TW X (W'.setCell ⟨g,5,none⟩ v') g {mn with segs:=mn.segs++[p]} v':=by
 have hk: ∀ k,sv.ownBlock=some k→X.heap.size≤k:=fun k hk=>(World.ownsRow.lt h.own k hk).1
 have hb:Ah W' g mn sv:=(ht.block g h.man.lt fun hc=>h.ne g hc rfl).trans h.man
 have hbl:=turned_blw h.bl ht hk h.bl.size
 refine⟨hb,hbl.setCell h.gw _,own_turnedB' hm (Turned.setCell (S:=fun k=>k=g) _ ⟨g,5,none⟩ _ rfl) fun k a c=> ?_,hb.set rfl,h.gw,fun k a c=> ?_⟩
 ·rcases hn k a with b | b
  ·exact h.ne k b c
  ·have:=h.man.lt;omega
 ·rcases hn k a with b | b
  ·exact h.ne k b c
  ·have:=h.man.lt;omega
theorem stoTurn_any (more:Nat) (x:A7) (h:SJ w b f m L d s mv sv) (hs:SB s) (hst:d.steps+60<4611686018427387904) (hc:s.closed=false) (hd:d.down=false)
  (hx:atF d.files (segN s.man)=some x) (hxl:s.size=x.data.length) (hsl:s.man.segs.length≤256)
  (hfo:s.count≠0→ ∀ v W,A2 W v x.data→NibTab W→Calls Tryz.prog 79 #[v,.int .i64 (s.stride:Int)] W (Bd W (Ei s,0)))
  (hmo:Cv d s more=0→Bt (turnM s)=true∧(lastSg (turnM s)).num≠(lastSg s.man).num) (hln:(Ei s).length+(Hi s).length+(Bs (turnM s)).1.length+more≤1000000) (hgn:s.man.gen≤1099511627776∧s.man.next≤1000000∧0≤s.man.gen∧0≤s.man.next):
  Calls Tryz.prog 52 #[.pointer (some ⟨b,0,none⟩),.int .i64 (more:Int)] w (StepQ w b f m L mv (Bn d s more)):=by
 obtain⟨gb,off,cap,rfl,hcp,_,_⟩:=h.segs hs.segs
 have HJ:=Qh h
 have HSB:=Qh hs
 have HST:=Qh hst
 have HC:=Qh hc
 have HD:=Qh hd
 have HX:=Qh hx
 have HXL:=Qh hxl
 have HFO:=Qh hfo
 have HMO:=Qh hmo
 have HLN:=Qh hln
 have HGN:=Qh hgn
 have HSL:=Qh hsl
 obtain⟨R,hR⟩: ∃ R,Bn d s more=R:=⟨_,rfl⟩
 rw [hR]
 have c0:w.cell? ⟨b,0,none⟩=some (.int .i64 (s.count:Int)):=h.blk.cell 0
 clear h hs hst hc hd hx hxl hsl hfo hmo hln hgn
 rcases hq:((s.count:Int)==0) with _ | _
 rotate_left
 ·rw [In (e:=93) (by unfold Cv;rw [ζ (by simpa using hq)]) (by decide),γ (by decide)] at hR
  subst hR
  go_enter Tryz.func52,Tryz.ntmps52
  go_wp2
  go_ret
  exact⟨rfl,Dc.same HJ.out⟩
 have hq0: ¬ s.count=0:=by simpa using hq
 have c11:w.cell? ⟨b,11,none⟩=some (.slice (some ⟨gb,off,none⟩) s.man.segs.length cap):=HJ.out.blk.cell 11
 obtain⟨n,hn⟩: ∃ n,n=s.man.segs.length:=⟨_,rfl⟩
 rw [←hn] at c11 hcp
 have HN:=Qh hn
 clear hn
 rcases hq2:decide ((256:Int)≤(n:Int)) with _ | _
 rotate_left
 ·rw [In (e:=90) (by unfold Cv;rw [γ hq0,ζ (by rw [←HN.out];have:=χ hq2;omega)]) (by decide),γ (by decide)] at hR
  subst hR
  clear hq0
  go_enter Tryz.func52,Tryz.ntmps52
  go_wp2
  go_ret
  exact⟨rfl,Dc.same HJ.out⟩
 have hq20: ¬ 256≤s.man.segs.length:=by rw [←HN.out];have:=ε hq2;omega
 have c7:w.cell? ⟨b,7,none⟩=some (.int .i64 s.man.next):=HJ.out.blk.cell 7
 have c6:w.cell? ⟨b,6,none⟩=some (.int .i64 s.man.gen):=HJ.out.blk.cell 6
 obtain⟨nx,hnx⟩: ∃ nx,nx=s.man.next:=⟨_,rfl⟩
 obtain⟨gn,hgn⟩: ∃ gn,gn=s.man.gen:=⟨_,rfl⟩
 rw [←hnx] at c7
 rw [←hgn] at c6
 have HNX:=Qh hnx
 have HGE:=Qh hgn
 clear hnx hgn
 rcases hq3:decide (999999<nx) with _ | _
 rotate_left
 ·rw [In (e:=91) (by unfold Cv;rw [γ hq0,γ hq20,ζ (.inl (by rw [←HNX.out];exact χ hq3))]) (by decide),γ (by decide)] at hR
  subst hR
  clear hq0 hq20
  go_enter Tryz.func52,Tryz.ntmps52
  go_wp2
  go_ret
  exact⟨rfl,Dc.same HJ.out⟩
 rcases hq4:decide (1099511627776≤gn) with _ | _
 rotate_left
 ·rw [In (e:=91) (by unfold Cv;rw [γ hq0,γ hq20,ζ (.inr (by rw [←HGE.out];exact χ hq4))]) (by decide),γ (by decide)] at hR
  subst hR
  clear hq0 hq20
  go_enter Tryz.func52,Tryz.ntmps52
  go_wp2
  go_ret
  exact⟨rfl,Dc.same HJ.out⟩
 have HQ:=Qh (show Cv d s more=if d.room - (usedF d.files:Int)<((Ei s).length:Int)+((Hi s).length:Int)+((Bs (turnM s)).1.length:Int)+(more:Int)∨700<d.files.length+2 then 54 else 0 from by
  unfold Cv
  rw [γ hq0,γ hq20,γ (by rw [←HNX.out,←HGE.out];rintro(h | h);exact ε hq3 h;exact ε hq4 h)])
 have HQ0:=Qh hq0
 clear hq0 hq20
 go_enter Tryz.func52,Tryz.ntmps52
 go_wp2_with fail
 clear hq hq2 hq3 hq4 c0 c6 c7 c11
 have HNM:=Qh (fun W (hB:Below w.heap.size w W)=>Fc (HJ.out.below hB) HSB.out.segs)
 have hbd:Below w.heap.size w (World.drew w):=below_drewN' w 1
 refine ω (S:=fun w'=>w'.cell? ⟨b,3,none⟩=some (.pointer (some ⟨f,0,none⟩))∧w'.cell? ⟨b,1,none⟩=some (.int .i64 (s.size:Int))) (by kernel_rfl) ⟨HJ.out.blk.cell 3,HJ.out.blk.cell 1⟩ (fun hHeld=> ?_)
 have FX1:=Qh (fun(wF:World) (hSw:(fun w'=>w'.cell? ⟨b,3,none⟩=some (.pointer (some ⟨f,0,none⟩))∧w'.cell? ⟨b,1,none⟩=some (.int .i64 (s.size:Int))) wF)=>And.intro ((hSw.1)) ((hSw.2)))
 refine tf FX1 0 rfl ?_
 refine tf FX1 1 rfl ?_
 refine tf FX1 2 rfl ?_
 refine tf FX1 3 rfl ?_
 refine tf FX1 4 rfl ?_
 refine tf FX1 6 rfl ?_
 refine tf FX1 7 rfl ?_
 refine tf FX1 8 rfl ?_
 refine tf FX1 9 rfl ?_
 refine tf FX1 10 rfl ?_
 clear FX1
 generalize World.drew w=Wd at*
 refine Rd 5 rfl fun K hK=> ?_
 go_simp
 refine(HNM.out _ hbd).mono ?_
 rintro e w2 ⟨rfl,hb2⟩
 have HB2:=Qh (Below.next hbd hb2)
 have HJ2:=Qh (HJ.out.below HB2.out)
 clear hb2 hbd HNM
 go_wp2_with fail
 refine hK.out _ _ ⟨HJ2.out.blk.cell 3,HJ2.out.blk.cell 1⟩ (fun hHeld=> ?_)
 clear hK K
 have HRD:=Qh (Hn w2 f m d L HJ2.out.fs (segN s.man) x (Ek HJ2.out.fs.ok HD.out HX.out) HX.out 0 s.size (by rw [HXL.out];omega))
 rw [show (x.data.drop 0).take s.size=x.data from by rw [HXL.out,List.drop_zero,List.take_length]] at HRD
 refine Rd 11 rfl fun K hK=> ?_
 go_simp
 refine HRD.out.mono ?_
 rintro e w3 ⟨v3,rfl,ho3,hf3,ht3⟩
 have HJ3:=Qh (HJ2.out.read hf3 ht3)
 have HT3:=Qh (show Turned (A0 b mv f m L) w w3 from(Turned.below (S:=A0 b mv f m L) HB2.out).trans (ht3.mono fun k hk=> .inr (.inr (.inl hk))) fun _ h=> .inl h)
 have HSZ3:=Qh HT3.out.size
 obtain⟨o3,c3',rfl,_,_⟩:=Ac ho3
 have HV3:=Qh ho3.brow
 clear ho3 hf3 ht3 HRD HB2 HJ2
 go_wp2_with fail
 refine hK.out _ _ ⟨HJ3.out.blk.cell 3,HJ3.out.blk.cell 1⟩ (fun hHeld=> ?_)
 clear hK K
 refine tq 12 rfl ?_
 refine tq 13 rfl ?_
 refine tq 14 rfl ?_
 refine tq 15 rfl ?_
 refine tq 16 rfl ?_
 refine Λ (by kernel_rfl) ?_ _
 clear hHeld
 have c4:w3.cell? ⟨b,4,none⟩=some (.int .i64 (s.stride:Int)):=HJ3.out.blk.cell 4
 have HFT:=Qh (HFO.out HQ0.out _ w3 HV3.out HJ3.out.nib)
 go_wp2_with fail
 refine HFT.out.mono ?_
 rintro e X ⟨fv,rfl,hof,hbx⟩
 obtain⟨of,cf,rfl,_,_⟩:=Ac hof
 have HJX:=Qh (HJ3.out.below hbx)
 have HTX:=Qh (HT3.out.trans (Turned.below (S:=fun _=>False) hbx) fun _ h=>h.elim)
 have HFX:=Qh (show Ag (fun k=> ¬ A0 b mv f m L k∧k<X.heap.size) X (.slice (some ⟨0,0,none⟩) 0 0) []∨True from .inr trivial)
 have HOF:=Qh hof
 have HW3:=Qh hbx.size
 clear hof hbx HFT HFO c4 HV3 HJ3 HT3 HFX
 go_wp2_with fail
 have HSI:=Qh (show ∀ W g v,TW X W g (turnM s) v→Dl (fun k=> ¬ A0 b mv f m L k) W v (turnM s).segs from fun W g v hw=>sgIn_own hw.own fun k hk hc=>by have:=HJX.out.lt k hc;omega)
 have HMS:=Qh (show ∀ W g v,TW X W g (turnM s) v→Calls Tryz.prog 81 #[mnV (turnM s) v] W fun e w'=>e= .returned (.int .i64 ((Bs (turnM s)).1.length:Int))∧Below W.heap.size W w' from fun W g v hw=>manSize_any (turnM s) v W (HSI.out W g v hw).row (HJX.out.nib.below hw.bl))
 have HFE:=Qh (show ∀ W,Below X.heap.size X W→Calls Tryz.prog 69 #[.pointer (some ⟨f,0,none⟩)] W fun e w'=>e= .returned (.int .i64 (d.room - (usedF d.files:Int)))∧Below W.heap.size W w' from fun W hB=>fsFree_any W f m (rdD d s.size) L (HJX.out.below hB).fs)
 have HLI:=Qh (show ∀ W,Below X.heap.size X W→Calls Tryz.prog 82 #[.pointer (some ⟨f,0,none⟩)] W fun e w'=> ∃ v,e= .returned v∧w'.ownsRow W.heap.size 9 1 v L.length ((Bm L).map encStr)∧Below W.heap.size W w' from fun W hB=>list_any W f m (rdD d s.size) L (HJX.out.below hB).fs HD.out)
 have HMF:=Qh (stoManifest_any HJX.out HC.out HSB.out.segs (by have:=HSL.out;omega))
 refine HMF.out.mono ?_
 rintro e w4 ⟨v4,rfl,ho4,hb4⟩
 have hn0:0<s.man.segs.length:=Ψ.2 HSB.out.segs
 obtain⟨g4,cap4,rfl,hg4,hl4,hc4,_⟩:=B8 ho4 hn0
 obtain⟨pre,hpre⟩: ∃ pre,s.man.segs=pre++[lastSg s.man]:=⟨s.man.segs.dropLast,by
  unfold lastSg
  rw [List.getLast?_eq_some_getLast HSB.out.segs]
  exact(List.dropLast_concat_getLast HSB.out.segs).symm⟩
 have HPR:=Qh hpre
 have hba:=below_alloc w4 (.cells (mnCs s.man (.slice (some ⟨g4,0,none⟩) s.man.segs.length cap4)) 69)
 have HW:=Qh (show TW X (w4.alloc (.cells (mnCs s.man (.slice (some ⟨g4,0,none⟩) s.man.segs.length cap4)) 69)) w4.heap.size s.man (.slice (some ⟨g4,0,none⟩) s.man.segs.length cap4) from
  ⟨Below.next hb4 hba,own_later ho4 hba,σ w4 _,hb4.size,fun k hk hc=>by have:=(World.ownsRow.lt ho4 k hk).2;omega⟩)
 simp only [mnCs] at HW
 have hk1:s.man.segs.length=pre.length+1:=by rw [hpre];simp
 obtain⟨P,hP⟩: ∃ P,P=pre.length:=⟨_,rfl⟩
 obtain⟨k,hk⟩: ∃ k,k=s.man.segs.length:=⟨_,rfl⟩
 rw [←hk] at HW hc4
 have HK:=Qh hk
 have HPP:=Qh hP
 have HKP:=Qh (show k=P+1 by omega)
 have hwn:IntKind.i64.wrap ((k:Int) - 1)=(P:Int):=by have:=HSL.out;rw [κ];omega
 have qm:P<k:=by omega
 have qn:(P:Int)<(k:Int):=by omega
 rw [←hk]
 clear ho4 hb4 hba hg4 hl4 HMF hpre hk1 hk hP hn0
 have C5:=HW.out.man.c5
 go_wp2_with fail
 generalize w4.heap.size=g at*
 generalize w4.alloc (.cells #[.int .i64 s.man.gen,.int .i64 s.man.next,.int .i64 s.man.floor,.int .i64 s.man.snap,.int .i64 s.man.snapSeq,.slice (some ⟨g4,0,none⟩) k cap4] 69)=w5 at*
 clear C5
 have hbd:Below w5.heap.size w5 (World.drew w5):=below_drewN' w5 1
 replace HW:=Qh (HW.out.below hbd)
 refine ω (S:=fun w'=>Below X.heap.size X w') (by kernel_rfl) HW.out.bl (fun hHeld=> ?_)
 have FX2:=Qh (fun(wF:World) (hSw:(fun w'=>Below X.heap.size X w') wF)=>And.intro ((cell_later hSw (show X.cell? ⟨b,0,none⟩=some (.int .i64 (s.count:Int)) from HJX.out.blk.cell 0))) ((cell_later hSw (show X.cell? ⟨b,1,none⟩=some (.int .i64 (s.size:Int)) from HJX.out.blk.cell 1))))
 refine tf FX2 0 rfl ?_
 refine tf FX2 1 rfl ?_
 refine tf FX2 2 rfl ?_
 refine tf FX2 3 rfl ?_
 refine tf FX2 4 rfl ?_
 refine tf FX2 5 rfl ?_
 refine tf FX2 6 rfl ?_
 refine tf FX2 7 rfl ?_
 refine tf FX2 8 rfl ?_
 refine tf FX2 9 rfl ?_
 refine tf FX2 10 rfl ?_
 refine tf FX2 11 rfl ?_
 refine tf FX2 12 rfl ?_
 refine tf FX2 13 rfl ?_
 clear FX2
 clear hbd
 generalize World.drew w5=w6 at*
 have HS1:=Qh (HW.out.put (j:=P*4+2) (u:= .int .i64 (s.count:Int)) (mn':={s.man with segs:=pre++[{lastSg s.man with count:=(s.count:Int)}]}) HK.out (by rw [HPR.out];simp) (by rw [HPR.out,HPP.out,sgCells_set,K3];rfl) (fun _=>rfl))
 have HS2:=Qh (HS1.out.put (j:=P*4+3) (u:= .int .i64 (s.size:Int)) (mn':={s.man with segs:=pre++[{lastSg s.man with count:=(s.count:Int),foot:=(s.size:Int)}]}) (by rw [HKP.out,HPP.out];simp) (by simp) (by rw [HPP.out,sgCells_set,K3];rfl) (fun _=>rfl))
 have HC2:=Qh (show w6.cell? ⟨g4,P*4+2,none⟩=some (.int .i64 (lastSg s.man).count) from by
  obtain⟨g',c',e,_,_,_,_,hc⟩:=B8 HW.out.own (by rw [←HK.out];omega)
  simp only [Value.slice.injEq,Option.some.injEq,Addr.mk.injEq,and_true] at e
  obtain⟨rfl,_,rfl⟩:=e
  exact hc _ _ (sgCells_at _ P (lastSg s.man) (by rw [HPR.out,HPP.out];simp) 2 _ rfl))
 have HC3:=Qh (show (w6.setCell ⟨g4,P*4+2,none⟩ (.int .i64 (s.count:Int))).cell? ⟨g4,P*4+3,none⟩=some (.int .i64 (lastSg s.man).foot) from by
  obtain⟨g',c',e,_,_,_,_,hc⟩:=B8 HS1.out.own (by simp)
  simp only [Value.slice.injEq,Option.some.injEq,Addr.mk.injEq,and_true] at e
  obtain⟨rfl,_,rfl⟩:=e
  exact hc _ _ (sgCells_at _ P {lastSg s.man with count:=(s.count:Int)} (by rw [HPP.out];simp) 3 _ rfl))
 have HF2:=Qh (fun(W:World) (mn':B3) (hw:TW X W g mn' (.slice (some ⟨g4,0,none⟩) k cap4)) (he:k=mn'.segs.length) j=>own_freeG (by have:=hw.own;unfold SgOwn at this;rw [←he] at this;exact this) j)
 refine Rd 14 rfl fun K hK=> ?_
 rw [ζ (by kernel_rfl)]
 refine Da 3 (.tmp 96) (.tmp 89) rfl g4 (P*4+2) (.int .i64 (s.count:Int)) (.int .i64 (lastSg s.man).count) (by kernel_rfl) rfl (by kernel_rfl) (by kernel_rfl) HC2.out (HF2.out w6 _ HW.out HK.out _) ?_
 generalize w6.setCell ⟨g4,P*4+2,none⟩ (.int .i64 (s.count:Int))=w7 at*
 refine hK.out _ _ HS1.out.bl (fun hHeld=> ?_)
 clear hK K
 refine tq 15 rfl ?_
 refine tq 16 rfl ?_
 refine Rd 17 rfl fun K hK=> ?_
 rw [ζ (by kernel_rfl)]
 refine Da 3 (.tmp 98) (.tmp 94) rfl g4 (P*4+3) (.int .i64 (s.size:Int)) (.int .i64 (lastSg s.man).foot) (by kernel_rfl) rfl (by kernel_rfl) (by kernel_rfl) HC3.out (HF2.out w7 _ HS1.out (by rw [HKP.out,HPP.out];simp) _) ?_
 generalize w7.setCell ⟨g4,P*4+3,none⟩ (.int .i64 (s.size:Int))=w8 at*
 refine hK.out _ _ HS2.out.bl (fun hHeld=> ?_)
 clear hK K hHeld
 refine Λ (by kernel_rfl) ?_ _
 obtain⟨m1,hm1⟩: ∃ m1:B3,m1={s.man with segs:=pre++[{lastSg s.man with count:=(s.count:Int),foot:=(s.size:Int)}]}:=⟨_,rfl⟩
 rw [←hm1] at HS2
 have HM1:=Qh hm1
 have HW8:=Qh HS2.out
 have HSG1:=Qh (show k=m1.segs.length by rw [hm1,HKP.out,HPP.out];simp)
 clear HS1 HS2 HC2 HC3 HW hm1
 go_wp2_with fail
 have HNX1:=Qh (show m1.next=s.man.next from by rw [HM1.out])
 have hbd:Below w8.heap.size w8 (World.drew w8):=below_drewN' w8 1
 replace HW8:=Qh (HW8.out.below hbd)
 have HLS:=Qh (fun W (hB:Below X.heap.size X W)=>Dp (HJX.out.below hB) HSB.out)
 have HLE:=Qh (show 0≤lastE s∧lastE s≤2199023255552 from by unfold lastE;have:=HSB.out.first;have:=HSB.out.count;omega)
 refine ω (S:=fun w'=>w'.cell? ⟨g,1,none⟩=some (.int .i64 m1.next)) (by kernel_rfl) HW8.out.man.c1 (fun hHeld=> ?_)
 have FX3:=Qh (fun(wF:World) (hSw:(fun w'=>w'.cell? ⟨g,1,none⟩=some (.int .i64 m1.next)) wF)=>(hSw))
 refine tf FX3 0 rfl ?_
 refine tf FX3 2 rfl ?_
 refine tf FX3 3 rfl ?_
 refine tf FX3 4 rfl ?_
 clear FX3
 clear hbd
 generalize World.drew w8=w9 at*
 have hw9:IntKind.i64.wrap (lastE s+1)=lastE s+1:=by rw [κ];have:=HLE.out;omega
 have HW9:=Qh hw9
 clear hw9
 refine wpAnyH_ready (rs:=[1,5]) (by kernel_rfl) (by simp) ?_
 refine AllReadyH.cons rfl (fun K hK=> ?_) (AllReadyH.cons rfl (fun K hK=> ?_) AllReadyH.nil)
 focus
  have c5:w9.cell? ⟨g,5,none⟩=some (.slice (some ⟨g4,0,none⟩) k cap4):=HW8.out.man.c5
  go_simp
  refine hK.out _ _ hHeld (fun hHeld=> ?_)
  clear hK K c5
  refine Rd 5 rfl fun K hK=> ?_
  go_simp
  refine(HLS.out _ HW8.out.bl).mono ?_
  rintro e wl ⟨rfl,hbl⟩
  have HWL:=Qh (HW8.out.below hbl)
  clear hbl hHeld
  go_wp2_with fail
  refine hK.out _ _ HWL.out.man.c1 (fun hHeld=> ?_)
  clear hK K
  have FX4:=Qh (fun(wF:World) (hSw:(fun w'=>w'.cell? ⟨g,1,none⟩=some (.int .i64 m1.next)) wF)=>(HW9.out))
  refine tf FX4 6 rfl ?_
  refine tf FX4 7 rfl ?_
  clear FX4
  refine Rd 8 rfl fun K hK=> ?_
  go_simp
  refine hK.out _ _ (show (wl.alloc (.cells #[.int .i64 m1.next,.int .i64 (lastE s+1),.int .i64 0,.int .i64 0] 72)).cell? ⟨g,1,none⟩=_ from cell_later (below_alloc wl _) HWL.out.man.c1) (fun hHeld=> ?_)
  clear hK K
 rotate_left
 focus
  go_simp
  refine(HLS.out _ HW8.out.bl).mono ?_
  rintro e wl ⟨rfl,hbl⟩
  have HWL:=Qh (HW8.out.below hbl)
  clear hbl hHeld
  go_wp2_with fail
  refine hK.out _ _ HWL.out.man.c1 (fun hHeld=> ?_)
  clear hK K
  have FX5:=Qh (fun(wF:World) (hSw:(fun w'=>w'.cell? ⟨g,1,none⟩=some (.int .i64 m1.next)) wF)=>(HW9.out))
  refine tf FX5 6 rfl ?_
  refine tf FX5 7 rfl ?_
  clear FX5
  refine wpAnyH_ready (rs:=[1,8]) (by kernel_rfl) (by simp) ?_
  refine AllReadyH.cons rfl (fun K hK=> ?_) (AllReadyH.cons rfl (fun K hK=> ?_) AllReadyH.nil)
  focus
   have c5:wl.cell? ⟨g,5,none⟩=some (.slice (some ⟨g4,0,none⟩) k cap4):=HWL.out.man.c5
   go_simp
   refine hK.out _ _ hHeld (fun hHeld=> ?_)
   clear hK K c5
   refine Rd 8 rfl fun K hK=> ?_
   go_simp
   refine hK.out _ _ (show (wl.alloc (.cells #[.int .i64 m1.next,.int .i64 (lastE s+1),.int .i64 0,.int .i64 0] 72)).cell? ⟨g,1,none⟩=_ from cell_later (below_alloc wl _) HWL.out.man.c1) (fun hHeld=> ?_)
   clear hK K
  rotate_left
  focus
   go_simp
   refine hK.out _ _ (show (wl.alloc (.cells #[.int .i64 m1.next,.int .i64 (lastE s+1),.int .i64 0,.int .i64 0] 72)).cell? ⟨g,1,none⟩=_ from cell_later (below_alloc wl _) HWL.out.man.c1) (fun hHeld=> ?_)
   clear hK K
   have c5:(wl.alloc (.cells #[.int .i64 m1.next,.int .i64 (lastE s+1),.int .i64 0,.int .i64 0] 72)).cell? ⟨g,5,none⟩=some (.slice (some ⟨g4,0,none⟩) k cap4):=cell_later (below_alloc wl _) HWL.out.man.c5
   refine Rd 1 rfl fun K hK=> ?_
   go_simp
   refine hK.out _ _ hHeld (fun hHeld=> ?_)
   clear hK K c5
 all_goals
  refine Rd 9 rfl fun K hK=> ?_
  rw [ζ (by kernel_rfl)]
  refine wp_appSg (.tmp 100) (.tmp 107) rfl ⟨m1.next,lastE s+1,0,0⟩ rfl rfl (by have:=HWL.out.own;exact this) HWL.out.bl.size (by have:=HSG1.out;have:=HSL.out;have:=HK.out;omega) ?_
  intro v5 wm hm5 ht5 hone5 hnew5
  obtain⟨hmb,htw⟩:=HWL.out.app hm5 ht5 hnew5
  have HMB:=Qh hmb
  have HWA:=Qh htw
  have HOB:=Qh (show SgOwn wm X.heap.size v5 (m1.segs++[⟨m1.next,lastE s+1,0,0⟩]) from hm5)
  clear hmb htw hm5 ht5 hnew5 HWL
  refine hK.out _ _ HMB.out.c1 (fun hHeld=> ?_)
  clear hK K
  refine Rd 10 rfl fun K hK=> ?_
  go_simp
  refine hK.out _ _ hHeld (fun hHeld=> ?_)
  clear hK K
  refine Rd 11 rfl fun K hK=> ?_
  rw [ζ (by kernel_rfl)]
  refine Da 67 (.tmp 109) (.tmp 108) rfl g 5 v5 (.slice (some ⟨g4,0,none⟩) k cap4) (by kernel_rfl) hone5 (by kernel_rfl) (by kernel_rfl) HMB.out.c5 (HMB.out.free 5) ?_
  generalize wm.setCell ⟨g,5,none⟩ v5=wn at*
  refine hK.out _ _ HWA.out.man.c1 (fun _=> ?_)
  clear hK K hHeld HMB HOB hone5
  refine Λ (by kernel_rfl) ?_ _
  obtain⟨sg2,hsg2⟩: ∃ sg2,sg2=m1.segs++[⟨m1.next,lastE s+1,0,0⟩]:=⟨_,rfl⟩
  rw [←hsg2] at HWA
  have HSS:=Qh hsg2
  clear hsg2
  have HSL2:=Qh (show sg2.length=k+1 from by rw [HSS.out,η,←HSG1.out];rfl)
  have HMT:=Qh (show turnM s={s.man with gen:=s.man.gen+1,next:=s.man.next+1,segs:=sg2} from by
   unfold turnM
   rw [HSS.out,HM1.out]
   simp only [HPR.out,List.dropLast_concat,List.append_assoc,List.cons_append,List.nil_append])
  have c1:wn.cell? ⟨g,1,none⟩=some (.int .i64 m1.next):=HWA.out.man.c1
  have c0:wn.cell? ⟨g,0,none⟩=some (.int .i64 s.man.gen):=by have:=HWA.out.man.c0;rw [show ({m1 with segs:=sg2}:B3).gen=s.man.gen from by rw [HM1.out]] at this;exact this
  have f1:=HWA.out.man.free 1
  have f0:=HWA.out.man.free 0
  have hn1:IntKind.i64.wrap (m1.next+1)=m1.next+1:=by rw [κ,HNX1.out];have:=HGN.out;omega
  have hg1:IntKind.i64.wrap (s.man.gen+1)=s.man.gen+1:=by rw [κ];have:=HGN.out;omega
  have HWB:=Qh (show TW X ((wn.setCell ⟨g,1,none⟩ (.int .i64 (m1.next+1))).setCell ⟨g,0,none⟩ (.int .i64 (s.man.gen+1))) g (turnM s) v5 from by
   have a:=HWA.out.set (j:=1) (u:= .int .i64 (m1.next+1)) (mn':={m1 with segs:=sg2,next:=m1.next+1}) rfl rfl
   have b:=a.set (j:=0) (u:= .int .i64 (s.man.gen+1)) (mn':={m1 with segs:=sg2,next:=m1.next+1,gen:=s.man.gen+1}) rfl rfl
   rw [HMT.out]
   rw [show ({m1 with segs:=sg2,next:=m1.next+1,gen:=s.man.gen+1}:B3)={s.man with gen:=s.man.gen+1,next:=s.man.next+1,segs:=sg2} from by rw [HNX1.out,HM1.out]] at b
   exact b)
  clear HWA
  go_wp2_with fail
  generalize (wn.setCell ⟨g,1,none⟩ (.int .i64 (m1.next+1))).setCell ⟨g,0,none⟩ (.int .i64 (s.man.gen+1))=wo at*
  clear c1 c0 f1 f0 hn1 hg1
  obtain⟨K1,hK1⟩: ∃ K1,K1=k+1:=⟨_,rfl⟩
  have HK1:=Qh hK1
  obtain⟨g5,cap5,rfl,_,_,hc5,_,hcell5⟩:=B8 (show wo.ownsRow X.heap.size 72 4 v5 K1 (sgCells sg2) from by have:=HWB.out.own;rw [HMT.out] at this;unfold SgOwn at this;simp only [HSL2.out,←hK1] at this;exact this) (by omega)
  have HN5:=Qh (show wo.cell? ⟨g5,k*4,none⟩=some (.int .i64 s.man.next) from hcell5 _ _ (sgCells_at _ k ⟨m1.next,lastE s+1,0,0⟩ (by rw [HSS.out,HSG1.out];simp) 0 _ (by rw [HNX1.out];rfl)))
  have HW5:=Qh (show wo.cell? ⟨g,5,none⟩=some (.slice (some ⟨g5,0,none⟩) K1 cap5) from HWB.out.man.c5)
  clear hcell5
  have hbd:Below wo.heap.size wo (World.drew wo):=below_drewN' wo 1
  refine ω (S:=fun w'=>w'.cell? ⟨g,5,none⟩=some (.slice (some ⟨g5,0,none⟩) K1 cap5)∧w'.cell? ⟨g5,k*4,none⟩=some (.int .i64 s.man.next)) (by kernel_rfl) ⟨HW5.out,HN5.out⟩ (fun hHeld=> ?_)
  have hwk:IntKind.i64.wrap ((K1:Int) - 1)=(k:Int):=by have:=HSL.out;have:=HK.out;rw [κ];omega
  have qk:k<K1:=by omega
  have qk2:(k:Int)<(K1:Int):=by omega
  have HWK:=Qh (And.intro hwk (And.intro qk qk2))
  clear hwk qk qk2 hK1
  have FX6:=Qh (fun(wF:World) (hSw:(fun w'=>w'.cell? ⟨g,5,none⟩=some (.slice (some ⟨g5,0,none⟩) K1 cap5)∧w'.cell? ⟨g5,k*4,none⟩=some (.int .i64 s.man.next)) wF)=>(hSw.1))
  refine tf FX6 0 rfl ?_
  refine tf FX6 1 rfl ?_
  refine tf FX6 2 rfl ?_
  refine tf FX6 3 rfl ?_
  refine tf FX6 4 rfl ?_
  refine tf FX6 9 rfl ?_
  clear FX6
  have FX7:=Qh (fun(wF:World) (hSw:(fun w'=>w'.cell? ⟨g,5,none⟩=some (.slice (some ⟨g5,0,none⟩) K1 cap5)∧w'.cell? ⟨g5,k*4,none⟩=some (.int .i64 s.man.next)) wF)=>And.intro ((HWK.out.1)) (And.intro ((HWK.out.2.1)) ((HWK.out.2.2))))
  refine tf FX7 5 rfl ?_
  refine tf FX7 6 rfl ?_
  clear FX7
  refine tq 7 rfl ?_
  have FX8:=Qh (fun(wF:World) (hSw:(fun w'=>w'.cell? ⟨g,5,none⟩=some (.slice (some ⟨g5,0,none⟩) K1 cap5)∧w'.cell? ⟨g5,k*4,none⟩=some (.int .i64 s.man.next)) wF)=>(hSw.2))
  refine tf FX8 8 rfl ?_
  clear FX8
  clear hbd
  generalize hwd:World.drew wo=wd at*
  replace HWB:=Qh (show TW X wd g (turnM s) (.slice (some ⟨g5,0,none⟩) K1 cap5) from by rw [←hwd];exact HWB.out.below (below_drewN' wo 1))
  clear hwd HW5 HN5
  refine Rd 10 rfl fun K hK=> ?_
  go_simp
  refine(HLS.out _ HWB.out.bl).mono ?_
  rintro e wl2 ⟨rfl,hbl⟩
  replace HWB:=Qh (HWB.out.below hbl)
  have HSZX:=Qh HWB.out.bl.size
  go_wp2_with fail
  refine hK.out _ _ ⟨cell_later hbl hHeld.1,cell_later hbl hHeld.2⟩ (fun hHeld=> ?_)
  clear hK K hbl
  have FX9:=Qh (fun(wF:World) (hSw:(fun w'=>w'.cell? ⟨g,5,none⟩=some (.slice (some ⟨g5,0,none⟩) K1 cap5)∧w'.cell? ⟨g5,k*4,none⟩=some (.int .i64 s.man.next)) wF)=>(HW9.out))
  refine tf FX9 11 rfl ?_
  clear FX9
  refine Rd 12 rfl fun K hK=> ?_
  go_simp
  have HHD:=Qh (header_any s.man.next (lastE s+1) wl2 (HJX.out.nib.below HWB.out.bl))
  obtain⟨hy,hhy⟩: ∃ y,y=E4 s.man.next (lastE s+1):=⟨_,rfl⟩
  have HHS:=Qh (show Hi s=hy.1 from by rw [hhy];rfl)
  rw [←hhy] at HHD
  clear hhy
  obtain⟨H,he1⟩:=hy
  dsimp only at HHS
  unfold Bd at HHD
  dsimp only at HHD
  refine HHD.out.mono ?_
  rintro e wh ⟨hv,rfl,hoh,hbh⟩
  obtain⟨oh,ch,rfl,_,_⟩:=Ac hoh
  replace HWB:=Qh (HWB.out.below hbh)
  have HOH:=Qh hoh
  go_wp2_with fail
  refine hK.out _ _ ⟨cell_later hbh hHeld.1,cell_later hbh hHeld.2⟩ (fun hHeld=> ?_)
  clear hK K hbh hoh HHD
  refine tq 13 rfl ?_
  refine tq 14 rfl ?_
  refine tq 15 rfl ?_
  refine tq 16 rfl ?_
  refine tq 17 rfl ?_
  refine Λ (by kernel_rfl) ?_ _
  clear hHeld
  obtain⟨ml,hml⟩: ∃ ml,ml=(Bs (turnM s)).1.length:=⟨_,rfl⟩
  obtain⟨fl,hfl⟩: ∃ fl,fl=(Ei s).length:=⟨_,rfl⟩
  obtain⟨fr,hfr⟩: ∃ fr:Int,fr=d.room - (usedF d.files:Int):=⟨_,rfl⟩
  have HLNN:=Qh (show fl+H.length+ml+more≤1000000 from by have:=HLN.out;rw [HHS.out] at this;omega)
  have HQQ:=Qh (show Cv d s more=if fr<(fl:Int)+(H.length:Int)+(ml:Int)+(more:Int)∨700<d.files.length+2 then 54 else 0 from by rw [HQ.out,hml,hfl,hfr,HHS.out])
  have HFN:=Qh (show L.length=d.files.length from by have:=HJX.out.fs.fil;rw [show (rdD d s.size).files=d.files from rfl] at this;rw [←this];simp [fils])
  have HFL:=Qh hfl
  have HML:=Qh hml
  have HFR:=Qh hfr
  rw [←hfl]
  rw [←hfl] at HOF
  clear hml hfl hfr
  obtain⟨a1,ha1⟩: ∃ a1:Nat,a1=fl+H.length:=⟨_,rfl⟩
  obtain⟨a2,ha2⟩: ∃ a2:Nat,a2=a1+ml:=⟨_,rfl⟩
  obtain⟨a3,ha3⟩: ∃ a3:Nat,a3=a2+more:=⟨_,rfl⟩
  have hx1:IntKind.i64.wrap ((fl:Int)+(H.length:Int))=(a1:Int):=by have:=HLNN.out;rw [κ];omega
  have hx2:IntKind.i64.wrap ((a1:Int)+((Bs (turnM s)).1.length:Int))=(a2:Int):=by have:=HLNN.out;rw [←HML.out,κ];omega
  have hx3:IntKind.i64.wrap ((a2:Int)+(more:Int))=(a3:Int):=by have:=HLNN.out;rw [κ];omega
  have HX1:=Qh hx1
  have HX2:=Qh hx2
  have HX3:=Qh hx3
  have HA3:=Qh (show (a3:Int)=(fl:Int)+(H.length:Int)+(ml:Int)+(more:Int) from by omega)
  clear hx1 hx2 hx3 ha1 ha2 ha3
  go_wp2_with fail
  have hbd2:Below wh.heap.size wh (World.drew wh):=below_drewN' wh 1
  have HWD:=Qh (HWB.out.below hbd2)
  have HOHD:=Qh (show OwnB (World.drew wh) wl2.heap.size (.slice oh H.length ch) H from own_later HOH.out hbd2)
  refine ω (S:=fun w'=>Below X.heap.size X w'∧Ah w' g (turnM s) (.slice (some ⟨g5,0,none⟩) K1 cap5)) (by kernel_rfl) ⟨HWD.out.bl,HWD.out.man⟩ (fun hHeld=> ?_)
  clear hbd2 HWB HOH
  generalize World.drew wh=wd2 at*
  refine tq 0 rfl ?_
  refine tq 1 rfl ?_
  refine tq 2 rfl ?_
  refine tq 3 rfl ?_
  have FX10:=Qh (fun(wF:World) (hSw:(fun w'=>Below X.heap.size X w'∧Ah w' g (turnM s) (.slice (some ⟨g5,0,none⟩) K1 cap5)) wF)=>(HX1.out))
  refine tf FX10 4 rfl ?_
  clear FX10
  refine tkl 5 g 0 [.int .i64 (turnM s).gen,.int .i64 (turnM s).next,.int .i64 (turnM s).floor,.int .i64 (turnM s).snap,.int .i64 (turnM s).snapSeq,.slice (some ⟨g5,0,none⟩) K1 cap5] rfl rfl (fun w' h j u hj=>by rw [Nat.zero_add,h.2.cell];simpa [mnCs] using hj) Tryz.underlying69 rfl (by rw [mnInfo];rfl) ?_
  simp only [pA,pB,pC,pD]
  have FX11:=Qh (fun(wF:World) (hSw:(fun w'=>Below X.heap.size X w'∧Ah w' g (turnM s) (.slice (some ⟨g5,0,none⟩) K1 cap5)) wF)=>(cell_later hSw.1 (show X.cell? ⟨b,3,none⟩=some (.pointer (some ⟨f,0,none⟩)) from HJX.out.blk.cell 3)))
  refine tf FX11 8 rfl ?_
  refine tf FX11 10 rfl ?_
  refine tf FX11 11 rfl ?_
  refine tf FX11 12 rfl ?_
  refine tf FX11 13 rfl ?_
  clear FX11
  refine Rd 6 rfl fun K hK=> ?_
  go_simp
  refine(HMS.out _ g _ HWD.out).mono ?_
  rintro e wj ⟨rfl,hbj⟩
  replace HWD:=Qh (HWD.out.below hbj)
  replace HOHD:=Qh (show OwnB wj wl2.heap.size (.slice oh H.length ch) H from own_later HOHD.out hbj)
  go_wp2_with fail
  refine hK.out _ _ ⟨HWD.out.bl,HWD.out.man⟩ (fun hHeld=> ?_)
  clear hK K hbj
  have FX12:=Qh (fun(wF:World) (hSw:(fun w'=>Below X.heap.size X w'∧Ah w' g (turnM s) (.slice (some ⟨g5,0,none⟩) K1 cap5)) wF)=>(HX2.out))
  refine tf FX12 7 rfl ?_
  clear FX12
  have FX13:=Qh (fun(wF:World) (hSw:(fun w'=>Below X.heap.size X w'∧Ah w' g (turnM s) (.slice (some ⟨g5,0,none⟩) K1 cap5)) wF)=>(HX3.out))
  refine tf FX13 9 rfl ?_
  clear FX13
  refine Rd 14 rfl fun K hK=> ?_
  go_simp
  refine(HFE.out _ HWD.out.bl).mono ?_
  rintro e wk ⟨rfl,hbk⟩
  replace HWD:=Qh (HWD.out.below hbk)
  replace HOHD:=Qh (show OwnB wk wl2.heap.size (.slice oh H.length ch) H from own_later HOHD.out hbk)
  go_wp2_with fail
  refine hK.out _ _ ⟨HWD.out.bl,HWD.out.man⟩ (fun hHeld=> ?_)
  clear hK K hbk
  rcases hdec:decide (d.room - (usedF d.files:Int)<(a3:Int)) with _ | _
  rotate_left
  focus
   have FX14:=Qh (fun(wF:World) (hSw:(fun w'=>Below X.heap.size X w'∧Ah w' g (turnM s) (.slice (some ⟨g5,0,none⟩) K1 cap5)) wF)=>(hdec))
   refine tf FX14 15 rfl ?_
   clear FX14
   refine tq 16 rfl ?_
   refine tkn 17 rfl ?_
   simp only [pA,pB,pC,pD]
   refine tkn 18 rfl ?_
   simp only [pA,pB,pC,pD]
   refine tkn 19 rfl ?_
   simp only [pA,pB,pC,pD]
   refine tkn 20 rfl ?_
   simp only [pA,pB,pC,pD]
   refine tkn 21 rfl ?_
   simp only [pA,pB,pC,pD]
   refine tkn 22 rfl ?_
   simp only [pA,pB,pC,pD]
   refine tkn 23 rfl ?_
   simp only [pA,pB,pC,pD]
   refine tkn 24 rfl ?_
   simp only [pA,pB,pC,pD]
   refine tq 25 rfl ?_
   rw [In (e:=54) (by rw [HQQ.out,ζ (by left;have:=χ hdec;have:=HA3.out;have:=HFR.out;omega)]) (by decide),ζ rfl] at hR
   subst hR
   have HPO:=Qh (show Dc w b f m L mv (rdD d s.size) s wk from(Dc.below HJX.out HWD.out.bl).then HTX.out fun _ h=> .inl h)
   refine Λ (by kernel_rfl) ?_ _
   go_wp2
   go_ret
   exact⟨rfl,HPO.out⟩
  have FX15:=Qh (fun(wF:World) (hSw:(fun w'=>Below X.heap.size X w'∧Ah w' g (turnM s) (.slice (some ⟨g5,0,none⟩) K1 cap5)) wF)=>(hdec))
  refine tf FX15 15 rfl ?_
  clear FX15
  refine tq 16 rfl ?_
  have FX16:=Qh (fun(wF:World) (hSw:(fun w'=>Below X.heap.size X w'∧Ah w' g (turnM s) (.slice (some ⟨g5,0,none⟩) K1 cap5)) wF)=>(cell_later hSw.1 (show X.cell? ⟨b,3,none⟩=some (.pointer (some ⟨f,0,none⟩)) from HJX.out.blk.cell 3)))
  refine tf FX16 17 rfl ?_
  refine tf FX16 18 rfl ?_
  refine tf FX16 19 rfl ?_
  refine tf FX16 20 rfl ?_
  clear FX16
  refine Rd 21 rfl fun K hK=> ?_
  go_simp
  refine(HLI.out _ HWD.out.bl).mono ?_
  rintro e wq ⟨lv,rfl,hol,hbq⟩
  obtain⟨ol,cl,rfl,_,_⟩:=Ac hol
  replace HWD:=Qh (HWD.out.below hbq)
  replace HOHD:=Qh (show OwnB wq wl2.heap.size (.slice oh H.length ch) H from own_later HOHD.out hbq)
  go_wp2_with fail
  refine hK.out _ _ ⟨HWD.out.bl,HWD.out.man⟩ (fun hHeld=> ?_)
  clear hK K hbq hol
  have hln2:IntKind.i64.wrap ((L.length:Int)+2)=(L.length:Int)+2:=by rw [κ];have:=HFN.out;have:=HJX.out.fs.ok.count;have h7:(rdD d s.size).files=d.files:=rfl;rw [h7] at this;omega
  have HLN2:=Qh hln2
  clear hln2
  refine tq 22 rfl ?_
  have FX17:=Qh (fun(wF:World) (hSw:(fun w'=>Below X.heap.size X w'∧Ah w' g (turnM s) (.slice (some ⟨g5,0,none⟩) K1 cap5)) wF)=>(HLN2.out))
  refine tf FX17 23 rfl ?_
  clear FX17
  rcases hde2:decide (700<(L.length:Int)+2) with _ | _
  rotate_left
  focus
   have FX18:=Qh (fun(wF:World) (hSw:(fun w'=>Below X.heap.size X w'∧Ah w' g (turnM s) (.slice (some ⟨g5,0,none⟩) K1 cap5)) wF)=>(hde2))
   refine tf FX18 24 rfl ?_
   clear FX18
   refine tq 25 rfl ?_
   rw [In (e:=54) (by rw [HQQ.out,ζ (by right;have:=χ hde2;have:=HFN.out;omega)]) (by decide),ζ rfl] at hR
   subst hR
   have HPO:=Qh (show Dc w b f m L mv (rdD d s.size) s wq from(Dc.below HJX.out HWD.out.bl).then HTX.out fun _ h=> .inl h)
   refine Λ (by kernel_rfl) ?_ _
   go_wp2
   go_ret
   exact⟨rfl,HPO.out⟩
  have FX19:=Qh (fun(wF:World) (hSw:(fun w'=>Below X.heap.size X w'∧Ah w' g (turnM s) (.slice (some ⟨g5,0,none⟩) K1 cap5)) wF)=>(hde2))
  refine tf FX19 24 rfl ?_
  clear FX19
  refine tq 25 rfl ?_
  refine Λ (by kernel_rfl) ?_ _
  clear hHeld
  have HE0:=Qh (show Cv d s more=0 from by
   rw [HQQ.out,γ]
   rintro(h | h)
   ·have:=ε hdec;have:=HA3.out;have:=HFR.out;omega
   ·have:=ε hde2;have:=HFN.out;omega)
  have HMB:=Qh HWD.out.man
  have HTW:=Qh (show Turned (A0 b mv f m L) w wq from HTX.out.trans (Turned.below (S:=fun _=>False) HWD.out.bl) fun _ h=>h.elim)
  have HLSG:=Qh (show (lastSg (turnM s)).num=s.man.next from by
   rw [HMT.out]
   unfold lastSg
   simp only [HSS.out,List.getLast?_concat]
   exact HNX1.out)
  have HSO:=Qh (show sealR s (Ei s) H (turnM s)=Dy s from by unfold sealR Dy;rw [HLSG.out,HHS.out])
  have HSE:=Qh (stoSeal_any (turnM s) (.slice (some ⟨g5,0,none⟩) K1 cap5) (.slice of fl cf) (.slice oh H.length ch) (Ei s) H (HJX.out.below HWD.out.bl) (by have:=HST.out;show d.steps+20<_;omega) (HSI.out _ g _ HWD.out) (HMO.out HE0.out).1 HSB.out.segs (HMO.out HE0.out).2
   ((browIn_own (A:=fun k=> ¬ A0 b mv f m L k) HOF.out fun k hk hc=>by have:=HJ.out.lt k hc;have:=HSZ3.out;omega).below HWD.out.bl)
   (browIn_own (A:=fun k=> ¬ A0 b mv f m L k) HOHD.out fun k hk hc=>by have:=HJX.out.lt k hc;have:=HSZX.out;omega))
  rw [HSO.out] at HSE
  obtain⟨R2,hR2⟩: ∃ R2,R2=Aw (rdD d s.size) (Dy s):=⟨_,rfl⟩
  rw [←hR2] at HSE
  have HRR:=Qh (show R=if R2.2=0 then (0,turned s,R2.1) else (R2.2,shutS s R2.2,R2.1) from by rw [←hR];unfold Bn;rw [ζ HE0.out,←hR2])
  obtain⟨D2,E2⟩:=R2
  unfold SealQ at HSE
  dsimp only at HSE HRR
  clear hR hR2
  go_wp2_with (with_reducible refine wpList_load_mn rfl (.tmp 8) rfl g (turnM s) (.slice (some ⟨g5,0,none⟩) K1 cap5) rfl HMB.out ?_)
  refine HSE.out.mono ?_
  rintro e wr ⟨rfl,hsp⟩
  have HSP:=Qh (hsp.then HTW.out fun _ h=> .inl h)
  clear hsp HSE
  rcases he0:(E2==0) with _ | _
  ·have hne: ¬ E2=0:=by simpa using he0
   rw [γ hne] at HSP HRR
   obtain⟨L3,mv3,sv3,hj3,ht3,hl3⟩:=HSP.out
   have HJ3:=Qh hj3
   have HT3':=Qh ht3
   have HL3:=Qh hl3
   clear hj3 ht3 hl3 hne
   go_wp2_with fail
   refine(K6 E2 HJ3.out).mono ?_
   rintro e wt ⟨rfl,hj4,ht4⟩
   have HPO:=Qh (show Dc w b f m L mv D2 (shutS s E2) wt from⟨L3,mv3,sv3,hj4,HT3'.out.trans ht4 HL3.out,HL3.out⟩)
   clear hj4 ht4
   go_wp2
   go_ret
   rw [HRR.out]
   exact⟨rfl,HPO.out⟩
  ·obtain rfl:E2=0:=by simpa using he0
   rw [ζ rfl] at HSP HRR
   obtain⟨L3,mv3,sv3,hj3,ht3,hl3⟩:=HSP.out
   have HJ3:=Qh hj3
   have HT3':=Qh ht3
   have HL3:=Qh hl3
   clear hj3 ht3 hl3
   go_wp2_with fail
   refine(K6 0 HJ3.out).mono ?_
   rintro e wt ⟨rfl,hj4,ht4⟩
   have HPO:=Qh (show Dc w b f m L mv D2 (turned s) wt from⟨L3,mv3,sv3,by unfold turned;rw [HHS.out];exact hj4,HT3'.out.trans ht4 HL3.out,HL3.out⟩)
   clear hj4 ht4
   go_wp2
   go_ret
   rw [HRR.out]
   exact⟨rfl,HPO.out⟩
end
section
variable {w w1 w2 : World} {b f m : Nat} {L L1 : List Ad} {d d1 d2 : Ab} {s s' : Cb} {mv sv : Value}
theorem Ag.disk2 {L':List Ad} {mv':Value} {l:List UInt8} {v:Value} (h:Ag (fun k=> ¬ A0 b mv f m L k) w v l) (ht:Turned (A0 b mv f m L) w w1) (hL: ∀ k,A0 b mv' f m L' k→A0 b mv f m L k∨w.heap.size≤k):Ag (fun k=> ¬ A0 b mv' f m L' k) w1 v l:=
 (h.low.turned ht fun _ hk hc=>hk.1 hc).mono fun k hk hc=>by
  rcases hL k hc with hc | hc
  ·exact hk.1 hc
  ·omega
structure Fit (d:Ab) (s:Cb) (n:Nat):Prop where
 sb:SB s
 marks:s.marks.length≤512
 room:s.size+n+20≤67108864
 full:s.count<s.segEv
 steps:d.steps+60<4611686018427387904
def PushMid (w w5:World) (b f m:Nat) (L:List Ad) (mv vB:Value) (B:List UInt8) (n:Nat) (le:Int) (R:(Int×Int)×Cb×Ab):Prop:=
 ∃ L5 mv5 sv5 d5 s5,SJ w5 b f m L5 d5 s5 mv5 sv5∧Turned (A0 b mv f m L) w w5∧(∀ k,A0 b mv5 f m L5 k→A0 b mv f m L k∨w.heap.size≤k)∧Ag (fun k=> ¬ A0 b mv5 f m L5 k) w5 vB B∧Fit d5 s5 n∧le=lastE s5∧appS d5 s5 B=R
theorem stoPush_any (raw:List UInt8) (rv:Value) (h:SJ w b f m L d s mv sv) (hs:SB s) (hl:raw.length≤1040) (hr:Ag (fun k=> ¬ A0 b mv f m L k) w rv raw) (hfit:s.count<s.segEv→Fit d s raw.length)
  (htn:s.segEv≤s.count→(∀ W,SJ W b f m L d s mv sv→Calls Tryz.prog 52 #[.pointer (some ⟨b,0,none⟩),.int .i64 ((raw.length+20:Nat):Int)] W (StepQ W b f m L mv (Bn d s (raw.length+20))))
   ∧((Bn d s (raw.length+20)).1=0→Fit (Bn d s (raw.length+20)).2.2 (Bn d s (raw.length+20)).2.1 raw.length∧lastE s=lastE (Bn d s (raw.length+20)).2.1)):
  Calls Tryz.prog 40 #[.pointer (some ⟨b,0,none⟩),rv] w (PushQ w b f m L mv (Cy d s raw)):=by
 have HL1:=Qh (Dp h hs)
 have HJ:=Qh h
 have HSB:=Qh hs
 have HR:=Qh hr
 have HFI:=Qh hfit
 have HTN:=Qh htn
 have hlo:0≤lastE s:=by unfold lastE;have:=hs.first;omega
 obtain⟨R,hR⟩: ∃ R,Cy d s raw=R:=⟨_,rfl⟩
 rw [hR]
 unfold Cy at hR
 obtain⟨orv,crv,rfl,_,_⟩:=id hr
 rcases hq:decide (1099511627776≤lastE s) with _ | _
 rotate_left
 ·rw [ζ (χ hq)] at hR
  subst hR
  clear h hs hl hr hlo HR HSB hfit htn HFI HTN
  generalize lastE s=le at*
  go_enter Tryz.func40,Tryz.ntmps40
  go_wp2_with fail
  refine HL1.out.mono ?_
  rintro e w1 ⟨rfl,hb1⟩
  have HP:=Qh (Dc.below HJ.out hb1)
  clear hb1
  go_wp2
  go_ret2
  exact⟨rfl,HP.out⟩
 have hql:=ε hq
 rw [γ hql] at hR
 have hw1:IntKind.i64.wrap (lastE s+1)=lastE s+1:=by rw [κ];omega
 have HEV:=Qh (show Bg 1 (lastE s+1) raw=(Hg s raw,0) from by rw [Jb (by omega) (by omega)];rfl)
 have hel:(Hg s raw).length=raw.length+20:=An _ _ _
 rw [hel,←hel] at hR
 rw [←hel] at HTN
 have HRL:=Qh hl
 clear h hs hl hr hlo hql hfit htn
 obtain⟨B,hB⟩: ∃ B,B=Hg s raw:=⟨_,rfl⟩
 rw [←hB] at HEV hel hR HTN
 have HEL:=Qh hel
 clear hB hel
 have HLE:=Qh (fun W (hB:Below w.heap.size w W)=>Dp (HJ.out.below hB) HSB.out)
 obtain⟨le,hle⟩: ∃ le,le=lastE s:=⟨_,rfl⟩
 rw [←hle] at HLE HL1 HEV hw1 hq HTN
 have HLF:=Qh hle
 clear hle
 have HW1:=Qh hw1
 go_enter Tryz.func40,Tryz.ntmps40
 go_wp2_with fail
 refine HL1.out.mono ?_
 rintro e w1 ⟨rfl,hb1⟩
 have HB1:=Qh hb1
 clear hb1 HL1
 go_wp2_with fail
 refine(HLE.out w1 HB1.out).mono ?_
 rintro e w2 ⟨rfl,hb2⟩
 have HB2:=Qh (Below.next HB1.out hb2)
 clear hb2 HB1 HLE
 have HFr:=Qh (by have:=frame_any 1 (le+1) raw _ w2 (HR.out.below HB2.out).brow (HJ.out.below HB2.out).nib;rw [HEV.out] at this;exact this)
 unfold Bd at HFr
 go_wp2_with fail
 refine HFr.out.mono ?_
 rintro e w3 ⟨v3,rfl,h3,hb3⟩
 obtain⟨o3,c3',rfl,_,_⟩:=Ac h3
 have HB3:=Qh (Below.next HB2.out hb3)
 have HJ3:=Qh (HJ.out.below HB3.out)
 have HF3:=Qh (browIn_own (A:=fun k=> ¬ A0 b mv f m L k) h3 fun k hk hc=>by have:=HJ.out.lt k hc;have:=HB2.out.size;omega)
 clear h3 hb3 HFr HB2 hw1
 go_wp2_with fail
 have C0:=Qh (show w3.cell? ⟨b,0,none⟩=some (.int .i64 (s.count:Int)) from HJ3.out.blk.cell 0)
 have C5:=Qh (show w3.cell? ⟨b,5,none⟩=some (.int .i64 (s.segEv:Int)) from HJ3.out.blk.cell 5)
 obtain⟨ge,hge⟩: ∃ ge,decide (s.segEv≤s.count)=ge:=⟨_,rfl⟩
 have HGE:=Qh hge
 clear hge
 refine ω (S:=fun w'=>Below w3.heap.size w3 w') (by kernel_rfl) (below_drewN' w3 1) (fun hHeld=> ?_)
 have FX1:=Qh (fun(wF:World) (hSw:(fun w'=>Below w3.heap.size w3 w') wF)=>And.intro ((cell_later hSw C0.out)) ((cell_later hSw C5.out)))
 refine tf FX1 0 rfl ?_
 refine tf FX1 1 rfl ?_
 refine tf FX1 2 rfl ?_
 refine tf FX1 3 rfl ?_
 refine tf FX1 4 rfl ?_
 refine tf FX1 5 rfl ?_
 refine tf FX1 6 rfl ?_
 refine tf FX1 7 rfl ?_
 refine tf FX1 8 rfl ?_
 refine tf FX1 9 rfl ?_
 clear FX1
 have FX2:=Qh (fun(wF:World) (hSw:(fun w'=>Below w3.heap.size w3 w') wF)=>(HGE.out))
 refine tf FX2 10 rfl ?_
 clear FX2
 have HB4:=Qh (show Below w.heap.size w (World.drew w3) from Below.next HB3.out (below_drewN' w3 1))
 have HF4:=Qh (show Ag _ (World.drew w3) _ B from HF3.out.below (below_drewN' w3 1))
 clear HB3 HJ3 HF3 C0 C5
 refine Λ (by kernel_rfl) ?_ _
 clear hHeld
 generalize World.drew w3=w4 at*
 have HJ4:=Qh (HJ.out.below HB4.out)
 have hge:=HGE.out
 rcases ge with _ | _
 focus
  rw [γ (ε HGE.out)] at hR
  have c3:w4.cell? ⟨b,3,none⟩=some (.pointer (some ⟨f,0,none⟩)):=HJ4.out.blk.cell 3
  have HFE:=Qh (fsFree_any w4 f m d L HJ4.out.fs)
  rcases hfr:decide (d.room - (usedF d.files:Int)<(B.length:Int)) with _ | _
  rotate_left
  ·rw [ζ (χ hfr)] at hR
   subst hR
   generalize d.room - (usedF d.files:Int)=fr at*
   go_wp2_with fail
   refine HFE.out.mono ?_
   rintro e w5 ⟨rfl,hb5⟩
   have HP:=Qh (Dc.below HJ.out (Below.next HB4.out hb5))
   clear hb5
   go_wp2
   go_ret2
   exact⟨rfl,HP.out⟩
  rw [γ (ε hfr)] at hR
  generalize d.room - (usedF d.files:Int)=fr at*
  go_wp2_with fail
  refine HFE.out.mono ?_
  rintro e w5 ⟨rfl,hb5⟩
  have HMID:=Qh (show PushMid w w5 b f m L mv (.slice o3 B.length c3') B raw.length le R from⟨L,mv,sv,d,s,HJ4.out.below hb5,Turned.below (Below.next HB4.out hb5),fun _ h=> .inl h,HF4.out.below hb5,HFI.out (by have:=ε HGE.out;omega),HLF.out,hR⟩)
  clear hb5 HB4 HJ4 HF4 HFE c3 hge HGE HFI HTN HLF hR HR HSB HJ
  go_wp2_with fail
 rotate_left
 focus
  rw [ζ (χ HGE.out)] at hR
  obtain⟨htc,htf⟩:=HTN.out (χ HGE.out)
  obtain⟨T,hT⟩: ∃ T,T=Bn d s B.length:=⟨_,rfl⟩
  rw [←hT] at htc htf hR
  obtain⟨E1,s5,d5⟩:=T
  dsimp only at htc htf hR
  have HTC:=Qh (htc w4 HJ4.out)
  have HTF:=Qh htf
  clear htc htf hT
  rcases he0:(E1==0) with _ | _
  ·have hne: ¬ E1=0:=by simpa using he0
   rw [γ hne] at hR
   subst hR
   go_wp2_with fail
   unfold StepQ at HTC
   refine HTC.out.mono ?_
   rintro e w5 ⟨rfl,hsp⟩
   have HP:=Qh (hsp.then (Turned.below HB4.out) fun _ h=> .inl h)
   clear hsp
   go_wp2
   go_ret2
   exact⟨rfl,HP.out⟩
  obtain rfl:E1=0:=by simpa using he0
  rw [ζ rfl] at hR
  go_wp2_with fail
  unfold StepQ at HTC
  refine HTC.out.mono ?_
  rintro e w5 ⟨rfl,hsp⟩
  obtain⟨L5,mv5,sv5,hj5,ht5,hl5⟩:=hsp
  have HMID:=Qh (show PushMid w w5 b f m L mv (.slice o3 B.length c3') B raw.length le R from⟨L5,mv5,sv5,d5,s5,hj5,(Turned.below HB4.out).trans ht5 fun _ h=> .inl h,fun k hk=>(hl5 k hk).imp id (μ HB4.out.size),HF4.out.disk2 ht5 hl5,(HTF.out (by first | rfl | trivial)).1,(HTF.out (by first | rfl | trivial)).2,hR⟩)
  clear hj5 ht5 hl5 HB4 HJ4 HF4 hge HGE HFI HTN HLF hR HR HSB HJ HTC HTF
  go_wp2_with fail
 all_goals
  obtain⟨L5,mv5,sv5,d5,s5,hj5,ht5,hl5,hf5,hft,hle5,hR⟩:=HMID.out
  have HJ5:=Qh hj5
  have HT5:=Qh ht5
  have HL5:=Qh hl5
  have HF5:=Qh hf5
  have HFT:=Qh hft
  have HLEE:=Qh hle5
  clear hj5 ht5 hl5 hf5 hft hle5 HMID
  have HNM:=Qh (fun W (hB:Below w5.heap.size w5 W)=>Fc (HJ5.out.below hB) HFT.out.sb.segs)
  have hbd:Below w5.heap.size w5 (World.drew w5):=below_drewN' w5 1
  refine ω (S:=fun w'=>w'.cell? ⟨b,3,none⟩=some (.pointer (some ⟨f,0,none⟩))) (by kernel_rfl) (HJ5.out.blk.cell 3) (fun hHeld=> ?_)
  have FX3:=Qh (fun(wF:World) (hSw:(fun w'=>w'.cell? ⟨b,3,none⟩=some (.pointer (some ⟨f,0,none⟩))) wF)=>(hSw))
  refine tf FX3 0 rfl ?_
  refine tf FX3 1 rfl ?_
  refine tf FX3 2 rfl ?_
  refine tf FX3 3 rfl ?_
  refine tf FX3 4 rfl ?_
  refine tf FX3 5 rfl ?_
  refine tf FX3 7 rfl ?_
  clear FX3
  generalize World.drew w5=Wd at*
  refine Rd 6 rfl fun K hK=> ?_
  go_simp
  refine(HNM.out _ hbd).mono ?_
  rintro e w6 ⟨rfl,hb6⟩
  have hb56:=Below.next hbd hb6
  have HJ6:=Qh (HJ5.out.below hb56)
  have HF6:=Qh (HF5.out.below hb56)
  have HT6:=Qh (show Turned (A0 b mv f m L) w w6 from HT5.out.trans (Turned.below (S:=fun _=>False) hb56) fun _ h=>h.elim)
  clear hb6 hbd hb56 HJ5 HF5 HT5 HNM
  go_wp2_with fail
  refine hK.out _ _ (HJ6.out.blk.cell 3) (fun hHeld=> ?_)
  clear hK K
  refine Rd 8 rfl fun K hK=> ?_
  go_simp
  refine(Iq w6 f m d5 L5 HJ6.out.fs (by have:=HFT.out.steps;omega) (segN s5.man) B _ HF6.out.off).mono ?_
  unfold appS at hR
  rintro e w7 ⟨rfl,hfp⟩
  obtain⟨L7,hj7,ht7,hl7⟩:=HJ6.out.disk hfp
  have HJ7:=Qh hj7
  have HT7:=Qh (show Turned (A0 b mv f m L) w w7 from HT6.out.trans ht7 HL5.out)
  have HL7:=Qh (fun k (hk:A0 b mv5 f m L7 k)=>show A0 b mv f m L k∨w.heap.size≤k from(hl7 k hk).elim (HL5.out k) fun h=> .inr (μ HT6.out.size h))
  clear hfp hj7 ht7 hl7 HJ6 HF6 HT6
  rw [←HLEE.out] at hR
  generalize (Aq d5 (opAppend (segN s5.man) B)).1=d7 at*
  generalize (Aq d5 (opAppend (segN s5.man) B)).2.2.2=E at*
  go_wp2_with fail
  refine hK.out _ _ (HJ7.out.blk.cell 3) (fun hHeld=> ?_)
  clear hK K
  refine Rd 9 rfl fun K hK=> ?_
  go_simp
  refine(K6 E HJ7.out).mono ?_
  rintro e w8 ⟨rfl,hj8,ht8⟩
  have HJ8:=Qh hj8
  have HT8:=Qh (HT7.out.trans ht8 HL7.out)
  clear hj8 ht8 HJ7 HT7
  go_wp2_with fail
  refine hK.out _ _ (HJ8.out.blk.cell 3) (fun hHeld=> ?_)
  clear hK K
  refine tq 10 rfl ?_
  refine Λ (by kernel_rfl) ?_ _
  rcases hE:(E==0) with _ | _
  ·have hE2: ¬ E=0:=by simpa using hE
   rw [γ hE2] at hR
   subst hR
   go_wp2
   go_ret2
   exact⟨rfl,L7,mv5,sv5,HJ8.out,HT8.out,HL7.out⟩
  obtain rfl:E=0:=by simpa using hE
  rw [ζ rfl] at hR
  have HJ9:=Qh (show SJ w8 b f m L7 d7 s5 mv5 sv5 from HJ8.out)
  clear hE HJ8 hHeld
  go_wp2_with fail
  have C0:=Qh (show w8.cell? ⟨b,0,none⟩=some (.int .i64 (s5.count:Int)) from HJ9.out.blk.cell 0)
  have C4:=Qh (show w8.cell? ⟨b,4,none⟩=some (.int .i64 (s5.stride:Int)) from HJ9.out.blk.cell 4)
  have HS0:=Qh (show ¬ s5.stride=0 from by have:=HFT.out.sb.stride;omega)
  obtain⟨x,hx,hm⟩: ∃ x:Int,(s5.count:Int).tmod (s5.stride:Int)=x∧((x==0)=true↔s5.count % s5.stride=0):=⟨_,rfl,by rw [show (s5.count:Int).tmod (s5.stride:Int)=((s5.count % s5.stride:Nat):Int) from rfl];simp;omega⟩
  have HX:=Qh hx
  have HM:=Qh hm
  clear hx hm
  rcases hxx:(x==0) with _ | _
  all_goals
   have HXX:=Qh hxx
   clear hxx
   refine ω (S:=fun w'=>Below w8.heap.size w8 w') (by kernel_rfl) (below_drewN' w8 1) (fun hHeld=> ?_)
   have FX4:=Qh (fun(wF:World) (hSw:(fun w'=>Below w8.heap.size w8 w') wF)=>And.intro ((cell_later hSw C0.out)) ((cell_later hSw C4.out)))
   refine tf FX4 0 rfl ?_
   refine tf FX4 1 rfl ?_
   refine tf FX4 2 rfl ?_
   refine tf FX4 3 rfl ?_
   refine tf FX4 4 rfl ?_
   refine tf FX4 5 rfl ?_
   refine tf FX4 6 rfl ?_
   refine tf FX4 7 rfl ?_
   refine tf FX4 8 rfl ?_
   refine tf FX4 9 rfl ?_
   clear FX4
   have FX5:=Qh (fun(wF:World) (hSw:(fun w'=>Below w8.heap.size w8 w') wF)=>And.intro ((HS0.out)) ((HX.out)))
   refine tf FX5 10 rfl ?_
   clear FX5
   have FX6:=Qh (fun(wF:World) (hSw:(fun w'=>Below w8.heap.size w8 w') wF)=>(HXX.out))
   refine tf FX6 11 rfl ?_
   clear FX6
   have hbd:Below w8.heap.size w8 (World.drew w8):=below_drewN' w8 1
   have HJa:=Qh (HJ9.out.below hbd)
   have HTa:=Qh (show Turned (A0 b mv f m L) w (World.drew w8) from HT8.out.trans (Turned.below (S:=fun _=>False) hbd) fun _ h=>h.elim)
   clear hbd hHeld C0 C4
   refine Λ (by kernel_rfl) ?_ _
   generalize World.drew w8=wa at*
   have hxx:=HXX.out
  focus
   have HAE:=Qh (show addS s5 B={s5 with marks:=s5.marks,count:=s5.count+1,size:=s5.size+B.length} from by
    have hns: ¬ s5.count % s5.stride=0:=fun hc=>by have:=HM.out.2 hc;rw [HXX.out] at this;cases this
    unfold addS
    rw [γ hns])
   obtain⟨ms,hms⟩: ∃ ms,ms=s5.marks:=⟨_,rfl⟩
   rw [←hms] at HAE
   have HJb:=Qh (show SJ wa b f m L7 d7 {s5 with marks:=ms} mv5 sv5 from by rw [hms];exact HJa.out)
   have HTb:=Qh HTa.out
   have HLc:=Qh HL7.out
   clear HJa HTa hms HX HM HJ9 HT8 HL7
   generalize wa=wb at*
  rotate_left
  focus
   have HAE:=Qh (show addS s5 B={s5 with marks:=s5.marks++[⟨le+1,s5.size⟩],count:=s5.count+1,size:=s5.size+B.length} from by
    have hns:s5.count % s5.stride=0:=HM.out.1 HXX.out
    unfold addS
    rw [ζ hns,HLEE.out])
   have C1:=Qh (show wa.cell? ⟨b,1,none⟩=some (.int .i64 (s5.size:Int)) from HJa.out.blk.cell 1)
   have HLE:=Qh (fun W (hB:Below wa.heap.size wa W)=>by have:=Dp (HJa.out.below hB) HFT.out.sb;rw [←HLEE.out] at this;exact this)
   clear HJ9 HT8 HX HM
   go_wp2_with fail
   clear hxx HXX
   have hbd:Below wa.heap.size wa (World.drew wa):=below_drewN' wa 1
   refine ω (S:=fun w'=>w'.cell? ⟨b,1,none⟩=some (.int .i64 (s5.size:Int))) (by kernel_rfl) C1.out (fun hHeld=> ?_)
   have FX7:=Qh (fun(wF:World) (hSw:(fun w'=>w'.cell? ⟨b,1,none⟩=some (.int .i64 (s5.size:Int))) wF)=>(hSw))
   refine tf FX7 0 rfl ?_
   refine tf FX7 1 rfl ?_
   refine tf FX7 2 rfl ?_
   refine tf FX7 3 rfl ?_
   refine tf FX7 4 rfl ?_
   refine tf FX7 6 rfl ?_
   refine tf FX7 9 rfl ?_
   refine tf FX7 10 rfl ?_
   refine tf FX7 11 rfl ?_
   refine tf FX7 12 rfl ?_
   refine tf FX7 13 rfl ?_
   clear FX7
   generalize World.drew wa=Wd at*
   refine wpAnyH_ready (rs:=[5,7]) (by kernel_rfl) (by simp) ?_
   refine AllReadyH.cons rfl (fun K hK=> ?_) (AllReadyH.cons rfl (fun K hK=> ?_) AllReadyH.nil)
   focus
    have c2:Wd.cell? ⟨b,2,none⟩=some mv5:=(HJa.out.below hbd).blk.cell 2
    go_simp
    refine hK.out _ _ hHeld (fun hHeld=> ?_)
    clear hK K c2
    refine Rd 7 rfl fun K hK=> ?_
    go_simp
    refine(HLE.out _ hbd).mono ?_
    rintro e w9 ⟨rfl,hb9⟩
    have HJc:=Qh (HJa.out.below (Below.next hbd hb9))
    have HTc:=Qh (show Turned (A0 b mv f m L) w w9 from HTa.out.trans (Turned.below (S:=fun _=>False) (Below.next hbd hb9)) fun _ h=>h.elim)
    clear hb9 hbd
    go_wp2_with fail
    refine hK.out _ _ (HJc.out.blk.cell 1) (fun hHeld=> ?_)
    clear hK K
    have FX8:=Qh (fun(wF:World) (hSw:(fun w'=>w'.cell? ⟨b,1,none⟩=some (.int .i64 (s5.size:Int))) wF)=>(HW1.out))
    refine tf FX8 8 rfl ?_
    refine tf FX8 14 rfl ?_
    clear FX8
    refine Rd 15 rfl fun K hK=> ?_
    go_simp
    refine hK.out _ _ (show (w9.alloc (.cells #[.int .i64 (le+1),.int .i64 (s5.size:Int)] 135)).cell? ⟨b,1,none⟩=_ from cell_later (below_alloc w9 _) (HJc.out.blk.cell 1)) (fun hHeld=> ?_)
    clear hK K
   rotate_left
   focus
    go_simp
    refine(HLE.out _ hbd).mono ?_
    rintro e w9 ⟨rfl,hb9⟩
    have HJc:=Qh (HJa.out.below (Below.next hbd hb9))
    have HTc:=Qh (show Turned (A0 b mv f m L) w w9 from HTa.out.trans (Turned.below (S:=fun _=>False) (Below.next hbd hb9)) fun _ h=>h.elim)
    clear hb9 hbd
    go_wp2_with fail
    refine hK.out _ _ (HJc.out.blk.cell 1) (fun hHeld=> ?_)
    clear hK K
    have FX9:=Qh (fun(wF:World) (hSw:(fun w'=>w'.cell? ⟨b,1,none⟩=some (.int .i64 (s5.size:Int))) wF)=>(HW1.out))
    refine tf FX9 8 rfl ?_
    refine tf FX9 14 rfl ?_
    clear FX9
    refine wpAnyH_ready (rs:=[5,15]) (by kernel_rfl) (by simp) ?_
    refine AllReadyH.cons rfl (fun K hK=> ?_) (AllReadyH.cons rfl (fun K hK=> ?_) AllReadyH.nil)
    focus
     have c2:w9.cell? ⟨b,2,none⟩=some mv5:=HJc.out.blk.cell 2
     go_simp
     refine hK.out _ _ hHeld (fun hHeld=> ?_)
     clear hK K c2
     refine Rd 15 rfl fun K hK=> ?_
     go_simp
     refine hK.out _ _ (show (w9.alloc (.cells #[.int .i64 (le+1),.int .i64 (s5.size:Int)] 135)).cell? ⟨b,1,none⟩=_ from cell_later (below_alloc w9 _) (HJc.out.blk.cell 1)) (fun hHeld=> ?_)
     clear hK K
    rotate_left
    focus
     go_simp
     refine hK.out _ _ (show (w9.alloc (.cells #[.int .i64 (le+1),.int .i64 (s5.size:Int)] 135)).cell? ⟨b,1,none⟩=_ from cell_later (below_alloc w9 _) (HJc.out.blk.cell 1)) (fun hHeld=> ?_)
     clear hK K
     have c2:(w9.alloc (.cells #[.int .i64 (le+1),.int .i64 (s5.size:Int)] 135)).cell? ⟨b,2,none⟩=some mv5:=cell_later (below_alloc w9 _) (HJc.out.blk.cell 2)
     refine Rd 5 rfl fun K hK=> ?_
     go_simp
     refine hK.out _ _ hHeld (fun hHeld=> ?_)
     clear hK K c2
   all_goals
    refine Rd 16 rfl fun K hK=> ?_
    rw [ζ (by kernel_rfl)]
    refine wp_appMk (.tmp 78) (.tmp 88) rfl ⟨le+1,(s5.size:Int)⟩ rfl rfl HJc.out.mks (by have:=HFT.out.marks;omega) ?_
    intro v' wm hm10 ht10 hone10 hnew10
    have hb2:B0 wm b f s5 mv5 sv5:=HJc.out.blk.keep (ht10.block b HJc.out.blk.lt HJc.out.sep.2.1)
    have HB2:=Qh hb2
    have HMA:=Qh (HJc.out.mark (s':={s5 with marks:=s5.marks++[⟨le+1,s5.size⟩]}) hm10 ht10 hnew10 rfl rfl)
    clear hm10 ht10 hnew10 hb2
    refine hK.out _ _ (HB2.out.cell 1) (fun hHeld=> ?_)
    clear hK K
    refine Rd 17 rfl fun K hK=> ?_
    go_simp
    refine hK.out _ _ hHeld (fun hHeld=> ?_)
    clear hK K
    refine Rd 18 rfl fun K hK=> ?_
    go_simp
    refine hK.out _ _ hHeld (fun hHeld=> ?_)
    clear hK K
    refine Rd 19 rfl fun K hK=> ?_
    go_simp
    refine hK.out _ _ hHeld (fun hHeld=> ?_)
    clear hK K
    refine Rd 20 rfl fun K hK=> ?_
    rw [ζ (by kernel_rfl)]
    refine Da 78 (.tmp 92) (.tmp 89) rfl b 2 v' mv5 (by kernel_rfl) hone10 (by kernel_rfl) (by kernel_rfl) (HB2.out.cell 2) (HB2.out.free 2) ?_
    obtain⟨hj,ht,hl⟩:=HMA.out
    obtain⟨ms,hms⟩: ∃ ms,ms=s5.marks++[⟨le+1,s5.size⟩]:=⟨_,rfl⟩
    rw [←hms] at hj HAE
    generalize wm.setCell ⟨b,2,none⟩ v'=wb at*
    have HJb:=Qh hj
    have HTb:=Qh (HTc.out.trans ht HL7.out)
    have HLc:=Qh (fun k (hk:A0 b v' f m L7 k)=>show A0 b mv f m L k∨w.heap.size≤k from by
     rcases hl k hk with h1 | h1
     ·exact HL7.out k h1
     ·exact .inr (μ HTc.out.size h1))
    refine hK.out _ _ (hj.blk.cell 1) (fun _=> ?_)
    clear hK K hj ht hl HMA hms HB2 hHeld
    refine Λ (by kernel_rfl) ?_ _
  all_goals
   have c0:wb.cell? ⟨b,0,none⟩=some (.int .i64 (s5.count:Int)):=HJb.out.blk.cell 0
   have f0:=HJb.out.blk.free 0
   have c1:wb.cell? ⟨b,1,none⟩=some (.int .i64 (s5.size:Int)):=HJb.out.blk.cell 1
   have f1:=HJb.out.blk.free 1
   have hc1:IntKind.i64.wrap ((s5.count:Int)+1)=(s5.count:Int)+1:=by rw [κ];have:=HFT.out.sb.count;omega
   have hz1:IntKind.i64.wrap ((s5.size:Int)+(B.length:Int))=(s5.size:Int)+(B.length:Int):=by rw [κ];have:=HFT.out.room;have:=HEL.out;omega
   obtain⟨hj1,ht1⟩:=HJb.out.set (s':={s5 with marks:=ms,count:=s5.count+1}) (j:=0) (v:= .int .i64 ((s5.count:Int)+1)) (by simp [Gw]) rfl rfl
   obtain⟨hj2,ht2⟩:=hj1.set (s':={s5 with marks:=ms,count:=s5.count+1,size:=s5.size+B.length}) (j:=1) (v:= .int .i64 ((s5.size:Int)+(B.length:Int))) (by simp [Gw]) rfl rfl
   have HJe:=Qh hj2
   have HTe:=Qh (((HTb.out.trans ht1 HLc.out).trans ht2 HLc.out))
   clear hj1 hj2 ht1 ht2
   go_wp2_with fail
   have HLL:=Qh (Dp HJe.out ⟨HFT.out.sb.segs,HFT.out.sb.first,HFT.out.sb.num,by have:=HFT.out.sb.segEv;have:=HFT.out.full;show s5.count+1≤512;omega,by have:=HFT.out.room;have:=HEL.out;show s5.size+B.length≤67108864;omega,HFT.out.sb.stride,HFT.out.sb.segEv⟩)
   rw [show lastE {s5 with marks:=ms,count:=s5.count+1,size:=s5.size+B.length}=le+1 from by rw [HLEE.out];unfold lastE;simp only;omega] at HLL
   refine HLL.out.mono ?_
   rintro e we ⟨rfl,hbe⟩
   have HPO:=Qh (show Dc w b f m L mv d7 (addS s5 B) we from by rw [HAE.out];exact(Dc.below HJe.out hbe).then HTe.out HLc.out)
   clear hbe
   go_wp2
   go_ret2
   subst hR
   exact⟨rfl,HPO.out⟩
end
theorem at_take_same (n:List UInt8) (fs:List A7):atF (takeF n fs) n=none:=by
 unfold atF takeF
 rw [List.find?_filter,List.find?_eq_none]
 intro x _
 simp
theorem at_app {fs:List A7} (hr:Ff fs) {n b:List UInt8} {x:A7} (ha:atF fs n=some x):
  (∀ k,k≠n→atF (Cg fs (opAppend n b)) k=atF fs k)∧atF (Cg fs (opAppend n b)) n=some {x with data:=x.data++b}∧usedF (Cg fs (opAppend n b))=usedF fs+b.length∧(Cg fs (opAppend n b)).length=fs.length:=by
 have e:Cg fs (opAppend n b)=setF n (fun _=>{x with data:=x.data++b}) fs:=chgL_set (o:=opAppend n b) hr ha (by simp [opAppend]) (by simp [opAppend]) (by simp [opAppend])
 have hn:=(Bi ha).1
 have hu:=G9 (f':={x with data:=x.data++b}) hr ha hn
 rw [e]
 exact⟨fun k hk=>Hz (y:={x with data:=x.data++b}) hn hk,at_set_same ha hn,by simp only [η] at hu;omega,by simp [setF]⟩
theorem at_sync {fs:List A7} (hr:Ff fs) {n:List UInt8} {x:A7} (ha:atF fs n=some x):
  (∀ k,k≠n→atF (Cg fs (opSync n)) k=atF fs k)∧atF (Cg fs (opSync n)) n=some {x with safe:=(x.data.length:Int)}∧usedF (Cg fs (opSync n))=usedF fs∧(Cg fs (opSync n)).length=fs.length:=by
 have e:Cg fs (opSync n)=setF n (fun _=>{x with safe:=(x.data.length:Int)}) fs:=chgL_set (o:=opSync n) hr ha (by simp [opSync]) (by simp [opSync]) (by simp [opSync])
 have hn:=(Bi ha).1
 have hu:=G9 (f':={x with safe:=(x.data.length:Int)}) hr ha hn
 rw [e]
 exact⟨fun k hk=>Hz (y:={x with safe:=(x.data.length:Int)}) hn hk,at_set_same ha hn,by simp only at hu;omega,by simp [setF]⟩
theorem at_new {fs:List A7} {n:List UInt8} (ha:atF fs n=none):
  (∀ k,k≠n→atF (Cg fs (opCreate n)) k=atF fs k)∧atF (Cg fs (opCreate n)) n=some ⟨n,[],0⟩∧usedF (Cg fs (opCreate n))=usedF fs∧(Cg fs (opCreate n)).length=fs.length+1:=by
 rw [chg_create]
 exact⟨fun k hk=>Fg (fun e=>hk e.symm),Co (ne_of_none ha),by rw [Dh];simp,E9 _ _⟩
theorem at_ren {fs:List A7} {n t:List UInt8} {x:A7} (ha:atF fs n=some x) (hnt:n≠t):
  (∀ k,k≠n→k≠t→atF (Cg fs (opRename n t)) k=atF fs k)∧atF (Cg fs (opRename n t)) n=none∧atF (Cg fs (opRename n t)) t=some {x with name:=t}:=by
 have e:Cg fs (opRename n t)=Bu {x with name:=t} (takeF t (takeF n fs)):=by
  unfold Cg Ga stand opRename H8
  simp [ha]
 have h1: ∀ y∈takeF t (takeF n fs),y.name≠t:=fun y hy=>by
  have:=(List.mem_filter.1 hy).2
  simpa using this
 rw [e]
 refine⟨fun k h2 h3=> ?_,?_,Co (f:={x with name:=t}) h1⟩
 ·rw [Fg (f:={x with name:=t}) (fun e=>h3 e.symm),atF_take _ h3,atF_take _ h2]
 ·rw [Fg (f:={x with name:=t}) (fun e=>hnt e.symm),atF_take _ hnt,at_take_same]
abbrev Grp:=Sg×List (List UInt8)
def footG (stride:Nat) (x:Grp):List UInt8:=frameOf 3 x.1.num.toNat (footBody x.1.first.toNat x.2.length stride (mksG stride 0 x.1.first.toNat (hdB x.1).length x.2))
structure SealAt (fs:List A7) (stride:Nat) (x:Grp):Prop where
 dat:datF fs (Aa x.1.num)=some (segB x.1 x.2++footG stride x)
 len:1≤x.2.length∧x.2.length≤512
 count:x.1.count=(x.2.length:Int)
 foot:x.1.foot=((segB x.1 x.2).length:Int)
structure Sta (fs:List A7) (s:Cb) (G:List Grp) (g:Sg) (bs:List (List UInt8)):Prop where
 ok:Bt s.man=true
 snap:s.man.snap=0
 segs:s.man.segs=G.map (·.1)++[g]
 man:datF fs Am=some (Bs s.man).1
 act:datF fs (Aa g.num)=some (segB g bs)
 cnt:s.count=bs.length∧bs.length≤512
 size:s.size=(segB g bs).length
 marks:s.marks=mksG s.stride 0 g.first.toNat (hdB g).length bs
 seals: ∀ x∈G,SealAt fs s.stride x
 body:(∀ x∈G,∀ b∈x.2,BodyOk b)∧ ∀ b∈bs,BodyOk b
 cfg:(1≤s.stride∧s.stride≤64)∧1≤s.segEv∧s.segEv≤512
 clean: ∀ k x,atF fs k=some x→strayN true s.man k=false
 top:g.first+(bs.length:Int)≤1099511627777
section
variable {fs : List A7} {s : Cb} {G : List Grp} {g : Sg} {bs : List (List UInt8)}
theorem Sta.last (h:Sta fs s G g bs):lastSg s.man=g:=by unfold lastSg;rw [h.segs];simp
theorem Sta.name (h:Sta fs s G g bs):segN s.man=Aa g.num:=by unfold segN;rw [h.last]
theorem Sta.lastE (h:Sta fs s G g bs):lastE s=g.first+(bs.length:Int) - 1:=by unfold Go.Proofs.YtgkdenejkcngnaaGreatDoor.lastE;rw [h.last,h.cnt.1]
theorem Sta.mem (h:Sta fs s G g bs):g∈s.man.segs:=by rw [h.segs];simp
theorem Sta.seg (h:Sta fs s G g bs):(1≤g.num∧g.num≤999999)∧1≤g.first∧g.first≤1099511627777:=by
 have hf:=B7 h.ok
 have:=hf.seg g h.mem
 have:=hf.next
 have:=h.top
 omega
theorem Sta.sealSeg (h:Sta fs s G g bs) {x:Grp} (hx:x∈G):(1≤x.1.num∧x.1.num≤999999)∧1≤x.1.first:=by
 have hf:=B7 h.ok
 have:=hf.seg x.1 (by rw [h.segs];exact List.mem_append_left _ (List.mem_map_of_mem hx))
 have:=hf.next
 omega
end
theorem G3 {bs:List (List UInt8)} (h: ∀ b∈bs,BodyOk b) (n:Nat):(lay (evFr n bs)).length≤1060*bs.length:=by
 induction bs generalizing n with
 | nil=>simp [evFr,lay]
 | cons b r ih=>
  have:=ih (fun x hx=>h x (by simp [hx])) (n+1)
  have:=(h b (by simp)).2
  rw [Hj,φ]
  omega
theorem chain_turn (nx:Int) (g:Sg) (c k:Int) (hc:1≤c∧c≤512) (hk:1≤k∧k≤1099511627776) (ht:g.first+c≤1099511627777): ∀ (l:List Sg) (first num:Int),chainOk nx first num (l++[g])=true→
  chainOk (nx+1) first num (l++[(⟨g.num,g.first,c,k⟩:Sg),⟨nx,g.first+c,0,0⟩])=true
 | [],first,num,h=>by
  simp only [List.nil_append,chainOk,List.isEmpty_nil,List.isEmpty_cons,Bool.and_eq_true,decide_eq_true_eq,if_true,Bool.false_eq_true,if_false] at h ⊢
  repeat' apply And.intro
  all_goals first | trivial | omega
 | x::r,first,num,h=>by
  have e1:(r++[g]).isEmpty=false:=by cases r<;>rfl
  have e2:(r++[(⟨g.num,g.first,c,k⟩:Sg),⟨nx,g.first+c,0,0⟩]).isEmpty=false:=by cases r<;>rfl
  simp only [List.cons_append,chainOk,e1,e2,Bool.and_eq_true,decide_eq_true_eq,Bool.false_eq_true,if_false] at h ⊢
  have ih:=chain_turn nx g c k hc hk ht r (first+x.count) x.num h.2.2
  exact⟨⟨⟨h.1.1.1,h.1.1.2⟩,by omega⟩,h.2.1,ih⟩
theorem Sta.turnOk {fs:List A7} {s:Cb} {G:List Grp} {g:Sg} {bs:List (List UInt8)} (h:Sta fs s G g bs) (hc:s.count≠0) (h1:s.man.segs.length<256) (h2:s.man.next≤999999) (h3:s.man.gen<1099511627776):
  turnM s={s.man with gen:=s.man.gen+1,next:=s.man.next+1,segs:=G.map (·.1)++[⟨g.num,g.first,s.count,s.size⟩,⟨s.man.next,g.first+(s.count:Int),0,0⟩]}∧Bt (turnM s)=true:=by
 have hf:=B7 h.ok
 have e:turnM s={s.man with gen:=s.man.gen+1,next:=s.man.next+1,segs:=G.map (·.1)++[⟨g.num,g.first,s.count,s.size⟩,⟨s.man.next,g.first+(s.count:Int),0,0⟩]}:=by
  unfold turnM
  rw [h.last,h.lastE,h.cnt.1,h.segs,List.dropLast_concat,show g.first+(bs.length:Int) - 1+1=g.first+(bs.length:Int) by omega]
 refine⟨e,?_⟩
 have hch:=hf.chain
 rw [h.segs] at hch
 have h4:=h.cnt
 have h5:=h.size
 have h6:=G3 h.body.2 g.first.toNat
 have h7:=Ks h.seg.1 h.seg.2
 have h8:(segB g bs).length=(hdB g).length+(lay (evFr g.first.toNat bs)).length:=by unfold segB;rw [η]
 have:=chain_turn s.man.next g s.count s.size (by omega) (by omega) (by have:=h.top;omega) (G.map (·.1)) _ _ hch
 rw [e]
 have a1:=hf.gen
 have a2:=hf.next
 have a3:=hf.snapSeq
 have a4:=hf.floor
 have a5:=hf.snap
 have a6:(decide (s.man.snap=0)==decide (s.man.snapSeq=0))=true:=by
  have:=h.ok
  simp only [Bt,Bool.and_eq_true] at this
  exact this.1.1.2
 have a7:(G.map (·.1)++[(⟨g.num,g.first,s.count,s.size⟩:Sg),⟨s.man.next,g.first+(s.count:Int),0,0⟩]).length≤256:=by
  have:s.man.segs.length=(G.map (·.1)).length+1:=by rw [h.segs];simp
  simp only [η,φ,Φ] at this ⊢
  omega
 simp only [Bt,Bool.and_eq_true,decide_eq_true_eq]
 exact⟨⟨⟨⟨⟨⟨⟨⟨⟨⟨⟨⟨by omega,by omega⟩,by omega⟩,by omega⟩,by omega⟩,by omega⟩,by omega⟩,by omega⟩,by omega⟩,by omega⟩,a6⟩,a7⟩,this⟩
section
variable {P Q : List A7 → Prop} {d : Ab} {n : List UInt8} {x : A7} {ops : List Io}
theorem went_app {b:List UInt8} (hok:At d) (hd:d.down=false) (ha:atF d.files n=some x) (hu:((usedF d.files+b.length:Nat):Int)≤d.room) (h1:P (Cg d.files (opAppend n b)))
  (hr: ∀ d':Ab,d'.files=Cg d.files (opAppend n b)→d'.room=d.room→d'.down=false→At d'→(d.fuse=0→d'.fuse=0)→Went P Q d' (Aw d' ops)):Went P Q d (Aw d (opAppend n b::ops)):=
 Ea hok (by simp [opAppend]) (by simp [opAppend]) (by
  rw [F8,Ek hok hd ha,γ (by decide),show decide (d.room - (usedF d.files:Int)<(b.length:Int))=false by simp;omega];rfl) (by rw [ζ (by simp [opAppend])];exact h1) hr
theorem went_sync (hok:At d) (hd:d.down=false) (ha:atF d.files n=some x) (h1:P d.files)
  (hr: ∀ d':Ab,d'.files=Cg d.files (opSync n)→d'.room=d.room→d'.down=false→At d'→(d.fuse=0→d'.fuse=0)→Went P Q d' (Aw d' ops)):Went P Q d (Aw d (opSync n::ops)):=
 Ea hok (by simp [opSync]) (by simp [opSync]) (by rw [J0,Ek hok hd ha]) (by rw [γ (by simp [opSync])];exact h1) hr
theorem went_new (hok:At d) (hd:d.down=false) (hn:rightName n=true) (ha:atF d.files n=none) (hl:d.files.length<700) (h1:P d.files)
  (hr: ∀ d':Ab,d'.files=Cg d.files (opCreate n)→d'.room=d.room→d'.down=false→At d'→(d.fuse=0→d'.fuse=0)→Went P Q d' (Aw d' ops)):Went P Q d (Aw d (opCreate n::ops)):=
 Ea hok (by simp [opCreate]) (by simp [opCreate]) (by
  rw [F9,openE_off hd hn ha,γ (by decide),γ (by decide),show decide (700≤d.files.length)=false by simp;omega];rfl) (by rw [γ (by simp [opCreate])];exact h1) hr
theorem went_ren {t:List UInt8} (hok:At d) (hd:d.down=false) (ht:rightName t=true) (ha:atF d.files n=some x) (h1:P d.files)
  (hr: ∀ d':Ab,d'.files=Cg d.files (opRename n t)→d'.room=d.room→d'.down=false→At d'→(d.fuse=0→d'.fuse=0)→Went P Q d' (Aw d' ops)):Went P Q d (Aw d (opRename n t::ops)):=
 Ea hok (by simp [opRename]) (by simp [opRename]) (by rw [Gx,Ek hok hd ha,ht];simp) (by rw [γ (by simp [opRename])];exact h1) hr
end
theorem ren_used {fs:List A7} (hr:Ff fs) {n t:List UInt8} {x:A7} (ha:atF fs n=some x):usedF (Cg fs (opRename n t))≤usedF fs∧(Cg fs (opRename n t)).length≤fs.length:=by
 have e:Cg fs (opRename n t)=Bu {x with name:=t} (takeF t (takeF n fs)):=by
  unfold Cg Ga stand opRename H8
  simp [ha]
 have h1:=Ch hr ha
 have h2:usedF (takeF t (takeF n fs))≤usedF (takeF n fs):=by
  rcases h:atF (takeF n fs) t with _ | y
  ·rw [Kb h];exact ξ _
  ·have:=Ch (G6 hr) h;omega
 have h3:(takeF n fs).length<fs.length:=by
  have hm:=(Bi ha).2
  have hx:=(Bi ha).1
  rcases Nat.lt_or_ge (takeF n fs).length fs.length with h | h
  ·exact h
  ·have:=List.length_filter_eq_length_iff.1 (Nat.le_antisymm (List.length_filter_le _ _) h) x hm
   simp [hx] at this
 have h4:(takeF t (takeF n fs)).length≤(takeF n fs).length:=List.length_filter_le _ _
 rw [e,Dh,E9]
 exact⟨by simp only;omega,by omega⟩
theorem seg_ne {n:Int} (h:1≤n∧n≤999999):Aa n≠As∧Aa n≠Fk∧rightName (Aa n)=true:=by
 have h1:=parse_seg n h
 refine⟨fun e=> ?_,fun e=> ?_,parse_right _ (by rw [h1];simp)⟩
 ·rw [e,show Ao As=(2,0) by decide] at h1;simp at h1
 ·rw [e,show Ao Fk=(1,0) by decide] at h1;simp at h1
theorem stray_tmp (m:B3):strayN true m As=true:=by
 unfold strayN
 rw [show Ao As=(2,0) by decide]
 rfl
theorem stray_next {m:B3} (hf:ManFine m) (h:m.next≤999999):strayN true m (Aa m.next)=true:=by
 have h1:=hf.next
 unfold strayN
 rw [parse_seg m.next (by omega)]
 simp only [if_true]
 have:Gc m m.next=false:=by
  unfold Gc
  rw [List.any_eq_false]
  intro g hg
  have:=hf.seg g hg
  simp
  omega
 rw [this]
 rfl
structure Mid (fs:List A7) (s:Cb) (fs':List A7):Prop where
 oth: ∀ k,strayN true s.man k=false→k≠segN s.man→atF fs' k=atF fs k
 act: ∃ x y,atF fs (segN s.man)=some x∧atF fs' (segN s.man)=some y∧(y.data=x.data∨y.data=x.data++Ei s)∧x.safe≤y.safe
structure TurnQ (fs:List A7) (s:Cb) (G:List Grp) (g:Sg) (bs:List (List UInt8)) (fs':List A7):Prop where
 sta:Sta fs' (turned s) (G++[(⟨g.num,g.first,s.count,s.size⟩,bs)]) ⟨s.man.next,g.first+(bs.length:Int),0,0⟩ []
 oth: ∀ k,k≠Fk→k≠Aa g.num→k≠Aa s.man.next→k≠As→atF fs' k=atF fs k
 used:usedF fs'≤usedF fs+(Ei s).length+(Hi s).length+(Bs (turnM s)).1.length
 len:fs'.length≤fs.length+2
 safe: ∀ k,(k=Fk∨k=Aa g.num∨k=Aa s.man.next)→ ∀ x,atF fs' k=some x→x.safe=(x.data.length:Int)
theorem turnE_zero {d:Ab} {s:Cb} {more:Nat} (h:Cv d s more=0):s.count≠0∧s.man.segs.length<256∧s.man.next≤999999∧s.man.gen<1099511627776∧
  ((Ei s).length:Int)+((Hi s).length:Int)+((Bs (turnM s)).1.length:Int)+(more:Int)≤d.room - (usedF d.files:Int)∧d.files.length+2≤700:=by
 unfold Cv at h
 split at h
 ·cases h
 ·split at h
  ·cases h
  ·split at h
   ·cases h
   ·split at h
    ·cases h
    ·omega
theorem seal_went {d:Ab} {s:Cb} {G:List Grp} {g:Sg} {bs:List (List UInt8)} {more:Nat} (hok:At d) (hd:d.down=false) (h:Sta d.files s G g bs) (ht:Cv d s more=0) {P:List A7→Prop} (hP: ∀ fs',Mid d.files s fs'→P fs'):
  Went P (TurnQ d.files s G g bs) d (Aw d (Dy s)):=by
 obtain⟨hc,h256,hnx,hgen,hroom,hlen⟩:=turnE_zero ht
 obtain⟨hte,hto⟩:=h.turnOk hc h256 hnx hgen
 have hf:=B7 h.ok
 have hsg:=h.seg
 obtain⟨F,hF⟩: ∃ F,F=d.files:=⟨_,rfl⟩
 obtain⟨x0,hx0,hxd⟩:=Dg h.act
 have hA:=seg_ne hsg.1
 have hnxb:=hf.next
 have hN:=seg_ne (n:=s.man.next) (by omega)
 have hgn:=hf.seg g h.mem
 have hAN:Aa g.num≠Aa s.man.next:=fun e=>by
  have:=seg_same g.num s.man.next hsg.1
  rw [e] at this
  simp at this
  omega
 have hnN:atF d.files (Aa s.man.next)=none:=by
  rcases hh:atF d.files (Aa s.man.next) with _ | y
  ·rfl
  ·have:=h.clean _ y hh;rw [stray_next hf hnx] at this;cases this
 have hnT:atF d.files As=none:=by
  rcases hh:atF d.files As with _ | y
  ·rfl
  ·have:=h.clean _ y hh;rw [stray_tmp] at this;cases this
 have hTM:As≠Fk:=by decide
 have hmid: ∀ fs' y,(∀ k,k≠Aa g.num→k≠Aa s.man.next→k≠As→atF fs' k=atF d.files k)→atF fs' (Aa g.num)=some y→(y.data=x0.data∨y.data=x0.data++Ei s)→x0.safe≤y.safe→P fs':=fun fs' y a b c e=>
  hP fs' ⟨fun k hk hk2=>a k (by rw [←h.name];exact hk2) (fun e=>by rw [e,stray_next hf hnx] at hk;cases hk) (fun e=>by rw [e,stray_tmp] at hk;cases hk),x0,y,by rw [h.name];exact hx0,by rw [h.name];exact b,c,e⟩
 have hsf:=hok.safe x0 (Bi hx0).2
 have e9:Dy s=[opAppend (Aa g.num) (Ei s),opSync (Aa g.num),opCreate (Aa s.man.next),opAppend (Aa s.man.next) (Hi s),opSync (Aa s.man.next),opCreate As,opAppend As (Bs (turnM s)).1,opSync As,opRename As Fk]:=by
  unfold Dy Cf
  rw [h.name]
  rfl
 rw [e9]
 obtain⟨a1,b1,u1,l1⟩:=at_app hok.rise hx0 (b:=Ei s)
 refine went_app hok hd hx0 (by omega) (hmid _ _ (fun k k1 _ _=>a1 k k1) b1 (.inr rfl) (Int.le_refl _)) fun d1 f1 r1 n1 o1 z1=> ?_
 rw [←f1] at a1 b1 u1 l1
 obtain⟨a2,b2,u2,l2⟩:=at_sync o1.rise b1
 refine went_sync o1 n1 b1 (hmid _ _ (fun k k1 _ _=>a1 k k1) b1 (.inr rfl) (Int.le_refl _)) fun d2 f2 r2 n2 o2 z2=> ?_
 rw [←f2] at a2 b2 u2 l2
 have c2: ∀ k,k≠Aa g.num→atF d2.files k=atF d.files k:=fun k hk=>(a2 k hk).trans (a1 k hk)
 have hsy:x0.safe≤((x0.data++Ei s).length:Int):=by rw [η];omega
 have hN2:atF d2.files (Aa s.man.next)=none:=by rw [c2 _ hAN.symm];exact hnN
 obtain⟨a3,b3,u3,l3⟩:=at_new hN2
 refine went_new o2 n2 hN.2.2 hN2 (by omega) (hmid _ _ (fun k k1 _ _=>c2 k k1) b2 (.inr rfl) hsy) fun d3 f3 r3 n3 o3 z3=> ?_
 rw [←f3] at a3 b3 u3 l3
 have c3: ∀ k,k≠Aa g.num→k≠Aa s.man.next→atF d3.files k=atF d.files k:=fun k hk hk2=>(a3 k hk2).trans (c2 k hk)
 have g3:atF d3.files (Aa g.num)=_:=(a3 _ hAN).trans b2
 obtain⟨a4,b4,u4,l4⟩:=at_app o3.rise b3 (b:=Hi s)
 have c4: ∀ k,k≠Aa g.num→k≠Aa s.man.next→atF (Cg d3.files (opAppend (Aa s.man.next) (Hi s))) k=atF d.files k:=fun k hk hk2=>(a4 k hk2).trans (c3 k hk hk2)
 have g4:=(a4 _ hAN).trans g3
 refine went_app o3 n3 b3 (by rw [r3,r2,r1];omega) (hmid _ _ (fun k k1 k2 _=>c4 k k1 k2) g4 (.inr rfl) hsy) fun d4 f4 r4 n4 o4 z4=> ?_
 rw [←f4] at a4 b4 u4 l4 c4 g4
 obtain⟨a5,b5,u5,l5⟩:=at_sync o4.rise b4
 refine went_sync o4 n4 b4 (hmid _ _ (fun k k1 k2 _=>c4 k k1 k2) g4 (.inr rfl) hsy) fun d5 f5 r5 n5 o5 z5=> ?_
 rw [←f5] at a5 b5 u5 l5
 have c5: ∀ k,k≠Aa g.num→k≠Aa s.man.next→atF d5.files k=atF d.files k:=fun k hk hk2=>(a5 k hk2).trans (c4 k hk hk2)
 have g5:=(a5 _ hAN).trans g4
 have hT5:atF d5.files As=none:=by rw [c5 _ hA.1.symm hN.1.symm];exact hnT
 obtain⟨a6,b6,u6,l6⟩:=at_new hT5
 refine went_new o5 n5 (by decide) hT5 (by omega) (hmid _ _ (fun k k1 k2 _=>c5 k k1 k2) g5 (.inr rfl) hsy) fun d6 f6 r6 n6 o6 z6=> ?_
 rw [←f6] at a6 b6 u6 l6
 have c6: ∀ k,k≠Aa g.num→k≠Aa s.man.next→k≠As→atF d6.files k=atF d.files k:=fun k hk hk2 hk3=>(a6 k hk3).trans (c5 k hk hk2)
 have g6:=(a6 _ hA.1).trans g5
 obtain⟨a7,b7,u7,l7⟩:=at_app o6.rise b6 (b:=(Bs (turnM s)).1)
 have c7: ∀ k,k≠Aa g.num→k≠Aa s.man.next→k≠As→atF (Cg d6.files (opAppend As (Bs (turnM s)).1)) k=atF d.files k:=fun k hk hk2 hk3=>(a7 k hk3).trans (c6 k hk hk2 hk3)
 have g7:=(a7 _ hA.1).trans g6
 refine went_app o6 n6 b6 (by rw [r6,r5,r4,r3,r2,r1];omega) (hmid _ _ c7 g7 (.inr rfl) hsy) fun d7 f7 r7 n7 o7 z7=> ?_
 rw [←f7] at a7 b7 u7 l7 c7 g7
 obtain⟨a8,b8,u8,l8⟩:=at_sync o7.rise b7
 refine went_sync o7 n7 b7 (hmid _ _ c7 g7 (.inr rfl) hsy) fun d8 f8 r8 n8 o8 z8=> ?_
 rw [←f8] at a8 b8 u8 l8
 have c8: ∀ k,k≠Aa g.num→k≠Aa s.man.next→k≠As→atF d8.files k=atF d.files k:=fun k hk hk2 hk3=>(a8 k hk3).trans (c7 k hk hk2 hk3)
 have g8:=(a8 _ hA.1).trans g7
 have s8:atF d8.files (Aa s.man.next)=_:=(a8 _ hN.1).trans ((a7 _ hN.1).trans ((a6 _ hN.1).trans b5))
 obtain⟨a9,b9,m9⟩:=at_ren b8 hTM
 have v9:=ren_used (t:=Fk) o8.rise b8
 refine went_ren o8 n8 (by decide) b8 (hmid _ _ c8 g8 (.inr rfl) hsy) fun d9 f9 r9 n9 o9 z9=> ?_
 rw [←f9] at a9 b9 m9 v9
 have c9: ∀ k,k≠Fk→k≠Aa g.num→k≠Aa s.man.next→k≠As→atF d9.files k=atF d.files k:=fun k h0 hk hk2 hk3=>(a9 k hk3 h0).trans (c8 k hk hk2 hk3)
 have g9:=(a9 _ hA.1 hA.2.1).trans g8
 have s9:=(a9 _ hN.1 hN.2.1).trans s8
 refine went_nil o9 n9 ⟨?_,c9,by omega,by omega,?_⟩
 ·have hsz:=h.size
  have hcn:=h.cnt
  have hH:Hi s=hdB ⟨s.man.next,g.first+(bs.length:Int),0,0⟩:=by
   unfold Hi hdB
   rw [h.lastE,show g.first+(bs.length:Int) - 1+1=g.first+(bs.length:Int) by omega]
  have hfo:Ei s=footG s.stride (⟨g.num,g.first,s.count,s.size⟩,bs):=by
   unfold Ei footG
   rw [h.last,hcn.1,h.marks]
   rfl
  refine⟨hto,?_,?_,?_,?_,⟨rfl,by simp⟩,?_,?_,?_,?_,h.cfg,?_,by simpa using h.top⟩
  ·show (turnM s).snap=0
   rw [hte];exact h.snap
  ·show (turnM s).segs=_
   rw [hte,hcn.1]
   simp
  ·show datF d9.files Am=some (Bs (turnM s)).1
   rw [show Am=Fk from rfl,Gm m9]
   simp
  ·rw [Gm s9]
   show some ([]++Hi s)=some (segB _ [])
   unfold segB
   rw [List.nil_append,hH]
   simp [evFr,lay]
  ·show (Hi s).length=_
   unfold segB
   rw [hH]
   simp [evFr,lay]
  ·rfl
  ·intro x hx
   rcases List.mem_append.1 hx with hx | hx
   ·have hxs:=h.seals x hx
    have hxg:=h.sealSeg hx
    have hch:=hf.chain
    have hxn:x.1.num<g.num:=by
     have:=(chain_nums _ _ _ _ hch).1
     rw [h.segs,List.pairwise_append] at this
     exact this.2.2 x.1 (List.mem_map_of_mem hx) g (by simp)
    have hq:=seg_ne hxg.1
    have hd1:Aa x.1.num≠Aa g.num:=fun e=>by
     have:=seg_same g.num x.1.num hsg.1
     rw [e] at this;simp at this;omega
    have hd2:Aa x.1.num≠Aa s.man.next:=fun e=>by
     have:=seg_same s.man.next x.1.num (by omega)
     rw [e] at this;simp at this;omega
    refine⟨?_,hxs.len,hxs.count,hxs.foot⟩
    have:=hxs.dat
    unfold datF at this ⊢
    rw [c9 _ hq.2.1 hd1 hd2 hq.1]
    exact this
   ·simp only [List.mem_singleton] at hx
    subst hx
    refine⟨?_,by simp only;omega,by simp only;omega,by simp only [hsz];rfl⟩
    show datF d9.files (Aa g.num)=_
    rw [Gm g9]
    show some (x0.data++Ei s)=_
    rw [hxd,hfo]
    rfl
  ·refine⟨fun x hx=> ?_,fun b hb=>by simp at hb⟩
   rcases List.mem_append.1 hx with hx | hx
   ·exact h.body.1 x hx
   ·simp only [List.mem_singleton] at hx
    subst hx
    exact h.body.2
  ·intro k x hk
   have hmt:=B7 hto
   show strayN true (turnM s) k=false
   by_cases k0:k=Fk
   ·rw [k0];exact ns_man true _
   by_cases k1:k=Aa g.num
   ·rw [k1]
    exact ns_seg hmt (g:=⟨g.num,g.first,s.count,s.size⟩) (by rw [hte];simp)
   by_cases k2:k=Aa s.man.next
   ·rw [k2]
    exact ns_seg hmt (g:=⟨s.man.next,g.first+(s.count:Int),0,0⟩) (by rw [hte];simp)
   by_cases k3:k=As
   ·rw [k3,b9] at hk;cases hk
   rw [c9 k k0 k1 k2 k3] at hk
   have:=h.clean k x hk
   unfold strayN at this ⊢
   split at this
   ·rename_i hp
    rw [ζ hp]
    have hs:Gc s.man (Ao k).2=true:=by simpa using this
    unfold Gc at hs ⊢
    rw [List.any_eq_true] at hs
    obtain⟨z,hz1,hz2⟩:=hs
    rw [hte]
    simp only [List.any_append,Bool.true_and,Bool.not_eq_false',Bool.or_eq_true,List.any_eq_true]
    rw [h.segs] at hz1
    rcases List.mem_append.1 hz1 with hz1 | hz1
    ·exact .inl ⟨z,hz1,hz2⟩
    ·simp only [List.mem_singleton] at hz1
     subst hz1
     exact .inr ⟨⟨z.num,z.first,s.count,s.size⟩,by simp,hz2⟩
   ·rename_i hp
    rw [γ hp]
    have:(turnM s).snap=s.man.snap:=by rw [hte]
    rw [this]
    assumption
 ·rintro k (rfl | rfl | rfl) x hx
  ·rw [m9] at hx;cases hx;rfl
  ·rw [g9] at hx;cases hx;rfl
  ·rw [s9] at hx;cases hx;rfl
theorem seal_found {fs:List A7} {stride:Nat} {x:Grp} (hs:1≤stride∧stride≤64) (hx:SealAt fs stride x) (h1:1≤x.1.num∧x.1.num≤999999) (h2:1≤x.1.first∧x.1.first+(x.2.length:Int)≤1099511627777) (hb: ∀ b∈x.2,BodyOk b):
  sealB (datF fs (Aa x.1.num)) x.1=true∧Ba (footG stride x) x.1=some (mksG stride 0 x.1.first.toNat (hdB x.1).length x.2,stride):=by
 have hl:=Ks h1 (by omega:1≤x.1.first∧x.1.first≤1099511627777)
 have hll:=G3 hb x.1.first.toNat
 have hsl:(segB x.1 x.2).length=(hdB x.1).length+(lay (evFr x.1.first.toNat x.2)).length:=by unfold segB;rw [η]
 have hfo:=hx.foot
 have hle:=hx.len
 have hcl:=closing_foot (g:=x.1) (bs:=x.2) (stride:=stride) (p:=(hdB x.1).length) h1 h2 hx.len hs hx.count (by rw [hfo,hsl]) (by rw [hfo,hsl];omega) (by omega)
 refine⟨?_,hcl⟩
 have hfl:(footG stride x).length≠0:=by unfold footG;rw [An];omega
 rw [hx.dat]
 unfold sealB
 dsimp only
 rw [γ (by rw [hfo,η];omega)]
 have hbe:Ci (segB x.1 x.2++footG stride x) x.1=((hdB x.1).length,true):=by
  unfold segB
  rw [List.append_assoc]
  exact begV_seg h1 (by omega) _
 have hbt:=begV_take (b:=segB x.1 x.2++footG stride x) (g:=x.1) (k:=min (segB x.1 x.2++footG stride x).length 64) (by rw [hbe]) (by rw [hbe];simp only [η];omega)
 rw [hbt,hbe]
 simp only [Bool.true_eq_false,if_false]
 rw [show x.1.foot.toNat=(segB x.1 x.2).length by omega,List.drop_left]
 have hfd:footG stride x=frameOf 3 x.1.num.toNat (footBody x.1.first.toNat x.2.length stride (mksG stride 0 x.1.first.toNat (hdB x.1).length x.2)):=rfl
 rw [hfd,hcl]
 dsimp only
 rcases hb2:x.2 with _ | ⟨b,r⟩
 ·rw [hb2] at hle;simp at hle
 ·rw [mksG,ζ (Nat.zero_mod _)]
  simp
theorem act_found {g:Sg} {bs:List (List UInt8)} (h1:1≤g.num∧g.num≤999999) (h2:1≤g.first∧g.first+(bs.length:Int)≤1099511627777) (hb: ∀ b∈bs,BodyOk b) (hl:bs.length≤512):
  Ci (segB g bs) g=((hdB g).length,true)∧A6 (segB g bs)=(g.num.toNat,g.first.toNat,(hdB g).length,0)∧scanRun (segB g bs) (hdB g).length g.first.toNat 512=(plcs (hdB g).length (posL 0 (evFr g.first.toNat bs)),(segB g bs).length)∧
   actB (some (segB g bs)) g=((segB g bs).length,bs.length,true):=by
 have a:=begV_seg h1 (by omega:1≤g.first∧g.first≤1099511627777) (lay (evFr g.first.toNat bs))
 have b:=hdrOf_seg h1 (by omega:1≤g.first∧g.first≤1099511627777) (lay (evFr g.first.toNat bs))
 have c:=scan_lay (n:=g.first.toNat) (most:=512) hb (by omega) hl (hdB g)
 refine⟨a,b,c,?_⟩
 unfold actB
 dsimp only
 have a':Ci (segB g bs) g=((hdB g).length,true):=a
 have b':A6 (segB g bs)=(g.num.toNat,g.first.toNat,(hdB g).length,0):=b
 have c':scanRun (segB g bs) (hdB g).length g.first.toNat 512=(plcs (hdB g).length (posL 0 (evFr g.first.toNat bs)),(segB g bs).length):=c
 rw [a',b']
 simp only [Bool.true_eq_false,if_false]
 rw [c',E8,Ec,Dm]
theorem Sta.sealTop {fs:List A7} {s:Cb} {G:List Grp} {g:Sg} {bs:List (List UInt8)} (h:Sta fs s G g bs) {x:Grp} (hx:x∈G):x.1.first+(x.2.length:Int)≤g.first:=by
 have hf:=B7 h.ok
 have hch:=hf.chain
 rw [h.segs] at hch
 have hall: ∀ (l:List Sg) (first num:Int),chainOk s.man.next first num (l++[g])=true→ ∀ z∈l,z.first+z.count≤g.first∧first≤g.first:=fun l=>by
  have hfst: ∀ (l:List Sg) (first num:Int),chainOk s.man.next first num (l++[g])=true→first≤g.first:=fun l=>by
   induction l with
   | nil=>intro first num h;simp only [List.nil_append,chainOk,Bool.and_eq_true,decide_eq_true_eq] at h;omega
   | cons z r ih=>
    intro first num h
    have e:(r++[g]).isEmpty=false:=by cases r<;>rfl
    simp only [List.cons_append,chainOk,e,Bool.and_eq_true,decide_eq_true_eq,Bool.false_eq_true,if_false] at h
    have:=ih _ _ h.2.2
    omega
  induction l with
  | nil=>intro _ _ _ z hz;cases hz
  | cons z r ih=>
   intro first num h y hy
   have h0:=hfst (z::r) first num h
   have e:(r++[g]).isEmpty=false:=by cases r<;>rfl
   simp only [List.cons_append,chainOk,e,Bool.and_eq_true,decide_eq_true_eq,Bool.false_eq_true,if_false] at h
   have h2:=hfst r _ _ h.2.2
   rcases Γ.1 hy with rfl | hy
   ·omega
   ·exact⟨(ih _ _ h.2.2 y hy).1,h0⟩
 have:=(hall _ _ _ hch x.1 (List.mem_map_of_mem hx)).1
 rw [(h.seals x hx).count] at this
 exact this
theorem Sta.sealed {fs:List A7} {s:Cb} {G:List Grp} {g:Sg} {bs:List (List UInt8)} (h:Sta fs s G g bs) {x:Grp} (hx:x∈G):
  sealB (datF fs (Aa x.1.num)) x.1=true∧Ba (footG s.stride x) x.1=some (mksG s.stride 0 x.1.first.toNat (hdB x.1).length x.2,s.stride):=by
 have a:=h.sealSeg hx
 have b:=h.sealTop hx
 have c:=h.top
 exact seal_found h.cfg.1 (h.seals x hx) a.1 ⟨a.2,by omega⟩ (h.body.1 x hx)
theorem find_sta {fs:List A7} {s:Cb} {G:List Grp} {g:Sg} {bs:List (List UInt8)} (h:Sta fs s G g bs) (room:Int):findB room fs=(⟨false,s.man,[],s.size,lastE s⟩,0):=by
 have hf:=B7 h.ok
 have hsg:=h.seg
 have hsq:s.man.snapSeq=0:=by
  have:=h.ok
  simp only [Bt,Bool.and_eq_true,beq_iff_eq,decide_eq_decide] at this
  exact this.1.1.2.1 h.snap
 obtain⟨_,_,_,ha⟩:=act_found hsg.1 ⟨hsg.2.1,h.top⟩ h.body.2 h.cnt.2
 rw [find_man h.man (by rw [decMan_enc h.ok]),decMan_enc h.ok]
 unfold manB
 rw [h.last,h.name,h.act,ha,γ,γ]
 ·have:(fs.map (·.name)).filter (strayN true s.man)=[]:=List.filter_eq_nil_iff.2 fun n hn=>by
   obtain⟨f,hfm,rfl⟩:=List.mem_map.1 hn
   rcases hx:atF fs f.name with _ | y
   ·exact absurd rfl (ne_of_none hx f hfm)
   ·rw [h.clean _ y hx];decide
  rw [this,h.lastE,h.size]
  simp only [Prod.mk.injEq,Pl.mk.injEq,true_and,and_true]
  omega
 ·simp only [Bool.true_eq_false,false_or]
  omega
 ·rintro(h1 | h1)
  ·unfold snapB at h1
   rw [γ (by rw [h.snap];decide)] at h1
   cases h1
  ·rw [h.segs,List.dropLast_concat] at h1
   unfold sealsB at h1
   rw [List.all_eq_false] at h1
   obtain⟨z,hz,hn⟩:=h1
   obtain⟨x,hx,rfl⟩:=List.mem_map.1 hz
   exact hn (h.sealed hx).1
theorem segB_snoc {g:Sg} {bs:List (List UInt8)} {raw:List UInt8}:segB g (bs++[raw])=segB g bs++frameOf 1 (g.first.toNat+bs.length) raw:=by
 unfold segB
 rw [evFr_append,lay_append,←List.append_assoc]
 congr 1
 simp [evFr,lay]
theorem add_sta {fs fs':List A7} {s:Cb} {G:List Grp} {g:Sg} {bs:List (List UInt8)} {raw:List UInt8} {x:A7} (h:Sta fs s G g bs) (hb:BodyOk raw) (hl:bs.length<512) (ht:lastE s<1099511627776)
  (hx:atF fs (Aa g.num)=some x) (h1: ∀ k,k≠Aa g.num→atF fs' k=atF fs k) {y:A7} (h2:atF fs' (Aa g.num)=some y) (h3:y.data=x.data++Hg s raw):Sta fs' (addS s (Hg s raw)) G g (bs++[raw]):=by
 have hsg:=h.seg
 have hA:=seg_ne hsg.1
 have hxd:x.data=segB g bs:=by have:=h.act;rw [Gm hx] at this;simpa using this
 have hlE:=h.lastE
 have hev:Hg s raw=frameOf 1 (g.first.toNat+bs.length) raw:=by
  unfold Hg
  rw [hlE]
  congr 1
  omega
 have hd: ∀ k,k≠Aa g.num→datF fs' k=datF fs k:=fun k hk=>by unfold datF;rw [h1 k hk]
 refine⟨h.ok,h.snap,h.segs,by rw [hd Am (fun e=>hA.2.1 e.symm)];exact h.man,?_,?_,?_,?_,fun z hz=> ?_,⟨h.body.1,fun b hbm=> ?_⟩,h.cfg,fun k z hk=> ?_,?_⟩
 ·rw [Gm h2,h3,hxd,hev,segB_snoc]
 ·exact⟨by show s.count+1=_;rw [h.cnt.1];simp,by simp;omega⟩
 ·show s.size+(Hg s raw).length=_
  rw [h.size,hev,segB_snoc,η]
 ·show (if s.count % s.stride=0 then s.marks++[⟨lastE s+1,s.size⟩] else s.marks)=mksG s.stride 0 g.first.toNat (hdB g).length (bs++[raw])
  rw [mksG_snoc,h.marks,Nat.zero_add,h.cnt.1,hlE,h.size]
  have e1:g.first+(bs.length:Int) - 1+1=((g.first.toNat+bs.length:Nat):Int):=by omega
  have e2:((segB g bs).length:Int)=(((hdB g).length+(lay (evFr g.first.toNat bs)).length:Nat):Int):=by unfold segB;rw [η]
  rw [e1,e2]
  split<;>simp
 ·have a:=h.seals z hz
  have hzs:=h.sealSeg hz
  have hne:Aa z.1.num≠Aa g.num:=fun e=>by
   have:=seg_same g.num z.1.num hsg.1
   rw [e] at this
   simp at this
   have hch:=(chain_nums _ _ _ _ (B7 h.ok).chain).1
   rw [h.segs,List.pairwise_append] at hch
   have:=hch.2.2 z.1 (List.mem_map_of_mem hz) g (by simp)
   omega
  exact⟨by rw [hd _ hne];exact a.dat,a.len,a.count,a.foot⟩
 ·rcases List.mem_append.1 hbm with hbm | hbm
  ·exact h.body.2 b hbm
  ·simp only [List.mem_singleton] at hbm
   subst hbm
   exact hb
 ·by_cases hk0:k=Aa g.num
  ·rw [hk0]
   exact ns_seg (B7 h.ok) h.mem
  ·rw [h1 k hk0] at hk
   exact h.clean k z hk
 ·simp only [η,List.length_singleton]
  omega
theorem rdD_okS {d:Ab} (h:At d) (n:Nat):At (rdD d n):=⟨h.rise,h.names,h.safe,h.count,h.room,h.used,h.fuse,h.steps,by show -9223372036854775808≤IntKind.i64.wrap (d.reads+(n:Int))∧IntKind.i64.wrap (d.reads+(n:Int))≤9223372036854775807;rw [κ];omega⟩
structure Dt (d:Ab) (s:Cb) (E:List (List UInt8)):Prop where
 ok:At d
 up:d.down=false
 sta: ∃ G g bs,Sta d.files s G g bs∧E=G.flatMap (·.2)++bs
 floor:s.man.floor=0
 closed:s.closed=false
theorem chain_sum (nx:Int) (g:Sg): ∀ (G:List Grp) (first num:Int),chainOk nx first num (G.map (·.1)++[g])=true→(∀ x∈G,x.1.count=(x.2.length:Int))→g.first=first+((G.flatMap (·.2)).length:Int)
 | [],first,num,h,_=>by
  simp only [List.map_nil,List.nil_append,chainOk,Bool.and_eq_true,decide_eq_true_eq] at h
  simp only [List.flatMap_nil,Φ]
  omega
 | x::G,first,num,h,hc=>by
  have e:(G.map (·.1)++[g]).isEmpty=false:=by cases G<;>rfl
  simp only [List.map_cons,List.cons_append,chainOk,e,Bool.and_eq_true,decide_eq_true_eq,Bool.false_eq_true,if_false] at h
  have ih:=chain_sum nx g G _ _ h.2.2 fun y hy=>hc y (by simp [hy])
  have:=hc x (by simp)
  rw [List.flatMap_cons,η]
  omega
theorem Sta.events {fs:List A7} {s:Cb} {G:List Grp} {g:Sg} {bs:List (List UInt8)} (h:Sta fs s G g bs) (hf:s.man.floor=0):g.first=((G.flatMap (·.2)).length:Int)+1:=by
 have hch:=(B7 h.ok).chain
 rw [h.segs,hf] at hch
 have:=chain_sum _ g G _ _ hch fun x hx=>(h.seals x hx).count
 omega
theorem Dt.last {d:Ab} {s:Cb} {E:List (List UInt8)} (h:Dt d s E):Go.Proofs.YtgkdenejkcngnaaGreatDoor.lastE s=(E.length:Int):=by
 obtain⟨G,g,bs,hs,rfl⟩:=h.sta
 have:=hs.events h.floor
 rw [hs.lastE,η]
 omega
theorem Dt.rd {d:Ab} {s:Cb} {E:List (List UInt8)} (h:Dt d s E) (n:Nat):Dt (rdD d n) s E:=⟨rdD_okS h.ok n,h.up,h.sta,h.floor,h.closed⟩
theorem Dt.seg {d:Ab} {s:Cb} {E:List (List UInt8)} (h:Dt d s E):s.man.segs≠ []:=by
 obtain⟨G,g,bs,hs,rfl⟩:=h.sta
 rw [hs.segs]
 simp
theorem app_ok {d:Ab} {n b:List UInt8} {x:A7} (hok:At d) (hd:d.down=false) (hf:d.fuse=0) (ha:atF d.files n=some x) (hu:((usedF d.files+b.length:Nat):Int)≤d.room):
  (Aq d (opAppend n b)).2.2.2=0∧(Aq d (opAppend n b)).1.files=Cg d.files (opAppend n b)∧(Aq d (opAppend n b)).1.room=d.room∧(Aq d (opAppend n b)).1.down=false∧At (Aq d (opAppend n b)).1∧(Aq d (opAppend n b)).1.fuse=0:=by
 have hw:=went_app (P:=fun _=>True) (Q:=fun fs=>fs=Cg d.files (opAppend n b)) (ops:=[]) hok hd ha hu trivial fun d' f _ n o _=>went_nil o n f
 by_cases h0:(Aq d (opAppend n b)).2.2.2=0
 ·have e:Aw d [opAppend n b]=((Aq d (opAppend n b)).1,0):=by rw [Ce h0];rfl
  rw [e] at hw
  rcases hw.out with⟨_,h2,h3,h4⟩ | ⟨h1,_⟩
  ·exact⟨h0,h2,hw.room,h3,hw.ok,h4 hf⟩
  ·cases h1
 ·rw [Be h0] at hw
  rcases hw.out with⟨h1,_⟩ | ⟨_,h2,_⟩
  ·exact absurd h1 h0
  ·exact absurd hf h2
structure Grow (d:Ab) (s:Cb) (d':Ab) (s':Cb) (u k:Nat):Prop where
 room:d'.room=d.room
 fuse:d'.fuse=0
 used:usedF d'.files≤usedF d.files+u
 len:d'.files.length≤d.files.length+k*2
 segs:s'.man.segs.length≤s.man.segs.length+k
 next:s'.man.next≤s.man.next+(k:Int)
 gen:s'.man.gen≤s.man.gen+(k:Int)
 cfg:s'.stride=s.stride∧s'.segEv=s.segEv
 steps:d'.steps≤d.steps+((k*40+1:Nat):Int)
theorem foot_len {d:Ab} {s:Cb} {E:List (List UInt8)} (h:Dt d s E):(Ei s).length≤6220:=by
 obtain⟨G,g,bs,hs,rfl⟩:=h.sta
 have hsg:=hs.seg
 have h7:=Ks hsg.1 hsg.2
 have h8:=G3 hs.body.2 g.first.toNat
 have hc:=hs.cnt
 have ht:=hs.top
 have hm:By s.marks=true:=by
  rw [hs.marks]
  unfold By
  rw [mksG_ok s.stride bs 0 _ _ 0 (-1) (by omega) (by omega) (by omega) (by omega),ν (μ (mksG_len s.stride bs 0 _ _) hc.2)]
  rfl
 unfold Ei
 rw [An]
 have:=footBody_len (first:=(lastSg s.man).first.toNat) (count:=s.count) (stride:=s.stride) (by rw [hs.last];omega) (by omega) hs.cfg.1.2 hm
 omega
theorem head_len {d:Ab} {s:Cb} {E:List (List UInt8)} (h:Dt d s E) (hn:s.man.next≤999999) (hl:lastE s<1099511627777):(Hi s).length≤40:=by
 obtain⟨G,g,bs,hs,rfl⟩:=h.sta
 have hf:=B7 hs.ok
 have h1:=hf.next
 have h2:=hs.seg
 have h3:=hs.lastE
 exact(Ks (g:=⟨s.man.next,lastE s+1,0,0⟩) (by simp only;omega) (by simp only;omega)).2
theorem man_len (m:B3):(Bs m).1.length≤10310:=by
 unfold Bs
 split
 ·rename_i h
  have hf:=B7 h
  have:=manBody_len hf
  rw [Jb (by have:=hf.gen;omega) (by omega)]
  simp only [An]
  omega
 ·simp
theorem Kz: ∀ (ops:List Io) (d:Ab),(Aw d ops).1.steps≤d.steps+(ops.length:Int)
 | [],d=>by simp [Aw]
 | o::r,d=>by
  have h1:=A3 d o
  by_cases h0:(Aq d o).2.2.2=0
  ·rw [Ce h0]
   have:=Kz r (Aq d o).1
   rw [φ]
   push_cast
   omega
  ·rw [Be h0,φ]
   push_cast
   omega
theorem turn_ok {d:Ab} {s:Cb} {E:List (List UInt8)} (h:Dt d s E) (hf:d.fuse=0) (more:Nat):
  Dt (Bn d s more).2.2 (Bn d s more).2.1 E∧Grow d s (Bn d s more).2.2 (Bn d s more).2.1 16600 1∧
   (((Bn d s more).1=Cv d s more∧Cv d s more≠0∧(Bn d s more).2.1=s∧(Bn d s more).2.2.files=d.files)∨
    ((Bn d s more).1=0∧Cv d s more=0∧(Bn d s more).2.1.count=0∧((usedF (Bn d s more).2.2.files+more:Nat):Int)≤d.room)):=by
 by_cases h0:Cv d s more=0
 ·obtain⟨G,g,bs,hs,rfl⟩:=h.sta
  have hz:=turnE_zero h0
  have hw:=seal_went (d:=rdD d s.size) (P:=fun _=>True) (rdD_okS h.ok _) h.up hs (more:=more) h0 fun _ _=>trivial
  have hst:=Kz (Dy s) (rdD d s.size)
  rcases hw.out with⟨h1,h2,h3,h4⟩ | ⟨_,h2,_⟩
  ·have e:Bn d s more=(0,turned s,(Aw (rdD d s.size) (Dy s)).1):=by unfold Bn;rw [ζ h0,ζ h1]
   have hu:=h2.used
   have hl:=h2.len
   have b1:=foot_len h
   have b2:=head_len h (by omega) (by rw [hs.lastE];have:=hs.top;omega)
   have b3:=man_len (turnM s)
   rw [e]
   refine⟨⟨hw.ok,h3,⟨_,_,_,h2.sta,by simp⟩,h.floor,h.closed⟩,⟨hw.room,h4 hf,?_,?_,?_,?_,?_,⟨rfl,rfl⟩,?_⟩,.inr ⟨rfl,h0,rfl,?_⟩⟩
   ·simp only;have:(rdD d s.size).files=d.files:=rfl;rw [this] at hu;omega
   ·exact hl
   ·show (turnM s).segs.length≤_
    unfold turnM
    simp only [η,List.length_dropLast,φ,Φ]
    have:0<s.man.segs.length:=Ψ.2 h.seg
    omega
   ·show s.man.next+1≤_;omega
   ·show s.man.gen+1≤_;omega
   ·have:(Dy s).length=9:=rfl
    rw [this] at hst
    have:(rdD d s.size).steps=d.steps:=rfl
    rw [this] at hst
    simp only
    omega
   ·have hr:(rdD d s.size).files=d.files:=rfl
    rw [hr] at hu
    simp only
    omega
  ·exact absurd hf h2
 ·have e:Bn d s more=(Cv d s more,s,if Cv d s more=54 then rdD d s.size else d):=by unfold Bn;rw [γ h0]
  rw [e]
  have hd:Dt (if Cv d s more=54 then rdD d s.size else d) s E∧(if Cv d s more=54 then rdD d s.size else d).files=d.files∧(if Cv d s more=54 then rdD d s.size else d).room=d.room∧
    (if Cv d s more=54 then rdD d s.size else d).fuse=0∧(if Cv d s more=54 then rdD d s.size else d).steps=d.steps:=by
   split
   ·exact⟨h.rd _,rfl,rfl,hf,rfl⟩
   ·exact⟨h,rfl,rfl,hf,rfl⟩
  exact⟨hd.1,⟨hd.2.2.1,hd.2.2.2.1,by simp only;rw [hd.2.1];omega,by simp only;rw [hd.2.1];omega,by simp only;omega,by simp only;omega,by simp only;omega,⟨rfl,rfl⟩,by simp only;rw [hd.2.2.2.2];omega⟩,.inl ⟨rfl,h0,rfl,hd.2.1⟩⟩
theorem append_ok {d:Ab} {s:Cb} {E:List (List UInt8)} {raw:List UInt8} (h:Dt d s E) (hf:d.fuse=0) (hb:BodyOk raw) (hl:s.count<512) (ht:lastE s<1099511627776) (hu:((usedF d.files+(Hg s raw).length:Nat):Int)≤d.room):
  (appS d s (Hg s raw)).1=(lastE s+1,0)∧Dt (appS d s (Hg s raw)).2.2 (appS d s (Hg s raw)).2.1 (E++[raw])∧Grow d s (appS d s (Hg s raw)).2.2 (appS d s (Hg s raw)).2.1 1060 0:=by
 obtain⟨G,g,bs,hs,rfl⟩:=h.sta
 obtain⟨x,hx,hxd⟩:=Dg hs.act
 obtain⟨a1,a2,a3,a4,a5,a6⟩:=app_ok (b:=Hg s raw) h.ok h.up hf hx hu
 obtain⟨b1,b2,b3,b4⟩:=at_app h.ok.rise hx (b:=Hg s raw)
 have hst:=A3 d (opAppend (Aa g.num) (Hg s raw))
 have e:appS d s (Hg s raw)=((lastE s+1,0),addS s (Hg s raw),(Aq d (opAppend (Aa g.num) (Hg s raw))).1):=by unfold appS;rw [hs.name,ζ a1]
 rw [e]
 refine⟨rfl,⟨a5,a4,⟨G,g,bs++[raw],?_,by simp⟩,h.floor,h.closed⟩,⟨a3,a6,?_,?_,?_,?_,?_,⟨rfl,rfl⟩,?_⟩⟩
 ·rw [a2]
  exact add_sta hs hb (by have:=hs.cnt.1;omega) ht hx (fun k hk=>b1 k hk) b2 rfl
 ·simp only
  rw [a2,b3]
  have:(Hg s raw).length=raw.length+20:=An _ _ _
  have:=hb.2
  omega
 ·simp only
  rw [a2,b4]
  omega
 ·exact ξ _
 ·show s.man.next≤s.man.next+0;omega
 ·show s.man.gen≤s.man.gen+0;omega
 ·simp only;omega
theorem Grow.trans {d d1 d2:Ab} {s s1 s2:Cb} {u1 u2 k1 k2:Nat} (h:Grow d s d1 s1 u1 k1) (h2:Grow d1 s1 d2 s2 u2 k2) (hs:d2.steps≤d.steps+(((k1+k2)*40+1:Nat):Int)):Grow d s d2 s2 (u1+u2) (k1+k2):=
 ⟨h2.room.trans h.room,h2.fuse,by have:=h.used;have:=h2.used;omega,by have:=h.len;have:=h2.len;omega,by have:=h.segs;have:=h2.segs;omega,by have:=h.next;have:=h2.next;omega,by have:=h.gen;have:=h2.gen;omega,
  ⟨h2.cfg.1.trans h.cfg.1,h2.cfg.2.trans h.cfg.2⟩,hs⟩
theorem push_ok {d:Ab} {s:Cb} {E:List (List UInt8)} {raw:List UInt8} (h:Dt d s E) (hf:d.fuse=0) (hb:BodyOk raw):
  Grow d s (Cy d s raw).2.2 (Cy d s raw).2.1 17660 1∧
   (((Cy d s raw).1.1=0∧(Cy d s raw).1.2≠0∧((Cy d s raw).1.2=92∧1099511627776≤lastE s∨(Cy d s raw).1.2=54∧d.room - (usedF d.files:Int)<1060∨(Cy d s raw).1.2=Cv d s (Hg s raw).length∧s.segEv≤s.count)∧
     Dt (Cy d s raw).2.2 (Cy d s raw).2.1 E∧(Cy d s raw).2.1=s∧(Cy d s raw).2.2.files=d.files)∨
    ((Cy d s raw).1=((E.length:Int)+1,0)∧Dt (Cy d s raw).2.2 (Cy d s raw).2.1 (E++[raw]))):=by
 have hbl:(Hg s raw).length=raw.length+20:=An _ _ _
 have hb2:=hb.2
 have hself:Grow d s d s 17660 1:=⟨rfl,hf,by omega,by omega,by omega,by omega,by omega,⟨rfl,rfl⟩,by omega⟩
 have hcfg:=(show 1≤s.segEv∧s.segEv≤512 from by obtain⟨G,g,bs,hs,_⟩:=h.sta;exact hs.cfg.2)
 unfold Cy
 by_cases h1:1099511627776≤lastE s
 ·rw [ζ h1]
  exact⟨hself,.inl ⟨rfl,by simp,.inl ⟨rfl,h1⟩,h,rfl,rfl⟩⟩
 ·rw [γ h1]
  by_cases h2:s.segEv≤s.count
  ·rw [ζ h2]
   obtain⟨t1,t2,t3⟩:=turn_ok h hf (Hg s raw).length
   rcases t3 with⟨a1,a2,a3,a4⟩ | ⟨a1,a2,a3,a4⟩
   ·rw [γ (by rw [a1];exact a2)]
    refine⟨⟨t2.room,t2.fuse,by have:=t2.used;simp only;omega,t2.len,t2.segs,t2.next,t2.gen,t2.cfg,t2.steps⟩,.inl ⟨rfl,by rw [a1];exact a2,.inr (.inr ⟨a1,h2⟩),t1,a3,a4⟩⟩
   ·rw [ζ a1]
    have hlE:lastE (Bn d s (Hg s raw).length).2.1=lastE s:=by rw [t1.last,h.last]
    have hev:Hg (Bn d s (Hg s raw).length).2.1 raw=Hg s raw:=by show frameOf 1 (Go.Proofs.YtgkdenejkcngnaaGreatDoor.lastE (Bn d s (Hg s raw).length).2.1+1).toNat raw=frameOf 1 (Go.Proofs.YtgkdenejkcngnaaGreatDoor.lastE s+1).toNat raw;rw [hlE]
    have:=append_ok (raw:=raw) t1 t2.fuse hb (by omega) (by omega) (by rw [hev,t2.room];exact a4)
    rw [hev,hlE,h.last] at this
    obtain⟨b1,b2,b3⟩:=this
    refine⟨t2.trans b3 ?_,.inr ⟨b1,b2⟩⟩
    have hx:(Bn d s (Hg s raw).length).2.2.steps≤d.steps+9:=by
     unfold Bn
     rw [ζ a2]
     have:=Kz (Dy s) (rdD d s.size)
     have e:(Dy s).length=9:=rfl
     have e2:(rdD d s.size).steps=d.steps:=rfl
     rw [e,e2] at this
     split<;>exact this
    have:=b3.steps
    omega
  ·rw [γ h2]
   by_cases h3:d.room - (usedF d.files:Int)<((Hg s raw).length:Int)
   ·rw [ζ h3]
    exact⟨hself,.inl ⟨rfl,by simp,.inr (.inl ⟨rfl,by omega⟩),h,rfl,rfl⟩⟩
   ·rw [γ h3]
    have:=append_ok (raw:=raw) h hf hb (by omega) (by omega) (by omega)
    rw [h.last] at this
    obtain⟨b1,b2,b3⟩:=this
    exact⟨⟨b3.room,b3.fuse,by have:=b3.used;omega,by have:=b3.len;omega,by have:=b3.segs;omega,by have:=b3.next;omega,by have:=b3.gen;omega,b3.cfg,by have:=b3.steps;omega⟩,.inr ⟨b1,b2⟩⟩
structure Lim (d:Ab) (s:Cb) (E:List (List UInt8)) (k:Nat):Prop where
 ok:Dt d s E
 fuse:d.fuse=0
 next:s.man.next≤(k:Int)+2
 gen:s.man.gen≤(k:Int)+1
 steps:d.steps≤(k:Int)*50+50
 len:E.length≤k
section
variable {w W : World} {b f m : Nat} {L : List Ad} {d d' : Ab} {s s' : Cb} {mv sv : Value} {E E' : List (List UInt8)} {k u : Nat}
theorem Lim.grow (h:Lim d s E k) (hg:Grow d s d' s' u 1) (ho:Dt d' s' E') (hl:E'.length≤k+1):Lim d' s' E' (k+1):=
 ⟨ho,hg.fuse,by have:=h.next;have:=hg.next;omega,by have:=h.gen;have:=hg.gen;omega,by have:=h.steps;have:=hg.steps;push_cast at *;omega,hl⟩
theorem Lim.up (h:Lim d s E k) {k':Nat} (hk:k≤k'):Lim d s E k':=⟨h.ok,h.fuse,by have:=h.next;omega,by have:=h.gen;omega,by have:=h.steps;omega,by have:=h.len;omega⟩
theorem Sta.sizeLe {fs:List A7} {G:List Grp} {g:Sg} {bs:List (List UInt8)} (h:Sta fs s G g bs):(segB g bs).length≤542760:=by
 have h6:=G3 h.body.2 g.first.toNat
 have h7:=Ks h.seg.1 h.seg.2
 have h8:(segB g bs).length=(hdB g).length+(lay (evFr g.first.toNat bs)).length:=by unfold segB;rw [η]
 have:=h.cnt
 omega
theorem Lim.sb (h:Lim d s E k) (hk:k≤1000):SB s:=by
 obtain⟨G,g,bs,hs,hE⟩:=h.ok.sta
 have hev:=hs.events h.ok.floor
 have hl:=h.len
 rw [hE,η] at hl
 have hz:=hs.sizeLe
 have hsz:=hs.size
 refine⟨h.ok.seg,?_,?_,by have:=hs.cnt;omega,by omega,hs.cfg.1,hs.cfg.2⟩
 ·rw [hs.last];have:=hs.seg;omega
 ·rw [hs.last];exact hs.seg.1
theorem Sta.foot {fs:List A7} {G:List Grp} {g:Sg} {bs:List (List UInt8)} (hs:Sta fs s G g bs) (hc:s.count≠0) (v:Value) (W:World) (hv:A2 W v (segB g bs)) (hn:NibTab W):
  Calls Tryz.prog 79 #[v,.int .i64 (s.stride:Int)] W (Bd W (Ei s,0)):=by
 have hsg:=hs.seg
 have h7:=Ks hsg.1 hsg.2
 have h8:=G3 hs.body.2 g.first.toNat
 have hcn:=hs.cnt
 have ht:=hs.top
 obtain⟨_,a2,a3,_⟩:=act_found hsg.1 ⟨hsg.2.1,ht⟩ hs.body.2 hcn.2
 have hbl:bldM s.stride 0 (plcs (hdB g).length (posL 0 (evFr g.first.toNat bs)))=s.marks:=by rw [bldM_lay,hs.marks,Nat.add_zero]
 have hm:By s.marks=true:=by
  rw [hs.marks]
  unfold By
  rw [mksG_ok s.stride bs 0 _ _ 0 (-1) (by omega) (by omega) (by omega) (by omega),ν (μ (mksG_len s.stride bs 0 _ _) hcn.2)]
  rfl
 have hpl:(plcs (hdB g).length (posL 0 (evFr g.first.toNat bs))).length=bs.length:=by rw [E8,Ec,Dm]
 have hfb:=footBody_len (first:=g.first.toNat) (count:=s.count) (stride:=s.stride) (by omega) (by omega) hs.cfg.1.2 hm
 have:=footer_any (segB g bs) v g.num.toNat g.first.toNat (hdB g).length s.stride _ W hv (by have:=hs.sizeLe;omega) hn a2 (by unfold segB;rw [η];omega) a3
  (by intro h0;rw [h0] at hpl;simp at hpl;omega) hs.cfg.1 (by rw [hbl];exact hm) (by omega)
 rw [hbl,hpl,←hcn.1,Jb (by omega) (by omega)] at this
 have e:Ei s=frameOf (3:Int).toNat ((g.num.toNat:Nat):Int).toNat (footBody g.first.toNat s.count s.stride s.marks):=by
  unfold Ei
  rw [hs.last]
  rfl
 rw [e]
 exact this
theorem turn_calls {more:Nat} (h:SJ w b f m L d s mv sv) (hl:Lim d s E k) (hk:k≤1000) (hm:more≤1060):Calls Tryz.prog 52 #[.pointer (some ⟨b,0,none⟩),.int .i64 (more:Int)] w (StepQ w b f m L mv (Bn d s more)):=by
 obtain⟨G,g,bs,hs,hE⟩:=hl.ok.sta
 have hf:=B7 hs.ok
 obtain⟨x,hx,hxd⟩:=Dg hs.act
 have hnx:=hl.next
 have hgn:=hl.gen
 have hst:=hl.steps
 have hla:=hl.ok.last
 have hle:=hl.len
 refine stoTurn_any more x h (hl.sb hk) (by omega) hl.ok.closed hl.ok.up (by rw [hs.name];exact hx) (by rw [hs.size,hxd]) hf.len ?_ ?_ ?_ ?_
 ·intro hc v W hv hn
  rw [hxd] at hv
  exact hs.foot hc v W hv hn
 ·intro h0
  have hz:=turnE_zero h0
  obtain⟨e,ho⟩:=hs.turnOk hz.1 hz.2.1 hz.2.2.1 hz.2.2.2.1
  refine⟨ho,?_⟩
  have h1:=hf.seg g hs.mem
  rw [hs.last,e]
  unfold lastSg
  simp
  omega
 ·have h1:=foot_len hl.ok
  have h2:=head_len hl.ok (by omega) (by omega)
  have h3:=man_len (turnM s)
  omega
 ·have:=hf.next
  have:=hf.gen
  omega
end
theorem schemaCheck_r (v:Int) (e:Ev) (w:World) (hv: ¬ (v<1∨5<v)) (hw:e.who.length≤281474976710656) (hn:e.note.length≤281474976710656):Calls Tryz.prog 101 #[.int .i64 v,Dx e] w (Fe (Af v e) w):=by
 obtain⟨c,hc⟩: ∃ c,c=Af v e:=⟨_,rfl⟩
 obtain⟨K,hK⟩: ∃ K,K=Bz v:=⟨_,rfl⟩
 rw [←hc]
 have HC:=Qh hc
 have HK:=Qh hK
 have HV:=Qh hv
 have hE:=Qh (Iv w e 38)
 unfold Dx
 clear hc
 rcases (show v=1∨v=2∨v=3∨v=4∨v=5 by omega) with rfl | rfl | rfl | rfl | rfl
 focus
  obtain⟨F,hF⟩: ∃ F,F=fitsV1 e:=⟨_,rfl⟩
  obtain⟨Q,hQ⟩: ∃ Q,Q=Eo (ev1 e) e:=⟨_,rfl⟩
  have HT:=Qh (fun W=>(show Gd 1 e=Value.iface 227 (v1V e) from rfl)▸D9 1 e W)
  have HLa:=Qh (fun W=>last1_any e W)
  rw [show (5:Int)=K from hK.symm] at HLa
  have HFi:=Qh (fun W=>hF▸fits1_any e W)
  have HEv:=Qh (fun W=>event1_any e W)
  have ml:=fun k W=>m1last k e W
  have mf:=fun k W=>m1fits k e W
  have me:=fun k W=>m1event k e W
  have HQ:=fun W=>hQ▸Im (ev1 e) e W
  have HR:=Qh (show D6 1 e=(F&&Q) by rw [evFits_1,hF,hQ])
  unfold v1V at HT ml mf me
  clear hF hQ
 rotate_left
 focus
  obtain⟨F,hF⟩: ∃ F,F=fits2 e:=⟨_,rfl⟩
  obtain⟨Q,hQ⟩: ∃ Q,Q=Eo (ev2 e) e:=⟨_,rfl⟩
  have HT:=Qh (fun W=>(show Gd 2 e=Value.iface 229 (v2V e) from rfl)▸D9 2 e W)
  have HLa:=Qh (fun W=>last1_any e W)
  rw [show (5:Int)=K from hK.symm] at HLa
  have HFi:=Qh (fun W=>hF▸fits2_any e W)
  have HEv:=Qh (fun W=>event2_any e W)
  have ml:=fun k W=>m2last k e W
  have mf:=fun k W=>m2fits k e W
  have me:=fun k W=>m2event k e W
  have HQ:=fun W=>hQ▸Im (ev2 e) e W
  have HR:=Qh (show D6 2 e=(F&&Q) by rw [evFits_2,hF,hQ])
  unfold v2V at HT mf me
  unfold v2V v1V at ml
  clear hF hQ
 rotate_left
 focus
  obtain⟨F,hF⟩: ∃ F,F=fits3 e:=⟨_,rfl⟩
  obtain⟨Q,hQ⟩: ∃ Q,Q=Eo (ev3 e) e:=⟨_,rfl⟩
  have HT:=Qh (fun W=>(show Gd 3 e=Value.iface 231 (v3V e) from rfl)▸D9 3 e W)
  have HLa:=Qh (fun W=>last3_any e W)
  rw [show (7:Int)=K from hK.symm] at HLa
  have HFi:=Qh (fun W=>hF▸fits3_any e W)
  have HEv:=Qh (fun W=>event3_any e W)
  have ml:=fun k W=>m3last k e W
  have mf:=fun k W=>m3fits k e W
  have me:=fun k W=>m3event k e W
  have HQ:=fun W=>hQ▸Im (ev3 e) e W
  have HR:=Qh (show D6 3 e=(F&&Q) by rw [evFits_3,hF,hQ])
  unfold v3V at HT ml mf me
  clear hF hQ
 rotate_left
 focus
  obtain⟨F,hF⟩: ∃ F,F=fits4 e:=⟨_,rfl⟩
  obtain⟨Q,hQ⟩: ∃ Q,Q=Eo (ev4 e) e:=⟨_,rfl⟩
  have HT:=Qh (fun W=>(show Gd 4 e=Value.iface 233 (v4V e) from rfl)▸D9 4 e W)
  have HLa:=Qh (fun W=>last4_any e W)
  rw [show (9:Int)=K from hK.symm] at HLa
  have HFi:=Qh (fun W=>hF▸fits4_any e W (by omega))
  have HEv:=Qh (fun W=>event4_any e W)
  have ml:=fun k W=>m4last k e W
  have mf:=fun k W=>m4fits k e W
  have me:=fun k W=>m4event k e W
  have HQ:=fun W=>hQ▸Im (ev4 e) e W
  have HR:=Qh (show D6 4 e=(F&&Q) by rw [evFits_4,hF,hQ])
  unfold v4V at HT ml mf me
  clear hF hQ
 rotate_left
 focus
  obtain⟨F,hF⟩: ∃ F,F=fits5 e:=⟨_,rfl⟩
  obtain⟨Q,hQ⟩: ∃ Q,Q=Eo (e) e:=⟨_,rfl⟩
  have HT:=Qh (fun W=>(show Gd 5 e=Value.iface 235 (v5V e) from rfl)▸D9 5 e W)
  have HLa:=Qh (fun W=>last5_any e W)
  rw [show (10:Int)=K from hK.symm] at HLa
  have HFi:=Qh (fun W=>hF▸fits5_any e W (by omega))
  have HEv:=Qh (fun W=>event5_any e W)
  have ml:=fun k W=>m5last k e W
  have mf:=fun k W=>m5fits k e W
  have me:=fun k W=>m5event k e W
  have HQ:=fun W=>hQ▸Im (e) e W
  have HR:=Qh (show D6 5 e=(F&&Q) by rw [evFits_5,hF,hQ,(evSame_iff e e).2 rfl,Bool.and_true])
  unfold v5V at HT ml mf me
  clear hF hQ
 rotate_left
 all_goals
  clear hv hK
  unfold Dx at HQ HEv
  by_cases h1:e.kind<1∨K<e.kind
  ·have hf:=Qh (HC.out.trans <| chk31 HV.out (by rw [←HK.out];exact h1))
   by_cases hk:e.kind<1
   ·have d1:=ν hk
    clear h1 hk
    go_enter Tryz.func101,Tryz.ntmps101
    go_wp2_with fail
    refine(HT.out _).mono ?_
    rintro x w2 ⟨rfl,hb⟩
    have HB:=Qh (Below.next ((τ _ _).alloc (ξ _) _) hb)
    have c0:=(hE.out.below hb).c0
    clear hb
    go_wp2
    go_quiet (fail)
    go_wp2
    go_ret
    exact⟨by rw [hf.out];rfl,Below.next HB.out (below_drewN' _ _)⟩
   ·have d1:=ρ hk
    have hk2:K<e.kind:=by rcases h1 with h | h;exact absurd h hk;exact h
    have d2:=ν hk2
    clear h1 hk hk2
    go_enter Tryz.func101,Tryz.ntmps101
    go_wp2_with fail
    refine(HT.out _).mono ?_
    rintro x w2 ⟨rfl,hb⟩
    have HB:=Qh (Below.next ((τ _ _).alloc (ξ _) _) hb)
    have c0:=(hE.out.below hb).c0
    clear hb
    go_wp2
    go_region_held3 (fun w'=>w'.cell? ⟨w.heap.size,0,none⟩=some (.int .i64 e.kind)) (first | assumption | exact cell_later hb2 c0 | go_keep)
     (first | (refine(HLa.out _).mono ?_;rintro x w3 ⟨rfl,hb2⟩))
    go_wp2
    go_ret
    exact⟨by rw [hf.out];rfl,Below.next HB.out (Below.next ((τ _ _).drew) hb2)⟩
  ·have hk: ¬ e.kind<1:=fun h=>h1 (.inl h)
   have hk2: ¬ K<e.kind:=fun h=>h1 (.inr h)
   have d1:=ρ hk
   have d2:=ρ hk2
   by_cases h3:16<e.who.length∨120<e.note.length
   ·have hf:=Qh (HC.out.trans <| chk24 HV.out (by rw [←HK.out];exact h1) h3)
    clear h1 hk hk2
    go_enter Tryz.func101,Tryz.ntmps101
    go_wp2_with fail
    refine(HT.out _).mono ?_
    rintro x w2 ⟨rfl,hb⟩
    have HB:=Qh (Below.next ((τ _ _).alloc (ξ _) _) hb)
    have HE2:=Qh (hE.out.below hb)
    have c0:=HE2.out.c0
    clear hb
    go_wp2
    go_region_held3 (fun w'=>w'.cell? ⟨w.heap.size,0,none⟩=some (.int .i64 e.kind)) (first | assumption | exact cell_later hb2 c0 | go_keep)
     (first | (refine(HLa.out _).mono ?_;rintro x w3 ⟨rfl,hb2⟩))
    have hb3:=Below.next ((τ _ _).drew) hb2
    have HB3:=Qh (Below.next HB.out hb3)
    have c7:=(HE2.out.below hb3).c7
    have c9:=(HE2.out.below hb3).c9
    clear hb3 hb2
    by_cases hw3:16<e.who.length
    ·go_wp2
     go_ret
     exact⟨by rw [hf.out];rfl,HB3.out⟩
    ·have hn3:120<e.note.length:=by omega
     clear h3
     go_wp2
     go_ret
     exact⟨by rw [hf.out];rfl,HB3.out⟩
   ·have hf:=Qh (HC.out.trans <| chkRest HV.out (by rw [←HK.out];exact h1) h3)
    have hw16:e.who.length≤16:=by omega
    have hn120:e.note.length≤120:=by omega
    clear h1 hk hk2 h3
    cases F
    ·have hfin:=Qh (show c=32 by rw [hf.out,HR.out];rfl)
     go_enter Tryz.func101,Tryz.ntmps101
     go_wp2_with fail
     refine(HT.out _).mono ?_
     rintro x w2 ⟨rfl,hb⟩
     have HB:=Qh (Below.next ((τ _ _).alloc (ξ _) _) hb)
     have HE2:=Qh (hE.out.below hb)
     have c0:=HE2.out.c0
     clear hb
     go_wp2
     go_region_held3 (fun w'=>w'.cell? ⟨w.heap.size,0,none⟩=some (.int .i64 e.kind)) (first | assumption | exact cell_later hb2 c0 | go_keep)
      (first | (refine(HLa.out _).mono ?_;rintro x w3 ⟨rfl,hb2⟩))
     have hb3:=Below.next ((τ _ _).drew) hb2
     have HB3:=Qh (Below.next HB.out hb3)
     have HE3:=Qh (HE2.out.below hb3)
     have c7:=HE3.out.c7
     have c9:=HE3.out.c9
     clear hb3 hb2
     go_wp2
     first | (go_region_with (refine(HFi.out _).mono ?_;rintro x w4 ⟨rfl,hb4⟩)) | fail
     all_goals go_wp2
     all_goals go_ret
     all_goals exact⟨by rw [hfin.out];rfl,Below.next HB3.out (Below.next ((τ _ _).drew) hb4)⟩
    ·have hfin:=Qh (show c=if Q then 0 else 32 by rw [hf.out,HR.out];cases Q<;>rfl)
     cases Q
     all_goals
      go_enter Tryz.func101,Tryz.ntmps101
      go_wp2_with fail
      refine(HT.out _).mono ?_
      rintro x w2 ⟨rfl,hb⟩
      have HB:=Qh (Below.next ((τ _ _).alloc (ξ _) _) hb)
      have HE2:=Qh (hE.out.below hb)
      have c0:=HE2.out.c0
      clear hb
      go_wp2
      go_region_held3 (fun w'=>w'.cell? ⟨w.heap.size,0,none⟩=some (.int .i64 e.kind)) (first | assumption | exact cell_later hb2 c0 | go_keep)
       (first | (refine(HLa.out _).mono ?_;rintro x w3 ⟨rfl,hb2⟩))
      have hb3:=Below.next ((τ _ _).drew) hb2
      have HB3:=Qh (Below.next HB.out hb3)
      have HE3:=Qh (HE2.out.below hb3)
      have c7:=HE3.out.c7
      have c9:=HE3.out.c9
      clear hb3 hb2
      go_wp2
      have HC0:=Qh (evCells HE3.out)
      have HCK:=Qh (show ∀ W,Below w3.drew.heap.size w3.drew W→_ from fun W h=>evCells (HE3.out.below (Below.next ((τ _ _).drew) h)))
      obtain⟨d0,d1',d2',d3',d4',d5',d6',d7',d8',d9'⟩:=HC0.out
      have HKK:=Qh (show ∀ W W',(W.cell? ⟨w.heap.size,0,none⟩=some (.int .i64 e.kind)∧W.cell? ⟨w.heap.size,1,none⟩=some (.int .i64 e.order)∧W.cell? ⟨w.heap.size,2,none⟩=some (.int .i64 e.item)∧W.cell? ⟨w.heap.size,3,none⟩=some (.int .i64 e.qty)∧W.cell? ⟨w.heap.size,4,none⟩=some (.int .i64 e.price)∧W.cell? ⟨w.heap.size,5,none⟩=some (.int .i64 e.cur)∧W.cell? ⟨w.heap.size,6,none⟩=some (.int .i64 e.tax)∧W.cell? ⟨w.heap.size,7,none⟩=some (.string ⟨e.who.toArray⟩)∧W.cell? ⟨w.heap.size,8,none⟩=some (.int .i64 e.stamp)∧W.cell? ⟨w.heap.size,9,none⟩=some (.string ⟨e.note.toArray⟩))∧Below w3.drew.heap.size w3.drew W→Below W.heap.size W W'→(W'.cell? ⟨w.heap.size,0,none⟩=some (.int .i64 e.kind)∧W'.cell? ⟨w.heap.size,1,none⟩=some (.int .i64 e.order)∧W'.cell? ⟨w.heap.size,2,none⟩=some (.int .i64 e.item)∧W'.cell? ⟨w.heap.size,3,none⟩=some (.int .i64 e.qty)∧W'.cell? ⟨w.heap.size,4,none⟩=some (.int .i64 e.price)∧W'.cell? ⟨w.heap.size,5,none⟩=some (.int .i64 e.cur)∧W'.cell? ⟨w.heap.size,6,none⟩=some (.int .i64 e.tax)∧W'.cell? ⟨w.heap.size,7,none⟩=some (.string ⟨e.who.toArray⟩)∧W'.cell? ⟨w.heap.size,8,none⟩=some (.int .i64 e.stamp)∧W'.cell? ⟨w.heap.size,9,none⟩=some (.string ⟨e.note.toArray⟩))∧Below w3.drew.heap.size w3.drew W' from fun W W' h k=>⟨HCK.out W' (Below.next h.2 k),Below.next h.2 k⟩)
      first | (go_region_held3 (fun w'=>(w'.cell? ⟨w.heap.size,0,none⟩=some (.int .i64 e.kind)∧w'.cell? ⟨w.heap.size,1,none⟩=some (.int .i64 e.order)∧w'.cell? ⟨w.heap.size,2,none⟩=some (.int .i64 e.item)∧w'.cell? ⟨w.heap.size,3,none⟩=some (.int .i64 e.qty)∧w'.cell? ⟨w.heap.size,4,none⟩=some (.int .i64 e.price)∧w'.cell? ⟨w.heap.size,5,none⟩=some (.int .i64 e.cur)∧w'.cell? ⟨w.heap.size,6,none⟩=some (.int .i64 e.tax)∧w'.cell? ⟨w.heap.size,7,none⟩=some (.string ⟨e.who.toArray⟩)∧w'.cell? ⟨w.heap.size,8,none⟩=some (.int .i64 e.stamp)∧w'.cell? ⟨w.heap.size,9,none⟩=some (.string ⟨e.note.toArray⟩))∧Below w3.drew.heap.size w3.drew w')
       (first | exact⟨HC0.out,τ _ _⟩ | assumption | (refine HKK.out _ _ ?_ hb4;assumption))
       (first
        | (refine(HFi.out _).mono ?_;rintro x w4 ⟨rfl,hb4⟩)
        | (refine(HEv.out _).mono ?_;rintro x w4 ⟨rfl,hb4⟩))) | fail
      go_split_ands
      go_wp2
      go_ret
      exact⟨by rw [hfin.out];rfl,Below.next HB3.out (Below.next ((τ _ _).drew) (by assumption))⟩
theorem A8 (v:Int) (e:Ev) (w:World) (hok:I3 281474976710656 e):Calls Tryz.prog 101 #[.int .i64 v,Dx e] w (Fe (Af v e) w):=by
 by_cases h:v<1∨5<v
 ·exact schemaCheck_version v e w h
 ·exact schemaCheck_r v e w h hok.who hok.note
section
open Go.RowKit Go.Maps
theorem fldV_data (b:List UInt8) (p last:Nat):(Df b p last).2.1.data.length≤200:=by
 unfold Df
 dsimp only
 repeat' split
 all_goals first
  | exact θ _
  | (simp only [Θ];omega)
theorem tlvGo_data (b:List UInt8): ∀ (n p last:Nat) (fs:List Fld),(∀ f∈fs,f.data.length≤200)→ ∀ f∈(Gu b n p last fs).2,f.data.length≤200
 | 0,_,_,_=>fun h=>h
 | n+1,p,last,fs=>fun h=>by
  rw [Gu]
  split
  ·split
   ·refine tlvGo_data b n _ _ _ fun f hf=> ?_
    rcases List.mem_append.1 hf with hf | hf
    ·exact h f hf
    ·simp at hf;subst hf;exact fldV_data b p last
   ·intro f hf;cases hf
  ·exact h
theorem tlvDec_data {b:List UInt8}: ∀ f∈(B2 b).2,f.data.length≤200:=by
 unfold B2
 split
 ·intro f hf;cases hf
 ·exact tlvGo_data b _ _ _ _ fun f hf=>by cases hf
theorem takeP_mem (xs:List (Fld×Value)) (bad k:Int) (t:Bool):(Bw xs bad k t).1=(fld0,.slice none 0 0)∨(Bw xs bad k t).1∈xs:=by
 unfold Bw
 rcases h:xs.find? (tagIs k) with _ | x
 ·exact .inl rfl
 ·dsimp only
  split
  ·exact .inr (List.mem_of_find?_eq_some h)
  ·exact .inl rfl
theorem takeP_sub {xs:List (Fld×Value)} {bad k:Int} {t:Bool}: ∀ x∈(Bw xs bad k t).2.1,x∈xs:=by
 intro x hx
 unfold Bw at hx
 split at hx
 ·exact hx
 ·split at hx
  ·exact(List.mem_filter.1 hx).1
  ·exact(List.mem_filter.1 hx).1
theorem conv_none {P:Program} (w:World) (src e dst:TypeId) (hs:P.underlying src=some (.slice e)) (he:P.underlying e=some (.int .u8)) (hd:P.underlying dst=some .string) (p:Option Addr) (c:Nat):(convert src dst (.slice p 0 c)).run P w= .ok (.string ByteArray.empty) w:=by
 rw [run_convert_bytes_string w src dst e _ 0 c hs he hd]
 cases p<;>simp [Conv.bytesToString,loadCells]
 all_goals rfl
theorem conv_brow {w:World} {v:Value} {l:List UInt8} (h:A2 w v l):(convert 39 9 v).run Tryz.prog w= .ok (.string ⟨l.toArray⟩) w:=by
 obtain⟨oa,cap,rfl,_,hc⟩:=h
 by_cases hl:l=[]
 ·subst hl
  exact conv_none w 39 5 9 Tryz.underlying39 Tryz.underlying5 Tryz.underlying9 oa cap
 ·obtain⟨b,off,rfl,hcell⟩:=hc hl
  have:=run_convert_bytes_arg (P:=Tryz.prog) w 39 5 Tryz.underlying39 Tryz.underlying5 b off l.length cap (l.map fun x=>(x.toNat:Int)) (by simp) (fun i hi=>by
   have h1:=hcell i l[i] (Δ hi)
   rw [h1]
   simp [hi]) 9 Tryz.underlying9
  have e:strOfNums (l.map fun x=>(x.toNat:Int))=⟨l.toArray⟩:=by
   unfold strOfNums
   rw [List.map_map]
   have:((fun n:Int=>UInt8.ofNat n.toNat)∘fun x:UInt8=>(x.toNat:Int))=id:=by funext x;simp
   rw [this,List.map_id]
  rw [this,e]
end
def BookLP (w:World) (f m:Nat) (d:Ab) (L:List Ad) (r:(Int×Nat×List St)×Nat) (e:Ending) (w':World):Prop:=
 ∃ v,e= .returned (.tuple #[.int .i64 (r.1.2.1:Int),v,.int .i64 r.1.1])∧StsIn (fun k=>w.heap.size≤k) w' v r.1.2.2∧FsAt w' f m (rdD d r.2) L∧Turned (fun i=>i=f) w w'
theorem run_cut_sg (oa:Option Addr) (len cap n:Nat) (h:n≤cap) (w:World):(Instr.slice 67 (.slice oa len cap) none (some (.int .i64 n)) none).run Tryz.prog w= .ok (.slice oa n cap) w:=by
 rw [run_slice_h (P:=Tryz.prog) w 67 oa len cap (by kernel_rfl) .i64 n (by omega) (by omega)]
 have:(sizeOf (Tryz.prog.elem 67)).run Tryz.prog w= .ok 4 w:=by kernel_rfl
 rw [this]
 show Result.ok (Value.slice (if cap=0 then oa else oa.map (·.add (0*4))) (n - 0) (cap - 0)) w=_
 have e:(if cap=0 then oa else oa.map (·.add (0*4)))=oa:=by
  split
  ·rfl
  ·cases oa with
   | none=>rfl
   | some a=>simp [Addr.add]
 rw [e,Nat.sub_zero,Nat.sub_zero]
theorem cut_sg (oa:Option Addr) (len cap n:Nat) (h:n≤cap) (w:World):(Instr.sliceAt 67 (.slice oa len cap) none (some (.int .i64 n)) none).run Tryz.prog w= .ok (.slice oa n cap) w:=by
 rw [run_sliceAt_slice _ _ _ _ _ _ (by kernel_rfl)]
 exact run_cut_sg oa len cap n h w
def PlanP (w:World) (f m:Nat) (d:Ab) (L:List Ad) (r:(Pl×Int)×Nat) (e:Ending) (w':World):Prop:=
 ∃ sv rv,e= .returned (.tuple #[plV r.1.1 sv rv,.int .i64 r.1.2])∧Dl (fun k=>w.heap.size≤k) w' sv r.1.1.man.segs∧StIn (fun k=>w.heap.size≤k) w' rv r.1.1.remove∧sv.oneCell'=true∧rv.oneCell'=true∧FsAt w' f m (rdD d r.2) L∧Turned (fun i=>i=f) w w'
structure PlW (w:World) (f m:Nat) (d:Ab) (L:List Ad) (bm:Nat) (mn:B3) (sv:Value) (W:World):Prop where
 res:A5 W w.heap.size planZ (.slice none 0 0) (.slice none 0 0)
 man:Ah W bm mn sv
 seg:Dl (fun k=>w.heap.size<k) W sv mn.segs
 fs:FsAt W f m d L
 nib:NibTab W
 top:Turned (fun i=>i=f) w W
 bmf:w.heap.size<bm
theorem PlW.next {w:World} {f m:Nat} {d d':Ab} {L:List Ad} {bm:Nat} {mn:B3} {sv:Value} {W W':World} (h:PlW w f m d L bm mn sv W) (hf:f<w.heap.size) (hF:FsAt W' f m d' L) (ht:Turned (fun i=>i=f) W W'):PlW w f m d' L bm mn sv W':=
 ⟨(ht.block _ h.res.lt (by omega)).trans h.res,(ht.block _ h.man.lt (by have:=h.bmf;omega)).trans h.man,h.seg.turned ht (fun k hk=>by omega),hF,h.nib.turned ht (fs_nib h.fs h.nib) h.nib.lt,h.top.trans ht (fun i hi=> .inl hi),h.bmf⟩
theorem PlW.below {w:World} {f m:Nat} {d:Ab} {L:List Ad} {bm:Nat} {mn:B3} {sv:Value} {W W':World} (h:PlW w f m d L bm mn sv W) (hf:f<w.heap.size) (hb:Below W.heap.size W W'):PlW w f m d L bm mn sv W':=
 h.next hf (h.fs.below hb) (Turned.below hb)
theorem PlW.answer {w:World} {f m:Nat} {d:Ab} {L:List Ad} {bm:Nat} {mn:B3} {sv:Value} {W:World} (h:PlW w f m d L bm mn sv W) (hF: ∀ k,foot f m L k→k<w.heap.size) (cs:Array Value):FsAt (W.setRow w.heap.size cs) f m d L∧Turned (fun i=>i=f) w (W.setRow w.heap.size cs):=by
 have ht:Turned (fun k=>k=w.heap.size) W (W.setRow w.heap.size cs):=Ak _ _ _
 exact⟨h.fs.turned ht (fun k hk he=>by have:=hF k hk;omega),h.top.trans ht fun i hi=> .inr (by omega)⟩
theorem takeRun_sub {first most:Nat}: ∀ (xs:List (Nat×Frm)) (c:Nat),∀ _:Nat,∀ y∈takeRun first most c xs,y∈xs
 | [],_,_,_,h=>by simp [takeRun] at h
 | x::r,c,z,y,h=>by
  rw [takeRun] at h
  split at h
  ·cases h
  ·split at h
   ·simp at h;subst h;simp
   ·rcases Γ.1 h with rfl | h
    ·simp
    ·exact List.mem_cons_of_mem _ (takeRun_sub r (c+1) z y h)
theorem active_cnt (d:Ab) (g:Sg):(Au d g).1.2.1≤512∧(Au d g).1.1≤67108864∨ ¬ At d:=by
 by_cases hok:At d
 ·left
  unfold Au
  rcases hf:G0 d (Aa g.num) with _ | x
  ·exact⟨θ _,θ _⟩
  ·dsimp only
   split
   ·exact⟨θ _,θ _⟩
   ·have h1:=Jl (first:=(A6 x.data).2.1) (most:=512) (frs (x.data.drop (Ci x.data g).1)) 0 (by decide)
    have h2:=Eb (Bi (filD_at hf)).2
    have h3:=hok.used
    have h4:=hok.room
    rename_i hb
    have h5:=hdr_pos (b:=x.data) (g:=g) (by simpa using hb)
    have h6:=lastEnd_le (b:=x.data.drop (Ci x.data g).1) (takeRun (A6 x.data).2.1 512 0 (frs (x.data.drop (Ci x.data g).1))) 0 (θ _) fun y hy=>(frs_mem (takeRun_sub _ _ 0 y hy)).1
    rw [Ξ] at h6
    simp only [scanRun,plcs,List.length_map]
    omega
 ·exact .inr hok
theorem planD_err {d:Ab} (h:(loadM d).1.2.2≠0):Ay d=((planZ,if (loadM d).1.2.2=80 then 4 else (loadM d).1.2.2),(loadM d).2):=by unfold Ay;rw [ζ h]
theorem planD_new {d:Ab} (h:(loadM d).1.2.2=0) (h2:(loadM d).1.2.1=false):Ay d=(Fs d,(loadM d).2):=by unfold Ay;rw [γ (fun k=>k h),ζ h2]
theorem planD_man {d:Ab} (h:(loadM d).1.2.2=0) (h2:(loadM d).1.2.1=true):Ay d=((Hw d (loadM d).1.1).1,(loadM d).2+(Hw d (loadM d).1.1).2):=by unfold Ay;rw [γ (fun k=>k h),γ (by rw [h2];decide)]
theorem plan_core (w:World) (f m:Nat) (d:Ab) (L:List Ad) (h:FsAt w f m d L) (hn:NibTab w)
  (hbk:0<(loadM d).1.1.snap→ ∀ (W:World) (n:Nat),FsAt W f m (rdD d n) L→NibTab W→Calls Tryz.prog 87 #[.pointer (some ⟨f,0,none⟩),.int .i64 (loadM d).1.1.snap] W (BookLP W f m (rdD d n) L (bookV d (loadM d).1.1.snap))):
  Calls Tryz.prog 57 #[.pointer (some ⟨f,0,none⟩)] w (PlanP w f m d L (Ay d)):=by
 have hf:=h.hd.lt
 have HBKP:=Qh hbk
 clear hbk
 have HLT:=Qh h.lt
 have HB0:=Qh (below_alloc w (.cells (plCs planZ (.slice none 0 0) (.slice none 0 0)) 75))
 have HR0:=Qh (E7 w planZ (.slice none 0 0) (.slice none 0 0))
 have HLD:=Qh (manLoad_any _ f m d L (h.below HB0.out) (hn.below HB0.out))
 have HN0:=Qh (hn.below HB0.out)
 have HF0:=Qh (h.below HB0.out)
 have HDR:=Qh (show d.down=false∨(loadM d).1.2.2≠0 from by
  rcases hd:d.down
  ·exact .inl rfl
  ·right
   unfold loadM G0 Aj
   rw [hd]
   simp)
 have HP1:=Qh (@planD_err d)
 have HP2:=Qh (@planD_new d)
 have HP3:=Qh (@planD_man d)
 have HMK:=Qh (@load_ok d)
 have HLR:=Qh (show (loadM d).2≤67108864 from by
  refine μ (load_read d) ?_
  unfold sizeN
  split
  ·exact θ _
  ·rename_i x hx;exact fil_len h hx)
 obtain⟨ld,hld⟩: ∃ ld,ld=loadM d:=⟨_,rfl⟩
 rw [←hld] at HLD HP1 HP2 HP3 HMK HDR HLR HBKP
 simp only [plCs,planZ,zeroM] at HB0 HR0 HLD HN0 HF0
 clear h hn hld
 obtain⟨⟨mn,th,e0⟩,nr⟩:=ld
 unfold LoadMP at HLD
 dsimp only at HLD HP1 HP2 HP3 HMK HDR HLR HBKP
 go_enter Tryz.func57,Tryz.ntmps57
 go_wp2_with fail
 refine HLD.out.mono ?_
 rintro e w1 ⟨sv,rfl,hsg,hone,hf1,ht1⟩
 have HSO:=Qh hone
 have hsz0:w.heap.size<(w.alloc (.cells #[.bool false,.int .i64 0,.int .i64 0,.int .i64 0,.int .i64 0,.int .i64 0,.slice none 0 0,.slice none 0 0,.int .i64 0,.int .i64 0] 75)).heap.size:=HR0.out.lt
 have hsz1:=ht1.size
 have HW1:=Qh (show A5 w1 w.heap.size planZ (.slice none 0 0) (.slice none 0 0)∧Dl (fun k=>w.heap.size<k) w1 sv mn.segs∧FsAt w1 f m (rdD d nr) L∧NibTab w1∧Turned (fun i=>i=f) w w1 from
  ⟨(ht1.block _ HR0.out.lt (by omega)).trans HR0.out,hsg.mono (fun k hk=>by omega),hf1,HN0.out.turned ht1 (fs_nib HF0.out HN0.out) HN0.out.lt,(Turned.below HB0.out).trans ht1 fun i hi=> .inl hi⟩)
 have HMz:=Qh (A4 w1 zeroM (.slice none 0 0))
 have hba:=below_alloc w1 (.cells (mnCs zeroM (.slice none 0 0)) 69)
 simp only [mnCs,zeroM] at HMz hba
 clear hsg hone hf1 ht1 HLD HB0 HR0 HN0 HF0
 go_wp2_with (with_reducible refine wpList_store_mn rfl (.tmp 4) (.tmp 20) rfl w1.heap.size ⟨0,0,0,0,0,[]⟩ mn (.slice none 0 0) sv rfl rfl HMz.out HSO.out ?_)
 intro w2 hw2
 have HW2:=Qh (show PlW w f m (rdD d nr) L w1.heap.size mn sv w2 from by
  have hb:Below w1.heap.size w1 w2:=by rw [hw2.out];exact Az hba (ξ _) _
  obtain⟨h1,h2,h3,h4,h5⟩:=HW1.out
  exact⟨h1.below hb,by rw [hw2.out];exact HMz.out.row,h2.below hb,h3.below hb,h4.below hb,h5.trans (Turned.below hb) fun i hi=> .inl hi,by omega⟩)
 clear hw2 hba HMz HW1 hsz0 hsz1
 generalize w1.heap.size=bm at*
 rcases he8:(e0==80) with _ | _
 case true=>
  have HPE:=Qh (show Ay d=((planZ,4),nr) by rw [HP1.out (by simp at he8;omega),ζ (by simpa using he8)])
  go_wp2_with (with_reducible refine wpList_store_pl rfl (.tmp 2) (.tmp 26) rfl w.heap.size planZ planZ (.slice none 0 0) (.slice none 0 0) (.slice none 0 0) (.slice none 0 0) rfl rfl HW2.out.res rfl rfl ?_)
  intro w3 hw3
  have HP:=Qh (show A5 w3 w.heap.size planZ (.slice none 0 0) (.slice none 0 0) by rw [hw3.out];exact HW2.out.res.row)
  have HA:=Qh (show FsAt w3 f m (rdD d nr) L∧Turned (fun i=>i=f) w w3 by rw [hw3.out];exact HW2.out.answer HLT.out _)
  clear hw3
  go_wp2
  refine π (v:= .tuple #[plV planZ (.slice none 0 0) (.slice none 0 0),.int .i64 4]) (Bh rfl _ _ w.heap.size planZ _ _ _ rfl rfl HP.out) rfl ?_
  rw [HPE.out]
  exact⟨_,_,rfl,B9 _ _,Gt _ _,rfl,rfl,HA.out⟩
 rcases he:(e0 != 0) with _ | _
 case true=>
  have HPE:=Qh (show Ay d=((planZ,e0),nr) by rw [HP1.out (by simpa using he),γ (by simpa using he8)])
  go_wp2_with (with_reducible refine wpList_store_pl rfl (.tmp 2) (.tmp 30) rfl w.heap.size planZ planZ (.slice none 0 0) (.slice none 0 0) (.slice none 0 0) (.slice none 0 0) rfl rfl HW2.out.res rfl rfl ?_)
  intro w3 hw3
  have HP:=Qh (show A5 w3 w.heap.size planZ (.slice none 0 0) (.slice none 0 0) by rw [hw3.out];exact HW2.out.res.row)
  have HA:=Qh (show FsAt w3 f m (rdD d nr) L∧Turned (fun i=>i=f) w w3 by rw [hw3.out];exact HW2.out.answer HLT.out _)
  clear hw3
  go_wp2
  refine π (v:= .tuple #[plV planZ (.slice none 0 0) (.slice none 0 0),.int .i64 e0]) (Bh rfl _ _ w.heap.size planZ _ _ _ rfl rfl HP.out) rfl ?_
  rw [HPE.out]
  exact⟨_,_,rfl,B9 _ _,Gt _ _,rfl,rfl,HA.out⟩
 have he0:e0=0:=by simpa using he
 have HDN:=Qh (show d.down=false from by
  rcases HDR.out with h | h
  ·exact h
  ·exact absurd he0 h)
 cases th
 case false=>
  have HPE:=Qh (show Ay d=(Fs d,nr) from HP2.out he0 rfl)
  have HFR:=Qh (show Calls Tryz.prog 86 #[.pointer (some ⟨f,0,none⟩)] w2 (FreshP w2 (Fs d)) from freshG_any w2 f m (rdD d nr) L HW2.out.fs HDN.out HW2.out.nib)
  obtain⟨fr,hfr⟩: ∃ fr,fr=Fs d:=⟨_,rfl⟩
  rw [←hfr] at HPE HFR
  obtain⟨fp,fe⟩:=fr
  unfold FreshP at HFR
  clear hfr he0 HP1 HP2 HP3 HMK
  go_wp2_with fail
  refine HFR.out.mono ?_
  rintro e w3 ⟨fsv,frv,rfl,hs3,hr3,ho3,hq3,hb3⟩
  have HW3:=Qh (HW2.out.below hf hb3)
  have HS3:=Qh hs3
  have HR3:=Qh hr3
  have HO3:=Qh ho3
  have HQ3:=Qh hq3
  have hlo:w.heap.size<w2.heap.size:=HW2.out.res.lt
  clear hs3 hr3 ho3 hq3 hb3 HFR HW2
  go_wp2_with (with_reducible refine wpList_store_pl rfl (.tmp 2) (.tmp 37) rfl w.heap.size planZ fp (.slice none 0 0) (.slice none 0 0) fsv frv rfl rfl HW3.out.res HO3.out HQ3.out ?_)
  intro w4 hw4
  have HP:=Qh (show A5 w4 w.heap.size fp fsv frv by rw [hw4.out];exact HW3.out.res.row)
  have HA:=Qh (show FsAt w4 f m (rdD d nr) L∧Turned (fun i=>i=f) w w4 by rw [hw4.out];exact HW3.out.answer HLT.out _)
  have HT:=Qh (show Turned (fun k=>k=w.heap.size) w3 w4 by rw [hw4.out];exact Ak _ _ _)
  clear hw4
  go_wp2
  refine π (v:= .tuple #[plV fp fsv frv,.int .i64 fe]) (Bh rfl _ _ w.heap.size fp _ _ _ rfl rfl HP.out) rfl ?_
  rw [HPE.out]
  exact⟨_,_,rfl,(HS3.out.turned HT.out (fun k hk=>by omega)).mono (fun k hk=>by omega),(HR3.out.turned HT.out (fun k hk=>by omega)).mono (fun k hk=>by omega),HO3.out,HQ3.out,HA.out⟩
 case true=>
  have hmk:=(HMK.out rfl).1
  have HMF:=Qh (B7 hmk)
  have HPE:=Qh (show Ay d=((Hw d mn).1,nr+(Hw d mn).2) from HP3.out he0 rfl)
  clear he0 HP1 HP2 HP3 HMK hmk
  have hlr:=HLR.out
  have s3:=HW2.out.man.c3
  go_upto_if 41 with fail
  go_cut [] from 39 to 58 (fun wx=>Hid (PlW w f m (rdD d (nr+(F0 d mn).2)) L bm mn sv wx)∧Hid ((F0 d mn).1=true)∧Hid ((F0 d mn).2≤67108864))
  case first=>
   rcases hsn:decide (0<mn.snap) with _ | _
   ·have HSV:=Qh (show F0 d mn=(true,0) by unfold F0;rw [γ (by simpa using hsn)])
    go_wp2_with fail
    go_meet
    exact⟨Qh (by rw [HSV.out];exact HW2.out),Qh (by rw [HSV.out]),Qh (by rw [HSV.out];decide)⟩
   ·have HSV:=Qh (show F0 d mn=(decide ((bookV d mn.snap).1.1=0)&&decide (((bookV d mn.snap).1.2.1:Int)=mn.snapSeq),(bookV d mn.snap).2) by unfold F0;rw [ζ (χ hsn)])
    have HBK:=Qh (show Calls Tryz.prog 87 #[.pointer (some ⟨f,0,none⟩),.int .i64 mn.snap] w2 (BookLP w2 f m (rdD d nr) L (bookV d mn.snap)) from HBKP.out (χ hsn) w2 nr HW2.out.fs HW2.out.nib)
    have HBR:=Qh (show (bookV d mn.snap).2≤67108864 from by
     refine μ (book_read d mn.snap) ?_
     unfold sizeN
     split
     ·exact θ _
     ·rename_i x hx;exact fil_len HW2.out.fs hx)
    obtain⟨bk,hbk⟩: ∃ bk,bk=bookV d mn.snap:=⟨_,rfl⟩
    rw [←hbk] at HSV HBK HBR
    obtain⟨⟨e1,sq,ss⟩,n1⟩:=bk
    unfold BookLP at HBK
    dsimp only at HSV HBK HBR
    clear hbk
    go_wp2_with fail
    refine HBK.out.mono ?_
    rintro e w3 ⟨bv,rfl,_,hf3,ht3⟩
    have HW3:=Qh (HW2.out.next hf (by rw [rdD_rdD] at hf3;exact hf3) ht3)
    have t4:=HW3.out.man.c4
    clear hf3 ht3 HBK HW2 s3
    rcases he1:(e1 != 0) with _ | _
    ·rcases hsq:((sq:Int) != mn.snapSeq) with _ | _
     ·have HSW:=Qh (show F0 d mn=(true,n1) by rw [HSV.out,ν (by simpa using he1),ν (by simpa using hsq)];rfl)
      go_wp2_with fail
      go_meet
      exact⟨Qh (by rw [HSW.out];exact HW3.out),Qh (by rw [HSW.out]),Qh (by rw [HSW.out];exact HBR.out)⟩
     ·have HSW:=Qh (show F0 d mn=(false,n1) by rw [HSV.out,ν (by simpa using he1),ρ (by simpa using hsq)];rfl)
      have HPE:=Qh (show Ay d=((planZ,4),nr+n1) by rw [HPE.out];unfold Hw;rw [HSW.out,ζ rfl])
      go_wp2_with (with_reducible refine wpList_store_pl rfl (.tmp 2) (.tmp 58) rfl w.heap.size planZ planZ (.slice none 0 0) (.slice none 0 0) (.slice none 0 0) (.slice none 0 0) rfl rfl HW3.out.res rfl rfl ?_)
      intro w9 hw9
      have HP:=Qh (show A5 w9 w.heap.size planZ (.slice none 0 0) (.slice none 0 0) by rw [hw9.out];exact HW3.out.res.row)
      have HA:=Qh (show FsAt w9 f m (rdD d (nr+n1)) L∧Turned (fun i=>i=f) w w9 by rw [hw9.out];exact HW3.out.answer HLT.out _)
      clear hw9
      go_wp2
      refine π (v:= .tuple #[plV planZ (.slice none 0 0) (.slice none 0 0),.int .i64 4]) (Bh rfl _ _ w.heap.size planZ _ _ _ rfl rfl HP.out) rfl ?_
      rw [HPE.out]
      exact⟨_,_,rfl,B9 _ _,Gt _ _,rfl,rfl,HA.out⟩
    ·have HSW:=Qh (show F0 d mn=(false,n1) by rw [HSV.out,ρ (by simpa using he1)];rfl)
     have HPE:=Qh (show Ay d=((planZ,4),nr+n1) by rw [HPE.out];unfold Hw;rw [HSW.out,ζ rfl])
     go_wp2_with (with_reducible refine wpList_store_pl rfl (.tmp 2) (.tmp 58) rfl w.heap.size planZ planZ (.slice none 0 0) (.slice none 0 0) (.slice none 0 0) (.slice none 0 0) rfl rfl HW3.out.res rfl rfl ?_)
     intro w9 hw9
     have HP:=Qh (show A5 w9 w.heap.size planZ (.slice none 0 0) (.slice none 0 0) by rw [hw9.out];exact HW3.out.res.row)
     have HA:=Qh (show FsAt w9 f m (rdD d (nr+n1)) L∧Turned (fun i=>i=f) w w9 by rw [hw9.out];exact HW3.out.answer HLT.out _)
     clear hw9
     go_wp2
     refine π (v:= .tuple #[plV planZ (.slice none 0 0) (.slice none 0 0),.int .i64 4]) (Bh rfl _ _ w.heap.size planZ _ _ _ rfl rfl HP.out) rfl ?_
     rw [HPE.out]
     exact⟨_,_,rfl,B9 _ _,Gt _ _,rfl,rfl,HA.out⟩
  case rest=>
   obtain⟨HW3,HSV,HSR⟩:=hcut
   obtain⟨hlast,hlmem⟩:=last_segs HMF.out
   have HPM:=Qh (show (Hw d mn)=if (Es d mn.segs.dropLast).1=false then ((planZ,4),(F0 d mn).2+(Es d mn.segs.dropLast).2)
    else if (Au d (lastSg mn)).1.2.2=false∨(lastSg mn).first - 1+((Au d (lastSg mn)).1.2.1:Int)<mn.snapSeq then ((planZ,4),(F0 d mn).2+(Es d mn.segs.dropLast).2+(Au d (lastSg mn)).2)
    else ((⟨false,mn,Ap d true mn,((Au d (lastSg mn)).1.1:Int),(lastSg mn).first - 1+((Au d (lastSg mn)).1.2.1:Int)⟩,0),(F0 d mn).2+(Es d mn.segs.dropLast).2+(Au d (lastSg mn)).2) by unfold Hw;rw [γ (by rw [HSV.out];decide)])
   obtain⟨ns,hns⟩: ∃ ns,ns=(F0 d mn).2:=⟨_,rfl⟩
   rw [←hns] at HW3 HSR HPM
   obtain⟨dl,hdl⟩: ∃ dl,dl=mn.segs.dropLast:=⟨_,rfl⟩
   obtain⟨lg,hlg⟩: ∃ lg,lg=lastSg mn:=⟨_,rfl⟩
   have HSG:=Qh HMF.out.seg
   have hnx:=HMF.out.next
   have hlen:=HMF.out.len
   have hdk: ∀ (k:Nat) g,dl[k]? =some g→mn.segs[k]? =some g∧g∈mn.segs:=fun k g hg=>by
    have h1:mn.segs[k]? =some g:=by rw [hlast,←hdl,List.getElem?_append_left (getElem?_lt hg)];exact hg
    exact⟨h1,List.mem_of_getElem? h1⟩
   have hlk:mn.segs[dl.length]? =some lg:=by rw [hlast,←hdl,←hlg];simp
   have hll:mn.segs.length=dl.length+1:=by rw [hlast,←hdl];simp
   rw [←hdl,←hlg] at HPM
   rw [←hlg] at hlmem
   have HDK:=Qh hdk
   have HLK:=Qh hlk
   have HLM:=Qh hlmem
   clear hlast hns hdl hlg hdk hlk hlmem HSV s3 HW2
   obtain⟨osg,scap,hsh,hl1,hl2,_⟩:=HW3.out.seg
   have s5:=HW3.out.man.c5
   rw [hsh] at s5
   rw [hll] at s5 hl1
   have hw1:IntKind.i64.wrap (((dl.length+1:Nat):Int) - 1)=(dl.length:Int):=by rw [κ];omega
   have hcut:=cut_sg osg (dl.length+1) scap dl.length (by omega)
   have HHAT:=Qh (fun(W:World) (hW:Dl (fun k=>w.heap.size<k) W sv mn.segs) (i:Nat) g (hg:mn.segs[i]? =some g)=>(show ∃ b off,osg=some ⟨b,off,none⟩∧W.rangeAt b (off+i*4) (sgCs g).toList from by
    obtain⟨o1,c1,e1,_,_,h1⟩:=hW
    rw [hsh] at e1
    simp only [Value.slice.injEq,true_and] at e1
    obtain⟨rfl,rfl⟩:=e1
    obtain⟨b,off,e2,_,h2⟩:=h1 i g hg
    exact⟨b,off,e2,h2⟩))
   have HSH:=Qh hsh
   have HLL:=Qh hll
   have hdn:dl.length≤256:=by omega
   clear hsh hll
   go_wp2
   go_loopw [68] (fun iv wr=> ∃ (k n2:Nat),k≤dl.length∧iv= .int .i64 (k:Int)∧Hid (PlW w f m (rdD d (nr+(ns+n2))) L bm mn sv wr)∧Hid (Es d dl=((Es d (dl.drop k)).1,n2+(Es d (dl.drop k)).2))∧Hid (n2≤k*134217728)) (fun iv _=>dl.length - (intOf iv).toNat)
   case atStart=>exact⟨0,0,θ _,rfl,HW3,Qh (by simp),Qh (θ _)⟩
   case round=>
    obtain⟨k,n2,hk,rfl,HW,HSL,HNN⟩:=hrel
    clear HW3 s5
    have hnn:=HNN.out
    have hns:=HSR.out
    by_cases hlt:k<dl.length
    ·have hgk:dl[k]? =some dl[k]:=Δ hlt
     obtain⟨g,hg⟩: ∃ g,g=dl[k]:=⟨_,rfl⟩
     rw [←hg] at hgk
     have hdr:dl.drop k=g::dl.drop (k+1):=by rw [List.drop_eq_getElem_cons hlt,←hg]
     obtain⟨hgm,hgs⟩:=HDK.out k g hgk
     rw [hdr,Es] at HSL
     obtain⟨b,off,rfl,hce⟩:=HHAT.out wr HW.out.seg k g hgm
     have q1:(k:Int)<(dl.length:Int):=by omega
     have HCE:=Qh hce
     have hft:=(HSG.out g hgs).2.2.2.2.2.2.1
     have HSBR:=Qh (show (sealedV d g).2≤134217728 from by
      refine μ (sealed_read d g) ?_
      unfold sizeN
      split
      ·omega
      ·rename_i x hx;have:x.data.length≤67108864:=fil_len HW.out.fs hx;omega)
     have HBA:=Qh (below_alloc wr (.cells (sgCs g) 72))
     have HBK:=Qh (show Dk (wr.alloc (.cells (sgCs g) 72)) wr.heap.size g from σ wr _)
     have HWA:=Qh (HW.out.below hf HBA.out)
     have HSE:=Qh (show Calls Tryz.prog 88 #[.pointer (some ⟨f,0,none⟩),sgV g] (wr.alloc (.cells (sgCs g) 72)) fun e w'=>e= .returned (.bool (sealedV d g).1)∧FsAt w' f m (rdD (rdD d (nr+(ns+n2))) (sealedV d g).2) L∧Turned (fun i=>i=f) (wr.alloc (.cells (sgCs g) 72)) w' from
      sealed_any _ f m (rdD d (nr+(ns+n2))) L HWA.out.fs HWA.out.nib g hft)
     obtain⟨sr,hsr⟩: ∃ sr,sr=sealedV d g:=⟨_,rfl⟩
     rw [←hsr] at HSE HSBR HSL
     obtain⟨sb,sn⟩:=sr
     dsimp only at HSE HSBR HSL
     have hk1:IntKind.i64.wrap ((k:Int)+1)=(k:Int)+1:=by rw [κ];omega
     clear hgk hg hdr hgm hgs hce hsr hft
     simp only [sgCs] at HBA HBK HWA HSE
     go_wp2_with (first | (with_reducible refine wpList_load_sg rfl (.tmp 70) rfl b (off+k*4) g rfl HCE.out ?_) | (with_reducible refine wpList_load_sg rfl (.tmp 12) rfl wr.heap.size 0 g rfl HBK.out.range ?_))
     refine HSE.out.mono ?_
     rintro e w5 ⟨rfl,hf5,ht5⟩
     have HW5:=Qh (HWA.out.next hf (show FsAt w5 f m (rdD d (nr+(ns+(n2+sn)))) L by rw [rdD_rdD] at hf5;rw [show nr+(ns+(n2+sn))=nr+(ns+n2)+sn by omega];exact hf5) ht5)
     clear hf5 ht5 HSE HWA HBK HBA HCE HW
     cases sb
     ·have HSF:=Qh (show Es d dl=(false,n2+sn) by rw [HSL.out,γ (by decide)])
      have HPE:=Qh (show Ay d=((planZ,4),nr+(ns+(n2+sn))) by rw [HPE.out,HPM.out,HSF.out,ζ rfl])
      go_wp2_with (with_reducible refine wpList_store_pl rfl (.tmp 2) (.tmp 76) rfl w.heap.size planZ planZ (.slice none 0 0) (.slice none 0 0) (.slice none 0 0) (.slice none 0 0) rfl rfl HW5.out.res rfl rfl ?_)
      intro w9 hw9
      have HP:=Qh (show A5 w9 w.heap.size planZ (.slice none 0 0) (.slice none 0 0) by rw [hw9.out];exact HW5.out.res.row)
      have HA:=Qh (show FsAt w9 f m (rdD d (nr+(ns+(n2+sn)))) L∧Turned (fun i=>i=f) w w9 by rw [hw9.out];exact HW5.out.answer HLT.out _)
      clear hw9
      go_wp2
      refine π (v:= .tuple #[plV planZ (.slice none 0 0) (.slice none 0 0),.int .i64 4]) (Bh rfl _ _ w.heap.size planZ _ _ _ rfl rfl HP.out) rfl ?_
      rw [HPE.out]
      exact⟨_,_,rfl,B9 _ _,Gt _ _,rfl,rfl,HA.out⟩
     ·have hsb:=HSBR.out
      go_wp2
      go_roundw
      case rel=>exact⟨k+1,n2+sn,by omega,by go_num,HW5,Qh (by rw [HSL.out];simp [Nat.add_assoc]),Qh (by omega)⟩
      case measure=>simp [intOf];omega
    ·obtain rfl:k=dl.length:=by omega
     have HSF:=Qh (show Es d dl=(true,n2) by rw [HSL.out,List.drop_length];rfl)
     have HPM:=Qh (show (Hw d mn)=if (Au d lg).1.2.2=false∨lg.first - 1+((Au d lg).1.2.1:Int)<mn.snapSeq then ((planZ,4),ns+n2+(Au d lg).2)
      else ((⟨false,mn,Ap d true mn,((Au d lg).1.1:Int),lg.first - 1+((Au d lg).1.2.1:Int)⟩,0),ns+n2+(Au d lg).2) by rw [HPM.out,HSF.out,γ (by simp)])
     have HAC:=Qh (show Calls Tryz.prog 89 #[.pointer (some ⟨f,0,none⟩),sgV lg] wr fun e w'=>e= .returned (.tuple #[.int .i64 ((Au d lg).1.1:Int),.int .i64 ((Au d lg).1.2.1:Int),.bool (Au d lg).1.2.2])∧FsAt w' f m (rdD (rdD d (nr+(ns+n2))) (Au d lg).2) L∧Turned (fun i=>i=f) wr w' from
      active_any wr f m (rdD d (nr+(ns+n2))) L HW.out.fs HW.out.nib lg)
     have HCN:=Qh (show (Au d lg).1.2.1≤512∧(Au d lg).1.1≤67108864 from(active_cnt (rdD d (nr+(ns+n2))) lg).resolve_right fun h=>h HW.out.fs.ok)
     obtain⟨ar,har⟩: ∃ ar,ar=Au d lg:=⟨_,rfl⟩
     rw [←har] at HPM HAC HCN
     obtain⟨⟨cu,cn,ok⟩,na⟩:=ar
     dsimp only at HPM HAC HCN
     obtain⟨b,off,rfl,hce⟩:=HHAT.out wr HW.out.seg dl.length lg HLK.out
     have HCE:=Qh hce
     have s5:=HW.out.man.c5
     rw [HSH.out,HLL.out] at s5
     have q2:(dl.length:Int)<((dl.length+1:Nat):Int):=by omega
     clear har hce HSL HNN hnn hcut
     go_wp2_with (with_reducible refine wpList_load_sg rfl (.tmp 83) rfl b (off+dl.length*4) lg rfl HCE.out ?_)
     with_reducible refine HAC.out.mono ?_
     rintro e w6 ⟨rfl,hf6,ht6⟩
     have HW6:=Qh (HW.out.next hf (show FsAt w6 f m (rdD d (nr+(ns+n2+na))) L by rw [rdD_rdD] at hf6;rw [show nr+(ns+n2+na)=nr+(ns+n2)+na by omega];exact hf6) ht6)
     obtain⟨b',off',e',hce⟩:=HHAT.out w6 HW6.out.seg dl.length lg HLK.out
     simp only [Option.some.injEq,Addr.mk.injEq,and_true] at e'
     obtain⟨rfl,rfl⟩:=e'
     have f1:w6.cell? ⟨b,off+dl.length*4+1,none⟩=some (.int .i64 lg.first):=hce 1 _ rfl
     have s6:=HW6.out.man.c5
     rw [HSH.out,HLL.out] at s6
     have s7:=HW6.out.man.c4
     have hlb:=HSG.out lg HLM.out
     have hcn:=HCN.out
     have hw2:IntKind.i64.wrap (lg.first - 1)=lg.first - 1:=by rw [κ];omega
     have hw3:IntKind.i64.wrap (lg.first - 1+(cn:Int))=lg.first - 1+(cn:Int):=by rw [κ];omega
     clear hf6 ht6 hce s5 HAC HW HCE hcn hlb
     cases ok
     ·have HPE:=Qh (show Ay d=((planZ,4),nr+(ns+n2+na)) by rw [HPE.out,HPM.out,ζ (.inl rfl)])
      go_wp2_with (with_reducible refine wpList_store_pl rfl (.tmp 2) (.tmp 106) rfl w.heap.size planZ planZ (.slice none 0 0) (.slice none 0 0) (.slice none 0 0) (.slice none 0 0) rfl rfl HW6.out.res rfl rfl ?_)
      intro w9 hw9
      have HP:=Qh (show A5 w9 w.heap.size planZ (.slice none 0 0) (.slice none 0 0) by rw [hw9.out];exact HW6.out.res.row)
      have HA:=Qh (show FsAt w9 f m (rdD d (nr+(ns+n2+na))) L∧Turned (fun i=>i=f) w w9 by rw [hw9.out];exact HW6.out.answer HLT.out _)
      clear hw9
      go_wp2
      refine π (v:= .tuple #[plV planZ (.slice none 0 0) (.slice none 0 0),.int .i64 4]) (Bh rfl _ _ w.heap.size planZ _ _ _ rfl rfl HP.out) rfl ?_
      rw [HPE.out]
      exact⟨_,_,rfl,B9 _ _,Gt _ _,rfl,rfl,HA.out⟩
     rcases hls:decide (lg.first - 1+(cn:Int)<mn.snapSeq) with _ | _
     case true=>
      have HPE:=Qh (show Ay d=((planZ,4),nr+(ns+n2+na)) by rw [HPE.out,HPM.out,ζ (.inr (χ hls))])
      go_wp2_with (with_reducible refine wpList_store_pl rfl (.tmp 2) (.tmp 106) rfl w.heap.size planZ planZ (.slice none 0 0) (.slice none 0 0) (.slice none 0 0) (.slice none 0 0) rfl rfl HW6.out.res rfl rfl ?_)
      intro w9 hw9
      have HP:=Qh (show A5 w9 w.heap.size planZ (.slice none 0 0) (.slice none 0 0) by rw [hw9.out];exact HW6.out.res.row)
      have HA:=Qh (show FsAt w9 f m (rdD d (nr+(ns+n2+na))) L∧Turned (fun i=>i=f) w w9 by rw [hw9.out];exact HW6.out.answer HLT.out _)
      clear hw9
      go_wp2
      refine π (v:= .tuple #[plV planZ (.slice none 0 0) (.slice none 0 0),.int .i64 4]) (Bh rfl _ _ w.heap.size planZ _ _ _ rfl rfl HP.out) rfl ?_
      rw [HPE.out]
      exact⟨_,_,rfl,B9 _ _,Gt _ _,rfl,rfl,HA.out⟩
     have HPE:=Qh (show Ay d=((⟨false,mn,Ap d true mn,(cu:Int),lg.first - 1+(cn:Int)⟩,0),nr+(ns+n2+na)) by rw [HPE.out,HPM.out,γ];rintro(h | h);cases h;exact ε hls h)
     have hbm:=HW6.out.bmf
     obtain rfl:=HSH.out
     go_wp2_with fail
     refine ω (S:=fun w'=>Turned (fun k=>k=w.heap.size) w6 w') (by kernel_rfl) (Turned.below (below_drewN' w6 1)) (fun hHeld=> ?_)
     refine tkl 0 bm 0 [.int .i64 mn.gen,.int .i64 mn.next,.int .i64 mn.floor,.int .i64 mn.snap,.int .i64 mn.snapSeq,.slice (some ⟨b,off,none⟩) mn.segs.length scap] rfl rfl (fun w' h j v hv=>by rw [Nat.zero_add];exact h.cell (by rw [HW6.out.man.cell];simpa [mnCs] using hv) (by simp only;omega)) Tryz.underlying69 rfl (by rw [mnInfo];rfl) ?_
     simp only [pA,pB,pC,pD]
     refine tq 1 rfl ?_
     refine tkl 2 bm 0 [.int .i64 mn.gen,.int .i64 mn.next,.int .i64 mn.floor,.int .i64 mn.snap,.int .i64 mn.snapSeq,.slice (some ⟨b,off,none⟩) mn.segs.length scap] rfl rfl (fun w' h j v hv=>by rw [Nat.zero_add];exact h.cell (by rw [HW6.out.man.cell];simpa [mnCs] using hv) (by simp only;omega)) Tryz.underlying69 rfl (by rw [mnInfo];rfl) ?_
     simp only [pA,pB,pC,pD]
     refine tq 4 rfl ?_
     refine tq 5 rfl ?_
     have hbd:Below w6.heap.size w6 (World.drew w6):=below_drewN' w6 1
     have HPD:=Qh (HW6.out.res.below hbd)
     clear hbd
     generalize World.drew w6=Wd at*
     refine Rd 3 rfl fun K hK=> ?_
     go_simp
     go_at_call 90
     refine(strays_there Wd f m (rdD d (nr+(ns+n2+na))) L (HW6.out.fs.turned hHeld (fun k hk he=>by have:=HLT.out k hk;omega)) HDN.out mn _ (HW6.out.seg.turned hHeld (fun k hk=>by omega)).row (fun g hg=>by have:=HSG.out g hg;omega) (by omega)).mono ?_
     rintro e w7 ⟨v7,rfl,ho7,hb7⟩
     have HT7:=Qh (show Turned (fun k=>k=w.heap.size) w6 w7 from hHeld.trans (Turned.below hb7) fun i hi=> .inl hi)
     have HR7:=Qh (stIn_own (A:=fun k=>w6.heap.size≤k) (l:=Ap d true mn) (J6 ho7 hHeld.size) (fun _ h=>h))
     obtain⟨o7,cap7,rfl,_,_⟩:=Ac ho7
     have HP7:=Qh (HPD.out.below hb7)
     have hlo:w.heap.size<w6.heap.size:=HW6.out.res.lt
     clear ho7 hb7 hHeld HPD
     go_wp2_with fail
     refine hK.out _ _ HT7.out (fun hHeld=> ?_)
     clear hK K hHeld
     refine tq 6 rfl ?_
     refine Rd 7 rfl fun K hK=> ?_
     rw [ζ (by kernel_rfl)]
     refine wp_store_row 75 (.tmp 2) (.tmp 113) rfl w.heap.size (plCs ⟨false,mn,Ap d true mn,(cu:Int),lg.first - 1+(cn:Int)⟩ (.slice (some ⟨b,off,none⟩) mn.segs.length scap) (.slice o7 (Ap d true mn).length cap7)) rfl rfl 75 (plCs planZ (.slice none 0 0) (.slice none 0 0)) HP7.out plInfo rfl (plCs_all _ _ _ rfl rfl) ?_
     have ht8:Turned (fun k=>k=w.heap.size) w7 (w7.setRow w.heap.size (plCs ⟨false,mn,Ap d true mn,(cu:Int),lg.first - 1+(cn:Int)⟩ (.slice (some ⟨b,off,none⟩) mn.segs.length scap) (.slice o7 (Ap d true mn).length cap7))):=Ak _ _ _
     have HP8:=Qh (show A5 (w7.setRow w.heap.size (plCs ⟨false,mn,Ap d true mn,(cu:Int),lg.first - 1+(cn:Int)⟩ (.slice (some ⟨b,off,none⟩) mn.segs.length scap) (.slice o7 (Ap d true mn).length cap7))) w.heap.size ⟨false,mn,Ap d true mn,(cu:Int),lg.first - 1+(cn:Int)⟩ (.slice (some ⟨b,off,none⟩) mn.segs.length scap) (.slice o7 (Ap d true mn).length cap7) from HP7.out.row)
     have HT8:=Qh (show Turned (fun k=>k=w.heap.size) w6 (w7.setRow w.heap.size (plCs ⟨false,mn,Ap d true mn,(cu:Int),lg.first - 1+(cn:Int)⟩ (.slice (some ⟨b,off,none⟩) mn.segs.length scap) (.slice o7 (Ap d true mn).length cap7))) from HT7.out.trans ht8 fun i hi=> .inl hi)
     have HR8:=Qh (HR7.out.turned ht8 fun k hk=>by omega)
     clear ht8 HR7 HT7 HP7
     generalize w7.setRow w.heap.size (plCs ⟨false,mn,Ap d true mn,(cu:Int),lg.first - 1+(cn:Int)⟩ (.slice (some ⟨b,off,none⟩) mn.segs.length scap) (.slice o7 (Ap d true mn).length cap7))=w8 at*
     refine hK.out _ _ HT8.out (fun hHeld=> ?_)
     clear hK K
     refine tk 8 rfl ?v_1 ?hy_1 ?r_1
     case hy_1=>intro w hSw;go_simp;try with_reducible rfl
     simp only [pA]
     refine Λ (by kernel_rfl) ?_ _
     have HTE:=Qh (show Turned (fun i=>i=f) w w8 from HW6.out.top.trans HT8.out fun i hi=> .inr (by omega))
     have HSE:=Qh (show Dl (fun k=>w.heap.size≤k) w8 (.slice (some ⟨b,off,none⟩) mn.segs.length scap) mn.segs from(HW6.out.seg.turned HT8.out (fun k hk=>by omega)).mono (fun k hk=>by omega))
     have HFE:=Qh (show FsAt w8 f m (rdD d (nr+(ns+n2+na))) L from HW6.out.fs.turned HT8.out (fun k hk he=>by have:=HLT.out k hk;omega))
     clear hHeld
     go_wp2
     refine π (v:= .tuple #[plV ⟨false,mn,Ap d true mn,(cu:Int),lg.first - 1+(cn:Int)⟩ (.slice (some ⟨b,off,none⟩) mn.segs.length scap) (.slice o7 (Ap d true mn).length cap7),.int .i64 0]) (Bh rfl _ _ w.heap.size _ _ _ _ rfl rfl HP8.out) rfl ?_
     rw [HPE.out]
     exact⟨_,_,rfl,HSE.out,HR8.out.mono (fun k hk=>by omega),rfl,rfl,HFE.out,HTE.out⟩
theorem plan_bookless (w:World) (f m:Nat) (d:Ab) (L:List Ad) (h:FsAt w f m d L) (hn:NibTab w) (h0:(loadM d).1.1.snap≤0):
  Calls Tryz.prog 57 #[.pointer (some ⟨f,0,none⟩)] w (PlanP w f m d L (Ay d)):=
 plan_core w f m d L h hn fun hp=>absurd hp (by omega)
def runR (d:Ab):(Pl×Int)×Ab:=
 if (Ay d).1.2≠0 then ((planZ,(Ay d).1.2),rdD d (Ay d).2)
 else if (B1 (rdD d (Ay d).2) (Ay d).1.1).2≠0 then ((planZ,(B1 (rdD d (Ay d).2) (Ay d).1.1).2),(B1 (rdD d (Ay d).2) (Ay d).1.1).1)
 else ((Ay d).1,(B1 (rdD d (Ay d).2) (Ay d).1.1).1)
theorem runR_bad {d:Ab} (h:(Ay d).1.2≠0):runR d=((planZ,(Ay d).1.2),rdD d (Ay d).2):=by unfold runR;rw [ζ h]
theorem runR_off {d:Ab} (h:(Ay d).1.2=0) (h2:(B1 (rdD d (Ay d).2) (Ay d).1.1).2≠0):runR d=((planZ,(B1 (rdD d (Ay d).2) (Ay d).1.1).2),(B1 (rdD d (Ay d).2) (Ay d).1.1).1):=by unfold runR;rw [γ (fun k=>k h),ζ h2]
theorem runR_good {d:Ab} (h:(Ay d).1.2=0) (h2:(B1 (rdD d (Ay d).2) (Ay d).1.1).2=0):runR d=((Ay d).1,(B1 (rdD d (Ay d).2) (Ay d).1.1).1):=by unfold runR;rw [γ (fun k=>k h),γ (fun k=>k h2)]
theorem plan_manOk {d:Ab} (h:(Ay d).1.2=0):Bt (Ay d).1.1.man=true:=by
 unfold Ay at h ⊢
 split at h
 ·rename_i h1
  exfalso
  simp only at h
  split at h
  ·cases h
  ·exact h1 h
 ·rename_i h1
  rw [γ h1]
  split at h
  ·rename_i h2
   rw [ζ h2]
   unfold Fs at h ⊢
   split at h
   ·cases h
   ·rename_i h3
    simp only [γ h3]
    exact firstM_ok
  ·rename_i h2
   rw [γ h2]
   have hlo:=load_ok (d:=d) (by simpa using h2)
   simp only at h ⊢
   unfold Hw at h ⊢
   split at h
   ·cases h
   ·rename_i h3
    rw [γ h3]
    split at h
    ·cases h
    ·rename_i h4
     rw [γ h4]
     split at h
     ·cases h
     ·rename_i h5
      rw [γ h5]
      exact hlo.1
theorem plan_rems {d:Ab} (hc:d.files.length≤700) (h:(Ay d).1.2=0):(Ay d).1.1.remove.length≤700:=by
 obtain⟨_,_,t,m,e⟩:=plan_good h
 rw [e]
 exact μ (strays_len d t m) hc
theorem StIn.low {A:Nat→Prop} {w:World} {v:Value} {l:List (List UInt8)} (h:StIn A w v l):StIn (fun k=>A k∧k<w.heap.size) w v l:=by
 obtain⟨oa,cap,h1,h2,h3,h4⟩:=h
 exact⟨oa,cap,h1,h2,h3,fun i x hx=>by obtain⟨b,off,e,ha,hc⟩:=h4 i x hx;exact⟨b,off,e,⟨ha,World.block_lt_of_cell? w _ hc⟩,hc⟩⟩
def RunQ (w:World) (f m:Nat) (L:List Ad) (r:(Pl×Int)×Ab) (e:Ending) (w':World):Prop:=
 ∃ sv rv L',e= .returned (.tuple #[plV r.1.1 sv rv,.int .i64 r.1.2])∧Dl (fun k=>w.heap.size≤k∧ ¬ foot f m L' k) w' sv r.1.1.man.segs∧StIn (fun k=>w.heap.size≤k∧ ¬ foot f m L' k) w' rv r.1.1.remove∧sv.oneCell'=true∧rv.oneCell'=true∧
  FsAt w' f m r.2 L'∧Turned (foot f m L) w w'∧ ∀ k,foot f m L' k→foot f m L k∨w.heap.size≤k
theorem run_core (w:World) (f m:Nat) (d:Ab) (L:List Ad) (h:FsAt w f m d L) (hn:NibTab w) (hg: ¬ foot f m L 1) (hst:d.steps≤1152921504606846976)
  (hpl: ∀ W,FsAt W f m d L→NibTab W→Calls Tryz.prog 57 #[.pointer (some ⟨f,0,none⟩)] W (PlanP W f m d L (Ay d))):
  Calls Tryz.prog 31 #[.pointer (some ⟨f,0,none⟩)] w (RunQ w f m L (runR d)):=by
 have hff:foot f m L f:= .inl rfl
 have HLT:=Qh h.lt
 have HB0:=Qh (below_alloc w (.cells (plCs planZ (.slice none 0 0) (.slice none 0 0)) 75))
 have HR0:=Qh (E7 w planZ (.slice none 0 0) (.slice none 0 0))
 have HPL:=Qh (hpl _ (h.below HB0.out) (hn.below HB0.out))
 have HE1:=Qh (@runR_bad d)
 have HE2:=Qh (@runR_off d)
 have HE3:=Qh (@runR_good d)
 have HMO:=Qh (@plan_manOk d)
 have HRM:=Qh (@plan_rems d h.ok.count)
 have HBAD:=Qh (@plan_bad d)
 have HNB:=Qh hn
 have HNL:=Qh hn.lt
 have HNG:=Qh hg
 have HST:=Qh hst
 have hfl:=h.hd.lt
 have HF:=Qh (show f<w.heap.size from hfl)
 have HFO:=Qh hff
 simp only [plCs,planZ,zeroM] at HB0 HR0 HPL
 obtain⟨r,hr⟩: ∃ r,r=Ay d:=⟨_,rfl⟩
 rw [←hr] at HPL HE1 HE2 HE3 HMO HRM HBAD
 clear h hn hg hst hr hfl hff hpl
 obtain⟨⟨p,e0⟩,nr⟩:=r
 unfold PlanP at HPL
 dsimp only at HPL HE1 HE2 HE3 HMO HRM HBAD
 go_enter Tryz.func31,Tryz.ntmps31
 go_wp2_with fail
 refine HPL.out.mono ?_
 rintro e w1 ⟨sv,rv,rfl,hsg,hsr,hone,hrone,hf1,ht1⟩
 have HONE:=Qh hone
 have HRONE:=Qh hrone
 have HF1:=Qh hf1
 have hsz0:w.heap.size<(w.alloc (.cells #[.bool false,.int .i64 0,.int .i64 0,.int .i64 0,.int .i64 0,.int .i64 0,.slice none 0 0,.slice none 0 0,.int .i64 0,.int .i64 0] 75)).heap.size:=HR0.out.lt
 have hsz1:=ht1.size
 have HSG1:=Qh ((hsg.mono (A':=fun k=>w.heap.size<k) (fun k hk=>by omega)))
 have HSR1:=Qh ((hsr.mono (A':=fun k=>w.heap.size<k) (fun k hk=>by omega)))
 have HR1:=Qh (HR0.out.kept (ht1.block _ HR0.out.lt (fun hc=>by have:=HF.out;omega)))
 have HT1:=Qh (show Turned (fun i=>i=f) w w1 from(Turned.below HB0.out).trans ht1 fun i hi=> .inl hi)
 have HPz:=Qh (E7 w1 planZ (.slice none 0 0) (.slice none 0 0))
 have hba:=below_alloc w1 (.cells (plCs planZ (.slice none 0 0) (.slice none 0 0)) 75)
 simp only [plCs,planZ,zeroM] at HPz hba
 clear hone hrone hsg hsr hf1 ht1 HPL HR0 HB0
 go_wp2_with (with_reducible refine wpList_store_pl rfl (.tmp 4) (.tmp 10) rfl w1.heap.size ⟨false,⟨0,0,0,0,0,[]⟩,[],0,0⟩ p (.slice none 0 0) (.slice none 0 0) sv rv rfl rfl HPz.out HONE.out HRONE.out ?_)
 intro w2 hw2
 have hb2:Below w1.heap.size w1 w2:=by rw [hw2.out];exact Az hba (ξ _) _
 have HP2:=Qh (show A5 w2 w1.heap.size p sv rv by rw [hw2.out];exact HPz.out.row)
 have HF2:=Qh (HF1.out.below hb2)
 have HSG2:=Qh (HSG1.out.below hb2)
 have HSR2:=Qh (HSR1.out.below hb2)
 have HR2:=Qh (HR1.out.below hb2)
 have HT2:=Qh (HT1.out.trans (Turned.below (S:=fun i=>i=f) hb2) fun i hi=> .inl hi)
 have HNB2:=Qh (show NibTab w2 from HNB.out.turned HT2.out (fun e=>HNG.out (by rw [e];exact HFO.out)) HNL.out)
 have hbb:w.heap.size<w1.heap.size:=HR1.out.lt
 clear hw2 hb2 hba HPz HF1 HSG1 HSR1 HR1 HT1 HNB
 generalize hb1e:w1.heap.size=b1 at*
 rcases he:(e0 != 0) with _ | _
 case true=>
  have hne:e0≠0:=by simpa using he
  have HE:=Qh (HE1.out hne)
  clear hne hb1e
  go_wp2_with (with_reducible refine wpList_store_pl rfl (.tmp 2) (.tmp 14) rfl w.heap.size ⟨false,⟨0,0,0,0,0,[]⟩,[],0,0⟩ ⟨false,⟨0,0,0,0,0,[]⟩,[],0,0⟩ (.slice none 0 0) (.slice none 0 0) (.slice none 0 0) (.slice none 0 0) rfl rfl HR2.out rfl rfl ?_)
  intro w3 hw3
  have HR3:=Qh (show A5 w3 w.heap.size planZ (.slice none 0 0) (.slice none 0 0) by rw [hw3.out];exact HR2.out.row)
  have ht3:Turned (fun k=>k=w.heap.size) w2 w3:=by rw [hw3.out];exact Ak _ _ _
  have HF3:=Qh (HF2.out.turned ht3 (fun k hk e=>by have:=HLT.out k hk;omega))
  have HT3:=Qh (show Turned (foot f m L) w w3 from(HT2.out.trans ht3 fun i hi=> .inr (by omega)).mono fun i hi=>by subst hi;exact HFO.out)
  clear hw3 ht3
  go_wp2
  refine π (v:= .tuple #[plV planZ (.slice none 0 0) (.slice none 0 0),.int .i64 e0]) (Bh rfl _ _ w.heap.size planZ (.slice none 0 0) (.slice none 0 0) _ rfl rfl HR3.out) rfl ?_
  rw [HE.out]
  exact⟨_,_,L,rfl,⟨none,0,rfl,ξ _,by decide,fun i x hx=>by simp [planZ,zeroM] at hx⟩,⟨none,0,rfl,ξ _,by decide,fun i x hx=>by simp [planZ] at hx⟩,rfl,rfl,HF3.out,HT3.out,fun k hk=> .inl hk⟩
 case false=>
  have h0:e0=0:=by simpa using he
  subst h0
  clear HE1 HBAD he
  have HMO':=Qh (HMO.out rfl)
  have HRM':=Qh (HRM.out rfl)
  have HE2':=Qh (HE2.out rfl)
  have HE3':=Qh (HE3.out rfl)
  have hnf: ∀ k,w.heap.size<k→ ¬ foot f m L k:=fun k hk hc=>by have:=HLT.out k hc;omega
  have HRA:=Qh (recApply_good w2 f m (rdD d nr) L HF2.out p sv rv (HSG2.out.mono hnf) (HSR2.out.mono hnf) HNB2.out HNG.out (by show d.steps+(p.remove.length:Int)+16<_;have:=HST.out;have:=HRM'.out;omega) HMO'.out)
  have HNF:=Qh hnf
  clear HE2 HE3 HMO HRM hnf
  obtain⟨a,ha⟩: ∃ a,a=B1 (rdD d nr) p:=⟨_,rfl⟩
  rw [←ha] at HRA HE2' HE3'
  clear ha
  obtain⟨d',ea⟩:=a
  unfold Dd at HRA
  dsimp only at HRA HE2' HE3'
  go_wp2_with (with_reducible refine wpList_load_pl rfl (.tmp 4) rfl b1 p sv rv rfl HP2.out ?_)
  refine HRA.out.mono ?_
  rintro e w3 ⟨rfl,hp⟩
  have HP3:=Qh (HP2.out.kept (hp.block HP2.out.lt (HNF.out _ hbb)))
  have HR3:=Qh (HR2.out.kept (hp.block HR2.out.lt (fun hc=>by have:=HLT.out _ hc;omega)))
  obtain⟨L',hf3,ht3,hl3⟩:=hp
  have hw12:=HT2.out.size
  have HF3:=Qh hf3
  have HSG3:=Qh (HSG2.out.low.turned ht3 (fun k hk=>HNF.out k hk.1))
  have HSR3:=Qh (HSR2.out.low.turned ht3 (fun k hk=>HNF.out k hk.1))
  have HT3:=Qh (show Turned (foot f m L) w w3 from(HT2.out.mono fun i hi=>by subst hi;exact HFO.out).trans ht3 fun i hi=> .inl hi)
  have HL3:=Qh (show ∀ k,foot f m L' k→foot f m L k∨w2.heap.size≤k from hl3)
  have hlt2:b1<w2.heap.size:=HP2.out.lt
  clear hf3 ht3 hl3 HRA HP2 HR2 HF2 HSG2 HSR2 HT2 HNB2 hb1e
  rcases he:(ea != 0) with _ | _
  case true=>
   have hne:ea≠0:=by simpa using he
   have HE:=Qh (HE2'.out hne)
   clear hne
   go_wp2_with (with_reducible refine wpList_store_pl rfl (.tmp 2) (.tmp 21) rfl w.heap.size ⟨false,⟨0,0,0,0,0,[]⟩,[],0,0⟩ ⟨false,⟨0,0,0,0,0,[]⟩,[],0,0⟩ (.slice none 0 0) (.slice none 0 0) (.slice none 0 0) (.slice none 0 0) rfl rfl HR3.out rfl rfl ?_)
   intro w4 hw4
   have HR4:=Qh (show A5 w4 w.heap.size planZ (.slice none 0 0) (.slice none 0 0) by rw [hw4.out];exact HR3.out.row)
   have ht4:Turned (fun k=>k=w.heap.size) w3 w4:=by rw [hw4.out];exact Ak _ _ _
   have HF4:=Qh (HF3.out.turned ht4 (fun k hk e=>by
    subst e
    rcases HL3.out _ hk with h | h
    ·have:=HLT.out _ h;omega
    ·omega))
   have HT4:=Qh (show Turned (foot f m L) w w4 from(HT3.out.trans ht4 fun i hi=> .inr (by omega)))
   clear hw4 ht4
   go_wp2
   refine π (v:= .tuple #[plV planZ (.slice none 0 0) (.slice none 0 0),.int .i64 ea]) (Bh rfl _ _ w.heap.size planZ (.slice none 0 0) (.slice none 0 0) _ rfl rfl HR4.out) rfl ?_
   rw [HE.out]
   exact⟨_,_,L',rfl,⟨none,0,rfl,ξ _,by decide,fun i x hx=>by simp [planZ,zeroM] at hx⟩,⟨none,0,rfl,ξ _,by decide,fun i x hx=>by simp [planZ] at hx⟩,rfl,rfl,HF4.out,HT4.out,fun k hk=>(HL3.out k hk).imp id (fun h=>by omega)⟩
  case false=>
   have h0:ea=0:=by simpa using he
   subst h0
   have HE:=Qh (HE3'.out rfl)
   go_wp2_with (first | (with_reducible refine wpList_load_pl rfl (.tmp 4) rfl b1 p sv rv rfl HP3.out ?_) | (with_reducible refine wpList_store_pl rfl (.tmp 2) (.tmp 23) rfl w.heap.size ⟨false,⟨0,0,0,0,0,[]⟩,[],0,0⟩ p (.slice none 0 0) (.slice none 0 0) sv rv rfl rfl HR3.out HONE.out HRONE.out ?_))
   intro w4 hw4
   have HR4:=Qh (show A5 w4 w.heap.size p sv rv by rw [hw4.out];exact HR3.out.row)
   have ht4:Turned (fun k=>k=w.heap.size) w3 w4:=by rw [hw4.out];exact Ak _ _ _
   have HF4:=Qh (HF3.out.turned ht4 (fun k hk e=>by
    subst e
    rcases HL3.out _ hk with h | h
    ·have:=HLT.out _ h;omega
    ·omega))
   have HT4:=Qh (show Turned (foot f m L) w w4 from(HT3.out.trans ht4 fun i hi=> .inr (by omega)))
   have hA: ∀ k,w.heap.size<k∧k<w2.heap.size→w.heap.size≤k∧ ¬ foot f m L' k:=fun k hk=>⟨by omega,fun hc=>by
    rcases HL3.out _ hc with h | h
    ·have:=HLT.out _ h;omega
    ·omega⟩
   have HSG4:=Qh ((HSG3.out.turned ht4 (fun k hk=>by omega)).mono hA)
   have HSR4:=Qh ((HSR3.out.turned ht4 (fun k hk=>by omega)).mono hA)
   clear hw4 ht4 hA
   go_wp2
   refine π (v:= .tuple #[plV p sv rv,.int .i64 0]) (Bh rfl _ _ w.heap.size p sv rv _ rfl rfl HR4.out) rfl ?_
   rw [HE.out]
   exact⟨_,_,L',rfl,HSG4.out,HSR4.out,HONE.out,HRONE.out,HF4.out,HT4.out,fun k hk=>(HL3.out k hk).imp id (fun h=>by omega)⟩
theorem run_bookless (w:World) (f m:Nat) (d:Ab) (L:List Ad) (h:FsAt w f m d L) (hn:NibTab w) (hg: ¬ foot f m L 1) (hst:d.steps≤1152921504606846976) (h0:(loadM d).1.1.snap≤0):
  Calls Tryz.prog 31 #[.pointer (some ⟨f,0,none⟩)] w (RunQ w f m L (runR d)):=
 run_core w f m d L h hn hg hst fun W hF hN=>plan_bookless W f m d L hF hN h0
theorem tw_lt (from_:Int): ∀ (ms:List Mk),ms.Pairwise (fun a b=>a.s<b.s)→ ∀ (i:Nat) (m:Mk),ms[i]? =some m→(m.s≤from_↔i<(ms.takeWhile fun m=>decide (m.s≤from_)).length)
 | [],_,i,m,h=>by simp at h
 | x::r,hp,0,m,h=>by
  simp only [List.getElem?_cons_zero,Option.some.injEq] at h
  subst h
  rw [List.takeWhile_cons]
  split<;>simp_all
 | x::r,hp,i+1,m,h=>by
  obtain⟨h1,h2⟩:=List.pairwise_cons.1 hp
  rw [List.getElem?_cons_succ] at h
  have ih:=tw_lt from_ r h2 i m h
  have hx:=h1 m (List.mem_of_getElem? h)
  rw [List.takeWhile_cons]
  split
  ·rw [φ,ih];omega
  ·rename_i hn
   have: ¬ x.s≤from_:=by simpa using hn
   simp only [Φ]
   omega
theorem marks_pair: ∀ (ms:List Mk) (s p:Int),Cs s p ms=true→ms.Pairwise (fun a b=>a.s<b.s)∧ ∀ m∈ms,s<m.s
 | [],_,_,_=>⟨List.Pairwise.nil,fun m hm=>by cases hm⟩
 | x::r,s,p,h=>by
  rw [Cs] at h
  split at h
  ·cases h
  ·rename_i hn
   obtain⟨h1,h2⟩:=marks_pair r x.s x.p h
   refine⟨List.pairwise_cons.2 ⟨h2,h1⟩,fun m hm=> ?_⟩
   rcases Γ.1 hm with rfl | hm
   ·omega
   ·have:=h2 m hm;omega
theorem marksV_pair {ms:List Mk} (h:By ms=true):ms.Pairwise (fun a b=>a.s<b.s):=by
 unfold By at h
 simp only [Bool.and_eq_true] at h
 exact(marks_pair ms 0 (-1) h.2).1
def cntM (ms:List Mk) (from_:Int):Nat:=(ms.takeWhile fun m=>decide (m.s≤from_)).length
theorem cntM_le (ms:List Mk) (from_:Int):cntM ms from_≤ms.length:=(List.takeWhile_sublist _).length_le
theorem seekM_cnt (ms:List Mk) (from_:Int):seekM ms from_=if cntM ms from_=0 then none else ms[cntM ms from_ - 1]? :=by
 unfold seekM cntM
 have hp:ms.takeWhile (fun m=>decide (m.s≤from_)) <+: ms:=List.takeWhile_prefix _
 rw [List.getLast?_eq_getElem?]
 split
 ·rename_i h
  rw [List.getElem?_eq_none_iff]
  omega
 ·rename_i h
  rw [List.prefix_iff_eq_take.1 hp,Θ,Nat.min_eq_left hp.length_le,List.getElem?_take]
  rw [ζ (by omega)]
theorem seek1_any (m:Mk) (from_:Int) (cb:Nat) (w:World) (hc:w.cell? ⟨cb,0,none⟩=some (.int .i64 from_)):
  Calls Tryz.prog 110 #[mkV m,.pointer (some ⟨cb,0,none⟩)] w fun e w'=>e= .returned (.bool (decide (m.s≤from_)))∧Below w.heap.size w w':=by
 have HB:=Qh (below_alloc w (.cells (mkCs m) 135))
 have HM:=Qh (E6 w m)
 have HC:=Qh (cell_later HB.out hc)
 simp only [mkCs] at HB HM HC
 clear hc
 have c:=HC.out
 have c0:=HM.out.c0
 go_enter Tryz.func110,Tryz.ntmps110
 go_wp2
 go_ret
 exact⟨rfl,HB.out⟩
theorem last_any (ms:List Mk) (mv:Value) (from_:Int) (cb:Nat) (w:World) (hr:MkRow w mv ms) (hp:ms.Pairwise (fun a b=>a.s<b.s)) (hl:ms.length≤1000) (hc:w.cell? ⟨cb,0,none⟩=some (.int .i64 from_)):
  Calls Tryz.prog 109 #[mv,.func (.func 110) #[] #[.pointer (some ⟨cb,0,none⟩)]] w fun e w'=>e= .returned (.int .i64 ((cntM ms from_:Int) - 1))∧Below w.heap.size w w':=by
 obtain⟨oa,cap,rfl,hcl,hat⟩:=id hr
 have HTW:=Qh (tw_lt from_ ms hp)
 have HCL:=Qh (cntM_le ms from_)
 have HC:=Qh hc
 have HR:=Qh hr
 clear hp hc hr hat
 go_enter Tryz.func109,Tryz.ntmps109
 go_wp2
 go_loopw [5,6,7] (fun lv hv xv wr=> ∃ (a hi:Nat) (lo:Int),lv= .int .i64 lo∧hv= .int .i64 (hi:Int)∧Hid (lo=(a:Int) - 1)∧a≤hi∧hi≤ms.length∧Hid (a≤cntM ms from_∧cntM ms from_≤hi)∧Hid (Below w.heap.size w wr)) (fun lv hv _ _=>((intOf hv) - (intOf lv)).toNat)
 case atStart=>exact⟨0,ms.length,-1,rfl,rfl,Qh rfl,θ _,ξ _,Qh ⟨θ _,HCL.out⟩,Qh (τ _ _)⟩
 case round=>
  obtain⟨a,hi,lo,rfl,rfl,HLO,hah,hhl,HAC,HB⟩:=hrel
  have hlo:=HLO.out
  have hac:=HAC.out
  have hw0:IntKind.i64.wrap ((hi:Int) - lo)=((hi - a+1:Nat):Int):=by rw [κ];omega
  by_cases hlt:a<hi
  ·obtain⟨md,hmd⟩: ∃ md,md=(a+hi - 1) / 2:=⟨_,rfl⟩
   have hm1:a≤md∧md<hi:=by omega
   have hw1:IntKind.i64.wrap (lo+(hi:Int))=((a+hi - 1:Nat):Int):=by rw [κ];omega
   have hw2:IntKind.u64.wrap ((a+hi - 1:Nat):Int)=((a+hi - 1:Nat):Int):=by rw [IntKind.wrap_u64];omega
   have hw3:((a+hi - 1:Nat):Int) / 2=(md:Int):=by omega
   have hw4:IntKind.u64.wrap (md:Int)=(md:Int):=by rw [IntKind.wrap_u64];omega
   have hw5:IntKind.i64.wrap (md:Int)=(md:Int):=by rw [κ];omega
   have q1:(1:Int)<((hi - a+1:Nat):Int):=by omega
   have q2:(md:Int)<(ms.length:Int):=by omega
   obtain⟨x,hx⟩: ∃ x,ms[md]? =some x:=⟨ms[md]'(by omega),Δ _⟩
   have HX:=Qh (HTW.out md x hx)
   obtain⟨_,_,e2,_,_,hat⟩:=HR.out
   simp only [Value.slice.injEq,true_and] at e2
   obtain⟨rfl,rfl⟩:=e2
   obtain⟨b,off,rfl,hcell⟩:=hat md x hx
   have HCE:=Qh (Ax hcell HB.out)
   have HS1:=Qh (seek1_any x from_ cb wr (cell_later HB.out HC.out))
   obtain⟨S,hS⟩: ∃ S,S=a+hi - 1:=⟨_,rfl⟩
   obtain⟨D,hD⟩: ∃ D,D=hi - a+1:=⟨_,rfl⟩
   rw [←hS] at hw1 hw2 hw3
   rw [←hD] at hw0 q1
   have HM1:=Qh hm1
   have HMD:=Qh hmd
   have HLT:=Qh hlt
   clear hcell hat hx hlo hac hS hD hm1 hmd hlt
   go_wp2_with (with_reducible refine wpList_load_mkAt rfl (.tmp 23) rfl b (off+md*2) x rfl HCE.out ?_)
   refine HS1.out.mono ?_
   rintro e w1 ⟨rfl,hb1⟩
   have HB1:=Qh (Below.next HB.out hb1)
   clear hb1 hw0 hw1 hw2 hw3 hw4 hw5 q1 q2
   rcases hq:decide (x.s≤from_) with _ | _
   ·have hh: ¬ md<cntM ms from_:=fun h=>ε hq (HX.out.2 h)
    go_wp2_with fail
    go_roundw
    case rel=>exact⟨a,md,lo,rfl,rfl,HLO,HM1.out.1,by have:=HM1.out;omega,Qh ⟨HAC.out.1,by omega⟩,HB1⟩
    case measure=>have:=HLO.out;have:=HM1.out;simp [intOf];omega
   ·have hh:md<cntM ms from_:=HX.out.1 (χ hq)
    go_wp2_with fail
    go_roundw
    case rel=>exact⟨md+1,hi,(md:Int),rfl,rfl,Qh (by omega),by have:=HM1.out;omega,hhl,Qh ⟨by omega,HAC.out.2⟩,HB1⟩
    case measure=>have:=HLO.out;have:=HM1.out;simp [intOf];omega
  ·have q1: ¬ (1:Int)<((hi - a+1:Nat):Int):=by omega
   have HE:=Qh (show lo=(cntM ms from_:Int) - 1 from by omega)
   obtain⟨D,hD⟩: ∃ D,D=hi - a+1:=⟨_,rfl⟩
   rw [←hD] at hw0 q1
   clear hlo hac hlt hD
   go_wp2
   go_ret
   refine⟨?_,HB.out⟩
   rw [HE.out]
   rfl
def SeekQ (w:World) (r:Option Mk) (e:Ending) (w':World):Prop:=(e= .returned (match r with | some k=> .tuple #[mkV k,.bool true] | none=> .tuple #[mkV ⟨0,0⟩,.bool false]))∧Below w.heap.size w w'
theorem results_mk2 {fn:Func} {p q:Tmp} (h:fn.results= #[.cell p 135,.tmp q]) (tmps:Array Value) (w:World) (g:Nat) (k:Mk) (x:Value)
  (hp:tmps.getD p undef= .pointer (some ⟨g,0,none⟩)) (hq:tmps.getD q undef=x) (hE:Cl w g k):(results fn tmps).run Tryz.prog w= .ok (.tuple #[mkV k,x]) w:=by
 have hl:=run_loadVar_row (P:=Tryz.prog) w g 135 135 (mkCs k) (0,0) _ hE Tryz.underlying135 rfl mkInfo
 have hp':tmps[p]?.getD undef= .pointer (some ⟨g,0,none⟩):=by simpa using hp
 have hq':tmps[q]?.getD undef=x:=by simpa using hq
 simp [results,h,hp',hq',asAddr,hl]
 rfl
theorem seek_any (ms:List Mk) (mv:Value) (from_:Int) (w:World) (hr:MkRow w mv ms) (hp:ms.Pairwise (fun a b=>a.s<b.s)) (hl:ms.length≤1000):
  Calls Tryz.prog 73 #[mv,.int .i64 from_] w (SeekQ w (seekM ms from_)):=by
 have hmf: ∀ (fn:Fn) (first cap:Array Value) (w:World),(Instr.makeFunc fn first cap).run Tryz.prog w= .ok (.func fn first cap) w:=fun _ _ _ _=>rfl
 have hb1:=below_alloc w (.cells #[.int .i64 from_] 3)
 have hb2:=below_alloc (w.alloc (.cells #[.int .i64 from_] 3)) (.cells #[.int .i64 0,.int .i64 0] 135)
 have HB0:=Qh (Below.next hb1 hb2)
 have HM0:=Qh (show Cl ((w.alloc (.cells #[.int .i64 from_] 3)).alloc (.cells #[.int .i64 0,.int .i64 0] 135)) (w.heap.size+1) ⟨0,0⟩ from by
  have:=σ (w.alloc (.cells #[.int .i64 from_] 3)) (.cells #[.int .i64 0,.int .i64 0] 135)
  rw [Ω] at this
  exact this)
 have HLA:=Qh (last_any ms mv from_ w.heap.size _ (hr.below HB0.out) hp hl (cell_later hb2 (cell_of_row _ w.heap.size 0 _ _ _ (σ w _))))
 have HR:=Qh (hr.below HB0.out)
 have HSC:=Qh (seekM_cnt ms from_)
 have HCL:=Qh (cntM_le ms from_)
 obtain⟨oa,cap,rfl,hcl,_⟩:=id hr
 have hml:ms.length≤1000:=hl
 clear hr hp hl hb1 hb2
 generalize seekM ms from_=sk at*
 generalize cntM ms from_=c at*
 go_enter Tryz.func73,Tryz.ntmps73
 go_wp2_with fail
 generalize (w.alloc (.cells #[.int .i64 from_] 3)).alloc (.cells #[.int .i64 0,.int .i64 0] 135)=w0 at*
 refine HLA.out.mono ?_
 rintro e w1 ⟨rfl,hb1⟩
 have HB1:=Qh (Below.next HB0.out hb1)
 have HM1:=Qh (HM0.out.below hb1)
 have HR1:=Qh (HR.out.below hb1)
 clear hb1 HLA HB0 HM0 HR
 by_cases hc:c=0
 ·subst hc
  have HE:=Qh (HSC.out.trans (ζ rfl))
  have q1:decide (((0:Nat):Int) - 1<0)=true:=by decide
  go_wp2_with (with_reducible refine wpList_store_mk rfl (.tmp 4) (.tmp 12) rfl (w.heap.size+1) ⟨0,0⟩ ⟨0,0⟩ rfl rfl HM1.out ?_)
  intro w2 hm2 ht2
  have HB2:=Qh (turned_blw HB1.out ht2 (fun k hk=>by omega) HB1.out.size)
  have HM2:=Qh hm2
  clear hm2 ht2
  go_wp2
  exact π (v:= .tuple #[mkV ⟨0,0⟩,.bool false]) (results_mk2 rfl _ _ (w.heap.size+1) ⟨0,0⟩ _ rfl rfl HM2.out) rfl ⟨by rw [HE.out],HB2.out⟩
 ·have HE:=Qh (HSC.out.trans (γ hc))
  obtain⟨i,rfl⟩: ∃ i,c=i+1:=⟨c - 1,by omega⟩
  have hi:i<ms.length:=by have:=HCL.out;omega
  obtain⟨x,hx⟩: ∃ x,ms[i]? =some x:=⟨ms[i]'hi,Δ _⟩
  rw [Nat.add_sub_cancel,hx] at HE
  have e1:((i+1:Nat):Int) - 1=(i:Int):=by omega
  have q2:(i:Int)<(ms.length:Int):=by omega
  obtain⟨_,_,e2,_,_,hat⟩:=HR1.out
  simp only [Value.slice.injEq,true_and] at e2
  obtain⟨rfl,rfl⟩:=e2
  obtain⟨b,off,rfl,hcell⟩:=hat i x hx
  have HCE:=Qh hcell
  rw [e1]
  clear hcell hat hx hc HSC HCL
  go_wp2_with (first | (with_reducible refine wpList_load_mkAt rfl (.tmp 15) rfl b (off+i*2) x rfl HCE.out ?_) | (with_reducible refine wpList_store_mk rfl (.tmp 4) (.tmp 16) rfl (w.heap.size+1) ⟨0,0⟩ x rfl rfl HM1.out ?_))
  intro w2 hm2 ht2
  have HB2:=Qh (turned_blw HB1.out ht2 (fun k hk=>by omega) HB1.out.size)
  have HM2:=Qh hm2
  clear hm2 ht2
  go_wp2
  exact π (v:= .tuple #[mkV x,.bool true]) (results_mk2 rfl _ _ (w.heap.size+1) x _ rfl rfl HM2.out) rfl ⟨by rw [HE.out],HB2.out⟩
end Go.Proofs.YtgkdenejkcngnaaGreatDoor
