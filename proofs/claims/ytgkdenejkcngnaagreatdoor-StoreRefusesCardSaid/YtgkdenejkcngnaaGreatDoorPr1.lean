import Derived.Laws.OwnMore
import Derived.Laws.MakeOwn
import Derived.Deep.QuietTactic
import Derived.Maps.OwnSet
import Derived.Deep.AppendSrc
import Derived.Deep.Upon
import Derived.StringKeys
import Derived.StillTailTactics
import Derived.Shelf.Slices.In.SortNone
import Derived.Sort.KeysCollected
import Derived.Sort.OwnSorted
import Derived.Maps.RangeWalk
import Derived.Lib.ItoaNum
import Derived.Lib.AtoiAll
import Derived.Test.YtgkdenejkcngnaaGreatDoorRows
import Derived.Test.YtgkdenejkcngnaaGreatDoorProg
import Derived.Test.YtgkdenejkcngnaaGreatDoorPk6
set_option maxRecDepth 100000
set_option maxHeartbeats 8000000
namespace Go.Proofs.YtgkdenejkcngnaaGreatDoor
open Go.RowKit
theorem sameBytes_any (l:List UInt8) (v1 v2:Value) (w:World) (h1:A2 w v1 l) (h2:A2 w v2 l) (hn:l.length≤9223372036854775807):
  Calls Tryz.prog 53 #[v1,v2] w fun x w'=>x= .returned (.bool true)∧Below w.heap.size w w':=by
 obtain⟨oa1,cap1,rfl,hl1,hc1⟩:=h1
 obtain⟨oa2,cap2,rfl,hl2,hc2⟩:=h2
 by_cases hl:l=[]
 ·subst hl
  go_enter Tryz.func53,Tryz.ntmps53
  go_wp2
  refine wp_loop_rounds 1 ?_
  rw [rounds_succ]
  go_wp2
  go_ret
  exact⟨rfl,τ _ _⟩
 obtain⟨b1,off1,rfl,hcs1⟩:=hc1 hl
 obtain⟨b2,off2,rfl,hcs2⟩:=hc2 hl
 have HC1:=Qh hcs1
 have HC2:=Qh hcs2
 clear hcs1 hcs2 hc1 hc2 hl
 go_enter Tryz.func53,Tryz.ntmps53
 go_wp2
 go_loopw [13] (fun iv wr=> ∃ k:Nat,k≤l.length∧iv= .int .i64 k∧Below w.heap.size w wr) (fun iv _=>l.length - (intOf iv).toNat)
 case atStart=>exact⟨0,θ _,rfl,τ _ _⟩
 case round=>
  obtain⟨k,hk,rfl,hb⟩:=hrel
  have HB:=Qh hb
  clear hb
  by_cases hlt:k<l.length
  ·obtain⟨x,hx,_,_⟩:=Kc l k hlt
   have q1:(k:Int)<(l.length:Int):=by omega
   have c1:=cell_later HB.out (HC1.out k x hx)
   have c2:=cell_later HB.out (HC2.out k x hx)
   have t1:((x.toNat:Int) != (x.toNat:Int))=false:=by simp
   clear hx
   go_wp2
   go_quiet (fail)
   go_wp2
   go_roundw
   case rel=>exact⟨k+1,by omega,by go_num,Below.next HB.out (below_drewN' _ _)⟩
   case measure=>simp [intOf];omega
  ·obtain rfl:k=l.length:=by omega
   go_wp2
   go_ret
   exact⟨rfl,HB.out⟩
def flCs (f:A7) (v:Value):Array Value:= #[.string ⟨f.name.toArray⟩,v,.int .i64 f.safe]
def FilAt (A:Nat→Prop) (w:World) (b o:Nat) (f:A7):Prop:= ∃ dv,w.rangeAt b o (flCs f dv).toList∧Ag A w dv f.data
def FilesIn (A:Nat→Prop) (w:World) (v:Value) (fs:List A7):Prop:=
 ∃ oa cap,v= .slice oa fs.length cap∧fs.length≤cap∧cap≤maxLen∧(fs≠ []→ ∃ b off,oa=some ⟨b,off,none⟩∧A b∧ ∀ (i:Nat) f,fs[i]? =some f→FilAt A w b (off+i*3) f)
theorem FilAt.below {A:Nat→Prop} {w w':World} {b o:Nat} {f:A7} (h:FilAt A w b o f) (hb:Below w.heap.size w w'):FilAt A w' b o f:=by
 obtain⟨dv,h1,h2⟩:=h
 exact⟨dv,Ax h1 hb,h2.below hb⟩
theorem FilesIn.below {A:Nat→Prop} {w w':World} {v:Value} {fs:List A7} (h:FilesIn A w v fs) (hb:Below w.heap.size w w'):FilesIn A w' v fs:=by
 obtain⟨oa,cap,h1,h2,h3,h4⟩:=h
 refine⟨oa,cap,h1,h2,h3,fun hn=> ?_⟩
 obtain⟨b,off,e,ha,hc⟩:=h4 hn
 exact⟨b,off,e,ha,fun i f hf=>(hc i f hf).below hb⟩
theorem FilesIn.shape {A:Nat→Prop} {w:World} {v:Value} {fs:List A7} (h:FilesIn A w v fs): ∃ oa cap,v= .slice oa fs.length cap∧fs.length≤cap∧cap≤9223372036854775807∧
  ∀ (i:Nat) f,fs[i]? =some f→ ∃ b off,oa=some ⟨b,off,none⟩∧A b∧FilAt A w b (off+i*3) f:=by
 obtain⟨oa,cap,rfl,h2,h3,h4⟩:=h
 refine⟨oa,cap,rfl,h2,by unfold maxLen at h3;omega,fun i f hf=> ?_⟩
 obtain⟨b,off,rfl,ha,h6⟩:=h4 (by rintro rfl;simp at hf)
 exact⟨b,off,rfl,ha,h6 i f hf⟩
def flCells (l:List (A7×Value)):List Value:=l.flatMap fun p=>(flCs p.1 p.2).toList
theorem flCells_at: ∀ (rs:List (A7×Value)) (i:Nat) (r:A7×Value),rs[i]? =some r→ ∀ (j:Nat) u,(flCs r.1 r.2)[j]? =some u→(flCells rs)[i*3+j]? =some u
 | [],i,r,h,_,_,_=>by simp at h
 | x::rs,0,r,h,j,u,hj=>by
  simp at h;subst h
  have hl:j<3:=by have:=(δ.1 hj).1;simpa [flCs] using this
  unfold flCells
  rw [List.flatMap_cons,Nat.zero_mul,Nat.zero_add,List.getElem?_append_left (by simpa [flCs] using hl)]
  simpa using hj
 | x::rs,i+1,r,h,j,u,hj=>by
  have:=flCells_at rs i r (by simpa using h) j u hj
  unfold flCells at this ⊢
  rw [List.flatMap_cons,List.getElem?_append_right (by simp [flCs];omega)]
  rw [←this]
  congr 1
  simp [flCs];omega
theorem files_own {A:Nat→Prop} {w:World} {B:Nat} {v:Value} {ps:List (A7×Value)} (h:w.ownsRow B 111 3 v ps.length (flCells ps)) (hA: ∀ k,B≤k→A k)
  (hd: ∀ p∈ps,Ag A w p.2 p.1.data):FilesIn A w v (ps.map (·.1)):=by
 by_cases hn:ps=[]
 ·subst hn
  rcases h.2 with⟨rfl,_⟩ | ⟨g,cap,cur,rfl,_,_,h1,h2,_⟩
  ·exact⟨none,0,rfl,ξ _,by decide,fun h=>absurd rfl h⟩
  ·exact⟨_,cap,rfl,h1,h2,fun h=>absurd rfl h⟩
 ·obtain⟨g,cap,rfl,hB,_,h1,h2,h3⟩:=B8 h (Ψ.2 hn)
  refine⟨_,cap,by rw [List.length_map],by rw [List.length_map];exact h1,h2,fun _=>⟨g,0,rfl,hA g hB,fun i f hf=> ?_⟩⟩
  rw [List.getElem?_map] at hf
  obtain⟨p,hp,rfl⟩:=Option.map_eq_some_iff.1 hf
  exact⟨p.2,fun j u hj=>by rw [Nat.zero_add];exact h3 _ _ (flCells_at ps i p hp j u (by simpa using hj)),hd p (List.mem_of_getElem? hp)⟩
def zeroFl:Value:= .agg #[.string ByteArray.empty,.slice none 0 0,.int .i64 0]
theorem infoFl:(Tryz.prog.info? 111).map (fun i=>(i.zero,i.size,i.bytes))=some (some zeroFl,3,48):=by kernel_rfl
section
open Go.Maps (Keyed string_keyed)
theorem datAt_own {w:World} {B:Nat} {v:Value} {l:List UInt8} (h:w.ownsRow B 5 1 v l.length (Lib.byteCells l)):Gk w v l∧ ∀ g,datBlk v=some g→B≤g:=by
 rcases h.2 with⟨rfl,hn⟩ | ⟨g,cap,cur,rfl,hb,h1,h2,h3,h4,h5⟩
 ·exact⟨.inl ⟨List.length_eq_zero_iff.1 hn,none,rfl⟩,fun g h=>by simp [datBlk] at h⟩
 ·by_cases hc:cap=0
  ·subst hc
   have:l.length=0:=by omega
   exact⟨.inl ⟨List.length_eq_zero_iff.1 this,_,by rw [this]⟩,fun g h=>by simp [datBlk] at h⟩
  ·refine⟨.inr ⟨g,cap,cur,rfl,by omega,h1,h2,h3,by omega,by rw [Nat.mul_one] at h5;exact h5⟩,fun k h=> ?_⟩
   simp only [datBlk,γ hc,Option.some.injEq] at h
   omega
open Go.Maps (Keyed string_keyed)
end
section
variable {ops : Array Oper} {rest : List Oper} {o : Oper} {a : Act} {Q : Exit → Act → World → Prop}
end
section
variable {ops : Array Oper} {rest : List Oper} {o : Oper} {a : Act} {Q : Exit → Act → World → Prop}
end
theorem used_any (w:World) (f m:Nat) (d:Ab) (L:List Ad) (h:FsAt w f m d L):
  Calls Tryz.prog 18 #[.pointer (some ⟨f,0,none⟩)] w fun e w'=>e= .returned (.int .i64 (usedF d.files:Int))∧w=w':=by
 have c2:=h.hd.c2
 clear h
 go_enter Tryz.func18,Tryz.ntmps18
 go_wp2
 go_ret
 exact⟨rfl,rfl⟩
def OwnD {α:Type} (e:TypeId) (size:Nat) (cs:α→Value→List Value) (dat:α→List UInt8) (w:World) (B:Nat) (v:Value) (ps:List (α×Value)):Prop:=
 w.ownsRow B e size v ps.length (ps.flatMap fun p=>cs p.1 p.2)∧ ∀ p∈ps,Gk w p.2 (dat p.1)∧ ∀ g,datBlk p.2=some g→B≤g
theorem Gk.later {w w':World} {v:Value} {l:List UInt8} (h:Gk w v l) (hb:Below w.heap.size w w'):Gk w' v l:=h.kept fun g hg=>hb.block g (h.lt hg)
theorem dat_ne_row {w:World} {v vr:Value} {l:List UInt8} {B size n:Nat} {e:TypeId} {xs:List Value} (hd:Gk w v l) (hr:w.ownsRow B e size vr n xs) (hne:e≠5) {g:Nat} (hg:datBlk v=some g):vr.ownBlock≠some g:=by
 intro hk
 rcases hd with⟨_,ao,rfl⟩ | ⟨g',cap,cur,rfl,h0,h1,_⟩
 ·cases ao<;>simp [datBlk] at hg
 ·simp only [datBlk,γ (show ¬ cap=0 by omega),Option.some.injEq] at hg
  subst hg
  rcases hr.2 with⟨rfl,_⟩ | ⟨k,cap',cur',rfl,_,hb,_⟩
  ·cases hk
  ·have e1:k=g':=ψ hk
   subst e1
   rw [h1] at hb
   simp only [Option.some.injEq,Obj.cells.injEq] at hb
   exact hne hb.2.1.symm
theorem browIn_dat {A:Nat→Prop} {w:World} {v:Value} {l:List UInt8} (h:Gk w v l) (hA: ∀ g,datBlk v=some g→A g):Ag A w v l:=by
 have hb:=h.brow
 rcases h with⟨rfl,ao,rfl⟩ | ⟨g,cap,cur,rfl,h0,h1,h2,h3,h4,h5⟩
 ·exact⟨ao,0,rfl,ξ _,fun h=>absurd rfl h⟩
 ·refine⟨_,cap,rfl,h2,fun hn=>⟨g,0,rfl,hA g (by simp only [datBlk,γ (show ¬ cap=0 by omega)]),?_⟩⟩
  obtain⟨oa',cap',e,_,hc⟩:=hb
  simp only [Value.slice.injEq] at e
  obtain⟨b,off,e2,hcell⟩:=hc hn
  rw [←e.1] at e2
  simp only [Option.some.injEq,Addr.mk.injEq] at e2
  obtain⟨rfl,rfl,_⟩:=e2
  exact hcell
section
variable {α : Type} {e : TypeId} {size : Nat} {cs : α → Value → List Value} {dat : α → List UInt8}
theorem OwnD.later {w w':World} {B:Nat} {v:Value} {ps:List (α×Value)} (h:OwnD e size cs dat w B v ps) (hb:Below w.heap.size w w'):OwnD e size cs dat w' B v ps:=
 ⟨own_later h.1 hb,fun p hp=>⟨(h.2 p hp).1.later hb,(h.2 p hp).2⟩⟩
theorem ownD_nil (w:World) (B:Nat):OwnD e size cs dat w B (.slice none 0 0) []:=⟨w.ownsRow_nil B e size,fun _ h=>by cases h⟩
theorem wp_appD {o:Oper} {a:Act} {K:Act→World→Prop} {Q:Exit→Act→World→Prop} {w:World} (s y:Operand) (t:TypeId) (ho:o.op= .call {callee:= .builtin .append,args:= #[s,y],argTypes:= #[t,t]})
  {i:TypeInfo} {z:Value} {bytes:Nat} (ht:Tryz.prog.underlying t=some (.slice e)) (hi:Tryz.prog.info? e=some i) (hz0:i.zero=some z) (hz1:i.size=size) (hz2:i.bytes=bytes) (hzs:z.cells.size=size) (hsz:0<size) (hne:e≠5)
  (hcl: ∀ x v,(cs x v).length=size) (hc1: ∀ x v,v.oneCell'=true→ ∀ u∈cs x v,u.oneCell'=true) {B:Nat} {v:Value} {ps news:List (α×Value)} {m:Nat} {cells:Array Value}
  (hs:a.eval s=v) (hy:a.eval y= .slice (some ⟨w.heap.size,0,none⟩) m m) (hm:m=news.length) (hcells:cells.toList=news.flatMap fun p=>cs p.1 p.2) (hown:OwnD e size cs dat w B v ps) (hB:B≤w.heap.size)
  (hd: ∀ p∈news,Gk w p.2 (dat p.1)∧ ∀ g,datBlk p.2=some g→B≤g) (hl:ps.length+m≤4611686018427387904) (hlb:(ps.length+m)*bytes≤140737488355328)
  (h: ∀ v' w',OwnD e size cs dat w' B v' (ps++news)→Below B w w'→w.heap.size≤w'.heap.size→K (a.put o.dst v') w'):o.wp Tryz.prog a (w.alloc (.cells cells e)) K Q:=by
 have hb:=below_alloc w (.cells cells e)
 have hone: ∀ (x:Value) (l:List UInt8),Gk w x l→x.oneCell'=true:=fun x l hx=>by
  obtain⟨_,_,e1,_⟩:=hx.shape
  rw [e1];rfl
 have hlen: ∀ qs:List (α×Value),(qs.flatMap fun p=>cs p.1 p.2).length=qs.length*size:=fun qs=>by
  induction qs with
  | nil=>simp
  | cons q qs ih=>rw [List.flatMap_cons,η,ih,hcl,φ,Nat.add_mul];omega
 subst hm
 refine wp_append_own _ s y t ho B e i z size bytes ht hi hz0 hz1 hz2 hzs hsz v ps.length _ hs (own_later hown.1 hb) ⟨w.heap.size,0,none⟩ news.length news.length (news.flatMap fun p=>cs p.1 p.2) hy (hlen news) (fun j u hj=> ?_) (fun u hu=> ?_) (by unfold maxLen;omega) hlb (μ hB hb.size) ?_
 ·rw [Bc,Nat.zero_add,World.cell?_alloc_new,←hcells] at*
  simpa using hj
 ·obtain⟨p,hp,hu⟩:=List.mem_flatMap.1 hu
  exact hc1 _ _ (hone _ _ (hd p hp).1) u hu
 ·intro v' w' hown' hg _
  have hrow0:=own_later hown.1 hb
  have hb2:=Bf hrow0 (μ hB hb.size) hg
  have keep: ∀ (x:Value) (l:List UInt8),Gk w x l→Gk w' x l:=fun x l hx=>by
   have hx':=hx.later hb
   exact hx'.kept fun g hg'=>hg.block g (hx'.lt hg') fun e1=>dat_ne_row hx' hrow0 hne hg' e1.symm
  refine h v' w' ⟨?_,fun p hp=> ?_⟩ ((hb.mono hB).trans hb2) (μ hb.size hg.size)
  ·rw [η,List.flatMap_append]
   exact hown'
  ·rcases List.mem_append.1 hp with hp | hp
   ·exact⟨keep _ _ (hown.2 p hp).1,(hown.2 p hp).2⟩
   ·exact⟨keep _ _ (hd p hp).1,(hd p hp).2⟩
end
abbrev OwnG:=OwnD (α:=A7) 111 3 (fun f v=>(flCs f v).toList) (fun f=>f.data)
theorem OwnG.files {A:Nat→Prop} {w:World} {B:Nat} {v:Value} {ps:List (A7×Value)} (h:OwnG w B v ps) (hA: ∀ k,B≤k→A k):FilesIn A w v (ps.map (·.1)):=
 files_own h.1 hA fun p hp=>browIn_dat (h.2 p hp).1 fun g hg=>hA g ((h.2 p hp).2 g hg)
theorem flCs_one (f:A7) (v:Value) (h:v.oneCell'=true): ∀ u∈(flCs f v).toList,u.oneCell'=true:=by
 intro u hu
 simp [flCs] at hu
 rcases hu with rfl | rfl | rfl
 ·rfl
 ·exact h
 ·rfl
theorem wp_appG {o:Oper} {a:Act} {K:Act→World→Prop} {Q:Exit→Act→World→Prop} {w:World} (s y:Operand) (ho:o.op= .call {callee:= .builtin .append,args:= #[s,y],argTypes:= #[55,55]})
  {B:Nat} {v:Value} {ps:List (A7×Value)} {f:A7} {dv:Value} (hs:a.eval s=v) (hy:a.eval y= .slice (some ⟨w.heap.size,0,none⟩) 1 1) (hown:OwnG w B v ps) (hB:B≤w.heap.size)
  (hd:Gk w dv f.data) (hd2: ∀ g,datBlk dv=some g→B≤g) (hl:ps.length+1≤2932031007402)
  (h: ∀ v' w',OwnG w' B v' (ps++[(f,dv)])→Below B w w'→w.heap.size≤w'.heap.size→K (a.put o.dst v') w'):o.wp Tryz.prog a (w.alloc (.cells (flCs f dv) 111)) K Q:=by
 obtain⟨i0,hi,hz0,hz1,hz2⟩:=info_parts infoFl
 exact wp_appD s y _ ho (news:=[(f,dv)]) Tryz.underlying55 hi hz0 hz1 hz2 rfl (by decide) (by decide) (fun _ _=>rfl) flCs_one hs hy rfl (by simp) hown hB (fun p hp=>by simp at hp;rw [hp];exact⟨hd,hd2⟩) (by omega) (by omega) h
section
open Go.RowKit Go.Maps Go.Sort
theorem fils_take_succ {L:List Ad} {k:Nat} {s:Ad} (h:L[k]? =some s):(fils L).take (k+1)=(fils L).take k++[s.fil]:=by
 obtain⟨h1,h2⟩:=List.getElem?_eq_some_iff.1 h
 unfold fils
 rw [←List.map_take,←List.map_take,List.take_succ_eq_append_getElem h1,h2]
 simp
theorem fsImage_any (w:World) (f m:Nat) (d:Ab) (L:List Ad) (h:FsAt w f m d L):
  Calls Tryz.prog 19 #[.pointer (some ⟨f,0,none⟩)] w fun e w'=> ∃ v,e= .returned v∧FilesIn (fun k=>w.heap.size≤k) w' v d.files∧Below w.heap.size w w':=by
 have hL:L.length≤700:=by have:=h.ok.count;rw [←h.fil] at this;simpa [fils] using this
 have HN:=Qh (fsNames_any w f m d L h (by omega))
 have HFI:=Qh h.fil
 have HUS:=Qh (fun(s:Ad) (hs:s∈L)=>show s.fil.data.length≤140737488355328 by
  have h1:=Eb (show s.fil∈d.files by rw [←h.fil];exact List.mem_map.2 ⟨s,hs,rfl⟩)
  have h2:=h.ok.used
  have h3:=h.ok.room
  omega)
 have HH:=Qh h
 clear h
 go_enter Tryz.func19,Tryz.ntmps19
 go_wp2_with fail
 go_at_call 46
 refine HN.out.mono ?_
 rintro e w1 ⟨v1,rfl,hrow,hb1⟩
 obtain⟨oa,cap,rfl,hl1,hl2⟩:=Ac hrow
 have HROW:=Qh hrow
 have HB1:=Qh hb1
 clear hrow hb1 HN
 go_wp2
 go_loopw [3,5,6,12] (fun v _ _ iv wr=> ∃ (k:Nat) (ps:List (A7×Value)),k≤L.length∧iv= .int .i64 k∧ps.length=k∧OwnG wr w1.heap.size v ps∧Hid (ps.map (·.1)=(fils L).take k)∧Below w1.heap.size w1 wr) (fun _ _ _ iv _=>L.length - (intOf iv).toNat)
 case atStart=>exact⟨0,[],θ _,rfl,rfl,ownD_nil _ _,Qh rfl,τ _ _⟩
 case round=>
  obtain⟨k,ps,hk,rfl,hpl,hown,HP,hbr⟩:=hrel
  have HO:=Qh hown
  have HBR:=Qh hbr
  have HB:=Qh (Below.next HB1.out hbr)
  clear hown hbr
  by_cases hlt:k<L.length
  ·obtain⟨s,hs,_,hsm⟩:=Kc L k hlt
   have q1:(k:Int)<(L.length:Int):=by omega
   obtain⟨g,cap',e1,_,_,_,_,hcell⟩:=B8 HROW.out (by omega)
   simp only [Value.slice.injEq] at e1
   obtain⟨rfl,_,rfl⟩:=e1
   have cn:wr.cell? ⟨g,k,none⟩=some (.string ⟨s.fil.name.toArray⟩):=cell_later HBR.out (hcell k _ (by rw [List.getElem?_map];unfold Bm;rw [List.getElem?_map,hs];rfl))
   have hfs:=HH.out.below HB.out
   have c0:=hfs.hd.c0
   have hlook:=hfs.body.look (n:=s.fil.name) (Il (HH.out.ok.names s.fil (by rw [←HH.out.fil];exact List.mem_map.2 ⟨s,hsm,rfl⟩)))
   have hsa:Cr L s.fil.name=some s:=by
    rcases hx:Cr L s.fil.name with _ | t
    ·have:=List.find?_eq_none.1 hx s hsm
     simp at this
    ·rw [HH.out.body.one hx hsm rfl]
   rw [hsa] at hlook
   simp only at hlook
   have hsl:=(HH.out.below HB1.out).body.slot s hsm
   have HSL:=Qh (fun W (hW:Below w1.heap.size w1 W)=>show W.cell? ⟨s.blk,0,none⟩=some s.sl∧W.cell? ⟨s.blk,1,none⟩=some (.int .i64 s.fil.safe)∧Gk W s.sl s.fil.data from⟨cell_later hW hsl.c0,cell_later hW hsl.c1,hsl.2.later hW⟩)
   have HLEN:=Qh (HUS.out s hsm)
   have HTK:=Qh (fils_take_succ hs)
   clear hsl hfs hs hsm hsa hcell
   obtain⟨sv,hsv⟩: ∃ sv,sv=s.sl:=⟨_,rfl⟩
   rw [←hsv] at HSL
   clear hsv
   go_wp2_with fail
   refine ω (S:=fun w'=>Below w1.heap.size w1 w') (by kernel_rfl) (Below.next HBR.out (show Below wr.heap.size wr wr.drew from below_drewN' wr 1)) (fun hHeld=> ?_)
   clear c0 cn hlook
   have FX1:=Qh (fun(wF:World) (hSw:(fun w'=>Below w1.heap.size w1 w') wF)=>And.intro (((HSL.out _ hSw).1)) (((HSL.out _ hSw).2.1)))
   refine tf FX1 0 rfl ?_
   refine tf FX1 1 rfl ?_
   refine tf FX1 2 rfl ?_
   refine tf FX1 3 rfl ?_
   refine tf FX1 4 rfl ?_
   refine tf FX1 5 rfl ?_
   refine tf FX1 7 rfl ?_
   refine tf FX1 8 rfl ?_
   refine tf FX1 9 rfl ?_
   refine tf FX1 10 rfl ?_
   clear FX1
   have HOd:=Qh (HO.out.later (show Below wr.heap.size wr wr.drew from below_drewN' wr 1))
   have HBRd:=Qh (Below.next HBR.out (show Below wr.heap.size wr wr.drew from below_drewN' wr 1))
   clear HO HB HBR
   generalize World.drew _=Wd at*
   refine Rd 6 rfl fun K hK=> ?_
   go_simp
   go_at_call 47
   refine(clone_any s.fil.data sv _ (HSL.out _ hHeld).2.2.brow HLEN.out).mono ?_
   rintro e w2 ⟨v2,rfl,ho2,hb2⟩
   have HD2:=Qh (datAt_own ho2)
   obtain⟨o2,cap2,rfl,_,_⟩:=Ac ho2
   have HO2:=Qh (HOd.out.later hb2)
   have HBR2:=Qh (Below.next HBRd.out hb2)
   have HGE:=Qh HBRd.out.size
   clear ho2 hb2 hHeld HOd HBRd
   go_wp2_with fail
   refine hK.out _ _ HBR2.out (fun hHeld=> ?_)
   clear hK K
   refine tq 11 rfl ?_
   refine Rd 12 rfl fun K hK=> ?_
   go_simp
   refine hK.out _ _ (Below.next HBR2.out (below_alloc w2 _)) (fun hHeld=> ?_)
   clear hK K
   have hB2:w1.heap.size≤w2.heap.size:=HBR2.out.size
   refine Rd 13 rfl fun K hK=> ?_
   rw [ζ (by kernel_rfl)]
   refine wp_appG (f:=s.fil) (dv:= .slice o2 s.fil.data.length cap2) (.tmp 22) (.tmp 34) rfl rfl rfl HO2.out hB2 HD2.out.1 (fun g' hg'=>μ HGE.out (HD2.out.2 g' hg')) (by omega) ?_
   intro v3 w3 h3 h4 h5
   have HO3:=Qh h3
   have HB3:=Qh (HBR2.out.trans h4)
   clear h3 h4 h5 hB2
   refine hK.out _ _ HB3.out (fun hHeld=> ?_)
   clear hK K
   refine tk 14 rfl ?v_2 ?hy_2 ?r_2
   case hy_2=>intro w hSw;go_simp;try with_reducible rfl
   simp only [pA]
   refine Λ (by kernel_rfl) ?_ _
   go_wp2
   go_roundw
   case rel=>exact⟨k+1,ps++[(s.fil,.slice o2 s.fil.data.length cap2)],by omega,by go_num,by simp;omega,HO3.out,Qh (by rw [List.map_append,HP.out,HTK.out];rfl),HB3.out⟩
   case measure=>simp [intOf];omega
  ·obtain rfl:k=L.length:=by omega
   have HE:=Qh (show ps.map (·.1)=d.files by rw [HP.out,←HFI.out,List.take_of_length_le (by simp [fils])])
   have HF:=Qh (HO.out.files (A:=fun k=>w.heap.size≤k) (fun k hk=>μ HB1.out.size hk))
   go_wp2
   go_ret
   exact⟨_,rfl,by rw [←HE.out];exact HF.out,HB.out⟩
end
theorem FilAt.turned {A S:Nat→Prop} {w w':World} {b o:Nat} {f:A7} (h:FilAt A w b o f) (hb:A b) (ht:Turned S w w') (hS: ∀ k,A k→ ¬ S k):FilAt A w' b o f:=by
 obtain⟨dv,h1,h2⟩:=h
 exact⟨dv,fun j u hj=>ht.cell (h1 j u hj) (hS b hb),h2.turned ht hS⟩
theorem FilesIn.turned {A S:Nat→Prop} {w w':World} {v:Value} {fs:List A7} (h:FilesIn A w v fs) (ht:Turned S w w') (hS: ∀ k,A k→ ¬ S k):FilesIn A w' v fs:=by
 obtain⟨oa,cap,h1,h2,h3,h4⟩:=h
 refine⟨oa,cap,h1,h2,h3,fun hn=> ?_⟩
 obtain⟨b,off,e,ha,hc⟩:=h4 hn
 exact⟨b,off,e,ha,fun i f hf=>(hc i f hf).turned ha ht hS⟩
theorem FilesIn.mono {A A':Nat→Prop} {w:World} {v:Value} {fs:List A7} (h:FilesIn A w v fs) (hA: ∀ k,A k→A' k):FilesIn A' w v fs:=by
 obtain⟨oa,cap,h1,h2,h3,h4⟩:=h
 refine⟨oa,cap,h1,h2,h3,fun hn=> ?_⟩
 obtain⟨b,off,e,ha,hc⟩:=h4 hn
 exact⟨b,off,e,hA b ha,fun i f hf=>by obtain⟨dv,r1,r2⟩:=hc i f hf;exact⟨dv,r1,r2.mono hA⟩⟩
theorem FilesIn.low {A:Nat→Prop} {w:World} {v:Value} {fs:List A7} (h:FilesIn A w v fs):FilesIn (fun k=>A k∧k<w.heap.size) w v fs:=by
 obtain⟨oa,cap,h1,h2,h3,h4⟩:=h
 refine⟨oa,cap,h1,h2,h3,fun hn=> ?_⟩
 obtain⟨b,off,e,ha,hc⟩:=h4 hn
 refine⟨b,off,e,⟨ha,?_⟩,fun i f hf=>by obtain⟨dv,r1,r2⟩:=hc i f hf;exact⟨dv,r1,r2.low⟩⟩
 obtain⟨x,hx⟩:=List.exists_mem_of_ne_nil _ hn
 obtain⟨i,hi⟩:=List.getElem?_of_mem hx
 obtain⟨dv,r1,_⟩:=hc i x hi
 exact World.block_lt_of_cell? w _ (r1 0 _ rfl)
section
variable {w W W' : World} {d d' : Ab} {fv fv' : Value} {o : Io} {bv kv : Value}
end
section
variable {A : Nat → Prop} {w W W' : World} {d : Ab} {fv : Value} {o : Io} {bv kv : Value} {g : Nat} {f f' : A7} {dv dv' : Value} {fs fs' : List A7} {v v' : Value}
end
theorem refSameF_any {A A':Nat→Prop} (fs:List A7) (v1 v2:Value) (w:World) (h1:FilesIn A w v1 fs) (h2:FilesIn A' w v2 fs) (hl: ∀ f∈fs,f.data.length≤140737488355328):
  Calls Tryz.prog 24 #[v1,v2] w fun e w'=>e= .returned (.bool true)∧Below w.heap.size w w':=by
 obtain⟨oa,cap,rfl,hl1,hl2,hcc⟩:=h1.shape
 obtain⟨ob,cap',rfl,hl3,hl4,hcd⟩:=h2.shape
 have HCC:=Qh hcc
 have HCD:=Qh hcd
 have HL:=Qh hl
 clear hcc hcd h1 h2 hl
 go_enter Tryz.func24,Tryz.ntmps24
 go_wp2
 go_loopw [5,13] (fun _ iv wr=> ∃ (k:Nat),k≤fs.length∧iv= .int .i64 k∧Below w.heap.size w wr) (fun _ iv _=>fs.length - (intOf iv).toNat)
 case atStart=>exact⟨0,θ _,rfl,τ _ _⟩
 case round=>
  obtain⟨k,hk,rfl,hb⟩:=hrel
  have HB:=Qh hb
  clear hb
  by_cases hlt:k<fs.length
  ·obtain⟨f,hf,_,hfm⟩:=Kc fs k hlt
   have q1:(k:Int)<(fs.length:Int):=by omega
   obtain⟨b,off,rfl,_,dv,hr,hdv⟩:=HCC.out k f hf
   obtain⟨b',off',rfl,_,dv',hr',hdv'⟩:=HCD.out k f hf
   have HSL:=Qh (fun W (hW:Below w.heap.size w W)=>show W.rangeAt b (off+k*3) (flCs f dv).toList∧A2 W dv f.data from⟨Ax hr hW,(hdv.below hW).brow⟩)
   have HSM:=Qh (fun W (hW:Below w.heap.size w W)=>show W.rangeAt b' (off'+k*3) (flCs f dv').toList∧A2 W dv' f.data from⟨Ax hr' hW,(hdv'.below hW).brow⟩)
   have HLEN:=Qh (μ (HL.out f hfm) (by decide:140737488355328≤9223372036854775807))
   have t1:(f.name != f.name)=false:=by simp
   have t2:(f.safe != f.safe)=false:=by simp
   clear hf hfm hr hdv hr' hdv'
   go_wp2_with fail
   refine ω (S:=fun w'=>Below w.heap.size w w') (by kernel_rfl) (Below.next HB.out (show Below wr.heap.size wr wr.drew from below_drewN' wr 1)) (fun hHeld=> ?_)
   have FX3:=Qh (fun(wF:World) (hSw:(fun w'=>Below w.heap.size w w') wF)=>And.intro ((show wF.cell? ⟨b,off+k*3,none⟩=some (.string ⟨f.name.toArray⟩) from(HSL.out _ hSw).1 0 _ rfl)) (And.intro (((HSL.out _ hSw).1 1 _ rfl)) (And.intro (((HSL.out _ hSw).1 2 _ rfl)) (And.intro ((show wF.cell? ⟨b',off'+k*3,none⟩=some (.string ⟨f.name.toArray⟩) from(HSM.out _ hSw).1 0 _ rfl)) (And.intro (((HSM.out _ hSw).1 1 _ rfl)) (((HSM.out _ hSw).1 2 _ rfl)))))))
   refine tf FX3 0 rfl ?_
   refine tf FX3 1 rfl ?_
   refine tf FX3 2 rfl ?_
   refine tf FX3 3 rfl ?_
   refine tf FX3 4 rfl ?_
   refine tf FX3 5 rfl ?_
   refine tf FX3 6 rfl ?_
   refine tf FX3 7 rfl ?_
   refine tf FX3 8 rfl ?_
   refine tf FX3 9 rfl ?_
   refine tf FX3 10 rfl ?_
   refine tf FX3 11 rfl ?_
   refine tf FX3 12 rfl ?_
   refine tf FX3 13 rfl ?_
   refine tf FX3 14 rfl ?_
   refine tf FX3 15 rfl ?_
   refine tf FX3 16 rfl ?_
   refine tf FX3 17 rfl ?_
   refine tf FX3 18 rfl ?_
   refine tf FX3 19 rfl ?_
   refine tf FX3 20 rfl ?_
   refine tf FX3 21 rfl ?_
   refine tf FX3 22 rfl ?_
   refine tf FX3 23 rfl ?_
   refine tf FX3 24 rfl ?_
   refine tf FX3 25 rfl ?_
   refine tf FX3 26 rfl ?_
   refine tf FX3 27 rfl ?_
   refine tf FX3 28 rfl ?_
   refine tf FX3 29 rfl ?_
   refine tf FX3 30 rfl ?_
   refine tf FX3 31 rfl ?_
   refine tf FX3 32 rfl ?_
   refine tf FX3 33 rfl ?_
   refine tf FX3 34 rfl ?_
   clear FX3
   generalize World.drew _=Wd at*
   refine Rd 35 rfl fun K hK=> ?_
   go_simp
   go_at_call 53
   refine(sameBytes_any f.data dv dv' _ (HSL.out _ hHeld).2 (HSM.out _ hHeld).2 HLEN.out).mono ?_
   rintro e w2 ⟨rfl,hb2⟩
   have HB2:=Qh (Below.next hHeld hb2)
   clear hb2 hHeld
   go_wp2_with fail
   refine hK.out _ _ HB2.out (fun hHeld=> ?_)
   clear hK K
   refine tq 36 rfl ?_
   refine tq 37 rfl ?_
   refine Λ (by kernel_rfl) ?_ _
   go_wp2
   go_roundw
   case rel=>exact⟨k+1,by omega,by go_num,HB2.out⟩
   case measure=>simp [intOf];omega
  ·obtain rfl:k=fs.length:=by omega
   go_wp2
   go_ret
   exact⟨rfl,HB.out⟩
section
variable {w : World} {room : Int} {fs : List A7} {gd k : Nat} {dc : Ab} {vc : Value} {wr W : World}
end
attribute [local go_sem] Oper.semAt_some
instance (b:List UInt8) (r:List Nat×Nat×Int):Decidable (D5 b r):=by unfold D5;infer_instance
instance (c:UInt8):Decidable (isDgt c):=by unfold isDgt;infer_instance
instance (p q:Frm) (n:Nat):Decidable (bookBad p q n):=by unfold bookBad;infer_instance
section
variable {P : Nat → Prop} {w w' : World} {f m b : Nat} {L : List Ad} {d d' : Ab} {s s' : Cb} {mv sv : Value} {E E' : List (List UInt8)} {k k' : Nat}
def AppR (d:Ab) (s:Cb) (E:List (List UInt8)) (raw:List UInt8) (r:Int×Int) (d':Ab) (s':Cb) (E':List (List UInt8)):Prop:=
 Grow d s d' s' 17660 1∧((r.1=0∧r.2≠0∧E'=E∧s'=s∧d'.files=d.files∧(r.2=92∧1099511627776≤lastE s∨r.2=54∧d.room - (usedF d.files:Int)<1060∨r.2=Cv d s (Hg s raw).length∧s.segEv≤s.count))∨
  (r=((E.length:Int)+1,0)∧E'=E++[raw]))
theorem push_res {raw:List UInt8} (h:Lim d s E k) (hb:BodyOk raw): ∃ E',AppR d s E raw (Cy d s raw).1 (Cy d s raw).2.2 (Cy d s raw).2.1 E'∧Lim (Cy d s raw).2.2 (Cy d s raw).2.1 E' (k+1):=by
 obtain⟨h1,h2⟩:=push_ok h.ok h.fuse hb
 have hl:=h.len
 rcases h2 with⟨a1,a2,a3,a4,a5,a6⟩ | ⟨a1,a2⟩
 ·exact⟨E,⟨h1,.inl ⟨a1,a2,rfl,a5,a6,a3⟩⟩,h.grow h1 a4 (by omega)⟩
 ·exact⟨E++[raw],⟨h1,.inr ⟨a1,rfl⟩⟩,h.grow h1 a2 (by simp;omega)⟩
theorem atAppend {v:Int} {e:Ev} (h:Jm P w f m b d s E k) (hk:k<1000) (hok:I3 281474976710656 e):
  Calls Tryz.prog 12 #[.pointer (some ⟨b,0,none⟩),.int .i64 v,Dx e] w fun x w'=> ∃ r d' s' E',x= .returned (.tuple #[.int .i64 r.1,.int .i64 r.2])∧Ft P w w' f m b d' s' E' (k+1)∧
   ((Af v e≠0∧r=(0,Af v e)∧E'=E∧s'=s∧d'=d)∨(Af v e=0∧AppR d s E (J7 v e) r d' s' E')):=by
 obtain⟨L,mv,sv,h1,h2,h3,h4⟩:=h
 refine(stoAppend_any v e hok h1 h4 hk).mono ?_
 rintro x w' ⟨rfl,hp⟩
 by_cases hc:Af v e=0
 ·rw [ζ hc] at hp ⊢
  obtain⟨E',a1,a2⟩:=push_res h4 (pack_body hc)
  exact⟨_,_,_,E',rfl,Jm.out hp h3 h2 a2,.inr ⟨hc,a1⟩⟩
 ·rw [γ hc] at hp ⊢
  exact⟨_,_,_,E,rfl,Jm.out hp h3 h2 (h4.up (Nat.le_succ k)),.inl ⟨hc,rfl,rfl,rfl,rfl⟩⟩
theorem atPut {raw:List UInt8} {rv:Value} (h:Jm P w f m b d s E k) (hk:k<1000) (hr:Ag (fun i=> ¬ P i) w rv raw) (hll:raw.length≤9223372036854775807):
  Calls Tryz.prog 21 #[.pointer (some ⟨b,0,none⟩),rv] w fun x w'=> ∃ r d' s' E',x= .returned (.tuple #[.int .i64 r.1,.int .i64 r.2])∧Ft P w w' f m b d' s' E' (k+1)∧
   (((Ca raw).2.2≠0∧r=(0,(Ca raw).2.2)∧E'=E∧s'=s∧d'=d)∨((Ca raw).2.2=0∧AppR d s E raw r d' s' E')):=by
 obtain⟨L,mv,sv,h1,h2,h3,h4⟩:=h
 refine(stoPut_any raw rv h1 h4 hk (hr.mono fun i hi hc=>hi (h2 i hc)) hll).mono ?_
 rintro x w' ⟨rfl,hp⟩
 by_cases hc:(Ca raw).2.2=0
 ·rw [ζ hc] at hp ⊢
  obtain⟨E',a1,a2⟩:=push_res h4 ⟨hc,unpack_len hc⟩
  exact⟨_,_,_,E',rfl,Jm.out hp h3 h2 a2,.inr ⟨hc,a1⟩⟩
 ·rw [γ hc] at hp ⊢
  exact⟨_,_,_,E,rfl,Jm.out hp h3 h2 (h4.up (Nat.le_succ k)),.inl ⟨hc,rfl,rfl,rfl,rfl⟩⟩
theorem atRotate (h:Jm P w f m b d s E k) (hk:k<1000):
  Calls Tryz.prog 23 #[.pointer (some ⟨b,0,none⟩)] w fun x w'=> ∃ r d' s',x= .returned (.int .i64 r)∧Ft P w w' f m b d' s' E (k+1)∧Grow d s d' s' 16600 1∧
   ((r=Cv d s 0∧r≠0∧s'=s∧d'.files=d.files)∨r=0):=by
 obtain⟨L,mv,sv,h1,h2,h3,h4⟩:=h
 refine(stoRotate_any h1 h4 hk).mono ?_
 rintro x w' ⟨rfl,hp⟩
 obtain⟨t1,t2,t3⟩:=turn_ok h4.ok h4.fuse 0
 refine⟨_,_,_,rfl,Jm.out hp h3 h2 (h4.grow t2 t1 (by have:=h4.len;omega)),t2,?_⟩
 rcases t3 with⟨a1,a2,a3,a4⟩ | ⟨a1,_⟩
 ·exact .inl ⟨a1,by rw [a1];exact a2,a3,a4⟩
 ·exact .inr a1
end
section
variable {P : Nat → Prop} {w w0 w' : World} {f m b : Nat} {L : List Ad} {d d' : Ab} {s s' : Cb} {mv sv : Value} {E E' : List (List UInt8)} {k k' : Nat}
theorem Jm.narrow (h:Jm P w f m b d s E k) (hb:Below w.heap.size w w0):Jm (fun i=>P i∧(i<w.heap.size∨w0.heap.size≤i)) w0 f m b d s E k:=by
 obtain⟨L,mv,sv,h1,h2,h3,h4⟩:=h
 exact⟨L,mv,sv,h1.below hb,fun i hi=>⟨h2 i hi,.inl (h1.lt i hi)⟩,fun i hi=>⟨h3 i (μ hb.size hi),.inr hi⟩,h4⟩
theorem Ft.wide {a c:Nat} (h:Ft (fun i=>P i∧(i<a∨c≤i)) w0 w' f m b d s E k) (hb:Below w.heap.size w w0):Ft P w w' f m b d s E k:=by
 obtain⟨⟨L,mv,sv,h1,h2,h3,h4⟩,h5⟩:=h
 exact⟨⟨L,mv,sv,h1,fun i hi=>(h2 i hi).1,fun i hi=>(h3 i hi).1,h4⟩,(Turned.below hb).trans h5 fun i hi=> .inl hi.1⟩
theorem Ft.up (h:Ft P w w' f m b d s E k) (hk:k≤k'):Ft P w w' f m b d s E k':=by
 obtain⟨⟨L,mv,sv,h1,h2,h3,h4⟩,h5⟩:=h
 exact⟨⟨L,mv,sv,h1,h2,h3,h4.up hk⟩,h5⟩
theorem Jm.up (h:Jm P w f m b d s E k) (hk:k≤k'):Jm P w f m b d s E k':=by
 obtain⟨L,mv,sv,h1,h2,h3,h4⟩:=h
 exact⟨L,mv,sv,h1,h2,h3,h4.up hk⟩
theorem Jm.lim (h:Jm P w f m b d s E k):Lim d s E k:=by
 obtain⟨L,mv,sv,h1,h2,h3,h4⟩:=h
 exact h4
theorem load_new (room:Int):(loadM (Ht room)).1.1.snap≤0:=by
 unfold loadM
 rw [Kn (newD_ok room) rfl,show atF (Ht room).files Am=none from rfl]
 dsimp only
 split<;>exact Int.le_refl _
theorem atNew {room:Int} {stride segEv:Nat} (h:FsAt w f m (Ht room) []) (hP: ∀ i,w.heap.size≤i→P i) (hf:P f∧P m) (hn:NibTab w) (hg:4≤w.heap.size∧ ∀ i,i<4→ ¬ P i) (hr:51≤(Ht room).room) (hc1:1≤stride∧stride≤64) (hc2:1≤segEv∧segEv≤512):
  Calls Tryz.prog 9 #[.pointer (some ⟨f,0,none⟩),.agg #[.int .i64 (stride:Int),.int .i64 (segEv:Int)]] w fun x w'=> ∃ b d',x= .returned (.tuple #[.pointer (some ⟨b,0,none⟩),.int .i64 0])∧Ft P w w' f m b d' ⟨0,22,[],stride,segEv,firstM,false,0⟩ [] 0∧d'.files=Gp []∧d'.room=(Ht room).room:=by
 obtain⟨d1,a1,a2,a3,a4,a5,a6,a7⟩:=new_run hr
 have hl:=new_lim hc1 hc2 a2 a3 a4 a6 a7
 have hft: ∀ i,foot f m [] i→P i:=fun i hi=>by
  rcases hi with rfl | rfl | ⟨x,hx,_⟩
  ·exact hf.1
  ·exact hf.2
  ·exact absurd hx List.not_mem_nil
 refine(open_calls (s:=⟨0,22,[],stride,segEv,firstM,false,0⟩) (E:=[]) h hn ⟨hg.1,fun i hi hc=>hg.2 i hi (hft i hc)⟩ (by show (0:Int)≤_;decide) (load_new room) a1 hl.ok ⟨rfl,rfl⟩ rfl).mono ?_
 rintro x w' ⟨sb,mv,sv,L',n,rfl,b1,b2,b3,b4⟩
 refine⟨sb,_,rfl,⟨⟨L',mv,sv,b1,fun i hi=> ?_,fun i hi=>hP i (μ b2.size hi),hl.rd n⟩,b2.mono hft⟩,a6,a5⟩
 rcases b4 i hi with h | h
 ·exact hft i h
 ·exact hP i h
structure OpS where
 k:Int
 v:Int
 e:Ev
 raw:List UInt8
 n:Int
 st:Int
 se:Int
structure OpOk (o:OpS):Prop where
 ev:I3 281474976710656 o.e
 raw:o.raw.length≤140737488355328
def Du (o:OpS) (rv:Value):Array Value:= #[.int .i64 o.k,.int .i64 o.v,.int .i64 o.e.kind,.int .i64 o.e.order,.int .i64 o.e.item,.int .i64 o.e.qty,.int .i64 o.e.price,.int .i64 o.e.cur,.int .i64 o.e.tax,.string ⟨o.e.who.toArray⟩,.int .i64 o.e.stamp,.string ⟨o.e.note.toArray⟩,rv,.int .i64 o.n,.int .i64 o.st,.int .i64 o.se]
theorem wpList_load_evAt {ops:Array Oper} {rest:List Oper} {o:Oper} {a:Act} {w:World} {Q:Exit→Act→World→Prop} (hgd:o.guard=none) (x:Operand) (ho:o.op= .load 38 x)
  (b off:Nat) (e:Ev) (hx:a.eval x= .pointer (some ⟨b,off,none⟩)) (hE:w.rangeAt b off (evCs e).toList)
  (h:wpList Tryz.prog ops Q rest (a.put o.dst (Dx e)) w):wpList Tryz.prog ops Q (o::rest) a w:=
 wpList_load_mid hgd 38 x ho b off hx (evCs e).toList _ hE Tryz.underlying38 rfl evInfo h
theorem op_ev {w:World} {g:Nat} {o:OpS} {rv:Value} (h:w.heap[g]? =some (.cells (Du o rv) 41 (0,0))):w.rangeAt g 2 (evCs o.e).toList:=fun j u hj=>by
 rw [cell_of_row _ _ _ _ _ _ h]
 match j,hj with
 | 0,hj=>exact hj
 | 1,hj=>exact hj
 | 2,hj=>exact hj
 | 3,hj=>exact hj
 | 4,hj=>exact hj
 | 5,hj=>exact hj
 | 6,hj=>exact hj
 | 7,hj=>exact hj
 | 8,hj=>exact hj
 | 9,hj=>exact hj
end
def evHd (j:Nat):Ev:=⟨1,7+(j:Int),0,0,0,0,0,[],0,[]⟩
def rH (j:Nat):List UInt8:=J7 5 (evHd j)
def EH (j:Nat):List (List UInt8):=(List.range j).map rH
theorem evHd_ok (j:Nat) (h:j<3):Af 5 (evHd j)=0:=by
 rcases (show j=0∨j=1∨j=2 by omega) with rfl | rfl | rfl<;>decide
theorem rH_len (j:Nat) (h:j<3):(rH j).length=5:=by
 have e:rH j=encV 5++(encV 2++encV 1++(encV 4++encV (7+(j:Int)).toNat++[])):=by
  rcases (show j=0∨j=1∨j=2 by omega) with rfl | rfl | rfl<;>rfl
 rw [e]
 simp only [η,Φ]
 rw [B5 (by decide),B5 (by decide),B5 (by decide),B5 (by decide),B5 (by omega)]
structure HdI (j:Nat) (d:Ab) (s:Cb):Prop where
 room:d.room=1000
 cfg:s.stride=2∧s.segEv=2
 low:j<3→usedF d.files=51+25*j∧d.files.length=2∧s.man=firstM∧s.count=j∧s.size=22+25*j∧s.marks=if j=0 then [] else [⟨1,22⟩]
 top:j=3→s.man.segs=[⟨1,1,2,72⟩,⟨2,3,0,0⟩]∧s.count=1
def M2:B3:=⟨2,3,0,0,0,[⟨1,1,2,72⟩,⟨2,3,0,0⟩]⟩
theorem m2_len:(Bs M2).1.length=33:=by
 rw [encMan_ok (by decide)]
 simp only [An]
 show (encV 12++(encV 3++(encV 0++(encV 0++(encV 0++(encV 1++(encV 1++(encV 2++(encV 72++(encV 2++(encV 3++(encV 0++(encV 0++[]))))))))))))).length+20=33
 simp only [η,B5 (show 12<128 by decide),B5 (show 72<128 by decide),B5 (show 3<128 by decide),B5 (show 2<128 by decide),B5 (show 1<128 by decide),B5 (show 0<128 by decide),Φ]
theorem hd_push {j:Nat} {d:Ab} {s:Cb} {E:List (List UInt8)} (hj:j<3) (h:HdI j d s) (hl:Lim d s E j) (hE:E.length=j):(Cy d s (rH j)).1=((j:Int)+1,0)∧HdI (j+1) (Cy d s (rH j)).2.2 (Cy d s (rH j)).2.1:=by
 obtain⟨u1,u2,u3,u4,u5,u6⟩:=h.low hj
 have hlen:=rH_len j hj
 have hbl:(Hg s (rH j)).length=25:=by rw [show (Hg s (rH j)).length=(rH j).length+20 from An _ _ _,hlen]
 have hla:lastE s=(j:Int):=by rw [hl.ok.last,hE]
 have hbo:BodyOk (rH j):=pack_body (evHd_ok j hj)
 have hroom:=h.room
 unfold Cy
 rw [γ (by omega)]
 by_cases h2:j<2
 ·rw [γ (by rw [h.cfg.2,u4];omega),γ (by rw [hbl,hroom,u1];omega)]
  obtain⟨G,g,bs,hs,hE2⟩:=hl.ok.sta
  obtain⟨x,hx,hxd⟩:=Dg hs.act
  obtain⟨a1,a2,a3,a4,a5,a6⟩:=app_ok (b:=Hg s (rH j)) hl.ok.ok hl.ok.up hl.fuse hx (by rw [hbl,u1,hroom];omega)
  obtain⟨b1,b2,b3,b4⟩:=at_app hl.ok.ok.rise hx (b:=Hg s (rH j))
  have e:appS d s (Hg s (rH j))=((lastE s+1,0),addS s (Hg s (rH j)),(Aq d (opAppend (Aa g.num) (Hg s (rH j)))).1):=by unfold appS;rw [hs.name,ζ a1]
  rw [e,hla]
  refine⟨rfl,a3.trans hroom,h.cfg,fun h3=>⟨?_,?_,u3,?_,?_,?_⟩,fun h3=>by omega⟩
  ·simp only
   rw [a2,b3,u1,hbl];omega
  ·simp only
   rw [a2,b4,u2]
  ·show s.count+1=j+1;omega
  ·show s.size+(Hg s (rH j)).length=_;rw [hbl,u5];omega
  ·rw [γ (by omega)]
   show (if s.count % s.stride=0 then s.marks++[⟨lastE s+1,s.size⟩] else s.marks)=_
   rw [u4,h.cfg.1,u6,hla,u5]
   rcases (show j=0∨j=1 by omega) with rfl | rfl
   ·rfl
   ·rfl
 ·obtain rfl:j=2:=by omega
  rw [ζ (by rw [h.cfg.2,u4];exact ξ _),hbl]
  have hM:turnM s=M2:=by
   unfold turnM
   rw [hla,u4,u5,u3]
   rfl
  have hft:(Ei s).length=26:=by
   unfold Ei
   rw [An,u3,u4,h.cfg.1,u6,γ (by decide)]
   show (encV 1++encV 2++encV 2++(encV 2++(encV 1++(encV 22++[])))).length+20=26
   simp only [η,B5 (show 22<128 by decide),B5 (show 2<128 by decide),B5 (show 1<128 by decide),Φ]
  have hhd:(Hi s).length≤40:=head_len hl.ok (by rw [u3];decide) (by omega)
  have h0:Cv d s 25=0:=by
   unfold Cv
   rw [γ (by omega),γ (by rw [u3];decide),γ (by rw [u3];decide),γ (by rw [hM,m2_len,hft,hroom,u1,u2];omega)]
  obtain⟨t1,t2,t3⟩:=turn_ok hl.ok hl.fuse 25
  rcases t3 with⟨_,a2,_⟩ | ⟨a1,a2,a3,a4⟩
  ·exact absurd h0 a2
  ·rw [ζ a1]
   have hlE:lastE (Bn d s 25).2.1=lastE s:=by rw [t1.last,hl.ok.last]
   have hev:Hg (Bn d s 25).2.1 (rH 2)=Hg s (rH 2):=by show frameOf 1 (lastE (Bn d s 25).2.1+1).toNat (rH 2)=frameOf 1 (lastE s+1).toNat (rH 2);rw [hlE]
   have hse:=(show 1≤s.segEv∧s.segEv≤512 by rw [h.cfg.2];decide)
   have hap:=append_ok (raw:=rH 2) t1 t2.fuse hbo (by omega) (by omega) (by rw [hev,t2.room,hbl];exact a4)
   rw [hev,hlE,hla] at hap
   obtain⟨b1,b2,b3⟩:=hap
   have htd:(Bn d s 25).2.1=turned s:=by
    unfold Bn at a1 ⊢
    rw [ζ h0] at a1 ⊢
    split
    ·rfl
    ·rename_i hc
     rw [γ hc] at a1
     exact absurd a1 hc
   refine⟨b1,(b3.room.trans t2.room).trans hroom,⟨b3.cfg.1.trans (t2.cfg.1.trans h.cfg.1),b3.cfg.2.trans (t2.cfg.2.trans h.cfg.2)⟩,fun h3=>by omega,fun _=> ?_⟩
   have hman:(appS (Bn d s 25).2.2 (Bn d s 25).2.1 (Hg s (rH 2))).2.1=addS (turned s) (Hg s (rH 2)):=by
    unfold appS at b1 ⊢
    split
    ·rw [htd]
    ·rename_i hc
     rw [γ hc] at b1
     simp only [Prod.mk.injEq] at b1
     exact absurd b1.2 hc
   rw [hman]
   refine⟨?_,rfl⟩
   show (turnM s).segs=_
   rw [hM]
   rfl
theorem two_of {α:Type}: ∀ {l:List α},l.length=2→ ∃ a b,l=[a,b]
 | [],h=>by simp at h
 | [_],h=>by simp at h
 | [a,b],_=>⟨a,b,rfl⟩
 | _::_::_::_,h=>by simp at h
section
variable {P : Nat → Prop} {w w0 w' : World} {f m b : Nat} {L : List Ad} {d d' : Ab} {s s' : Cb} {mv sv : Value} {E E' : List (List UInt8)} {k k' : Nat}
theorem headGone (h:Dt d s E) (hm:s.man.segs=[⟨1,1,2,72⟩,⟨2,3,0,0⟩]) (hst:s.stride=2) (hc:s.count=1) (hE:E.length=3) {pcs:List (List Plc)} (p1:pcs.length=s.man.segs.length) (p2: ∀ (i:Nat) g ps,s.man.segs[i]? =some g→pcs[i]? =some ps→SegIn d s 2 g ps)
  (p5:goneOk s.stride 2 1 E.length pcs.flatten.length):pcs.flatten.length=3:=by
 obtain⟨G,g,bs,hs,_⟩:=h.sta
 rw [hm] at p1 p2
 obtain⟨q0,q1,rfl⟩:=two_of p1
 have hsg:=hs.segs
 rw [hm] at hsg
 obtain⟨b0,rfl,rfl⟩: ∃ b0,G=[(⟨1,1,2,72⟩,b0)]∧g=⟨2,3,0,0⟩:=by
  match G,hsg with
  | [],h=>simp at h
  | [y],h=>
   simp only [List.map_cons,List.map_nil,List.cons_append,List.nil_append,List.cons.injEq,and_true] at h
   exact⟨y.2,by rw [h.1],h.2.symm⟩
  | y::z::r,h=>
   have:=congrArg List.length h
   simp at this
 have hse:=hs.seals _ (List.mem_singleton.2 rfl)
 have hcl:=(hs.sealed (List.mem_singleton.2 rfl)).2
 have hlen:b0.length=2:=by have:=hse.count;simp only at this;omega
 obtain⟨c1,c2,rfl⟩:=two_of hlen
 have h0:=p2 0 _ q0 rfl rfl
 have h1:=p2 1 _ q1 rfl rfl
 have hsk: ∀ p:Int,seekM [⟨1,p⟩] (max 2 1)=some ⟨1,p⟩:=fun p=>rfl
 have e0:q0.length=2:=by
  rcases h0 with⟨_,h,_⟩ | ⟨_,x,ms,en,cnt,hp,h⟩
  ·simp at h
  ·rcases hp.src with⟨_,a2,a3,st,a4⟩ | ⟨a1,_⟩
   ·obtain⟨y,hy,hyd⟩:=Dg hse.dat
    have hxy:=hp.fil
    rw [hy] at hxy
    obtain rfl:=ψ hxy
    have hen:en=(segB ⟨1,1,2,72⟩ [c1,c2]).length:=by have:=hse.foot;simp only at this a2;omega
    rw [hyd,hen,List.drop_left,hcl] at a4
    simp only [Option.some.injEq,Prod.mk.injEq] at a4
    have hms:ms=[⟨1,((hdB ⟨1,1,2,72⟩).length:Int)⟩]:=by rw [←a4.1,hst];rfl
    have hcnt:cnt=2:=by simp only at a3;omega
    rcases h with⟨h,_⟩ | ⟨ks,kp,lf,h3,_,h5,_,_,_,h9⟩
    ·rw [hms] at h
     exact absurd (h.symm.trans (hsk _)) (by simp)
    ·rw [hms] at h3
     have hks:ks=1:=by
      have:=congrArg Mk.s (ψ ((hsk _).symm.trans h3))
      simp only at this
      omega
     simp only at h5
     omega
   ·simp at a1
 have e1:0<q1.length:=by
  rcases h1 with⟨h,_⟩ | ⟨_,x,ms,en,cnt,hp,h⟩
  ·simp at h
  ·rcases hp.src with⟨a1,_⟩ | ⟨_,_,_,a4⟩
   ·simp at a1
   ·rcases h with⟨_,h,_⟩ | ⟨ks,kp,lf,_,_,_,h6,_,_,h9⟩
    ·omega
    ·omega
 have h3:=p5.2.2 (by decide) (by omega)
 rw [hE,hst] at h3
 simp only [List.flatten_cons,List.flatten_nil,List.append_nil,η] at h3 ⊢
 omega
theorem headRead (h:Jm P w f m b d s E k) (hk:k<1000) (ht:Bo w) (hm:s.man.segs=[⟨1,1,2,72⟩,⟨2,3,0,0⟩]) (hst:s.stride=2) (hc:s.count=1) (hE:E.length=3):
  Calls Tryz.prog 15 #[.pointer (some ⟨b,0,none⟩),.int .i64 2] w fun x w'=> ∃ v d',x= .returned (.tuple #[v,.int .i64 0])∧Ft P w w' f m b d' {s with decoded:=3} E k∧Jy w' w.heap.size v (Hh 2 (numb 1 E)):=by
 obtain⟨L,mv,sv,h1,h2,h3,h4⟩:=h
 have hsb:=h4.sb (by omega)
 have hla:=h4.ok.last
 obtain⟨G,g,bs,hs,_⟩:=h4.ok.sta
 obtain⟨pcs,p1,p2,p3,p4,p5⟩:=read_plain (from_:=2) h4.ok (by omega)
 have hg:=headGone h4.ok hm hst hc hE p1 p2 p5
 refine(stoRead_any 2 pcs h1 ht hsb h4.ok.closed h4.ok.up h4.ok.floor (by omega) (B7 hs.ok).len p1 p2 hs.segBd p3).mono ?_
 rintro x w' ⟨v,n,rfl,a1,a2,a3⟩
 rw [p4] at a1
 rw [hg] at a2
 exact⟨_,_,rfl,⟨⟨L,mv,sv,a2,h2,fun i hi=>h3 i (μ a3.size hi),(h4.dec _).rd n⟩,a3.mono h2⟩,a1⟩
theorem stRight_any (a c:Int) (w:World):Calls Tryz.prog 8 #[.agg #[.int .i64 a,.int .i64 c]] w fun x w'=>x= .returned (.bool (decide (1≤a)&&decide (a≤64)&&decide (1≤c)&&decide (c≤512)))∧Below w.heap.size w w':=by
 have HB:=Qh (below_alloc w (.cells #[.int .i64 a,.int .i64 c] 24))
 rcases q1:decide (1≤a) with _ | _
 all_goals rcases q2:decide (a≤64) with _ | _
 all_goals rcases q3:decide (1≤c) with _ | _
 all_goals rcases q4:decide (c≤512) with _ | _
 all_goals
  go_enter Tryz.func8,Tryz.ntmps8
  go_wp2
  go_ret
  exact⟨rfl,HB.out⟩
end
section
variable {P : Nat → Prop} {w w0 w' : World} {f m b : Nat} {L : List Ad} {d d' : Ab} {s s' : Cb} {mv sv : Value} {E E' : List (List UInt8)} {k k' : Nat}
theorem G8 {n:Nat} (h:Turned (fun i=>n≤i) w w') (hn:n≤w.heap.size):Below n w w':=⟨h.os,h.tape,h.output,h.size,fun k hk=>h.block k (by omega) (by omega)⟩
theorem Ko:usedF (Gp [])=51∧(Gp []).length=2:=by
 unfold Gp
 rw [Dh,Dh,E9,E9]
 exact⟨by rw [show Fr.length=29 from G1.2,show Ep.length=22 from G1.1];rfl,rfl⟩
theorem hdI_zero (h1:d.files=Gp []) (h2:d.room=1000):HdI 0 d ⟨0,22,[],2,2,firstM,false,0⟩:=
 ⟨h2,⟨rfl,rfl⟩,fun _=>⟨by rw [h1,Ko.1],by rw [h1,Ko.2],rfl,rfl,rfl,rfl⟩,fun h=>by cases h⟩
theorem evHd_fit (j:Nat) (h:j<3):I3 281474976710656 (evHd j):=by
 have z: ∀ n:Int,0≤n→n≤100→I64 n:=fun n h1 h2=>⟨by omega,by omega⟩
 rcases (show j=0∨j=1∨j=2 by omega) with rfl | rfl | rfl<;>exact⟨z _ (by decide) (by decide),z _ (by decide) (by decide),z _ (by decide) (by decide),z _ (by decide) (by decide),z _ (by decide) (by decide),z _ (by decide) (by decide),z _ (by decide) (by decide),z _ (by decide) (by decide),by decide,by decide⟩
theorem hdAppend {j:Nat} (hj:j<3) (hI:HdI j d s) (h:Jm P w f m b d s (EH j) j):
  Calls Tryz.prog 12 #[.pointer (some ⟨b,0,none⟩),.int .i64 5,Dx (evHd j)] w fun x w'=> ∃ d' s',x= .returned (.tuple #[.int .i64 ((j:Int)+1),.int .i64 0])∧Ft P w w' f m b d' s' (EH (j+1)) (j+1)∧HdI (j+1) d' s':=by
 obtain⟨L,mv,sv,h1,h2,h3,h4⟩:=h
 obtain⟨p1,p2⟩:=hd_push hj hI h4 (by simp [EH])
 obtain⟨E',a1,a2⟩:=push_res h4 (pack_body (evHd_ok j hj))
 have hE:E'=EH (j+1):=by
  rcases a1.2 with⟨_,hc,_⟩ | ⟨_,hc⟩
  ·exact absurd (congrArg Prod.snd p1) hc
  ·rw [hc];unfold EH;rw [List.range_succ,List.map_append];rfl
 subst hE
 refine(stoAppend_any 5 (evHd j) (evHd_fit j hj) h1 h4 (by omega)).mono ?_
 rintro x w' ⟨rfl,hp⟩
 rw [ζ (evHd_ok j hj)] at hp ⊢
 refine⟨_,_,?_,Jm.out hp h3 h2 a2,p2⟩
 rw [show (Cy d s (J7 5 (evHd j))).1=((j:Int)+1,0) from p1]
theorem hd_recs:Hh 2 (numb 1 (EH 3))=[(2,evHd 1),(3,evHd 2)]:=by
 have hu: ∀ j,j<3→upV (rH j)=evHd j:=fun j hj=>by
  unfold upV rH
  rw [If (evHd_ok j hj)]
  rfl
 show Hh 2 [(1,upV (rH 0)),(2,upV (rH 1)),(3,upV (rH 2))]=_
 rw [hu 0 (by decide),hu 1 (by decide),hu 2 (by decide)]
 rfl
end
theorem head19_any (w:World) (hn:NibTab w) (ht:Bo w) (hg:4≤w.heap.size):Calls Tryz.prog 7 #[] w fun x w'=>x= .returned (.bool true)∧Below w.heap.size w w':=by
 have HN:=Qh hn
 have HT:=Qh ht
 have HG:=Qh hg
 have HNW:=Qh (fsNew_any 1000 w)
 clear hn ht hg
 go_enter Tryz.func7,Tryz.ntmps7
 go_wp2_with fail
 refine HNW.out.mono ?_
 rintro x w1 ⟨f,m,rfl,hf,h1,h2,hb1⟩
 have HB1:=Qh hb1
 have HOP:=Qh (atNew (P:=fun i=>w.heap.size≤i) (stride:=2) (segEv:=2) hf (fun i hi=>μ hb1.size hi) ⟨h1,h2⟩ (HN.out.below hb1) ⟨μ HG.out hb1.size,fun i hi hc=>by have:=HG.out;omega⟩ (by decide) (by decide) (by decide))
 clear hf h1 h2 hb1 HNW
 go_wp2_with fail
 refine HOP.out.mono ?_
 rintro x w2 ⟨b,d0,rfl,ho,hfi,hro⟩
 have HI0:=Qh (show HdI 0 d0 ⟨0,22,[],2,2,firstM,false,0⟩∧Jm (fun i=>w.heap.size≤i) w2 f m b d0 ⟨0,22,[],2,2,firstM,false,0⟩ (EH 0) 0∧Below w.heap.size w w2 from⟨hdI_zero hfi hro,ho.1,HB1.out.trans (G8 ho.2 HB1.out.size)⟩)
 clear ho hfi hro HOP HB1
 go_wp2
 go_loopw [0,4,5,6] (fun _ iv _ _ wr=> ∃ (j:Nat) (dj:Ab) (sj:Cb),j≤3∧iv= .int .i64 ((j:Int)+1)∧Hid (HdI j dj sj∧Jm (fun i=>w.heap.size≤i) wr f m b dj sj (EH j) j∧Below w.heap.size w wr)) (fun _ iv _ _ _=>4 - (intOf iv).toNat)
 case atStart=>exact⟨0,d0,_,by decide,rfl,HI0⟩
 case round=>
  obtain⟨j,dj,sj,hj,rfl,HI⟩:=hrel
  clear HI0
  by_cases hlt:j<3
  ·have q1:(j:Int)+1≤3:=by omega
   have hw1:IntKind.i64.wrap (6+((j:Int)+1))=7+(j:Int):=by rw [κ];omega
   have hw2:IntKind.i64.wrap ((j:Int)+1+1)=(j:Int)+1+1:=by rw [κ];omega
   have HCA:=Qh (hdAppend hlt HI.out.1 HI.out.2.1)
   have HBW:=Qh HI.out.2.2
   simp only [evHd] at HCA
   go_wp2_with fail
   refine HCA.out.mono ?_
   rintro x w3 ⟨d1,s1,rfl,ho,hi⟩
   have HI1:=Qh (show HdI (j+1) d1 s1∧Jm (fun i=>w.heap.size≤i) w3 f m b d1 s1 (EH (j+1)) (j+1)∧Below w.heap.size w w3 from⟨hi,ho.1,HBW.out.trans (G8 ho.2 HBW.out.size)⟩)
   clear ho hi HCA HI
   go_wp2
   go_roundw
   case rel=>exact⟨j+1,d1,s1,by omega,by go_num,HI1⟩
   case measure=>simp [intOf];omega
  ·obtain rfl:j=3:=by omega
   obtain⟨t1,t2⟩:=HI.out.1.top rfl
   have HRE:=Qh (headRead HI.out.2.1 (by decide) (HT.out.below HI.out.2.2) t1 HI.out.1.cfg.1 t2 (by decide))
   have HBW:=Qh HI.out.2.2
   have HSG:=Qh t1
   clear t1 t2 HI
   go_wp2_with fail
   refine HRE.out.mono ?_
   rintro x w3 ⟨rv,d1,rfl,ho,hrs⟩
   have HA3:=Qh ho.1
   have HB3:=Qh (HBW.out.trans (G8 ho.2 HBW.out.size))
   rw [hd_recs] at hrs
   obtain⟨g,cap,rfl,_,_,_,_,hcell⟩:=B8 hrs (by decide)
   have HCE:=Qh (show w3.cell? ⟨g,2,none⟩=some (.int .i64 8) from hcell 2 _ rfl)
   have HMF:=Qh (show Calls Tryz.prog 30 #[.pointer (some ⟨b,0,none⟩)] w3 fun e w'=> ∃ v',e= .returned (mnV sj.man v')∧SgOwn w' w3.heap.size v' sj.man.segs∧Below w3.heap.size w3 w' from by
    obtain⟨L,mv,sv,h1,h2,h3,h4⟩:=ho.1
    have:=stoManifest_any h1 h4.ok.closed h4.ok.seg (by show sj.man.segs.length≤1000;rw [HSG.out];decide)
    exact this)
   clear ho hrs hcell HRE HBW
   go_wp2_with fail
   refine HMF.out.mono ?_
   rintro x w4 ⟨v4,rfl,hsg,hb4⟩
   rw [HSG.out] at hsg
   obtain⟨g4,cap4,rfl,_,_,_,_,hc4⟩:=B8 hsg (by decide)
   have hb5:=below_alloc w4 (.cells #[.int .i64 sj.man.gen,.int .i64 sj.man.next,.int .i64 sj.man.floor,.int .i64 sj.man.snap,.int .i64 sj.man.snapSeq,.slice (some ⟨g4,0,none⟩) 2 cap4] 69)
   have HB5:=Qh (Below.next (Below.next HB3.out (Below.mono hb4 (ξ _))) hb5)
   have HA5:=Qh ((HA3.out.below hb4).below hb5)
   have c2:(w4.alloc (.cells #[.int .i64 sj.man.gen,.int .i64 sj.man.next,.int .i64 sj.man.floor,.int .i64 sj.man.snap,.int .i64 sj.man.snapSeq,.slice (some ⟨g4,0,none⟩) 2 cap4] 69)).cell? ⟨g,2,none⟩=some (.int .i64 8):=cell_later (Below.next hb4 hb5) HCE.out
   have c4:(w4.alloc (.cells #[.int .i64 sj.man.gen,.int .i64 sj.man.next,.int .i64 sj.man.floor,.int .i64 sj.man.snap,.int .i64 sj.man.snapSeq,.slice (some ⟨g4,0,none⟩) 2 cap4] 69)).cell? ⟨g4,3,none⟩=some (.int .i64 72):=cell_later hb5 (hc4 3 _ rfl)
   have c5:(w4.alloc (.cells #[.int .i64 sj.man.gen,.int .i64 sj.man.next,.int .i64 sj.man.floor,.int .i64 sj.man.snap,.int .i64 sj.man.snapSeq,.slice (some ⟨g4,0,none⟩) 2 cap4] 69)).cell? ⟨w4.heap.size,5,none⟩=some (.slice (some ⟨g4,0,none⟩) 2 cap4):=cell_of_row _ _ 5 _ _ _ (σ w4 _)
   clear hb4 hb5 hc4 hsg HCE HMF HA3 HB3
   go_wp2_with fail
   generalize (w4.alloc (.cells #[.int .i64 sj.man.gen,.int .i64 sj.man.next,.int .i64 sj.man.floor,.int .i64 sj.man.snap,.int .i64 sj.man.snapSeq,.slice (some ⟨g4,0,none⟩) 2 cap4] 69))=w5 at*
   refine(atDecoded HA5.out).mono ?_
   rintro x w6 ⟨rfl,rfl⟩
   go_wp2_with fail
   refine(atLast HA5.out (by decide)).mono ?_
   rintro x w6 ⟨rfl,hb6⟩
   have HB6:=Qh (HB5.out.trans (hb6.mono HB5.out.size))
   clear hb6
   go_wp2
   go_ret
   exact⟨rfl,HB6.out⟩
def OpRow (w:World) (v:Value) (ops:List OpS):Prop:=
 ∃ oa cap,v= .slice oa ops.length cap∧ops.length≤9223372036854775807∧ ∀ (i:Nat) o,ops[i]? =some o→OpOk o∧ ∃ b off rv,oa=some ⟨b,off,none⟩∧w.rangeAt b (off+i*16) (Du o rv).toList∧A2 w rv o.raw
theorem oppInfo:(Tryz.prog.info? 41).map (·.size)=some 16:=by kernel_rfl
section
open Go.RowKit Go.ChangeShapes Go.WideShapes
theorem bRow_ofF {w:World} {v:Value} {zs:List Int} (h:Row 1 1 (RInt .u8) w v zs):A2 w v (zs.map fun z=>UInt8.ofNat z.toNat)∧zs.length≤140737488355328:=by
 obtain⟨oa,cap,rfl,h1,h2,hr,h3⟩:=h
 have hw: ∀ z∈zs,(Lit.int .u8 z).wf=true:=fun z hzm=>by
  obtain⟨i,hi,he⟩:=List.getElem_of_mem hzm
  obtain⟨b,off,_,h5⟩:=h3 (by rintro rfl;simp at hi)
  obtain⟨cs,_,_,hR⟩:=h5 i z (by rw [Δ hi,he])
  exact hR.2
 refine⟨⟨oa,cap,by rw [List.length_map],by simpa using h1,fun hn=> ?_⟩,by unfold reachBytes at hr;omega⟩
 obtain⟨b,off,h4,h5⟩:=h3 (by rintro rfl;exact hn rfl)
 refine⟨b,off,h4,fun i x hx=> ?_⟩
 rw [List.getElem?_map] at hx
 obtain⟨z,hz1,rfl⟩:=Option.map_eq_some_iff.1 hx
 obtain⟨cs,_,hcs,hR⟩:=h5 i z hz1
 have:=hcs 0 (.int .u8 z) (by rw [hR.1];rfl)
 rw [u8_of (hw z (List.mem_of_getElem? hz1))]
 simpa using this
end
section
open Go.RowKit Go.ChangeShapes Go.WideShapes
theorem i64_wf {n:Int} (h:(Lit.int .i64 n).wf=true):I64 n:=by
 simp [Lit.wf,show IntKind.i64.max=9223372036854775807 from by decide,show IntKind.i64.min= -9223372036854775808 from by decide] at h
 exact⟨by omega,by omega⟩
def REvF (_:World) (cs:List Value) (e:Ev):Prop:=cs=(evCs e).toList∧I3 281474976710656 e
theorem opensF_Event0:Jw Tryz.prog 38 10 (Fu 1 (RInt .i64) (Fu 1 (RInt .i64) (Fu 1 (RInt .i64) (Fu 1 (RInt .i64) (Fu 1 (RInt .i64) (Fu 1 (RInt .i64) (Fu 1 (RInt .i64) (Fu 1 RStr (Fu 1 (RInt .i64) (Fu 1 RStr RNil)))))))))):=
 Kx Tryz.underlying38 (by kernel_rfl) (Bb rfl (by kernel_rfl) (Cu Tryz.underlying36) (Bb rfl (by kernel_rfl) (Cu Tryz.underlying3) (Bb rfl (by kernel_rfl) (Cu Tryz.underlying3) (Bb rfl (by kernel_rfl) (Cu Tryz.underlying3) (Bb rfl (by kernel_rfl) (Cu Tryz.underlying3) (Bb rfl (by kernel_rfl) (Cu Tryz.underlying3) (Bb rfl (by kernel_rfl) (Cu Tryz.underlying3) (Bb rfl (by kernel_rfl) (opens_str Tryz.underlying9) (Bb rfl (by kernel_rfl) (Cu Tryz.underlying3) (Bb rfl (by kernel_rfl) (opens_str Tryz.underlying9) opens_nil))))))))))
theorem opensF_Event:Jw Tryz.prog 38 10 REvF:=by
 intro H enc W fuel cs x hx hz
 obtain⟨hl,⟨k0,k1,k2,k3,k4,k5,k6,k7,k8,k9,_⟩,h0,h1,h2,h3,h4,h5,h6,h7,h8,h9,_⟩:=opensF_Event0 enc W fuel cs x hx hz
 refine⟨hl,⟨k0,k1,k2,k3,k4,k5,k6,k7,k8,k9⟩,?_,⟨i64_wf h0.2,i64_wf h1.2,i64_wf h2.2,i64_wf h3.2,i64_wf h4.2,i64_wf h5.2,i64_wf h6.2,i64_wf h8.2,μ h7.2 (by decide),μ h9.2 (by decide)⟩⟩
 match cs,hl with
 | [c0,c1,c2,c3,c4,c5,c6,c7,c8,c9],_=>
  have e0:=h0.1
  have e1:=h1.1
  have e2:=h2.1
  have e3:=h3.1
  have e4:=h4.1
  have e5:=h5.1
  have e6:=h6.1
  have e7:=h7.1
  have e8:=h8.1
  have e9:=h9.1
  simp at e0 e1 e2 e3 e4 e5 e6 e7 e8 e9
  simp [evCs,e0,e1,e2,e3,e4,e5,e6,e7,e8,e9]
theorem opensF_Config:Jw Tryz.prog 24 2 (Fu 1 (RInt .i64) (Fu 1 (RInt .i64) RNil)):=
 Kx Tryz.underlying24 (by kernel_rfl) (Bb rfl (by kernel_rfl) (Cu Tryz.underlying3) (Bb rfl (by kernel_rfl) (Cu Tryz.underlying3) opens_nil))
def RdCfg (_:World) (v:Value) (a:Int×Int):Prop:=v= .agg #[.int .i64 a.1,.int .i64 a.2]
theorem open_api_Config {H:Type} {enc:TypeId×Value→H} {W:World} {base:Nat} {v:Value} {d:DataW H} {p:List MemPlace}
  (hok:Value.okWide Tryz.prog W .any base 24 v) (h:DataW.Trod enc Tryz.prog W 0 (fun _=>true) true 24 v d p) (hz:(d.weights Tryz.prog 24).all (· ≤reachBytes)=true):
  ∃ a,RdCfg W v a:=by
 obtain⟨cs,⟨a,c,_⟩,rfl,hl,h1,h2,_⟩:=open_struct_by (P:=Tryz.prog) opensF_Config Tryz.underlying24 hok h hz
 refine⟨(a,c),?_⟩
 obtain⟨l⟩:=cs
 match l,hl with
 | [x,y],_=>
  have e1:=h1.1
  have e2:=h2.1
  simp at e1 e2
  simp [RdCfg,e1,e2]
def ROpF (w:World) (cs:List Value) (o:OpS):Prop:= ∃ rv,cs=(Du o rv).toList∧A2 w rv o.raw∧OpOk o
theorem opensF_Op:Jw Tryz.prog 41 16 ROpF:=by
 intro H enc W fuel cs x hx hz
 have ho:Jw Tryz.prog 41 16 (Fu 1 (RInt .i64) (Fu 1 (RInt .i64) (Fu 10 REvF (Fu 1 (RRow 1 1 (RInt .u8)) (Fu 1 (RInt .i64) (Fu 2 (Fu 1 (RInt .i64) (Fu 1 (RInt .i64) RNil)) RNil)))))):=
  Kx Tryz.underlying41 (by kernel_rfl) (Bb rfl (by kernel_rfl) (Cu Tryz.underlying3) (Bb rfl (by kernel_rfl) (Cu Tryz.underlying3) (Bb rfl (by kernel_rfl) opensF_Event
   (Bb rfl (by kernel_rfl) (opens_slice Tryz.underlying39 (by kernel_rfl) (by kernel_rfl) (by decide) (Cu (k:= .u8) Tryz.underlying5)) (Bb rfl (by kernel_rfl) (Cu Tryz.underlying3) (Bb rfl (by kernel_rfl) opensF_Config opens_nil))))))
 obtain⟨hl,⟨k,v,e,zs,n,⟨st,se,_⟩,_⟩,h0,h1,h2,h3,h4,⟨h5,h6,_⟩,_⟩:=ho enc W fuel cs x hx hz
 obtain⟨rv,e3,r3⟩:=h3
 obtain⟨a1,a2⟩:=bRow_ofF r3
 refine⟨hl,⟨k,v,e,zs.map fun z=>UInt8.ofNat z.toNat,n,st,se⟩,rv,?_,a1,h2.2,by rw [List.length_map];exact a2⟩
 match cs,hl with
 | [c0,c1,c2,c3,c4,c5,c6,c7,c8,c9,c10,c11,c12,c13,c14,c15],_=>
  have e0:=h0.1
  have e1:=h1.1
  have e2:=h2.1
  have e4:=h4.1
  have e5:=h5.1
  have e6:=h6.1
  simp [evCs] at e0 e1 e2 e3 e4 e5 e6
  simp [Du,e0,e1,e2,e3,e4,e5,e6]
structure RdOps (w:World) (v:Value) (ops:List OpS):Prop where
 row:OpRow w v ops
theorem open_sl_daybookref19_Op {H:Type} {enc:TypeId×Value→H} {W:World} {base:Nat} {v:Value} {d:DataW H} {p:List MemPlace}
  (hok:Value.okWide Tryz.prog W .any base 22 v) (h:DataW.Trod enc Tryz.prog W 0 (fun _=>true) true 22 v d p) (hz:(d.weights Tryz.prog 22).all (· ≤reachBytes)=true):
  ∃ a,RdOps W v a:=by
 obtain⟨rs,oa,cap,rfl,h1,h2,hr,h3⟩:=open_slice_by (P:=Tryz.prog) (opens_slice (bytes:=160) Tryz.underlying22 (by kernel_rfl) (by kernel_rfl) (by decide) opensF_Op) Tryz.underlying22 hok h hz
 refine⟨rs,⟨oa,cap,rfl,by unfold maxLen at h2;omega,fun i o hi=> ?_⟩⟩
 obtain⟨b,off,h4,h5⟩:=h3 (by rintro rfl;simp at hi)
 obtain⟨cs,_,hc,rv,hR,hB,hO⟩:=h5 i o hi
 exact⟨hO,b,off,rv,h4,fun j u hj=>hc j u (by rw [hR];exact hj),hB⟩
theorem nib_of2 {w:World} {l:List (String×DataW Unit)} {d2:DataW Unit} (hl:l=[("daybook/crc.nibbles",Rows.laid_daybook_crc_nibbles),("daybook/upcast.taxes",d2)]) (h:laidMet Tryz.prog l w):NibTab w:=by
 subst hl
 exact Lib.tabIs_of_head (g:=1) (t:=308) (e:=181) (by kernel_rfl) (by kernel_rfl) Tryz.underlying308 Tryz.underlying181 (by kernel_rfl) (by kernel_rfl) h
theorem tax_of2 {w:World} {l:List (String×DataW Unit)} {d1:DataW Unit} (hl:l=[("daybook/crc.nibbles",d1),("daybook/upcast.taxes",Rows.laid_daybook_upcast_taxes)]) (h:laidMet Tryz.prog l w):Bo w:=by
 subst hl
 exact Lib.tabIs_of_head (g:=0) (t:=241) (e:=3) (by kernel_rfl) (by kernel_rfl) Tryz.underlying241 Tryz.underlying3 (by kernel_rfl) (by kernel_rfl) h.tail
theorem glob_of {w:World} (h:w.ShapedOpen Tryz.prog):4≤w.heap.size:=by
 obtain⟨⟨z,t⟩,hz⟩:=Option.isSome_iff_exists.1 (show ((((begin Tryz.prog (fun _ _=>0) default).world).heap[4 - 1]?).bind Obj.row?).isSome=true by kernel_rfl)
 obtain⟨cs,hh,_⟩:=h.1 (4 - 1) z t (χ (by kernel_rfl)) hz
 have:=(δ.1 hh).1
 omega
end
theorem refCheck_rest (v:Int) (e:Ev) (w:World) (h0:1≤v) (h1:v≤5) (h2:1≤e.kind) (h3:e.kind≤Bz v) (hw:e.who.length≤16) (hn:e.note.length≤120):
  Calls Tryz.prog 20 #[.int .i64 v,Dx e] w (Fe (Af v e) w):=by
 have hf:=Qh (chkRest (e:=e) (show ¬ (v<1∨5<v) by omega) (show ¬ (e.kind<1∨Bz v<e.kind) by omega) (show ¬ (16<e.who.length∨120<e.note.length) by omega))
 have hfit:=Qh (fits_iff v e h0 h1 h2 h3)
 unfold Dx
 have d1:decide (e.kind<1)=false:=by simpa using h2
 have d2:decide (Bz v<e.kind)=false:=by simpa using h3
 have HL:=Qh (fun W=>refLast_any v W h0 h1)
 have HH:=Qh (fun W=>refHas_any v W h0 h1)
 have HNm:=Qh (refNums_any e)
 go_enter Tryz.func20,Tryz.ntmps20
 go_wp2
 have hE:=Iv w e 38
 have hb1:Below w.heap.size w (w.alloc (.cells #[.int .i64 e.kind,.int .i64 e.order,.int .i64 e.item,.int .i64 e.qty,.int .i64 e.price,.int .i64 e.cur,.int .i64 e.tax,.string ⟨e.who.toArray⟩,.int .i64 e.stamp,.string ⟨e.note.toArray⟩] 38)):=(τ _ _).alloc (ξ _) _
 have hsz0:w.heap.size<(w.alloc (.cells #[.int .i64 e.kind,.int .i64 e.order,.int .i64 e.item,.int .i64 e.qty,.int .i64 e.price,.int .i64 e.cur,.int .i64 e.tax,.string ⟨e.who.toArray⟩,.int .i64 e.stamp,.string ⟨e.note.toArray⟩] 38)).heap.size:=by simp
 generalize w.alloc (.cells #[.int .i64 e.kind,.int .i64 e.order,.int .i64 e.item,.int .i64 e.qty,.int .i64 e.price,.int .i64 e.cur,.int .i64 e.tax,.string ⟨e.who.toArray⟩,.int .i64 e.stamp,.string ⟨e.note.toArray⟩] 38)=w1 at*
 have HE:=Qh hE
 have HB1:=Qh hb1
 have c0:=hE.c0
 clear hE hb1
 go_region_held3 (fun w'=>w'.cell? ⟨w.heap.size,0,none⟩=some (.int .i64 e.kind)) (first | assumption | exact cell_later hb2 c0 | go_keep)
  (first | (go_at_call 48;refine(HL.out _).mono ?_;rintro x w2 ⟨rfl,hb2⟩))
 rename_i hHeld
 have HB2:=Qh (show Below w.heap.size w w2 from Below.next HB1.out (Below.next ((τ _ _).drew) hb2))
 have HE2:=Qh (HE.out.below (Below.next ((τ _ _).drew) hb2))
 have hsz2:w.heap.size<w2.heap.size:=by have:=(Below.next ((τ _ w1).drew) hb2).size;omega
 clear hb2 c0 HB1 HE hsz0
 obtain⟨c0,c1,c2,c3,c4,c5,c6,c7,c8,c9⟩:=HE2.out
 by_cases hv3:v<3
 by_cases hv1:v=1
 focus
  have dv1:(v==1)=true:=by simpa using hv1
  have hlw:=Qh (show I4 v=[0,1,1,0,-10000,0,0,0,0,0,0] by unfold I4;rw [ζ hv3])
  have hhg:=Qh (show Fp v=[0,10,1099511627776,65535,10000,1000000,3,5000,0,1099511627776,0] by unfold Fp;rw [ζ hv1])
  clear hv1
  go_wp2_with fail
  refine(HNm.out _).mono ?_
  rintro x w3 ⟨bn,rfl,hbn,hNums,hb3⟩
  have hbA:=Below.next ((τ _ w2).alloc (ξ _) (.cells #[.int .i64 0,.int .i64 1,.int .i64 1,.int .i64 0,.int .i64 (-10000),.int .i64 0,.int .i64 0,.int .i64 0,.int .i64 0,.int .i64 0,.int .i64 0] 3)) (Below.next (((τ _ _).alloc (ξ _) (.cells #[.int .i64 0,.int .i64 10,.int .i64 1099511627776,.int .i64 65535,.int .i64 10000,.int .i64 1000000,.int .i64 3,.int .i64 5000,.int .i64 0,.int .i64 1099511627776,.int .i64 0] 3))) hb3)
  have HLow:=Qh (show Dr w3 w2.heap.size (I4 v) from(Dr.below (Dr.below (G2 rfl (by rw [hlw.out];rfl)) (((τ _ _).alloc (ξ _) _))) hb3))
  have HHigh:=Qh (show Dr w3 (w2.heap.size+1) (Fp v) from Dr.below (G2 (by simp) (by rw [hhg.out];rfl)) hb3)
  have HNums:=Qh hNums
  have HE3:=Qh (HE2.out.below hbA)
  have HB3:=Qh (Below.next HB2.out hbA)
  clear hbA hb3 hNums hbn hHeld HE2 HB2 HNm HL hlw hhg c0 c1 c2 c3 c4 c5 c6 c7 c8 c9
  obtain⟨bl,hbl⟩: ∃ bl,bl=w2.heap.size:=⟨_,rfl⟩
  rw [←hbl] at HLow HHigh ⊢
  clear hbl hsz2
  go_wp2_with fail
 rotate_left
 focus
  have dv1:(v==1)=false:=by simpa using hv1
  have hlw:=Qh (show I4 v=[0,1,1,0,-10000,0,0,0,0,0,0] by unfold I4;rw [ζ hv3])
  have hhg:=Qh (show Fp v=[0,10,1099511627776,65535,10000,100000000,3,5000,0,1099511627776,0] by unfold Fp;rw [γ hv1])
  clear hv1
  go_wp2_with fail
  refine(HNm.out _).mono ?_
  rintro x w3 ⟨bn,rfl,hbn,hNums,hb3⟩
  have hbA:=Below.next ((τ _ w2).alloc (ξ _) (.cells #[.int .i64 0,.int .i64 1,.int .i64 1,.int .i64 0,.int .i64 (-10000),.int .i64 0,.int .i64 0,.int .i64 0,.int .i64 0,.int .i64 0,.int .i64 0] 3)) (Below.next (((τ _ _).alloc (ξ _) (.cells #[.int .i64 0,.int .i64 10,.int .i64 1099511627776,.int .i64 65535,.int .i64 10000,.int .i64 100000000,.int .i64 3,.int .i64 5000,.int .i64 0,.int .i64 1099511627776,.int .i64 0] 3))) hb3)
  have HLow:=Qh (show Dr w3 w2.heap.size (I4 v) from(Dr.below (Dr.below (G2 rfl (by rw [hlw.out];rfl)) (((τ _ _).alloc (ξ _) _))) hb3))
  have HHigh:=Qh (show Dr w3 (w2.heap.size+1) (Fp v) from Dr.below (G2 (by simp) (by rw [hhg.out];rfl)) hb3)
  have HNums:=Qh hNums
  have HE3:=Qh (HE2.out.below hbA)
  have HB3:=Qh (Below.next HB2.out hbA)
  clear hbA hb3 hNums hbn hHeld HE2 HB2 HNm HL hlw hhg c0 c1 c2 c3 c4 c5 c6 c7 c8 c9
  obtain⟨bl,hbl⟩: ∃ bl,bl=w2.heap.size:=⟨_,rfl⟩
  rw [←hbl] at HLow HHigh ⊢
  clear hbl hsz2
  go_wp2_with fail
 rotate_left
 focus
  have dv1:(v==1)=false:=by simp;omega
  have hlw:=Qh (show I4 v=[0,1,1,0,0,0,0,0,0,0,0] by unfold I4;rw [γ hv3])
  have hhg:=Qh (show Fp v=[0,10,1099511627776,65535,10000,100000000,3,5000,0,1099511627776,0] by unfold Fp;rw [γ (by omega)])
  go_wp2_with fail
  refine(HNm.out _).mono ?_
  rintro x w3 ⟨bn,rfl,hbn,hNums,hb3⟩
  have hbA:=Below.next ((τ _ w2).alloc (ξ _) (.cells #[.int .i64 0,.int .i64 1,.int .i64 1,.int .i64 0,.int .i64 0,.int .i64 0,.int .i64 0,.int .i64 0,.int .i64 0,.int .i64 0,.int .i64 0] 3)) (Below.next (((τ _ _).alloc (ξ _) (.cells #[.int .i64 0,.int .i64 10,.int .i64 1099511627776,.int .i64 65535,.int .i64 10000,.int .i64 100000000,.int .i64 3,.int .i64 5000,.int .i64 0,.int .i64 1099511627776,.int .i64 0] 3))) hb3)
  have HLow:=Qh (show Dr w3 w2.heap.size (I4 v) from(Dr.below (Dr.below (G2 rfl (by rw [hlw.out];rfl)) (((τ _ _).alloc (ξ _) _))) hb3))
  have HHigh:=Qh (show Dr w3 (w2.heap.size+1) (Fp v) from Dr.below (G2 (by simp) (by rw [hhg.out];rfl)) hb3)
  have HNums:=Qh hNums
  have HE3:=Qh (HE2.out.below hbA)
  have HB3:=Qh (Below.next HB2.out hbA)
  clear hbA hb3 hNums hbn hHeld HE2 HB2 HNm HL hlw hhg c0 c1 c2 c3 c4 c5 c6 c7 c8 c9
  obtain⟨bl,hbl⟩: ∃ bl,bl=w2.heap.size:=⟨_,rfl⟩
  rw [←hbl] at HLow HHigh ⊢
  clear hbl hsz2
  go_wp2_with fail
 rotate_left
 all_goals
  go_loopw [8] (fun t wr=> ∃ k:Nat,1≤k∧k≤11∧t= .int .i64 k∧Hid (∀ j,1≤j→j<k→ ¬ Jt v e j)∧Below w3.heap.size w3 wr) (fun t _=>11 - (intOf t).toNat)
  case atStart=>exact⟨1,by omega,by omega,rfl,Qh (fun j h1 h2=>by omega),τ _ _⟩
  case round=>
   obtain⟨k,hk1,hk2,rfl,HT,hb⟩:=hrel
   have HB:=Qh hb
   clear hb
   by_cases hk:k≤10
   ·obtain⟨N,hN⟩: ∃ N,N=(Hv e).getD k 0:=⟨_,rfl⟩
    obtain⟨L,hL⟩: ∃ L,L=(I4 v).getD k 0:=⟨_,rfl⟩
    obtain⟨H,hH⟩: ∃ H,H=(Fp v).getD k 0:=⟨_,rfl⟩
    have hbad:Hid (Jt v e k↔hasOf v<k∧N≠0∨N<L∨H<N):=Qh (by rw [Jt,←hN,←hL,←hH])
    have gN:Hid (∀ W,Below w3.heap.size w3 W→W.cell? ⟨bn,k,none⟩=some (.int .i64 N)):=Qh fun W h=>cell_later h (HNums.out k N (by rw [hN,List.getD_eq_getElem?_getD,Δ (by show k<11;omega)];rfl))
    have gL:Hid (∀ W,Below w3.heap.size w3 W→W.cell? ⟨bl,k,none⟩=some (.int .i64 L)):=Qh fun W h=>cell_later h (HLow.out k L (by rw [hL,List.getD_eq_getElem?_getD,Δ (by show k<11;omega)];rfl))
    have gH:Hid (∀ W,Below w3.heap.size w3 W→W.cell? ⟨bl+1,k,none⟩=some (.int .i64 H)):=Qh fun W h=>cell_later h (HHigh.out k H (by rw [hH,List.getD_eq_getElem?_getD,Δ (by show k<11;omega)];rfl))
    have q1:(0:Int)≤(k:Int):=by omega
    have q2:(k:Int)<11:=by omega
    have hok:Hid (¬ Jt v e k→ ∀ j,1≤j→j<k+1→ ¬ Jt v e j):=Qh fun hb j h1 h2=>by
     by_cases hj:j=k
     ·subst hj;exact hb
     ·exact HT.out j h1 (by omega)
    have h32:Hid (Jt v e k→Af v e=32):=Qh fun hb=>by
     rw [hf.out,γ];intro hfit2;exact(hfit.out.1 hfit2).1 k hk1 hk hb
    clear hN hL hH
    go_wp2_with fail
    refine(HH.out _).mono ?_
    rintro x w4 ⟨rfl,hb4⟩
    have HB4:=Qh (Below.next HB.out hb4)
    have cN:=gN.out w4 HB4.out
    have cL:=gL.out w4 HB4.out
    have cH:=gH.out w4 HB4.out
    clear hb4
    by_cases hA:hasOf v<k∧N≠0
    ·have dA:=ν hA.1
     have dN:(N != 0)=true:=by rw [bne_iff_ne];exact hA.2
     have hfin:=Qh (h32.out (hbad.out.2 (.inl hA)))
     clear hA
     go_wp2
     go_ret
     exact⟨by rw [hfin.out];rfl,Below.next HB3.out HB4.out⟩
    ·have HA:=Qh hA
     by_cases hLt:N<L
     ·have dL:=ν hLt
      have hfin:=Qh (h32.out (hbad.out.2 (.inr (.inl hLt))))
      clear hA hLt
      by_cases hB:hasOf v<k
      ·have dB:=ν hB
       have dN:(N != 0)=false:=by
        rw [bne_eq_false_iff_eq];exact Classical.byContradiction fun h=>HA.out ⟨hB,h⟩
       clear hB
       go_wp2
       go_quiet (fail)
       go_wp2
       go_ret
       exact⟨by rw [hfin.out];rfl,Below.next HB3.out (Below.next HB4.out (below_drewN' _ _))⟩
      ·have dB:=ρ hB
       clear hB
       go_wp2
       go_quiet (fail)
       go_wp2
       go_ret
       exact⟨by rw [hfin.out];rfl,Below.next HB3.out (Below.next HB4.out (below_drewN' _ _))⟩
     ·have dL:=ρ hLt
      by_cases hHt:H<N
      ·have dH:=ν hHt
       have hfin:=Qh (h32.out (hbad.out.2 (.inr (.inr hHt))))
       clear hA hLt hHt
       by_cases hB:hasOf v<k
       ·have dB:=ν hB
        have dN:(N != 0)=false:=by
         rw [bne_eq_false_iff_eq];exact Classical.byContradiction fun h=>HA.out ⟨hB,h⟩
        clear hB
        go_wp2
        go_quiet (fail)
        go_wp2
        go_ret
        exact⟨by rw [hfin.out];rfl,Below.next HB3.out (Below.next HB4.out (below_drewN' _ _))⟩
       ·have dB:=ρ hB
        clear hB
        go_wp2
        go_quiet (fail)
        go_wp2
        go_ret
        exact⟨by rw [hfin.out];rfl,Below.next HB3.out (Below.next HB4.out (below_drewN' _ _))⟩
      ·have dH:=ρ hHt
       have hgo:=Qh (hok.out (fun h=>by
        rcases hbad.out.1 h with h | h | h
        ·exact hA h
        ·exact hLt h
        ·exact hHt h))
       clear hA hLt hHt
       by_cases hB:hasOf v<k
       ·have dB:=ν hB
        have dN:(N != 0)=false:=by
         rw [bne_eq_false_iff_eq];exact Classical.byContradiction fun h=>HA.out ⟨hB,h⟩
        clear hB
        go_wp2
        go_quiet (fail)
        go_wp2
        go_roundw
        case rel=>exact⟨k+1,by omega,by omega,by go_num,hgo,Below.next HB4.out (below_drewN' _ _)⟩
        case measure=>simp [intOf];omega
       ·have dB:=ρ hB
        clear hB
        go_wp2
        go_quiet (fail)
        go_wp2
        go_roundw
        case rel=>exact⟨k+1,by omega,by omega,by go_num,hgo,Below.next HB4.out (below_drewN' _ _)⟩
        case measure=>simp [intOf];omega
   ·obtain rfl:k=11:=by omega
    have hAll:=Qh (show ∀ j,1≤j→j≤10→ ¬ Jt v e j from fun j h1 h2=>HT.out j h1 (by omega))
    have HBw:=Qh (Below.next HB3.out HB.out)
    have HEw:=Qh (HE3.out.below HB.out)
    clear HE3 HB3 HLow HHigh HNums HH HT HB
    by_cases hv4:v<4
    ·have c7:=HEw.out.c7
     have c9:=HEw.out.c9
     have dv4:decide (v<4)=true:=by simp;omega
     have dv5:decide (v<5)=true:=by simp;omega
     by_cases hwho:e.who=[]
     ·by_cases hnote:e.note=[]
      ·have hfin:=Qh (show Af v e=0 by
        rw [hf.out,ζ]
        exact hfit.out.2 ⟨hAll.out,by rintro(⟨_,h⟩ | ⟨_,h⟩);exact h hwho;exact h hnote,by rw [hwho];rfl⟩)
       have kn:(!e.note.isEmpty)=false:=by rw [hnote];rfl
       have kl:e.who.length≤0:=by rw [hwho];exact ξ _
       have kn2:e.note.isEmpty=true:=by rw [hnote];rfl
       have kw2:e.who.isEmpty=true:=by rw [hwho];rfl
       clear hnote
       go_wp2
       refine wp_loop_rounds 1 ?_
       rw [rounds_succ]
       go_wp2
       go_ret
       exact⟨by rw [hfin.out];rfl,HBw.out⟩
      ·have hfin:=Qh (show Af v e=32 by
        rw [hf.out,γ];intro h;exact(hfit.out.1 h).2.1 (.inr ⟨by omega,hnote⟩))
       have kn:(!e.note.isEmpty)=true:=by simpa using hnote
       have kn2:e.note.isEmpty=false:=by simpa using hnote
       clear hnote
       go_wp2
       go_ret
       exact⟨by rw [hfin.out];rfl,HBw.out⟩
     ·have hfin:=Qh (show Af v e=32 by
       rw [hf.out,γ];intro h;exact(hfit.out.1 h).2.1 (.inl ⟨by omega,hwho⟩))
      go_wp2
      go_ret
      exact⟨by rw [hfin.out];rfl,HBw.out⟩
    ·first
     | exfalso;omega
     |have c7:=HEw.out.c7
      have c9:=HEw.out.c9
      have dv4:decide (v<4)=false:=by simp;omega
      by_cases hbad:v<5∧e.note≠ []
      ·have hfin:=Qh (show Af v e=32 by
        rw [hf.out,γ];intro h;exact(hfit.out.1 h).2.1 (.inr hbad))
       have dv5:=ν hbad.1
       have kn:(!e.note.isEmpty)=true:=by simpa using hbad.2
       have kn2:e.note.isEmpty=false:=by simpa using hbad.2
       clear hbad
       go_wp2
       go_ret
       exact⟨by rw [hfin.out];rfl,HBw.out⟩
      ·have hplain:Hid (Af v e=if Er e.who=true then 0 else 32):=Qh (by
        rw [hf.out]
        by_cases hp:Er e.who=true
        ·rw [ζ hp,ζ];exact hfit.out.2 ⟨hAll.out,by rintro(⟨h,_⟩ | h);omega;exact hbad h,hp⟩
        ·rw [γ hp,γ];intro h;exact hp (hfit.out.1 h).2.2)
       by_cases hv5:v<5
       focus
        have dv5:=ν hv5
        have hnote:e.note=[]:=Classical.byContradiction fun h=>hbad ⟨hv5,h⟩
        have kn:(!e.note.isEmpty)=false:=by rw [hnote];rfl
        have kn2:e.note.isEmpty=true:=by rw [hnote];rfl
        clear hnote hbad
        go_wp2
       rotate_left
       focus
        have dv5:=ρ hv5
        clear hbad
        go_wp2
       rotate_left
       all_goals
        go_loopw [9] (fun i w5=> ∃ k:Nat,k≤e.who.length∧i= .int .i64 k∧Hid (Er (e.who.take k)=true)∧Below wr.heap.size wr w5) (fun i _=>e.who.length - (intOf i).toNat)
        case atStart=>exact⟨0,by omega,rfl,Qh rfl,τ _ _⟩
        case round=>
         clear c7 c9
         obtain⟨k,hk,rfl,HP,hb⟩:=hrel
         have HB5:=Qh hb
         have c7:=(HEw.out.below hb).c7
         clear hb
         by_cases hlt:k<e.who.length
         ·obtain⟨x,hx,ht,hmem⟩:=Kc e.who k hlt
          have gx: ∀ hh,(⟨e.who.toArray⟩:ByteArray)[k]'hh=x:=ba_get hx
          have HX:=Qh (show Er (e.who.take (k+1))=I0 x by
           rw [ht];unfold Er;rw [List.all_append];have:=HP.out;unfold Er at this;rw [this];simp)
          have hxl:=x.toNat_lt
          have hno:Hid (I0 x=false→Af v e=32):=Qh fun h=>by
           rw [hplain.out,γ];intro h2
           have:=List.all_eq_true.1 h2 x hmem
           rw [h] at this;cases this
          clear hx ht hmem
          have hpc:Hid (I0 x=true↔x.toNat=45∨(48≤x.toNat∧x.toNat≤57)∨(97≤x.toNat∧x.toNat≤122)):=Qh (by
           simp only [I0,Bool.or_eq_true,Bool.and_eq_true,beq_iff_eq,decide_eq_true_eq];omega)
          by_cases hp:I0 x=true
          ·have hpa:=hpc.out.1 hp
           have HP2:=Qh (HX.out.trans hp)
           clear hp
           by_cases h45:x.toNat=45
           ·have k45:((x.toNat:Int)==45)=true:=by rw [beq_iff_eq];omega
            clear hpa h45
            go_wp2
            go_roundw
            case rel=>exact⟨k+1,by omega,by go_num,HP2,HB5.out⟩
            case measure=>simp [intOf];omega
           ·have k45:((x.toNat:Int)==45)=false:=by rw [beq_eq_false_iff_ne];omega
            by_cases h57:x.toNat≤57
            ·have hr:48≤x.toNat:=by omega
             have t48:decide ((48:Int)≤x.toNat)=true:=by simp;omega
             have t57:decide ((x.toNat:Int)≤57)=true:=by simp;omega
             have t97:decide ((97:Int)≤x.toNat)=false:=by simp;omega
             have t122:decide ((x.toNat:Int)≤122)=true:=by simp;omega
             clear hpa h45 h57 hr
             go_wp2
             go_roundw
             case rel=>exact⟨k+1,by omega,by go_num,HP2,HB5.out⟩
             case measure=>simp [intOf];omega
            ·have hr:97≤x.toNat∧x.toNat≤122:=by omega
             have t48:decide ((48:Int)≤x.toNat)=true:=by simp;omega
             have t57:decide ((x.toNat:Int)≤57)=false:=by simp;omega
             have t97:decide ((97:Int)≤x.toNat)=true:=by simp;omega
             have t122:decide ((x.toNat:Int)≤122)=true:=by simp;omega
             clear hpa h45 h57 hr
             go_wp2
             go_roundw
             case rel=>exact⟨k+1,by omega,by go_num,HP2,HB5.out⟩
             case measure=>simp [intOf];omega
          ·have hpa: ¬ (x.toNat=45∨(48≤x.toNat∧x.toNat≤57)∨(97≤x.toNat∧x.toNat≤122)):=fun h=>hp (hpc.out.2 h)
           have hfin:=Qh (hno.out (by simpa using hp))
           have k45:((x.toNat:Int)==45)=false:=by rw [beq_eq_false_iff_ne];omega
           clear hp
           by_cases h48:x.toNat<48
           ·have hr:x.toNat<48:=h48
            have t48:decide ((48:Int)≤x.toNat)=false:=by simp;omega
            have t57:decide ((x.toNat:Int)≤57)=true:=by simp;omega
            have t97:decide ((97:Int)≤x.toNat)=false:=by simp;omega
            have t122:decide ((x.toNat:Int)≤122)=true:=by simp;omega
            clear hpa h48 hr
            go_wp2
            go_ret
            exact⟨by rw [hfin.out];rfl,Below.next HBw.out HB5.out⟩
           ·by_cases h97:x.toNat<97
            ·have hr:57<x.toNat:=by omega
             have t48:decide ((48:Int)≤x.toNat)=true:=by simp;omega
             have t57:decide ((x.toNat:Int)≤57)=false:=by simp;omega
             have t97:decide ((97:Int)≤x.toNat)=false:=by simp;omega
             have t122:decide ((x.toNat:Int)≤122)=true:=by simp;omega
             clear hpa h48 h97 hr
             go_wp2
             go_ret
             exact⟨by rw [hfin.out];rfl,Below.next HBw.out HB5.out⟩
            ·have hr:122<x.toNat:=by omega
             have t48:decide ((48:Int)≤x.toNat)=true:=by simp;omega
             have t57:decide ((x.toNat:Int)≤57)=false:=by simp;omega
             have t97:decide ((97:Int)≤x.toNat)=true:=by simp;omega
             have t122:decide ((x.toNat:Int)≤122)=false:=by simp;omega
             clear hpa h48 h97 hr
             go_wp2
             go_ret
             exact⟨by rw [hfin.out];rfl,Below.next HBw.out HB5.out⟩
         ·obtain rfl:k=e.who.length:=by omega
          have hfin:=Qh (show Af v e=0 by rw [hplain.out,ζ];simpa using HP.out)
          go_wp2
          go_ret
          exact⟨by rw [hfin.out];rfl,Below.next HBw.out HB5.out⟩
theorem refCheckB_any (v:Int) (e:Ev) (w:World) (hok:I3 281474976710656 e):Calls Tryz.prog 20 #[.int .i64 v,Dx e] w (Fe (Af v e) w):=by
 by_cases h1:v<1∨5<v
 ·exact refCheck_version v e w h1
 ·by_cases h2:e.kind<1∨Bz v<e.kind
  ·exact refCheck_kind v e w (by omega) (by omega) h2
  ·by_cases h3:16<e.who.length∨120<e.note.length
   ·exact refCheck_long v e w ⟨hok.who,hok.note⟩ (by omega) (by omega) (by omega) (by omega) h3
   ·exact refCheck_rest v e w (by omega) (by omega) (by omega) (by omega) (by omega) (by omega)
theorem brow_one {w:World} {v:Value} {l:List UInt8} (h:A2 w v l):v.oneCell'=true:=by
 obtain⟨oa,cap,rfl,_⟩:=h
 rfl
theorem oppCs_all (o:OpS) {rv:Value} (h:rv.oneCell'=true):(Du o rv).all (·.oneCell')=true:=
 Array.all_eq_true_iff_forall_mem.2 (by
  intro u hu
  simp only [Du,List.mem_toArray,Γ,List.not_mem_nil,or_false] at hu
  rcases hu with rfl | rfl | rfl | rfl | rfl | rfl | rfl | rfl | rfl | rfl | rfl | rfl | rfl | rfl | rfl | rfl
  all_goals first
  | rfl
  | exact h)
def oppNone:OpS:=⟨0,0,evNone,[],0,0,0⟩
def OppBlk (w:World) (g:Nat) (o:OpS) (rv:Value):Prop:=w.heap[g]? =some (.cells (Du o rv) 41 (0,0))
theorem wpList_load_opp {ops:Array Oper} {rest:List Oper} {q:Oper} {a:Act} {w:World} {Q:Exit→Act→World→Prop} (hgd:q.guard=none) (x:Operand) (ho:q.op= .load 41 x)
  (b off:Nat) (o:OpS) (rv:Value) (hx:a.eval x= .pointer (some ⟨b,off,none⟩)) (hE:w.rangeAt b off (Du o rv).toList)
  (h:wpList Tryz.prog ops Q rest (a.put q.dst (.agg (Du o rv))) w):wpList Tryz.prog ops Q (q::rest) a w:=
 wpList_load_mid hgd 41 x ho b off hx (Du o rv).toList _ hE Tryz.underlying41 rfl (by rw [oppInfo];rfl) h
theorem wpList_store_opp {ops:Array Oper} {rest:List Oper} {q:Oper} {a:Act} {w:World} {Q:Exit→Act→World→Prop} (hgd:q.guard=none) (x y:Operand) (ho:q.op= .store 41 x y)
  (g:Nat) (o o':OpS) (rv rv':Value) (hr:rv'.oneCell'=true) (hx:a.eval x= .pointer (some ⟨g,0,none⟩)) (hy:a.eval y= .agg (Du o' rv')) (hE:OppBlk w g o rv)
  (h: ∀ W,Hid (OppBlk W g o' rv'∧Turned (fun k=>k=g) w W)→wpList Tryz.prog ops Q rest (a.put q.dst undef) W):wpList Tryz.prog ops Q (q::rest) a w:=
 wpList_store_row hgd 41 x y ho g (Du o' rv') hx hy 41 (Du o rv) hE (by rw [oppInfo];rfl) rfl (oppCs_all o' hr) (h _ (Qh ⟨setRow_heap w g _ _ _ _ hE,setRow_trn _ _ _⟩))
section
variable {P : Nat → Prop} {w w0 w' : World} {f m b : Nat} {L : List Ad} {d d' : Ab} {s s' : Cb} {mv sv : Value} {E E' : List (List UInt8)} {k k' : Nat}
theorem atImage (h:Jm P w f m b d s E k):Calls Tryz.prog 19 #[.pointer (some ⟨f,0,none⟩)] w fun e w'=> ∃ v,e= .returned v∧FilesIn (fun i=>w.heap.size≤i) w' v d.files∧Below w.heap.size w w':=by
 obtain⟨L,mv,sv,h1,h2,h3,h4⟩:=h
 exact fsImage_any w f m d L h1.fs
theorem Jm.lens (h:Jm P w f m b d s E k): ∀ x∈d.files,x.data.length≤140737488355328:=by
 obtain⟨L,mv,sv,h1,h2,h3,h4⟩:=h
 intro x hx
 have a1:=h1.fs.ok.used
 have a2:=h1.fs.ok.room
 have a3:=Eb hx
 omega
theorem AppR.err {raw:List UInt8} {r:Int×Int} (h:AppR d s E raw r d' s' E') (hl:Lim d s E k) (hk:k≤200):(r.2=0∧r.1=(E.length:Int)+1∧E'.length=E.length+1)∨(r.2≠0∧(r.2=54∨r.2=90)∧r.1=0∧E'=E∧d'.files=d.files):=by
 have h1:=hl.next
 have h2:=hl.gen
 have h3:=hl.ok.last
 have h4:=hl.len
 have h5:=(hl.sb (by omega)).segEv
 rcases h.2 with⟨a1,a2,a3,_,a5,a6⟩ | ⟨a1,a2⟩
 ·refine .inr ⟨a2,?_,a1,a3,a5⟩
  rcases a6 with⟨_,a6⟩ | ⟨a6,_⟩ | ⟨a6,a7⟩
  ·omega
  ·exact .inl a6
  ·unfold Cv at a6
   rw [γ (by omega)] at a6
   split at a6
   ·exact .inr a6
   ·rw [γ (by omega)] at a6
    split at a6
    ·exact .inl a6
    ·exact absurd a6 a2
 ·exact .inl ⟨by rw [a1],by rw [a1],by rw [a2,η];rfl⟩
theorem stoOpen_fail (stride segEv:Nat) (er:Int) (d1:Ab) (w:World) (f m:Nat) (d:Ab) (L:List Ad) (h:FsAt w f m d L) (hn:NibTab w) (hg:4≤w.heap.size∧ ∀ k,k<4→ ¬ foot f m L k) (hst:d.steps≤1152921504606846976) (h0:(loadM d).1.1.snap≤0)
  (hc1:1≤stride∧stride≤64) (hc2:1≤segEv∧segEv≤512) (hrun:runR d=((planZ,er),d1)) (he:er≠0):
  Calls Tryz.prog 9 #[.pointer (some ⟨f,0,none⟩),.agg #[.int .i64 (stride:Int),.int .i64 (segEv:Int)]] w fun x w'=>x= .returned (.tuple #[.pointer none,.int .i64 er])∧ ∃ L',FsAt w' f m d1 L'∧Turned (foot f m L) w w':=by
 have HB0:=Qh (below_alloc w (.cells #[.int .i64 (stride:Int),.int .i64 (segEv:Int)] 24))
 have HC0:=Qh (show (w.alloc (.cells #[.int .i64 (stride:Int),.int .i64 (segEv:Int)] 24)).heap[w.heap.size]? =some (.cells (Kh stride segEv) 24 (0,0)) from σ w _)
 have HRU:=Qh (by have:=run_bookless _ f m d L (h.below HB0.out) (hn.below HB0.out) (hg.2 _ (by decide)) hst h0;rw [hrun] at this;exact this)
 have HER:=Qh he
 have q0:(er==0)=false:=by simpa using he
 have q1:decide ((stride:Int)<1)=false:=ρ (by omega)
 have q2:decide (64<(stride:Int))=false:=ρ (by omega)
 have q3:decide ((segEv:Int)<1)=false:=ρ (by omega)
 have q4:decide (512<(segEv:Int))=false:=ρ (by omega)
 have a0:(w.alloc (.cells #[.int .i64 (stride:Int),.int .i64 (segEv:Int)] 24)).cell? ⟨w.heap.size,0,none⟩=some (.int .i64 (stride:Int)):=cell_of_row _ _ 0 _ _ _ HC0.out
 have a1:(w.alloc (.cells #[.int .i64 (stride:Int),.int .i64 (segEv:Int)] 24)).cell? ⟨w.heap.size,1,none⟩=some (.int .i64 (segEv:Int)):=cell_of_row _ _ 1 _ _ _ HC0.out
 unfold RunQ at HRU
 dsimp only at HRU
 clear h hn hg hst h0 hc1 hc2 hrun he HC0
 go_enter Tryz.func9,Tryz.ntmps9
 go_wp2_with fail
 clear a0 a1
 generalize w.alloc (.cells #[.int .i64 (stride:Int),.int .i64 (segEv:Int)] 24)=w0 at*
 refine HRU.out.mono ?_
 rintro e w1 ⟨sv,rv,L',rfl,hsg,hst1,hone,hrone,hf1,ht1,hl1⟩
 obtain⟨osv,csv,rfl,_,_,_⟩:=hsg
 obtain⟨orv,crv,rfl,_,_,_⟩:=hst1
 have HBA:=Qh (fun v=>below_alloc w1 v)
 have HF1:=Qh hf1
 have HT1:=Qh (show Turned (foot f m L) w w1 from(Turned.below HB0.out).trans ht1 fun k hk=> .inl hk)
 clear hf1 ht1 hl1 HRU HB0
 go_wp2
 go_ret2
 exact⟨rfl,L',HF1.out.below (HBA.out _),HT1.out.trans (Turned.below (S:=fun _=>False) (HBA.out _)) fun _ h=>h.elim⟩
theorem newR_small {room:Int} (hr:(Ht room).room<51): ∃ n,runR (Ht room)=((planZ,54),rdD (Ht room) n):=by
 have h:(Ay (Ht room)).1.2=54:=by
  rw [planD_on (newD_ok room) rfl]
  show (newB (Ht room).room []).2=54
  unfold newB
  rw [ζ (by simp [Ew,usedF];omega)]
 exact⟨_,by rw [runR_bad (by rw [h];decide),h]⟩
end
theorem storeRefuses_walk0 (room:Int) (ops:List OpS) (sv:Value) (a c:Int) (w:World) (hs:OpRow w sv ops) (hn:NibTab w) (ht:Bo w) (hg:4≤w.heap.size):
  Calls Tryz.prog 5 #[.int .i64 room,sv,.agg #[.int .i64 a,.int .i64 c]] w fun x w'=>x= .returned (.bool true)∧Below w.heap.size w w':=by
 obtain⟨oa,cap,rfl,hln,hrow⟩:=hs
 have HB0:=Qh (below_alloc w (.cells #[.int .i64 a,.int .i64 c] 24))
 have HC0:=Qh (show (w.alloc (.cells #[.int .i64 a,.int .i64 c] 24)).heap[w.heap.size]? =some (.cells #[.int .i64 a,.int .i64 c] 24 (0,0)) from σ w _)
 have HN:=Qh hn
 have HT:=Qh ht
 have HG:=Qh hg
 have HLN:=Qh hln
 have HROW:=Qh hrow
 clear hn ht hg hln hrow
 go_enter Tryz.func5,Tryz.ntmps5
 go_wp2_with fail
 generalize w.alloc (.cells #[.int .i64 a,.int .i64 c] 24)=w0 at*
 refine(head19_any w0 (HN.out.below HB0.out) (HT.out.below HB0.out) (μ HG.out HB0.out.size)).mono ?_
 rintro x w1 ⟨rfl,hb1⟩
 have HB1:=Qh (Below.next HB0.out hb1)
 have HC1:=Qh (show w1.heap[w.heap.size]? =some (.cells #[.int .i64 a,.int .i64 c] 24 (0,0)) from(hb1.block _ (δ.1 HC0.out).1).trans HC0.out)
 have a0:w1.cell? ⟨w.heap.size,0,none⟩=some (.int .i64 a):=cell_of_row _ _ 0 _ _ _ HC1.out
 have a1:w1.cell? ⟨w.heap.size,1,none⟩=some (.int .i64 c):=cell_of_row _ _ 1 _ _ _ HC1.out
 clear hb1 HB0 HC0
 go_wp2_with fail
 clear a0 a1
 refine(stRight_any a c w1).mono ?_
 rintro x w2 ⟨rfl,hb2⟩
 have HB2:=Qh (Below.next HB1.out hb2)
 have HC2:=Qh (show w2.heap[w.heap.size]? =some (.cells #[.int .i64 a,.int .i64 c] 24 (0,0)) from(hb2.block _ (δ.1 HC1.out).1).trans HC1.out)
 clear hb2 HB1 HC1
 rcases hr:(decide (1≤a)&&decide (a≤64)&&decide (1≤c)&&decide (c≤512)) with _ | _
 ·go_wp2_with fail
  refine(head19_any w2 (HN.out.below HB2.out) (HT.out.below HB2.out) (μ HG.out HB2.out.size)).mono ?_
  rintro x w3 ⟨rfl,hb3⟩
  have HB3:=Qh (Below.next HB2.out hb3)
  clear hb3
  go_wp2
  go_ret
  exact⟨rfl,HB3.out⟩
 have hrr:=hr
 simp only [Bool.and_eq_true,decide_eq_true_eq] at hrr
 obtain⟨p,rfl⟩: ∃ p:Nat,a=(p:Int):=⟨a.toNat,by omega⟩
 obtain⟨q,rfl⟩: ∃ q:Nat,c=(q:Int):=⟨c.toNat,by omega⟩
 have HP:=Qh (show 1≤p∧p≤64 by omega)
 have HQ:=Qh (show 1≤q∧q≤512 by omega)
 clear hrr
 have hni: ∀ k,k<4→ ¬ w2.heap.size≤k:=fun k hk=>by have:=HG.out;have:=HB2.out.size;omega
 have HNI:=Qh hni
 go_wp2_with fail
 clear hr hni
 refine(fsNew_any room w2).mono ?_
 rintro x w3 ⟨f,m,rfl,hf,h1,h2,hb3⟩
 have HF3:=Qh hf
 have HFM:=Qh (And.intro h1 h2)
 have HB3:=Qh hb3
 have HC3:=Qh (show w3.heap[w.heap.size]? =some (.cells (Kh p q) 24 (0,0)) from(hb3.block _ (δ.1 HC2.out).1).trans HC2.out)
 have HFT:=Qh (show ∀ i,foot f m [] i→w2.heap.size≤i from fun i hi=>by
  rcases hi with rfl | rfl | ⟨x,hx,_⟩
  ·exact h1
  ·exact h2
  ·exact absurd hx List.not_mem_nil)
 clear hf h1 h2 hb3
 by_cases hroom:(Ht room).room<51
 ·obtain⟨n0,hn0⟩:=newR_small hroom
  have HOF:=Qh (stoOpen_fail p q 54 _ w3 f m (Ht room) [] HF3.out (HN.out.below (Below.next HB2.out HB3.out)) ⟨μ HG.out (Below.next HB2.out HB3.out).size,fun k hk hc=>HNI.out k hk (HFT.out k hc)⟩ (by show (0:Int)≤_;decide) (load_new room) HP.out HQ.out hn0 (by decide))
  clear hn0
  go_wp2_with (with_reducible refine wpList_load_cf rfl (.tmp 5) rfl w.heap.size p q rfl HC3.out ?_)
  refine HOF.out.mono ?_
  rintro x w4 ⟨rfl,L4,hf4,ht4⟩
  have HF4:=Qh hf4
  have HB4:=Qh (show Below w.heap.size w w4 from HB2.out.trans ((HB3.out.trans (G8 (ht4.mono HFT.out) HB3.out.size)).mono HB2.out.size))
  clear hf4 ht4 HOF
  go_wp2_with fail
  refine(used_any w4 f m _ L4 HF4.out).mono ?_
  rintro x w5 ⟨rfl,rfl⟩
  go_wp2
  go_ret
  exact⟨rfl,HB4.out⟩
 have HOP:=Qh (atNew (P:=fun i=>w2.heap.size≤i) (stride:=p) (segEv:=q) HF3.out (fun i hi=>μ HB3.out.size hi) HFM.out (HN.out.below (Below.next HB2.out HB3.out)) ⟨μ HG.out (Below.next HB2.out HB3.out).size,HNI.out⟩ (by omega) HP.out HQ.out)
 clear hroom
 go_wp2_with (with_reducible refine wpList_load_cf rfl (.tmp 5) rfl w.heap.size p q rfl HC3.out ?_)
 refine HOP.out.mono ?_
 rintro x w4 ⟨b,d,rfl,ho,_,_⟩
 have HI0:=Qh (show Jm (fun i=>w2.heap.size≤i) w4 f m b d ⟨0,22,[],p,q,firstM,false,0⟩ [] 0∧Below w2.heap.size w2 w4 from⟨ho.1,HB3.out.trans (G8 ho.2 HB3.out.size)⟩)
 clear ho HOP HF3 HFM HC3 HFT HB3
 go_wp2
 go_loopw [6,9,10,12,13,14,64,94,104,108] (fun _ _ iv _ _ _ _ _ _ _ wr=> ∃ (i:Nat) (d:Ab) (s:Cb) (E:List (List UInt8)),i≤ops.length∧i≤60∧iv= .int .i64 (i:Int)∧Hid (Jm (fun i=>w2.heap.size≤i) wr f m b d s E (2*i)∧Below w2.heap.size w2 wr)) (fun _ _ iv _ _ _ _ _ _ _ _=>61 - (intOf iv).toNat)
 case atStart=>exact⟨0,d,_,_,θ _,by decide,rfl,HI0⟩
 case round=>
  obtain⟨i,d,s,E,hi1,hi2,rfl,HI⟩:=hrel
  clear HI0
  have HBR:=Qh (HB2.out.trans (HI.out.2.mono HB2.out.size))
  by_cases hgo:i<ops.length∧i<60
  ·have q1:(i:Int)<(ops.length:Int):=by omega
   have q2:(i:Int)<60:=by omega
   have hw1:IntKind.i64.wrap ((i:Int)+1)=(i:Int)+1:=by rw [κ];omega
   obtain⟨o,ho⟩: ∃ o,ops[i]? =some o:=⟨_,Δ hgo.1⟩
   obtain⟨hok,ob,off,rv,rfl,hrg,hrv⟩:=HROW.out i o ho
   have HOK:=Qh hok
   have HRW:=Qh (Ax hrg HBR.out)
   have HRV:=Qh (hrv.below HBR.out)
   have HONE:=Qh (brow_one hrv)
   have hbz:=below_alloc wr (.cells (Du oppNone (.slice none 0 0)) 41)
   have HZ:=Qh (show OppBlk (wr.alloc (.cells (Du oppNone (.slice none 0 0)) 41)) wr.heap.size oppNone (.slice none 0 0)∧Below wr.heap.size wr (wr.alloc (.cells (Du oppNone (.slice none 0 0)) 41)) from⟨σ wr _,hbz⟩)
   simp only [Du,oppNone,evNone] at HZ
   have HZ1:=Qh (show OppBlk _ wr.heap.size oppNone (.slice none 0 0) from HZ.out.1)
   clear ho hok hrg hrv hbz
   go_wp2_with (first | (with_reducible refine wpList_load_opp rfl (.tmp 56) rfl ob (off+i*16) o rv rfl HRW.out ?_) | (with_reducible refine wpList_store_opp rfl (.tmp 11) (.tmp 57) rfl wr.heap.size oppNone o (.slice none 0 0) rv HONE.out rfl rfl HZ1.out ?_))
   intro W1 hz
   have HW1:=Qh (show OppBlk W1 wr.heap.size o rv∧Below wr.heap.size wr W1 from⟨hz.out.1,turned_blw HZ.out.2 hz.out.2 (fun k hk=>by omega) HZ.out.2.size⟩)
   clear hz HZ HZ1 HRW HONE
   have HA1:=Qh (HI.out.1.below HW1.out.2)
   go_wp2_with fail
   refine(atImage HA1.out).mono ?_
   rintro x w3 ⟨iv,rfl,himg,hb3⟩
   have HB3:=Qh (Below.next HW1.out.2 hb3)
   go_wp2_with fail
   refine(atLast (HI.out.1.below HB3.out) (by omega)).mono ?_
   rintro x w4 ⟨rfl,hb4⟩
   have HB4:=Qh (Below.next HB3.out hb4)
   have HOB:=Qh (show OppBlk w4 wr.heap.size o rv from((Below.next hb3 hb4).block _ (δ.1 HW1.out.1).1).trans HW1.out.1)
   have HA4:=Qh (HI.out.1.narrow HB4.out)
   have HIM:=Qh (show FilesIn (fun k=>wr.heap.size≤k∧k<w4.heap.size) w4 iv d.files from((himg.low.below hb4)).mono fun k hk=>⟨μ HW1.out.2.size hk.1,Nat.lt_of_lt_of_le hk.2 hb4.size⟩)
   have HLT:=Qh (show wr.heap.size<w4.heap.size from Nat.lt_of_lt_of_le (δ.1 HW1.out.1).1 (Below.next hb3 hb4).size)
   have HLI:=Qh HI.out.1.lim
   have c0:w4.cell? ⟨wr.heap.size,0,none⟩=some (.int .i64 o.k):=cell_of_row _ _ 0 _ _ _ HOB.out
   have HLE:=Qh HI.out.1.lim.len
   have hw2:IntKind.i64.wrap ((E.length:Int)+1)=(E.length:Int)+1:=by have:=HI.out.1.lim.len;rw [κ];omega
   clear himg hb3 hb4 HB3 HA1 HW1
   by_cases q0:(o.k==0)=true
   focus
    have qk:decide (o.k<2)=true:=ν (by have:o.k=0:=by simpa using q0
                                       omega)
    have HE:=Qh (op_ev HOB.out)
    have c1:w4.cell? ⟨wr.heap.size,1,none⟩=some (.int .i64 o.v):=cell_of_row _ _ 1 _ _ _ HOB.out
    have HCA:=Qh (atAppend (v:=o.v) (e:=o.e) HA4.out (by omega) HOK.out.ev)
    go_wp2_with (with_reducible refine wpList_load_evAt rfl (.tmp 70) rfl wr.heap.size 2 o.e rfl HE.out ?_)
    clear c0 c1
    refine HCA.out.mono ?_
    rintro x w5 ⟨⟨r1,r2⟩,d1,s1,E1,rfl,ho1,hc1⟩
    have HRS:=Qh (show (r2=0∨r2=54∨r2=90∨r2=Af o.v o.e)∧((r2=0∧(o.k<2→r1=(E.length:Int)+1∧E1.length=E.length+1))∨(r2≠0∧r1=0∧E1.length=E.length∧d1.files=d.files)) from by
     rcases hc1 with⟨h1,h2,h3,h4,h5⟩ | ⟨h1,h2⟩
     ·simp only [Prod.mk.injEq] at h2
      exact⟨.inr (.inr (.inr h2.2)),.inr ⟨by rw [h2.2];exact h1,h2.1,by rw [h3],by rw [h5]⟩⟩
     ·rcases h2.err HLI.out (by omega) with⟨h3,h4,h5⟩ | ⟨h3,h4,h5,h6,h7⟩
      ·exact⟨.inl h3,.inl ⟨h3,fun _=>⟨h4,h5⟩⟩⟩
      ·exact⟨.inr (h4.imp id .inl),.inr ⟨h3,h5,by rw [h6],h7⟩⟩)
    have HO5:=Qh (show Ft (fun i=>w2.heap.size≤i) wr w5 f m b d1 s1 E1 (2*i+2) from(ho1.wide HB4.out).up (by omega))
    have HIM5:=Qh (show FilesIn (fun k=>wr.heap.size≤k∧k<w4.heap.size) w5 iv d.files from HIM.out.turned ho1.2 fun k hk hc=>by have:=hc.2;omega)
    have HOB5:=Qh (show OppBlk w5 wr.heap.size o rv from(ho1.2.block _ HLT.out fun hc=>by have:=hc.2;have:=HLT.out;omega).trans HOB.out)
    clear ho1 hc1 HCA HE HOB HIM HA4
    have HE5:=Qh (op_ev HOB5.out)
    have c1:w5.cell? ⟨wr.heap.size,1,none⟩=some (.int .i64 o.v):=cell_of_row _ _ 1 _ _ _ HOB5.out
    have HCK:=Qh (fun W=>refCheckB_any o.v o.e W HOK.out.ev)
    rcases q5:(r2==0) with _ | _
    rotate_left
    focus
     obtain rfl:r2=0:=eq_of_beq q5
     clear q5
     go_upto_region 26 with fail
    rotate_right
    rcases q6:(r2==54) with _ | _
    rotate_left
    focus
     obtain rfl:r2=54:=eq_of_beq q6
     clear q5 q6
     go_upto_region 26 with fail
    rotate_right
    rcases q7:(r2==90) with _ | _
    rotate_left
    focus
     obtain rfl:r2=90:=eq_of_beq q7
     clear q5 q6 q7
     go_upto_region 26 with fail
    rotate_right
    focus
     obtain⟨cE,hcE⟩: ∃ cE,cE=Af o.v o.e:=⟨_,rfl⟩
     obtain rfl:r2=cE:=by
      rcases HRS.out.1 with h | h | h | h
      ·exact absurd h (by simpa using q5)
      ·exact absurd h (by simpa using q6)
      ·exact absurd h (by simpa using q7)
      ·rw [hcE];exact h
     rw [←hcE] at HCK
     clear hcE
     have p5:(r2 != 0)=true:=by simpa using q5
     have p6:(r2 != 54)=true:=by simpa using q6
     have p7:(r2 != 90)=true:=by simpa using q7
     clear q5 q6 q7
     have e0:w5.cell? ⟨wr.heap.size,2,none⟩=some (.int .i64 o.e.kind):=HE5.out 0 _ rfl
     have e1:w5.cell? ⟨wr.heap.size,3,none⟩=some (.int .i64 o.e.order):=HE5.out 1 _ rfl
     have e2:w5.cell? ⟨wr.heap.size,4,none⟩=some (.int .i64 o.e.item):=HE5.out 2 _ rfl
     have e3:w5.cell? ⟨wr.heap.size,5,none⟩=some (.int .i64 o.e.qty):=HE5.out 3 _ rfl
     have e4:w5.cell? ⟨wr.heap.size,6,none⟩=some (.int .i64 o.e.price):=HE5.out 4 _ rfl
     have e5:w5.cell? ⟨wr.heap.size,7,none⟩=some (.int .i64 o.e.cur):=HE5.out 5 _ rfl
     have e6:w5.cell? ⟨wr.heap.size,8,none⟩=some (.int .i64 o.e.tax):=HE5.out 6 _ rfl
     have e7:w5.cell? ⟨wr.heap.size,9,none⟩=some (.string ⟨o.e.who.toArray⟩):=HE5.out 7 _ rfl
     have e8:w5.cell? ⟨wr.heap.size,10,none⟩=some (.int .i64 o.e.stamp):=HE5.out 8 _ rfl
     have e9:w5.cell? ⟨wr.heap.size,11,none⟩=some (.string ⟨o.e.note.toArray⟩):=HE5.out 9 _ rfl
     go_wp2_with fail
     clear e0 e1 e2 e3 e4 e5 e6 e7 e8 e9 c1
     refine(HCK.out _).mono ?_
     rintro x w6 ⟨rfl,hb6⟩
     replace HO5:=Qh (show Ft (fun i=>w2.heap.size≤i) wr w6 f m b d1 s1 E1 (2*i+2) from⟨HO5.out.1.below hb6,HO5.out.2.trans (Turned.below (S:=fun _=>False) hb6) fun _ h=>h.elim⟩)
     replace HIM5:=Qh (HIM5.out.low.below hb6)
     replace HOB5:=Qh (show OppBlk w6 wr.heap.size o rv from(hb6.block _ (δ.1 HOB5.out).1).trans HOB5.out)
     clear hb6 HE5
     go_upto_region 26 with fail
   rotate_right
   replace q0:(o.k==0)=false:=by simpa using q0
   by_cases q1':(o.k==1)=true
   focus
    have qk:decide (o.k<2)=true:=ν (by have:o.k=1:=by simpa using q1'
                                       omega)
    have c12:w4.cell? ⟨wr.heap.size,12,none⟩=some rv:=cell_of_row _ _ 12 _ _ _ HOB.out
    have q1:(o.k==1)=true:=q1'
    go_wp2_with fail
    clear c0 c12
    refine(copyBytes_any o.raw rv w4 (HRV.out.below HB4.out) HOK.out.raw).mono ?_
    rintro x w6 ⟨v1,rfl,hv1,hb1⟩
    obtain⟨o1,cp1,rfl,_,_⟩:=Ac hv1
    have HB6:=Qh (Below.next HB4.out hb1)
    have HA6:=Qh (HI.out.1.narrow HB6.out)
    have HCA:=Qh (atPut (raw:=o.raw) HA6.out (by omega) ((browIn_own (A:=fun i=>w4.heap.size≤i) hv1 fun i hi=>hi).low.mono fun i hi hc=>by have:=hc.2;have:=hi.1;have:=hi.2;have:=HB4.out.size;omega) (by have:=HOK.out.raw;omega))
    have HIM6:=Qh (HIM.out.below hb1)
    have HOB6:=Qh (show OppBlk w6 wr.heap.size o rv from(hb1.block _ HLT.out).trans HOB.out)
    have HSZ6:=Qh hb1.size
    clear hv1 hb1
    go_wp2_with fail
    refine HCA.out.mono ?_
    rintro x w5 ⟨⟨r1,r2⟩,d1,s1,E1,rfl,ho1,hc1⟩
    have HRS:=Qh (show True∧((r2=0∧(o.k<2→r1=(E.length:Int)+1∧E1.length=E.length+1))∨(r2≠0∧r1=0∧E1.length=E.length∧d1.files=d.files)) from⟨trivial,by
     rcases hc1 with⟨h1,h2,h3,h4,h5⟩ | ⟨h1,h2⟩
     ·simp only [Prod.mk.injEq] at h2
      exact .inr ⟨by rw [h2.2];exact h1,h2.1,by rw [h3],by rw [h5]⟩
     ·rcases h2.err HLI.out (by omega) with⟨h3,h4,h5⟩ | ⟨h3,h4,h5,h6,h7⟩
      ·exact .inl ⟨h3,fun _=>⟨h4,h5⟩⟩
      ·exact .inr ⟨h3,h5,by rw [h6],h7⟩⟩)
    have HO5:=Qh (show Ft (fun i=>w2.heap.size≤i) wr w5 f m b d1 s1 E1 (2*i+2) from(ho1.wide HB6.out).up (by omega))
    have HIM5:=Qh (show FilesIn (fun k=>wr.heap.size≤k∧k<w4.heap.size) w5 iv d.files from HIM6.out.turned ho1.2 fun k hk hc=>by have:=hc.2;have:=HSZ6.out;omega)
    have HOB5:=Qh (show OppBlk w5 wr.heap.size o rv from(ho1.2.block _ (by have:=HLT.out;have:=HSZ6.out;omega) fun hc=>by have:=hc.2;have:=HLT.out;have:=HSZ6.out;omega).trans HOB6.out)
    clear ho1 hc1 HCA HOB HIM HA4 HA6 HIM6 HOB6
    go_upto_region 26 with fail
   rotate_left
   have q1:(o.k==1)=false:=by simpa using q1'
   by_cases q3':(o.k==3)=true
   focus
    have q3:(o.k==3)=true:=q3'
    have qk:decide (o.k<2)=false:=ρ (by have:o.k=3:=by simpa using q3
                                        omega)
    go_wp2_with fail
    clear c0
    refine(atRotate HA4.out (by omega)).mono ?_
    rintro x w5 ⟨r2,d1,s1,rfl,ho1,_,hc1⟩
    obtain⟨r1,hr1⟩: ∃ r1:Int,r1=0:=⟨_,rfl⟩
    obtain⟨E1,hE1⟩: ∃ E1,E1=E:=⟨_,rfl⟩
    have HRS:=Qh (show True∧((r2=0∧(o.k<2→r1=(E.length:Int)+1∧E1.length=E.length+1))∨(r2≠0∧r1=0∧E1.length=E.length∧d1.files=d.files)) from⟨trivial,by
     rcases hc1 with⟨_,h2,_,h4⟩ | h2
     ·exact .inr ⟨h2,hr1,by rw [hE1],h4⟩
     ·exact .inl ⟨h2,fun h=>absurd h (ε qk)⟩⟩)
    rw [←hE1] at ho1
    have HO5:=Qh (show Ft (fun i=>w2.heap.size≤i) wr w5 f m b d1 s1 E1 (2*i+2) from(ho1.wide HB4.out).up (by omega))
    have HIM5:=Qh (show FilesIn (fun k=>wr.heap.size≤k∧k<w4.heap.size) w5 iv d.files from HIM.out.turned ho1.2 fun k hk hc=>by have:=hc.2;omega)
    have HOB5:=Qh (show OppBlk w5 wr.heap.size o rv from(ho1.2.block _ HLT.out fun hc=>by have:=hc.2;have:=HLT.out;omega).trans HOB.out)
    clear ho1 hc1 HOB HIM HA4
    go_upto_region 26 with fail
   rotate_left
   have q3:(o.k==3)=false:=by simpa using q3'
   by_cases q7':(o.k==7)=true
   focus
    have q7:(o.k==7)=true:=q7'
    have qk:decide (o.k<2)=false:=ρ (by have:o.k=7:=by simpa using q7
                                        omega)
    have c13:w4.cell? ⟨wr.heap.size,13,none⟩=some (.int .i64 o.n):=cell_of_row _ _ 13 _ _ _ HOB.out
    go_wp2_with fail
    clear c0 c13
    refine(atRead (from_:=o.n) HA4.out (by omega) (HT.out.below (Below.next HBR.out HB4.out))).mono ?_
    rintro x w5 ⟨v,r2,d1,n,rfl,ho1,hfi,_,hc1⟩
    obtain⟨r1,hr1⟩: ∃ r1:Int,r1=0:=⟨_,rfl⟩
    obtain⟨E1,hE1⟩: ∃ E1,E1=E:=⟨_,rfl⟩
    obtain⟨s1,hs1⟩: ∃ s1:Cb,s1={s with decoded:=n}:=⟨_,rfl⟩
    have HRS:=Qh (show True∧((r2=0∧(o.k<2→r1=(E.length:Int)+1∧E1.length=E.length+1))∨(r2≠0∧r1=0∧E1.length=E.length∧d1.files=d.files)) from⟨trivial,by
     rcases hc1 with⟨h2,_⟩ | ⟨h2,_⟩
     ·exact .inr ⟨by rw [h2];decide,hr1,by rw [hE1],hfi⟩
     ·exact .inl ⟨h2,fun h=>absurd h (ε qk)⟩⟩)
    rw [←hE1,←hs1] at ho1
    have HO5:=Qh (show Ft (fun i=>w2.heap.size≤i) wr w5 f m b d1 s1 E1 (2*i+2) from(ho1.wide HB4.out).up (by omega))
    have HIM5:=Qh (show FilesIn (fun k=>wr.heap.size≤k∧k<w4.heap.size) w5 iv d.files from HIM.out.turned ho1.2 fun k hk hc=>by have:=hc.2;omega)
    have HOB5:=Qh (show OppBlk w5 wr.heap.size o rv from(ho1.2.block _ HLT.out fun hc=>by have:=hc.2;have:=HLT.out;omega).trans HOB.out)
    clear ho1 hc1 hfi HOB HIM HA4
    go_upto_region 26 with fail
   rotate_left
   focus
    have q7:(o.k==7)=false:=by simpa using q7'
    go_wp2
    go_roundw
    case rel=>exact⟨i+1,d,s,E,by omega,by omega,by go_num,Qh ⟨(HI.out.1.below HB4.out).up (by omega),HI.out.2.trans (HB4.out.mono HI.out.2.size)⟩⟩
    case measure=>simp [intOf];omega
   all_goals
    have c0:=(show _=some (Value.int .i64 o.k) from cell_of_row _ _ 0 _ _ _ HOB5.out)
    have HBN:=Qh (show Below w2.heap.size w2 _ from HI.out.2.trans (G8 HO5.out.2 HI.out.2.size))
    rcases HRS.out.2 with⟨hr,hx⟩ | ⟨hx,hy,hz,hw⟩
    ·first
     | exact absurd hr (by decide)
     | exact absurd hr (by simpa using p5)
     | exact absurd hr (by have:=eq_of_beq q6;omega)
     | exact absurd hr (by have:=eq_of_beq q7;omega)
     |try obtain rfl:=hr
      first
      |have h9:=ε qk
       clear h9
       go_wp2
       go_roundw
       case rel=>exact⟨i+1,d1,s1,E1,by omega,by omega,by go_num,Qh ⟨HO5.out.1,HBN.out⟩⟩
       case measure=>simp [intOf];omega
      |obtain⟨hy,hz⟩:=hx (χ qk)
       have hze:(E1.length:Int)=(E.length:Int)+1:=by omega
       go_wp2_with fail
       refine(atLast HO5.out.1 (by omega)).mono ?_
       rintro x w7 ⟨rfl,hb7⟩
       rw [hze]
       have HO7:=Qh (HO5.out.1.below hb7)
       have HB7:=Qh (HBN.out.trans (hb7.mono HBN.out.size))
       clear hb7
       go_wp2
       go_roundw
       case rel=>exact⟨i+1,d1,s1,E1,by omega,by omega,by go_num,Qh ⟨HO7.out,HB7.out⟩⟩
       case measure=>simp [intOf];omega
    ·first
     | exact absurd rfl hx
     | exact absurd (eq_of_beq q5) hx
     |try have qx:(r2==0)=false:=by simpa using hx
      obtain rfl:=hy
      have hze:(E1.length:Int)=(E.length:Int):=by rw [hz]
      have HLN:=Qh HO5.out.1.lens
      go_wp2_with fail
      refine(atImage HO5.out.1).mono ?_
      rintro x w7 ⟨iv2,rfl,himg,hb7⟩
      rw [hw] at himg
      have HSM:=Qh (refSameF_any d.files iv2 iv w7 himg (HIM5.out.below hb7) (by rw [←hw];exact HLN.out))
      have HO7:=Qh (HO5.out.1.below hb7)
      have HB7:=Qh (HBN.out.trans (hb7.mono HBN.out.size))
      clear himg hb7
      go_wp2_with fail
      refine HSM.out.mono ?_
      rintro x w8 ⟨rfl,hb8⟩
      have HO8:=Qh (HO7.out.below hb8)
      have HB8:=Qh (HB7.out.trans (hb8.mono HB7.out.size))
      clear hb8 HSM
      go_wp2_with fail
      refine(atLast HO8.out (by omega)).mono ?_
      rintro x w9 ⟨rfl,hb9⟩
      rw [hze]
      have HO9:=Qh (HO8.out.below hb9)
      have HB9:=Qh (HB8.out.trans (hb9.mono HB8.out.size))
      clear hb9
      go_wp2
      go_roundw
      case rel=>exact⟨i+1,d1,s1,E1,by omega,by omega,by go_num,Qh ⟨HO9.out,HB9.out⟩⟩
      case measure=>simp [intOf];omega
  ·rcases hq1:decide (i<ops.length) with _ | _
   rotate_left
   focus
    have hq2:decide ((i:Int)<60)=false:=ρ (by have:=χ hq1;omega)
   all_goals
    go_wp2
    go_ret
    exact⟨rfl,HBR.out⟩
theorem storeRefuses_walk (a0:Int) (v1:Value) (a1:List OpS) (v2:Value) (a2:Int×Int) (w:World) (_:(Lit.int .i64 a0).wf=true) (h1:RdOps w v1 a1) (h2:RdCfg w v2 a2) (hL:laidMetH Tryz.prog Rows.storeRefusesRow.laid w) (hS:w.ShapedOpen Tryz.prog):
  Calls Tryz.prog 5 #[.int .i64 a0,v1,v2] w fun e w'=>e= .returned (.bool true)∧Below w.heap.size w w':=by
 have hL0:laidMet Tryz.prog Rows.storeRefusesRow.laid w:=hL
 have hn:=nib_of2 rfl hL0
 unfold RdCfg at h2
 subst h2
 exact storeRefuses_walk0 a0 a1 v1 a2.1 a2.2 w h1.row hn (tax_of2 rfl hL0) (glob_of hS)
end Go.Proofs.YtgkdenejkcngnaaGreatDoor
