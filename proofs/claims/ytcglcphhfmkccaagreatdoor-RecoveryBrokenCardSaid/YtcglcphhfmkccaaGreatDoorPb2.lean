import Derived.Maps.OwnSet
import Derived.Deep.AppendSrc
import Derived.Deep.Upon
import Derived.StringKeys
import Derived.StillTailTactics
import Derived.Shelf.Slices.In.SortNone
import Derived.Sort.KeysCollected
import Derived.Sort.OwnSorted
import Derived.Maps.RangeWalk
import Derived.Stop.BytesEq
import Derived.ProofKit
import Derived.OpenShut
import Derived.ShutString
import Derived.SizedLaws
import Derived.Test.YtcglcphhfmkccaaGreatDoorPb1
namespace Go.Proofs.YtcglcphhfmkccaaGreatDoor
open Go.RowKit
open Go.Maps (Keyed string_keyed)
structure Turned (S:Nat→Prop) (w w':World):Prop where
 os:w'.os=w.os
 tape:w'.tape=w.tape
 output:w'.output=w.output
 size:w.heap.size≤w'.heap.size
 block: ∀ k,k<w.heap.size→ ¬ S k→w'.heap[k]? =w.heap[k]?
theorem Turned.refl (S:Nat→Prop) (w:World):Turned S w w:=⟨rfl,rfl,rfl,Nat.le_refl _,fun _ _ _=>rfl⟩
theorem Turned.below {S:Nat→Prop} {w w':World} (h:Below w.heap.size w w'):Turned S w w':=⟨h.os,h.tape,h.output,h.size,fun k hk _=>h.block k hk⟩
theorem Turned.trans {S S':Nat→Prop} {a b c:World} (h:Turned S a b) (k:Turned S' b c) (hs: ∀ i,S' i→S i∨a.heap.size≤i):Turned S a c:=
 ⟨k.os.trans h.os,k.tape.trans h.tape,k.output.trans h.output,Nat.le_trans h.size k.size,fun i hi hn=>(k.block i (Nat.lt_of_lt_of_le hi h.size) fun hS=>by
  rcases hs i hS with h1 | h1
  ·exact hn h1
  ·omega).trans (h.block i hi hn)⟩
theorem Turned.mono {S S':Nat→Prop} {w w':World} (h:Turned S w w') (hs: ∀ i,S i→S' i):Turned S' w w':=⟨h.os,h.tape,h.output,h.size,fun k hk hn=>h.block k hk fun hS=>hn (hs k hS)⟩
theorem Turned.grown {S:Nat→Prop} {w w':World} {row:Option Nat} (h:w.grownBy w' row) (hr: ∀ k,row=some k→S k):Turned S w w':=
 ⟨h.os,h.tape,h.output,h.size,fun k hk hn=>h.block k hk fun e=>hn (hr k e.symm)⟩
theorem Turned.setCell {S:Nat→Prop} (w:World) (a:Addr) (v:Value) (hS:S a.block):Turned S w (w.setCell a v):=
 ⟨rfl,rfl,rfl,by simp [World.setCell],fun k _ hn=>by
  simp only [World.setCell]
  rw [Array.getElem?_modify,if_neg (fun e=>hn (by rw [←e];exact hS))]⟩
theorem Turned.cell {S:Nat→Prop} {w w':World} (h:Turned S w w') {a:Addr} {v:Value} (hc:w.cell? a=some v) (hn: ¬ S a.block):w'.cell? a=some v:=by
 rw [World.cell?_of_block (h.block a.block (by
  unfold World.cell? at hc
  rcases hx:w.heap[a.block]? with _ | x
  ·rw [hx] at hc;simp at hc
  ·exact(Array.getElem?_eq_some_iff.1 hx).1) hn)]
 exact hc
def datBlk:Value→Option Nat
 | .slice (some a) _ cap=>if cap=0 then none else some a.block
 | _=>none
def DatAt (w:World) (v:Value) (l:List UInt8):Prop:=
 (l=[]∧ ∃ ao,v= .slice ao 0 0)∨
 ∃ g cap cur,v= .slice (some ⟨g,0,none⟩) l.length cap∧0<cap∧w.heap[g]? =some (.cells cur 5 (0,0))∧l.length≤cap∧cap≤maxLen∧cap≤cur.size∧cur.toList.take l.length=Lib.byteCells l
theorem DatAt.shape {w:World} {v:Value} {l:List UInt8} (h:DatAt w v l): ∃ ao cap,v= .slice ao l.length cap∧l.length≤cap∧cap≤maxLen:=by
 rcases h with⟨rfl,ao,rfl⟩ | ⟨g,cap,cur,rfl,_,_,h1,h2,_⟩
 ·exact⟨ao,0,rfl,Nat.le_refl _,by decide⟩
 ·exact⟨_,cap,rfl,h1,h2⟩
theorem DatAt.lt {w:World} {v:Value} {l:List UInt8} (h:DatAt w v l) {g:Nat} (hg:datBlk v=some g):g<w.heap.size:=by
 rcases h with⟨rfl,ao,rfl⟩ | ⟨g',cap,cur,rfl,h0,h1,_⟩
 ·cases ao<;>simp [datBlk] at hg
 ·simp only [datBlk,if_neg (show ¬ cap=0 by omega),Option.some.injEq] at hg
  subst hg
  exact(Array.getElem?_eq_some_iff.1 h1).1
theorem DatAt.kept {w w':World} {v:Value} {l:List UInt8} (h:DatAt w v l) (hk: ∀ g,datBlk v=some g→w'.heap[g]? =w.heap[g]?):DatAt w' v l:=by
 rcases h with h | ⟨g,cap,cur,rfl,h0,h1,h2,h3,h4⟩
 ·exact .inl h
 ·exact .inr ⟨g,cap,cur,rfl,h0,by rw [hk g (by simp only [datBlk,if_neg (show ¬ cap=0 by omega)])];exact h1,h2,h3,h4⟩
theorem DatAt.brow {w:World} {v:Value} {l:List UInt8} (h:DatAt w v l):BRow w v l:=by
 rcases h with⟨rfl,ao,rfl⟩ | ⟨g,cap,cur,rfl,h0,h1,h2,h3,h4,h5⟩
 ·exact⟨ao,0,rfl,Nat.le_refl _,fun h=>absurd rfl h⟩
 ·refine⟨_,cap,rfl,h2,fun _=>⟨g,0,rfl,fun i x hi=> ?_⟩⟩
  have hl:=getElem?_lt hi
  have e:cur.toList[i]? =some (.int .u8 (x.toNat:Int)):=by
   rw [←List.getElem?_take_of_lt hl,h5,Lib.byteCells,List.getElem?_map,hi];rfl
  rw [Nat.zero_add]
  simp only [World.cell?,h1]
  simpa using e
theorem datAt_own {w:World} {B:Nat} {v:Value} {l:List UInt8} (h:w.ownsRow B 5 1 v l.length (Lib.byteCells l)):DatAt w v l∧ ∀ g,datBlk v=some g→B≤g:=by
 rcases h.2 with⟨rfl,hn⟩ | ⟨g,cap,cur,rfl,hb,h1,h2,h3,h4,h5⟩
 ·exact⟨.inl ⟨List.length_eq_zero_iff.1 hn,none,rfl⟩,fun g h=>by simp [datBlk] at h⟩
 ·by_cases hc:cap=0
  ·subst hc
   have:l.length=0:=by omega
   exact⟨.inl ⟨List.length_eq_zero_iff.1 this,_,by rw [this]⟩,fun g h=>by simp [datBlk] at h⟩
  ·refine⟨.inr ⟨g,cap,cur,rfl,by omega,h1,h2,h3,by omega,by rw [Nat.mul_one] at h5;exact h5⟩,fun k h=> ?_⟩
   simp only [datBlk,if_neg hc,Option.some.injEq] at h
   omega
theorem datAt_cut {w:World} {v:Value} {l:List UInt8} (h:DatAt w v l) (n:Nat) (hn:n≤l.length): ∃ ao cap,v= .slice ao l.length cap∧DatAt w (.slice ao n n) (l.take n)∧(∀ g,datBlk (.slice ao n n)=some g→datBlk v=some g):=by
 rcases h with⟨rfl,ao,rfl⟩ | ⟨g,cap,cur,rfl,h0,h1,h2,h3,h4,h5⟩
 ·have:n=0:=by simpa using hn
  subst this
  exact⟨ao,0,rfl,.inl ⟨by simp,ao,rfl⟩,fun g h=>h⟩
 ·refine⟨_,cap,rfl,?_,fun k hk=> ?_⟩
  ·by_cases hz:n=0
   ·subst hz
    exact .inl ⟨by simp,_,rfl⟩
   ·have hl:(l.take n).length=n:=by simp;omega
    refine .inr ⟨g,n,cur,by rw [hl],by omega,h1,by omega,by omega,by omega,?_⟩
    rw [hl]
    have:(cur.toList.take l.length).take n=(Lib.byteCells l).take n:=by rw [h5]
    rw [List.take_take,Nat.min_eq_left hn] at this
    rw [this,Lib.byteCells,Lib.byteCells,List.map_take]
  ·by_cases hz:n=0
   ·simp [datBlk,hz] at hk
   ·simp only [datBlk,if_neg hz,Option.some.injEq] at hk
    simp only [datBlk,if_neg (show ¬ cap=0 by omega),hk]
theorem byteCells_append (a b:List UInt8):Lib.byteCells (a++b)=Lib.byteCells a++Lib.byteCells b:=by simp [Lib.byteCells]
theorem byteCells_len (a:List UInt8):(Lib.byteCells a).length=a.length:=by simp [Lib.byteCells]
theorem byteCells_one (a:List UInt8): ∀ u∈Lib.byteCells a,u.oneCell'=true:=fun u hu=>by
 obtain⟨_,_,rfl⟩:=List.mem_map.1 hu
 rfl
theorem src_brow {w:World} {v:Value} {l:List UInt8} (h:BRow w v l):Src Tryz.prog 1 45 v l.length (Lib.byteCells l) w:=by
 obtain⟨oa,cap,rfl,h1,h2⟩:=h
 by_cases hl:l=[]
 ·subst hl
  rcases oa with _ | a
  ·exact Src.ofNil w Tryz.underlying45 cap
  ·exact Src.ofSlice w Tryz.underlying45 a 0 cap [] rfl (fun _ _ h=>by simp at h) (fun _ h=>by cases h)
 ·obtain⟨b,off,rfl,hc⟩:=h2 hl
  refine Src.ofSlice w Tryz.underlying45 ⟨b,off,none⟩ l.length cap (Lib.byteCells l) (by rw [byteCells_len];omega) (fun j u hj=> ?_) (byteCells_one l)
  rw [addr_add]
  rw [Lib.byteCells,List.getElem?_map] at hj
  obtain⟨x,hx,rfl⟩:=Option.map_eq_some_iff.1 hj
  exact hc j x hx
theorem append_dat {w:World} {v x:Value} {l m:List UInt8} (h:DatAt w v l) (hx:BRow w x m) (hl:l.length+m.length≤140737488355328) (ty:TypeId):
  ∃ v' w',(Builtin.append_ #[45,45] ty #[v,x]).run Tryz.prog w= .ok v' w'∧DatAt w' v' (l++m)∧w.grownBy w' (datBlk v)∧(∀ g,datBlk v'=some g→datBlk v=some g∨g=w.heap.size)∧v'.oneCell'=true:=by
 obtain⟨i0,hi,hz0,hz1,hz2⟩:=info_parts infoByteB
 have hs:=src_brow hx
 by_cases hm:m=[]
 ·subst hm
  obtain⟨ao,cap,rfl,hc,_⟩:=h.shape
  exact⟨_,w,run_append_nothing w 45 45 ty 5 i0 Tryz.underlying45 hi ao l.length cap hc x (by rw [hz1];exact hs),by rw [List.append_nil];exact h,⟨rfl,rfl,rfl,Nat.le_refl _,fun _ _ _=>rfl⟩,fun g h=> .inl h,rfl⟩
 have hmp:0<m.length:=List.length_pos_iff.2 hm
 have grow: ∀ (ao:Option Addr) (cap:Nat),v= .slice ao l.length cap→cap<l.length+m.length→(Builtin.firstCells 1 l.length (.slice ao l.length cap)).run Tryz.prog w.drew= .ok (Lib.byteCells l).toArray w.drew→
   ∃ v' w',(Builtin.append_ #[45,45] ty #[v,x]).run Tryz.prog w= .ok v' w'∧DatAt w' v' (l++m)∧w.grownBy w' (datBlk v)∧(∀ g,datBlk v'=some g→datBlk v=some g∨g=w.heap.size)∧v'.oneCell'=true:=by
  rintro ao cap rfl hcap hold
  have hnx:=nextslicecap_le hcap
  refine⟨_,_,run_append_grow_src w 45 45 ty 5 i0 (.int .u8 0) Tryz.underlying45 hi hz0 ao l.length cap (Lib.byteCells l) (by rw [hz1];exact hold) x m.length (Lib.byteCells m) (by rw [hz1];exact hs) hcap (by omega) (by rw [hz2];omega),?_,?_,?_,rfl⟩
  ·have hge:=grownCap_ge w (l.length+m.length) cap 5
   refine .inr ⟨w.heap.size,_,_,by rw [List.length_append],by omega,heap_alloc_new w.drew _,by rw [List.length_append];omega,grownCap_le_maxLen w _ _ _ (by unfold maxLen;omega),?_,?_⟩
   ·simp [Builtin.zeroCells,Value.cells,byteCells_len]
    omega
   ·rw [←byteCells_append]
    simp only [Array.toList_append]
    rw [List.take_append_of_le_length (by rw [byteCells_len];exact Nat.le_refl _)]
    rw [List.take_of_length_le (by rw [byteCells_len];exact Nat.le_refl _)]
  ·exact⟨rfl,rfl,rfl,by simp,fun k hk _=>heap_alloc_old w.drew _ hk⟩
  ·intro g hg
   have hge:=grownCap_ge w (l.length+m.length) cap 5
   simp only [datBlk,if_neg (show ¬ grownCap w (l.length+m.length) cap 5=0 by omega),Option.some.injEq] at hg
   exact .inr hg.symm
 rcases h with⟨rfl,ao,rfl⟩ | ⟨g,cap,cur,rfl,h0,h1,h2,h3,h4,h5⟩
 ·exact grow ao 0 rfl (by simpa using hmp) (by
   cases ao
   ·exact run_firstCells_none w.drew 1 0 0 0
   ·simpa [Lib.byteCells] using run_firstCells_some (P:=Tryz.prog) w.drew 1 0 _ 0 0 [] rfl (fun _ _ h=>by simp at h))
 ·have hcur: ∀ j u,(Lib.byteCells l)[j]? =some u→w.cell? ⟨g,j,none⟩=some u:=fun j u hj=>by
   have hjl:j<l.length:=by have:=getElem?_lt hj;rwa [byteCells_len] at this
   rw [←h5,List.getElem?_take_of_lt hjl] at hj
   simp only [World.cell?,h1]
   simpa using hj
  by_cases hroom:l.length+m.length≤cap
  ·obtain⟨oa,xc,rfl,_,hxc⟩:=hx
   obtain⟨b,off,rfl,hc⟩:=hxc hm
   refine⟨_,_,run_append_room w 45 ty 5 i0 Tryz.underlying45 hi g l.length cap cur h1 ⟨b,off,none⟩ m.length xc (Lib.byteCells m) (by rw [byteCells_len,hz1];omega) (fun j u hj=> ?_) (byteCells_one m) hroom (by rw [byteCells_len,hz1];omega),?_,?_,?_,rfl⟩
   ·rw [addr_add]
    rw [Lib.byteCells,List.getElem?_map] at hj
    obtain⟨y,hy,rfl⟩:=Option.map_eq_some_iff.1 hj
    exact hc j y hy
   ·refine .inr ⟨g,cap,_,by rw [List.length_append],h0,setRow_heap w g _ _ _ _ h1,by rw [List.length_append];exact hroom,h3,?_,?_⟩
    ·simp [hz1,byteCells_len];omega
    ·rw [hz1,Nat.mul_one,h5,byteCells_append]
     simp only [List.length_append]
     rw [List.take_append_of_le_length (by simp [byteCells_len])]
     rw [List.take_of_length_le (by simp [byteCells_len])]
   ·exact⟨rfl,rfl,rfl,by simp [World.setRow],fun k hk hne=>setRow_other _ _ _ _ fun e=>hne (by rw [e];simp only [datBlk,if_neg (show ¬ cap=0 by omega)])⟩
   ·intro k hk
    exact .inl hk
  ·exact grow _ cap rfl (by omega) (by
    exact run_firstCells_some (P:=Tryz.prog) w.drew 1 l.length ⟨g,0,none⟩ l.length cap (Lib.byteCells l) (by rw [byteCells_len];omega) (fun j u hj=>by rw [addr_add,Nat.zero_add];exact hcur j u hj))
end Go.Proofs.YtcglcphhfmkccaaGreatDoor
namespace Go.Proofs.YtcglcphhfmkccaaGreatDoor
open Go.RowKit
open Go.Maps (Keyed string_keyed)
structure Slot where
 fil:Fil
 blk:Nat
 sl:Value
def fils (L:List Slot):List Fil:=L.map (·.fil)
def ents (L:List Slot):List (Lit×DataW Unit):=L.map fun s=>(.string s.fil.name,.lit (.int .u64 (s.blk:Int)))
def slotAt (L:List Slot) (n:List UInt8):Option Slot:=L.find? fun s=>s.fil.name==n
def putS (s:Slot):List Slot→List Slot
 | []=>[s]
 | y::r=>if bytesBefore s.fil.name y.fil.name then s::y::r else y::putS s r
def takeS (n:List UInt8) (L:List Slot):List Slot:=L.filter fun s=> !(s.fil.name==n)
def setS (n:List UInt8) (x:Slot) (L:List Slot):List Slot:=L.map fun s=>if s.fil.name==n then x else s
theorem fils_put (s:Slot): ∀ L:List Slot,fils (putS s L)=putF s.fil (fils L)
 | []=>rfl
 | y::r=>by
  have h:=fils_put s r
  simp only [fils] at h ⊢
  unfold putS
  rw [List.map_cons,putF]
  split
  ·rfl
  ·rw [List.map_cons,h]
theorem fils_take (n:List UInt8): ∀ L:List Slot,fils (takeS n L)=takeF n (fils L)
 | []=>rfl
 | y::r=>by
  have h:=fils_take n r
  simp only [fils,takeS,takeF] at h ⊢
  rw [List.filter_cons,List.map_cons,List.filter_cons]
  split
  ·rw [List.map_cons,h]
  ·exact h
theorem fils_set (n:List UInt8) (x:Slot) (L:List Slot):fils (setS n x L)=setF n (fun _=>x.fil) (fils L):=by
 simp only [fils,setS,setF,List.map_map]
 refine List.map_congr_left fun s _=> ?_
 simp only [Function.comp]
 split<;>rfl
theorem fils_at (n:List UInt8): ∀ L:List Slot,atF (fils L) n=(slotAt L n).map (·.fil)
 | []=>rfl
 | y::r=>by
  have h:=fils_at n r
  simp only [fils,atF,slotAt] at h ⊢
  rw [List.map_cons,List.find?_cons,List.find?_cons]
  cases y.fil.name==n
  ·exact h
  ·rfl
theorem slotAt_mem {L:List Slot} {n:List UInt8} {s:Slot} (h:slotAt L n=some s):s∈L∧s.fil.name=n:=
 ⟨List.mem_of_find?_eq_some h,by have:=List.find?_some h;simpa using this⟩
theorem insert_lt {x y:Lit×DataW Unit} {r:List (Lit×DataW Unit)} (h:x.1.before y.1=true):DataW.insert x (y::r)=x::y::r:=by rw [DataW.insert,if_pos h]
theorem insert_ge {x y:Lit×DataW Unit} {r:List (Lit×DataW Unit)} (h:x.1.before y.1=false):DataW.insert x (y::r)=y::DataW.insert x r:=by rw [DataW.insert,if_neg (by rw [h];exact Bool.false_ne_true)]
def ent (s:Slot):Lit×DataW Unit:=(.string s.fil.name,.lit (.int .u64 (s.blk:Int)))
theorem ents_cons (s:Slot) (L:List Slot):ents (s::L)=ent s::ents L:=rfl
theorem ents_put' (s:Slot): ∀ L:List Slot,DataW.insert (ent s) (ents L)=ents (putS s L)
 | []=>rfl
 | y::r=>by
  have h:=ents_put' s r
  rcases hb:bytesBefore s.fil.name y.fil.name with _ | _
  ·rw [ents_cons,insert_ge (show (ent s).1.before (ent y).1=false from hb),h,←ents_cons]
   rw [show putS s (y::r)=y::putS s r by rw [putS,if_neg (by rw [hb];exact Bool.false_ne_true)]]
  ·rw [ents_cons,insert_lt (show (ent s).1.before (ent y).1=true from hb),←ents_cons,←ents_cons]
   rw [show putS s (y::r)=s::y::r by rw [putS,if_pos hb]]
theorem ents_put (s:Slot) (L:List Slot):DataW.insert (.string s.fil.name,.lit (.int .u64 (s.blk:Int))) (ents L)=ents (putS s L):=ents_put' s L
theorem ents_take (n:List UInt8): ∀ L:List Slot,(ents L).filter (fun p=> !p.1.sameKey (.string n))=ents (takeS n L)
 | []=>rfl
 | y::r=>by
  have h:=ents_take n r
  rcases hb:(!(y.fil.name==n)) with _ | _
  ·rw [ents_cons,List.filter_cons_of_neg (p:=fun p:Lit×DataW Unit=> !p.1.sameKey (.string n)) (a:=ent y) (show ¬ (!(ent y).1.sameKey (.string n))=true from fun e=>by rw [show (!(ent y).1.sameKey (.string n))=(!(y.fil.name==n)) from rfl,hb] at e;cases e),h]
   unfold takeS
   rw [List.filter_cons_of_neg (by rw [hb];exact Bool.false_ne_true)]
  ·rw [ents_cons,List.filter_cons_of_pos (p:=fun p:Lit×DataW Unit=> !p.1.sameKey (.string n)) (a:=ent y) (show (!(ent y).1.sameKey (.string n))=true from hb),h]
   unfold takeS
   rw [List.filter_cons_of_pos (p:=fun s:Slot=> !(s.fil.name==n)) (a:=y) hb]
   rfl
theorem ents_set {n:List UInt8} {x:Slot}: ∀ {L:List Slot},(∀ s∈L,s.fil.name=n→x.fil.name=s.fil.name∧x.blk=s.blk)→ents (setS n x L)=ents L:=by
 intro L h
 simp only [ents,setS,List.map_map]
 refine List.map_congr_left fun s hs=> ?_
 simp only [Function.comp]
 split
 ·rename_i hc
  obtain⟨h1,h2⟩:=h s hs (by simpa using hc)
  rw [h1,h2]
 ·rfl
theorem ents_at (n:List UInt8) (z:DataW Unit): ∀ L:List Slot,(DataW.map (ents L)).atKey (.string n) z=match slotAt L n with | none=>z | some s=> .lit (.int .u64 (s.blk:Int))
 | []=>rfl
 | y::r=>by
  have h:=ents_at n z r
  simp only [ents,slotAt,DataW.atKey] at h ⊢
  rw [List.map_cons,List.find?_cons,List.find?_cons]
  simp only [Lit.sameKey] at h ⊢
  cases y.fil.name==n
  ·exact h
  ·rfl
theorem ents_length (L:List Slot):(ents L).length=L.length:=by simp [ents]
theorem mem_putS {s x:Slot}: ∀ {L:List Slot},x∈putS s L↔x=s∨x∈L
 | []=>by simp [putS]
 | y::r=>by
  unfold putS
  split
  ·simp
  ·simp only [List.mem_cons,mem_putS (L:=r)]
   constructor
   ·rintro(h | h | h)
    ·exact .inr (.inl h)
    ·exact .inl h
    ·exact .inr (.inr h)
   ·rintro(h | h | h)
    ·exact .inr (.inl h)
    ·exact .inl h
    ·exact .inr (.inr h)
theorem putS_perm (s:Slot): ∀ L:List Slot,(putS s L).Perm (s::L)
 | []=>List.Perm.refl _
 | y::r=>by
  unfold putS
  split
  ·exact List.Perm.refl _
  ·exact((putS_perm s r).cons y).trans (List.Perm.swap s y r)
theorem takeS_length (n:List UInt8) (L:List Slot):(takeS n L).length≤L.length:=List.length_filter_le _ _
def ptrElem:Value→Option (DataW Unit×List MemPlace)
 | .pointer none=>some (.nil,[])
 | .pointer (some ⟨g,0,none⟩)=>some (.lit (.int .u64 (g:Int)),[])
 | _=>none
theorem ptrElem_nil {v:Value} {ps:List MemPlace} (h:ptrElem v=some (.nil,ps)):v= .pointer none:=by
 unfold ptrElem at h
 split at h
 ·rfl
 ·simp at h
 ·cases h
theorem ptrElem_at {v:Value} {g:Nat} {ps:List MemPlace} (h:ptrElem v=some (.lit (.int .u64 (g:Int)),ps)):v= .pointer (some ⟨g,0,none⟩):=by
 unfold ptrElem at h
 split at h
 ·simp at h
 ·rename_i g'
  simp at h
  have e:g'=g:=by omega
  rw [e]
 ·cases h
def Far (s t:Slot):Prop:=s.blk≠t.blk∧datBlk s.sl≠some t.blk∧datBlk t.sl≠some s.blk∧ ∀ g,datBlk s.sl=some g→datBlk t.sl≠some g
theorem Far.symm {s t:Slot} (h:Far s t):Far t s:=⟨h.1.symm,h.2.2.1,h.2.1,fun g hg ht=>h.2.2.2 g ht hg⟩
def fileCs (s:Slot):Array Value:= #[s.sl,.int .i64 s.fil.safe]
def SlotAt (w:World) (s:Slot):Prop:=w.heap[s.blk]? =some (.cells (fileCs s) 55 (0,0))∧DatAt w s.sl s.fil.data
theorem SlotAt.lt {w:World} {s:Slot} (h:SlotAt w s):s.blk<w.heap.size:=(Array.getElem?_eq_some_iff.1 h.1).1
theorem SlotAt.kept {w w':World} {s:Slot} (h:SlotAt w s) (h1:w'.heap[s.blk]? =w.heap[s.blk]?) (h2: ∀ g,datBlk s.sl=some g→w'.heap[g]? =w.heap[g]?):SlotAt w' s:=⟨by rw [h1];exact h.1,h.2.kept h2⟩
theorem SlotAt.c0 {w:World} {s:Slot} (h:SlotAt w s):w.cell? ⟨s.blk,0,none⟩=some s.sl:=by simp [World.cell?,h.1,fileCs]
theorem SlotAt.c1 {w:World} {s:Slot} (h:SlotAt w s):w.cell? ⟨s.blk,1,none⟩=some (.int .i64 s.fil.safe):=by simp [World.cell?,h.1,fileCs]
theorem SlotAt.free {w:World} {s:Slot} (h:SlotAt w s) (j:Nat):w.frozen? ⟨s.blk,j,none⟩=false:=by simp [World.frozen?,h.1]
structure Body (w:World) (f m:Nat) (L:List Slot):Prop where
 map:w.ownsMap Tryz.prog 9 ptrElem m L.length (.map (ents L))
 slot: ∀ s∈L,SlotAt w s
 rise:Rise (fils L)
 apart:f≠m∧(∀ s∈L,s.blk≠f∧s.blk≠m∧datBlk s.sl≠some f∧datBlk s.sl≠some m∧datBlk s.sl≠some s.blk)∧L.Pairwise Far
def foot (f m:Nat) (L:List Slot) (k:Nat):Prop:=k=f∨k=m∨ ∃ s∈L,k=s.blk∨datBlk s.sl=some k
theorem Body.lt {w:World} {f m:Nat} {L:List Slot} (h:Body w f m L) (hf:f<w.heap.size): ∀ k,foot f m L k→k<w.heap.size:=by
 rintro k (rfl | rfl | ⟨s,hs,rfl | hk⟩)
 ·exact hf
 ·exact h.map.lt
 ·exact(h.slot s hs).lt
 ·exact(h.slot s hs).2.lt hk
theorem Body.kept {w w':World} {f m:Nat} {L:List Slot} (h:Body w f m L) (hk: ∀ k,k≠f→foot f m L k→w'.heap[k]? =w.heap[k]?):Body w' f m L:=by
 refine⟨?_,fun s hs=> ?_,h.rise,h.apart⟩
 ·obtain⟨es,clock,hb,r⟩:=h.map
  exact⟨es,clock,by rw [hk m h.apart.1.symm (.inr (.inl rfl))];exact hb,r⟩
 ·obtain⟨h1,h2,h3,h4,h5⟩:=h.apart.2.1 s hs
  exact(h.slot s hs).kept (hk _ h1 (.inr (.inr ⟨s,hs,.inl rfl⟩))) fun g hg=>hk g (fun e=>h3 (by rw [←e];exact hg)) (.inr (.inr ⟨s,hs,.inr hg⟩))
theorem Body.below {w w':World} {f m:Nat} {L:List Slot} (h:Body w f m L) (hf:f<w.heap.size) (hb:Below w.heap.size w w'):Body w' f m L:=h.kept fun k _ hk=>hb.block k (h.lt hf k hk)
theorem Body.turned {w w':World} {f m:Nat} {L:List Slot} {S:Nat→Prop} (h:Body w f m L) (hf:f<w.heap.size) (ht:Turned S w w') (hS: ∀ k,k≠f→foot f m L k→ ¬ S k):Body w' f m L:=h.kept fun k hk hfoot=>ht.block k (h.lt hf k hfoot) (hS k hk hfoot)
theorem Body.one {w:World} {f m:Nat} {L:List Slot} (h:Body w f m L) {n:List UInt8} {s t:Slot} (hs:slotAt L n=some s) (ht:t∈L) (hn:t.fil.name=n):t=s:=by
 have hr:=h.rise
 clear h
 induction L with
 | nil=>cases ht
 | cons y r ih=>
  simp only [fils,List.map_cons] at hr
  obtain⟨h1,h2⟩:=List.pairwise_cons.1 hr
  unfold slotAt at hs
  rw [List.find?_cons] at hs
  by_cases hy:y.fil.name=n
  ·rw [show (y.fil.name==n)=true by simpa using hy] at hs
   simp only [Option.some.injEq] at hs
   rcases List.mem_cons.1 ht with rfl | ht
   ·exact hs
   ·exact absurd (hy.trans hn.symm) (bytes_ne (h1 t.fil (List.mem_map.2 ⟨t,ht,rfl⟩)))
  ·rw [show (y.fil.name==n)=false by simpa using hy] at hs
   rcases List.mem_cons.1 ht with rfl | ht
   ·exact absurd hn hy
   ·exact ih hs ht h2
theorem setS_mem {n:List UInt8} {x t:Slot} {L:List Slot} (h:t∈setS n x L):(t=x∧ ∃ s∈L,s.fil.name=n)∨(t∈L∧t.fil.name≠n):=by
 obtain⟨s,hs,rfl⟩:=List.mem_map.1 h
 by_cases hc:s.fil.name=n
 ·rw [show (s.fil.name==n)=true by simpa using hc]
  exact .inl ⟨rfl,s,hs,hc⟩
 ·rw [show (s.fil.name==n)=false by simpa using hc]
  exact .inr ⟨hs,hc⟩
theorem Body.set {w w':World} {f m:Nat} {L:List Slot} {n:List UInt8} {s x:Slot} (h:Body w f m L) (hf:f<w.heap.size) (hs:slotAt L n=some s) (hn:x.fil.name=n) (hb:x.blk=s.blk) (hx:SlotAt w' x)
  (hd: ∀ g,datBlk x.sl=some g→datBlk s.sl=some g∨w.heap.size≤g) (hk: ∀ k,k≠f→k≠s.blk→datBlk s.sl≠some k→k<w.heap.size→w'.heap[k]? =w.heap[k]?):Body w' f m (setS n x L):=by
 obtain⟨hsm,hsn⟩:=slotAt_mem hs
 have hen:ents (setS n x L)=ents L:=ents_set fun t ht hnt=>by
  obtain rfl:=h.one hs ht hnt
  exact⟨hn.trans hnt.symm,hb⟩
 obtain⟨a1,a2,a3⟩:=h.apart
 obtain⟨b1,b2,b3,b4,b5⟩:=a2 s hsm
 have hfar: ∀ t∈L,t.fil.name≠n→Far s t:=fun t ht hnt=>by
  obtain⟨i,hi⟩:=List.getElem?_of_mem ht
  obtain⟨j,hj⟩:=List.getElem?_of_mem hsm
  have hij:i≠j:=fun e=>hnt (by rw [e,hj] at hi;cases hi;exact hsn)
  have hi':=List.getElem?_eq_some_iff.1 hi
  have hj':=List.getElem?_eq_some_iff.1 hj
  rcases Nat.lt_or_gt_of_ne hij with hlt | hlt
  ·have hF:=List.pairwise_iff_getElem.1 a3 i j hi'.1 hj'.1 hlt
   rw [hi'.2,hj'.2] at hF
   exact hF.symm
  ·have hF:=List.pairwise_iff_getElem.1 a3 j i hj'.1 hi'.1 hlt
   rw [hi'.2,hj'.2] at hF
   exact hF
 have hxfar: ∀ t∈L,t.fil.name≠n→Far x t:=fun t ht hnt=>by
  obtain⟨c1,c2,c3,c4⟩:=hfar t ht hnt
  have ht1:=(h.slot t ht).lt
  refine⟨by rw [hb];exact c1,fun e=> ?_,by rw [hb];exact c3,fun g hg e=> ?_⟩
  ·rcases hd _ e with h1 | h1
   ·exact c2 h1
   ·omega
  ·rcases hd _ hg with h1 | h1
   ·exact c4 g h1 e
   ·have:=(h.slot t ht).2.lt e;omega
 have hlen:(setS n x L).length=L.length:=by simp [setS]
 refine⟨?_,fun t ht=> ?_,?_,a1,fun t ht=> ?_,?_⟩
 ·rw [hen,hlen]
  obtain⟨es,clock,hbm,r⟩:=h.map
  exact⟨es,clock,by rw [hk m a1.symm b2.symm b4 h.map.lt];exact hbm,r⟩
 ·rcases setS_mem ht with⟨rfl,_⟩ | ⟨ht,hnt⟩
  ·exact hx
  ·obtain⟨c1,c2,c3,c4⟩:=hfar t ht hnt
   obtain⟨d1,d2,d3,d4,d5⟩:=a2 t ht
   exact(h.slot t ht).kept (hk _ d1 c1.symm (fun e=>c2 e) (h.slot t ht).lt) fun g hg=>hk g (fun e=>d3 (by rw [←e];exact hg)) (fun e=>c3 (by rw [←e];exact hg)) (fun e=>c4 g e hg) ((h.slot t ht).2.lt hg)
 ·rw [fils_set]
  refine rise_set' (n:=n) h.rise fun y hy hyn=> ?_
  show x.fil.name=y.name
  rw [hn];exact hyn
 ·rcases setS_mem ht with⟨rfl,_⟩ | ⟨ht,hnt⟩
  ·rw [hb]
   refine⟨b1,b2,fun e=> ?_,fun e=> ?_,fun e=> ?_⟩
   ·rcases hd _ e with h1 | h1
    ·exact b3 h1
    ·omega
   ·rcases hd _ e with h1 | h1
    ·exact b4 h1
    ·have:=h.map.lt;omega
   ·rcases hd _ e with h1 | h1
    ·exact b5 h1
    ·have:=(h.slot s hsm).lt;omega
  ·exact a2 t ht
 ·unfold setS
  rw [List.pairwise_map]
  have hnames:L.Pairwise fun a b=>a.fil.name≠b.fil.name:=by
   have:=h.rise
   unfold Rise fils at this
   rw [List.pairwise_map] at this
   exact this.imp fun hab=>bytes_ne hab
  refine(a3.and hnames).imp_of_mem fun {a b} ha hb' hab=> ?_
  obtain⟨hF,hne⟩:=hab
  by_cases h1:a.fil.name=n
  ·have h2:b.fil.name≠n:=fun e=>hne (h1.trans e.symm)
   rw [show (a.fil.name==n)=true by simpa using h1,show (b.fil.name==n)=false by simpa using h2]
   exact hxfar b hb' h2
  ·rw [show (a.fil.name==n)=false by simpa using h1]
   by_cases h2:b.fil.name=n
   ·rw [show (b.fil.name==n)=true by simpa using h2]
    exact(hxfar a ha h1).symm
   ·rw [show (b.fil.name==n)=false by simpa using h2]
    exact hF
theorem keyName {n:List UInt8} (hn:n.length≤1000):keyOf Tryz.prog 9 (.string ⟨n.toArray⟩)=some (.string n):=by
 have:=WideMaps.keyOf_string_mk (P:=Tryz.prog) Tryz.underlying9 (s:=⟨n.toArray⟩) (by simp [ByteArray.size,maxLen];omega)
 simpa using this
theorem owns_tight {w:World} {m n:Nat} {es:List (Lit×DataW Unit)} (h:w.ownsMap Tryz.prog 9 ptrElem m n (.map es)):w.ownsMap Tryz.prog 9 ptrElem m es.length (.map es):=by
 obtain⟨e,clock,hb,F,_,hD⟩:=h
 refine⟨e,clock,hb,F,?_,hD⟩
 have:=congrArg (fun d:DataW Unit=>match d with | .map l=>l.length | _=>0) hD
 simp only [length_sorted] at this
 rw [this]
 simp
theorem Body.put {w:World} {f m:Nat} {L:List Slot} {s:Slot} (h:Body w f m L) (hn:s.fil.name.length≤1000) (hL:L.length≤1000000) (hx:SlotAt w s)
  (h1:s.blk≠f∧s.blk≠m∧datBlk s.sl≠some f∧datBlk s.sl≠some m∧datBlk s.sl≠some s.blk) (h2: ∀ t∈takeS s.fil.name L,Far s t):
  ∃ w',(Instr.mapUpdate 50 (.map (some m)) (.string ⟨s.fil.name.toArray⟩) (.pointer (some ⟨s.blk,0,none⟩))).run Tryz.prog w= .ok () w'∧Body w' f m (putS s (takeS s.fil.name L))∧w.grownBy w' (some m):=by
 obtain⟨w',hrun,hown,hturn⟩:=h.map.store (string_keyed Tryz.underlying9) Tryz.underlying50 (by unfold maxLen;omega) (keyName hn) (show ptrElem (.pointer (some ⟨s.blk,0,none⟩))=some (.lit (.int .u64 (s.blk:Int)),[]) from rfl)
 have hg:=hturn.grown
 have hother: ∀ k,k<w.heap.size→k≠m→w'.heap[k]? =w.heap[k]? :=fun k hk hne=>hg.block k hk (by simpa using hne)
 obtain⟨a1,a2,a3⟩:=h.apart
 refine⟨w',hrun,⟨?_,fun t ht=> ?_,?_,a1,fun t ht=> ?_,?_⟩,hg⟩
 ·rw [DataW.put_eq] at hown
  have e:ChangeMaps.putKey (.string s.fil.name) (.lit (.int .u64 (s.blk:Int))) (ents L)=ents (putS s (takeS s.fil.name L)):=by
   unfold ChangeMaps.putKey
   rw [show (ents L).filter (ChangeMaps.notKey (.string s.fil.name))=ents (takeS s.fil.name L) from ents_take _ L]
   exact ents_put s _
  rw [e] at hown
  have:=owns_tight hown
  rwa [ents_length] at this
 ·rcases mem_putS.1 ht with rfl | ht
  ·exact hx.kept (hother _ hx.lt h1.2.1) fun g hg'=>hother g (hx.2.lt hg') fun e=>h1.2.2.2.1 (by rw [←e];exact hg')
  ·have ht':=(List.mem_filter.1 ht).1
   obtain⟨b1,b2,b3,b4,b5⟩:=a2 t ht'
   exact(h.slot t ht').kept (hother _ (h.slot t ht').lt b2) fun g hg'=>hother g ((h.slot t ht').2.lt hg') fun e=>b4 (by rw [←e];exact hg')
 ·rw [fils_put,fils_take]
  refine rise_put (rise_take h.rise) fun x hx'=> ?_
  have:=(List.mem_filter.1 hx').2
  simpa using this
 ·rcases mem_putS.1 ht with rfl | ht
  ·exact h1
  ·exact a2 t (List.mem_filter.1 ht).1
 ·refine((putS_perm s _).symm.pairwise_iff (fun {_ _} hab=>Far.symm hab)).1 ?_
  exact List.pairwise_cons.2 ⟨h2,a3.sublist List.filter_sublist⟩
theorem Body.take {w:World} {f m:Nat} {L:List Slot} {n:List UInt8} (h:Body w f m L) (hn:n.length≤1000) (ty:TypeId):
  ∃ w',(Builtin.delete_ #[50,9] ty #[.map (some m),.string ⟨n.toArray⟩]).run Tryz.prog w= .ok (.tuple #[]) w'∧Body w' f m (takeS n L)∧w.grownBy w' (some m):=by
 obtain⟨w',hrun,hown,hturn⟩:=h.map.drop (string_keyed Tryz.underlying9) Tryz.underlying50 (keyName hn) ty
 have hg:=hturn.grown
 have hother: ∀ k,k<w.heap.size→k≠m→w'.heap[k]? =w.heap[k]? :=fun k hk hne=>hg.block k hk (by simpa using hne)
 obtain⟨a1,a2,a3⟩:=h.apart
 refine⟨w',hrun,⟨?_,fun t ht=> ?_,?_,a1,fun t ht=>a2 t (List.mem_filter.1 ht).1,a3.sublist List.filter_sublist⟩,hg⟩
 ·have e:(DataW.map (ents L)).del (.string n)= .map (ents (takeS n L)):=by
   rw [DataW.del_eq]
   unfold ChangeMaps.delKey
   rw [show (ents L).filter (ChangeMaps.notKey (.string n))=ents (takeS n L) from ents_take _ L]
  rw [e] at hown
  have:=owns_tight hown
  rwa [ents_length] at this
 ·have ht':=(List.mem_filter.1 ht).1
  obtain⟨b1,b2,b3,b4,b5⟩:=a2 t ht'
  exact(h.slot t ht').kept (hother _ (h.slot t ht').lt b2) fun g hg'=>hother g ((h.slot t ht').2.lt hg') fun e=>b4 (by rw [←e];exact hg')
 ·rw [fils_take];exact rise_take h.rise
theorem Body.look {w:World} {f m:Nat} {L:List Slot} {n:List UInt8} (h:Body w f m L) (hn:n.length≤1000):
  (Instr.lookup 50 (.map (some m)) (.string ⟨n.toArray⟩) false).run Tryz.prog w= .ok (match slotAt L n with | none=> .pointer none | some s=> .pointer (some ⟨s.blk,0,none⟩)) w:=by
 obtain⟨v,ps,hrun,hv⟩:=h.map.lookup (string_keyed Tryz.underlying9) Tryz.underlying50 (z:= .pointer none) (by kernel_rfl) (show ptrElem (.pointer none)=some (.nil,[]) from rfl) (keyName hn)
 rw [hrun]
 rw [ents_at] at hv
 rcases hs:slotAt L n with _ | s
 ·rw [hs] at hv
  rw [ptrElem_nil hv]
 ·rw [hs] at hv
  rw [ptrElem_at hv]
structure Hd where
 room:Int
 used:Int
 steps:Int
 reads:Int
 fuse:Int
 down:Bool
def hdCs (m:Nat) (h:Hd):Array Value:= #[.map (some m),.int .i64 h.room,.int .i64 h.used,.int .i64 h.steps,.int .i64 h.reads,.int .i64 h.fuse,.bool h.down]
def HdAt (w:World) (f m:Nat) (h:Hd):Prop:=w.heap[f]? =some (.cells (hdCs m h) 52 (0,0))
theorem HdAt.lt {w:World} {f m:Nat} {h:Hd} (H:HdAt w f m h):f<w.heap.size:=(Array.getElem?_eq_some_iff.1 H).1
theorem HdAt.cell {w:World} {f m:Nat} {h:Hd} (H:HdAt w f m h) (j:Nat):w.cell? ⟨f,j,none⟩=(hdCs m h)[j]? :=by
 unfold HdAt at H;simp [World.cell?,H]
theorem HdAt.free {w:World} {f m:Nat} {h:Hd} (H:HdAt w f m h) (j:Nat):w.frozen? ⟨f,j,none⟩=false:=by unfold HdAt at H;simp [World.frozen?,H]
theorem HdAt.c0 {w:World} {f m:Nat} {h:Hd} (H:HdAt w f m h):w.cell? ⟨f,0,none⟩=some (.map (some m)):=H.cell 0
theorem HdAt.c1 {w:World} {f m:Nat} {h:Hd} (H:HdAt w f m h):w.cell? ⟨f,1,none⟩=some (.int .i64 h.room):=H.cell 1
theorem HdAt.c2 {w:World} {f m:Nat} {h:Hd} (H:HdAt w f m h):w.cell? ⟨f,2,none⟩=some (.int .i64 h.used):=H.cell 2
theorem HdAt.c3 {w:World} {f m:Nat} {h:Hd} (H:HdAt w f m h):w.cell? ⟨f,3,none⟩=some (.int .i64 h.steps):=H.cell 3
theorem HdAt.c4 {w:World} {f m:Nat} {h:Hd} (H:HdAt w f m h):w.cell? ⟨f,4,none⟩=some (.int .i64 h.reads):=H.cell 4
theorem HdAt.c5 {w:World} {f m:Nat} {h:Hd} (H:HdAt w f m h):w.cell? ⟨f,5,none⟩=some (.int .i64 h.fuse):=H.cell 5
theorem HdAt.c6 {w:World} {f m:Nat} {h:Hd} (H:HdAt w f m h):w.cell? ⟨f,6,none⟩=some (.bool h.down):=H.cell 6
theorem HdAt.set {w:World} {f m:Nat} {h h':Hd} (H:HdAt w f m h) (j:Nat) (v:Value) (e:(hdCs m h).setIfInBounds j v=hdCs m h'):HdAt (w.setCell ⟨f,j,none⟩ v) f m h':=by
 unfold HdAt at H ⊢
 rw [←e]
 simp only [World.setCell]
 rw [Array.getElem?_modify]
 simp [H]
theorem HdAt.kept {w w':World} {f m:Nat} {h:Hd} (H:HdAt w f m h) (hk:w'.heap[f]? =w.heap[f]?):HdAt w' f m h:=by unfold HdAt at H ⊢;rw [hk];exact H
theorem HdAt.below {w w':World} {f m:Nat} {h:Hd} (H:HdAt w f m h) (hb:Below w.heap.size w w'):HdAt w' f m h:=H.kept (hb.block f H.lt)
def hdOf (d:Disk):Hd:=⟨d.room,(usedF d.files:Int),d.steps,d.reads,d.fuse,d.down⟩
structure FsAt (w:World) (f m:Nat) (d:Disk) (L:List Slot):Prop where
 hd:HdAt w f m (hdOf d)
 body:Body w f m L
 fil:fils L=d.files
 ok:DiskOk d
theorem FsAt.below {w w':World} {f m:Nat} {d:Disk} {L:List Slot} (h:FsAt w f m d L) (hb:Below w.heap.size w w'):FsAt w' f m d L:=⟨h.hd.below hb,h.body.below h.hd.lt hb,h.fil,h.ok⟩
theorem FsAt.lt {w:World} {f m:Nat} {d:Disk} {L:List Slot} (h:FsAt w f m d L): ∀ k,foot f m L k→k<w.heap.size:=h.body.lt h.hd.lt
end Go.Proofs.YtcglcphhfmkccaaGreatDoor
namespace Go.Proofs.YtcglcphhfmkccaaGreatDoor
open Go.RowKit
def stepHd (h:Hd):Hd:=if h.fuse=1 then {h with fuse:=0,down:=true} else {h with fuse:=if 1<h.fuse then h.fuse - 1 else h.fuse,steps:=h.steps+1}
theorem stepHd_of (d:Disk):stepHd (hdOf d)=hdOf (stepD d):=by
 unfold stepHd stepD hdOf
 by_cases h:d.fuse=1
 ·rw [if_pos h,if_pos h]
 ·rw [if_neg h,if_neg h]
theorem HdAt.otherCell {w:World} {f m:Nat} {h:Hd} (H:HdAt w f m h) {k:Nat} (hn:f≠k) (j:Nat) (v:Value):HdAt (w.setCell ⟨k,j,none⟩ v) f m h:=by
 unfold HdAt at H ⊢
 simp only [World.setCell]
 rw [Array.getElem?_modify]
 simp [H,Ne.symm hn]
theorem step_any (w:World) (f m:Nat) (h:Hd) (H:HdAt w f m h) (h0:0≤h.fuse) (h1:h.fuse≤9223372036854775807) (s0:0≤h.steps) (s1:h.steps<4611686018427387904):
  Calls Tryz.prog 70 #[.pointer (some ⟨f,0,none⟩)] w fun e w'=>e= .returned (.bool (!(decide (h.fuse=1))))∧HdAt w' f m (stepHd h)∧Turned (fun k=>k=f) w w':=by
 have c3:=H.c3
 have c5:=H.c5
 have c6:=H.c6
 have f3:=H.free 3
 have f5:=H.free 5
 have f6:=H.free 6
 have HH:=Lib.hid H
 have hw3:IntKind.i64.wrap (h.steps+1)=h.steps+1:=by rw [IntKind.wrap_i64];omega
 by_cases hf0:h.fuse=0
 ·have t1:decide (0<h.fuse)=false:=by simp;omega
  have HE:=Lib.hid (show stepHd h={h with steps:=h.steps+1} by unfold stepHd;rw [if_neg (by omega),if_neg (by omega)])
  have HD:=Lib.hid (show decide (h.fuse=1)=false by simp;omega)
  clear hf0 h0 h1 H
  go_enter Tryz.func70,Tryz.ntmps70
  go_wp2
  go_ret
  refine⟨by rw [HD.out];rfl,?_,Turned.setCell _ _ _ rfl⟩
  rw [HE.out]
  exact HH.out.set 3 _ rfl
 by_cases hf1:h.fuse=1
 ·have t1:decide (0<h.fuse)=true:=by simp;omega
  have hw5':IntKind.i64.wrap (h.fuse - 1)=0:=by rw [IntKind.wrap_i64];omega
  have HE:=Lib.hid (show stepHd h={h with fuse:=0,down:=true} by unfold stepHd;rw [if_pos hf1])
  have HD:=Lib.hid (show decide (h.fuse=1)=true by simp [hf1])
  clear hf0 h0 h1 H hf1
  go_enter Tryz.func70,Tryz.ntmps70
  go_wp2
  go_ret
  refine⟨by rw [HD.out];rfl,?_,(Turned.setCell (S:=fun k=>k=f) _ ⟨f,5,none⟩ _ rfl).trans (Turned.setCell (S:=fun k=>k=f) _ ⟨f,6,none⟩ _ rfl) fun i h=> .inl h⟩
  rw [HE.out]
  exact(HH.out.set (h':={h with fuse:=0}) 5 _ rfl).set 6 _ rfl
 ·have t1:decide (0<h.fuse)=true:=by simp;omega
  have hw5':IntKind.i64.wrap (h.fuse - 1)=h.fuse - 1:=by rw [IntKind.wrap_i64];omega
  have t2:(h.fuse - 1==0)=false:=by rw [beq_eq_false_iff_ne];omega
  have HE:=Lib.hid (show stepHd h={h with fuse:=h.fuse - 1,steps:=h.steps+1} by unfold stepHd;rw [if_neg hf1,if_pos (by omega)])
  have HD:=Lib.hid (show decide (h.fuse=1)=false by simp [hf1])
  clear hf0 h0 h1 H hf1
  go_enter Tryz.func70,Tryz.ntmps70
  go_wp2
  go_ret
  refine⟨by rw [HD.out];rfl,?_,(Turned.setCell (S:=fun k=>k=f) _ ⟨f,5,none⟩ _ rfl).trans (Turned.setCell (S:=fun k=>k=f) _ ⟨f,3,none⟩ _ rfl) fun i h=> .inl h⟩
  rw [HE.out]
  exact(HH.out.set (h':={h with fuse:=h.fuse - 1}) 5 _ rfl).set 3 _ rfl
theorem right_len {n:List UInt8} (h:rightName n=true):n.length≤1000:=by
 simp only [rightName,Bool.and_eq_true,decide_eq_true_eq] at h
 omega
def openV (L:List Slot) (d:Disk) (n:List UInt8):Value:=if openE d n=0 then (match slotAt L n with | none=> .pointer none | some s=> .pointer (some ⟨s.blk,0,none⟩)) else .pointer none
theorem open_any (w:World) (f m:Nat) (d:Disk) (L:List Slot) (h:FsAt w f m d L) (n:List UInt8):
  Calls Tryz.prog 48 #[.pointer (some ⟨f,0,none⟩),.string ⟨n.toArray⟩] w fun e w'=>e= .returned (.tuple #[openV L d n,.int .i64 (openE d n)])∧w=w':=by
 have c0:=h.hd.c0
 have c6:=h.hd.c6
 have hat:=fils_at n L
 rw [h.fil] at hat
 rcases openE_cases d n with⟨he,hd⟩ | ⟨he,hd,hr⟩ | ⟨he,hd,hr,ha⟩ | ⟨he,hd,hr,x,ha⟩
 ·have HE:=Lib.hid he
  have HV:=Lib.hid (show openV L d n= .pointer none by unfold openV;rw [if_neg (by omega)])
  have c6':w.cell? ⟨f,6,none⟩=some (.bool true):=by rw [c6];show some (Value.bool d.down)=_;rw [hd]
  clear he hd hat c6 h
  go_enter Tryz.func48,Tryz.ntmps48
  go_wp2
  go_ret2
  exact⟨by rw [HV.out,HE.out];rfl,rfl⟩
 ·have HE:=Lib.hid he
  have HV:=Lib.hid (show openV L d n= .pointer none by unfold openV;rw [if_neg (by omega)])
  have c6':w.cell? ⟨f,6,none⟩=some (.bool false):=by rw [c6];show some (Value.bool d.down)=_;rw [hd]
  have HR:=Lib.hid (Right_any n w)
  rw [hr] at HR
  clear he hd hat c6 h hr
  go_enter Tryz.func48,Tryz.ntmps48
  go_wp2_with (go_at_call 14;refine HR.out.mono ?_;rintro e w1 ⟨rfl,rfl⟩)
  go_ret2
  exact⟨by rw [HV.out,HE.out];rfl,rfl⟩
 ·have HE:=Lib.hid he
  have hs:slotAt L n=none:=by rw [ha] at hat;exact(Option.map_eq_none_iff.1 hat.symm)
  have HV:=Lib.hid (show openV L d n= .pointer none by unfold openV;rw [if_neg (by omega)])
  have c6':w.cell? ⟨f,6,none⟩=some (.bool false):=by rw [c6];show some (Value.bool d.down)=_;rw [hd]
  have HR:=Lib.hid (Right_any n w)
  have hlook:=h.body.look (n:=n) (right_len hr)
  rw [hs] at hlook
  simp only at hlook
  rw [hr] at HR
  clear he hd hat c6 h hr ha hs
  go_enter Tryz.func48,Tryz.ntmps48
  go_wp2_with (go_at_call 14;refine HR.out.mono ?_;rintro e w1 ⟨rfl,rfl⟩)
  go_ret2
  exact⟨by rw [HV.out,HE.out];rfl,rfl⟩
 ·have HE:=Lib.hid he
  obtain⟨s,hs⟩: ∃ s,slotAt L n=some s:=by
   rcases hs:slotAt L n with _ | s
   ·rw [hs,ha] at hat;cases hat
   ·exact⟨s,rfl⟩
  have HV:=Lib.hid (show openV L d n= .pointer (some ⟨s.blk,0,none⟩) by unfold openV;rw [if_pos he,hs])
  have c6':w.cell? ⟨f,6,none⟩=some (.bool false):=by rw [c6];show some (Value.bool d.down)=_;rw [hd]
  have HR:=Lib.hid (Right_any n w)
  have hlook:=h.body.look (n:=n) (right_len hr)
  rw [hs] at hlook
  simp only at hlook
  rw [hr] at HR
  clear he hd hat c6 h hr ha hs
  go_enter Tryz.func48,Tryz.ntmps48
  go_wp2_with (go_at_call 14;refine HR.out.mono ?_;rintro e w1 ⟨rfl,rfl⟩)
  go_ret2
  exact⟨by rw [HV.out,HE.out];rfl,rfl⟩
def FsPost (w:World) (f m:Nat) (L:List Slot) (d':Disk) (w':World):Prop:= ∃ L',FsAt w' f m d' L'∧Turned (foot f m L) w w'∧ ∀ k,foot f m L' k→foot f m L k∨w.heap.size≤k
theorem FsPost.same {w:World} {f m:Nat} {L:List Slot} {d:Disk} (h:FsAt w f m d L):FsPost w f m L d w:=⟨L,h,Turned.refl _ _,fun _ h=> .inl h⟩
theorem FsAt.stepped {w w1:World} {f m:Nat} {d:Disk} {L:List Slot} (h:FsAt w f m d L) (h1:HdAt w1 f m (stepHd (hdOf d))) (h2:Turned (fun k=>k=f) w w1):FsAt w1 f m (stepD d) L:=by
 rw [stepHd_of] at h1
 exact⟨h1,h.body.turned h.hd.lt h2 fun k hk _ e=>hk e,by rw [stepD_files];exact h.fil,h.ok.step⟩
theorem foot_f {f m:Nat} {L:List Slot}:foot f m L f:= .inl rfl
theorem FsPost.stepped {w w1:World} {f m:Nat} {d:Disk} {L:List Slot} (h:FsAt w f m d L) (h1:HdAt w1 f m (stepHd (hdOf d))) (h2:Turned (fun k=>k=f) w w1):FsPost w f m L (stepD d) w1:=
 ⟨L,h.stepped h1 h2,h2.mono fun _ hk=> .inl hk,fun _ h=> .inl h⟩
theorem FsPost.then {w w1 w2:World} {f m:Nat} {d':Disk} {L L1:List Slot} (h:FsPost w1 f m L1 d' w2) (ht:Turned (foot f m L) w w1) (hL: ∀ k,foot f m L1 k→foot f m L k∨w.heap.size≤k):FsPost w f m L d' w2:=by
 obtain⟨L',h1,h2,h3⟩:=h
 refine⟨L',h1,ht.trans h2 hL,fun k hk=> ?_⟩
 rcases h3 k hk with h4 | h4
 ·exact hL k h4
 ·exact .inr (Nat.le_trans ht.size h4)
theorem foot_set {f m:Nat} {L:List Slot} {n:List UInt8} {s x:Slot} {N:Nat} (hs:slotAt L n=some s) (hb:x.blk=s.blk) (hd: ∀ g,datBlk x.sl=some g→datBlk s.sl=some g∨N≤g): ∀ k,foot f m (setS n x L) k→foot f m L k∨N≤k:=by
 have hsm:=(slotAt_mem hs).1
 rintro k (rfl | rfl | ⟨t,ht,hk⟩)
 ·exact .inl (.inl rfl)
 ·exact .inl (.inr (.inl rfl))
 ·rcases setS_mem ht with⟨rfl,_⟩ | ⟨ht,_⟩
  ·rcases hk with rfl | hk
   ·exact .inl (.inr (.inr ⟨s,hsm,.inl hb⟩))
   ·rcases hd k hk with h1 | h1
    ·exact .inl (.inr (.inr ⟨s,hsm,.inr h1⟩))
    ·exact .inr h1
  ·exact .inl (.inr (.inr ⟨t,ht,hk⟩))
theorem slot_of {w:World} {f m:Nat} {d:Disk} {L:List Slot} (h:FsAt w f m d L) {n:List UInt8} (he:openE d n=0): ∃ s,slotAt L n=some s∧atF d.files n=some s.fil∧openV L d n= .pointer (some ⟨s.blk,0,none⟩)∧rightName n=true∧s∈L∧s.fil.name=n:=by
 obtain⟨_,hr,x,ha⟩:=openE_zero he
 have hat:=fils_at n L
 rw [h.fil,ha] at hat
 rcases hs:slotAt L n with _ | s
 ·rw [hs] at hat;cases hat
 ·rw [hs] at hat
  simp only [Option.map_some,Option.some.injEq] at hat
  subst hat
  exact⟨s,rfl,ha,by unfold openV;rw [if_pos he,hs],hr,slotAt_mem hs⟩
theorem FsPost.setFile {w w1 w2:World} {f m:Nat} {d1 d2:Disk} {L:List Slot} {n:List UInt8} {s x:Slot} (H1:FsAt w1 f m d1 L) (ht:Turned (foot f m L) w w1) (hs:slotAt L n=some s) (hn:x.fil.name=n) (hb:x.blk=s.blk)
  (ht2:Turned (fun k=>k=f∨k=s.blk∨datBlk s.sl=some k) w1 w2) (hx:SlotAt w2 x) (hd: ∀ g,datBlk x.sl=some g→datBlk s.sl=some g∨w1.heap.size≤g)
  (hh:HdAt w2 f m (hdOf d2)) (hf:d2.files=setF n (fun _=>x.fil) d1.files) (hok:DiskOk d2):FsPost w f m L d2 w2:=by
 have hsm:=(slotAt_mem hs).1
 have hfoot: ∀ k,(k=f∨k=s.blk∨datBlk s.sl=some k)→foot f m L k∨w.heap.size≤k:=by
  rintro k (rfl | rfl | hk)
  ·exact .inl (.inl rfl)
  ·exact .inl (.inr (.inr ⟨s,hsm,.inl rfl⟩))
  ·exact .inl (.inr (.inr ⟨s,hsm,.inr hk⟩))
 refine⟨setS n x L,⟨hh,H1.body.set H1.hd.lt hs hn hb hx hd fun k h1 h2 h3 h4=>ht2.block k h4 (fun hS=>hS.elim h1 fun hS'=>hS'.elim h2 h3),by rw [fils_set,H1.fil,hf],hok⟩,ht.trans ht2 hfoot,fun k hk=> ?_⟩
 rcases foot_set hs hb hd k hk with h1 | h1
 ·exact .inl h1
 ·exact .inr (Nat.le_trans ht.size h1)
theorem SlotAt.putSafe {w:World} {s:Slot} (h:SlotAt w s) (v:Int) (hb:datBlk s.sl≠some s.blk):SlotAt (w.setCell ⟨s.blk,1,none⟩ (.int .i64 v)) ⟨{s.fil with safe:=v},s.blk,s.sl⟩:=by
 refine⟨?_,h.2.kept fun g hg=> ?_⟩
 ·have e:(fileCs s).setIfInBounds 1 (.int .i64 v)=fileCs ⟨{s.fil with safe:=v},s.blk,s.sl⟩:=rfl
  rw [←e]
  simp only [World.setCell]
  rw [Array.getElem?_modify]
  simp [h.1]
 ·simp only [World.setCell]
  rw [Array.getElem?_modify,if_neg (fun e=>hb (by rw [hg,e]))]
theorem dec_fuse {d:Disk} {b:Bool} (h:decide (d.fuse=1)=b):decide ((hdOf d).fuse=1)=b:=h
theorem chg_set {d:Disk} {o:DOp} {x:Fil} (hr:Rise d.files) (ha:atF d.files o.name=some x) (h0:o.k≠0) (h3:o.k≠3) (h4:o.k≠4):chgD d o={d with files:=setF o.name (fun _=>chgF o x) d.files}:=by
 unfold chgD
 rw [if_neg h0,ha]
 simp only [if_neg h4,if_neg h3]
 rw [put_take hr ha]
 have:=(at_name ha).1
 unfold chgF
 split
 ·exact this
 ·split
  ·exact this
  ·split<;>exact this
end Go.Proofs.YtcglcphhfmkccaaGreatDoor

namespace Go.Proofs.YtcglcphhfmkccaaGreatDoor
open Go.RowKit
section
variable {ops : Array Oper} {rest : List Oper} {o : Oper} {a : Act} {Q : Exit → Act → World → Prop}
theorem wpList_fsDel {w:World} {f m:Nat} {L:List Slot} {n:List UInt8} (hg:o.guard=none) (x y:Operand) (hop:o.op=Op.call {callee:=Callee.builtin Builtin.delete,args:= #[x,y],argTypes:= #[50,9]})
  (hx:a.eval x= .map (some m)) (hy:a.eval y= .string ⟨n.toArray⟩) (hB:Body w f m L) (hn:n.length≤1000)
  (hK: ∀ w',Body w' f m (takeS n L)→w.grownBy w' (some m)→wpList Tryz.prog ops Q rest (a.put o.dst (.tuple #[])) w'):wpList Tryz.prog ops Q (o::rest) a w:=by
 refine wpList_plain hg fun K hKK=> ?_
 obtain⟨w',hrun,h1,h2⟩:=hB.take hn o.type
 unfold Oper.wp
 simp [execOp,hop,resolve,invoke,builtin,hx,hy,hrun,Result.andThen]
 exact hKK _ _ (hK w' h1 h2)
theorem wpList_fsPut {w:World} {f m:Nat} {L:List Slot} {s:Slot} {v:Value} (hg:o.guard=none) (x y z:Operand) (hop:o.op=Op.mapUpdate 50 x y z)
  (hx:a.eval x= .map (some m)) (hy:a.eval y= .string ⟨s.fil.name.toArray⟩) (hz:a.eval z=v) (hv:v= .pointer (some ⟨s.blk,0,none⟩)) (hB:Body w f m L) (hn:s.fil.name.length≤1000) (hL:L.length≤1000000) (hs:SlotAt w s)
  (h1:s.blk≠f∧s.blk≠m∧datBlk s.sl≠some f∧datBlk s.sl≠some m∧datBlk s.sl≠some s.blk) (h2: ∀ t∈takeS s.fil.name L,Far s t)
  (hK: ∀ w',Body w' f m (putS s (takeS s.fil.name L))→w.grownBy w' (some m)→wpList Tryz.prog ops Q rest (a.put o.dst undef) w'):wpList Tryz.prog ops Q (o::rest) a w:=by
 subst hv
 refine wpList_plain hg fun K hKK=> ?_
 obtain⟨w',hrun,h3,h4⟩:=hB.put hn hL hs h1 h2
 unfold Oper.wp
 simp [execOp,hop,hx,hy,hz,hrun,Result.andThen]
 exact hKK _ _ (hK w' h3 h4)
end
theorem foot_take {f m:Nat} {L:List Slot} {n:List UInt8}: ∀ k,foot f m (takeS n L) k→foot f m L k:=by
 rintro k (rfl | rfl | ⟨t,ht,hk⟩)
 ·exact .inl rfl
 ·exact .inr (.inl rfl)
 ·exact .inr (.inr ⟨t,(List.mem_filter.1 ht).1,hk⟩)
theorem Body.setHd {w:World} {f m:Nat} {L:List Slot} (h:Body w f m L) (j:Nat) (v:Value):Body (w.setCell ⟨f,j,none⟩ v) f m L:=h.kept fun k hk _=>by
 simp only [World.setCell]
 rw [Array.getElem?_modify,if_neg (fun e=>hk e.symm)]
set_option maxRecDepth 100000 in
set_option maxHeartbeats 1000000 in
theorem remove_any (w:World) (f m:Nat) (d:Disk) (L:List Slot) (h:FsAt w f m d L) (hs:d.steps<4611686018427387904) (n:List UInt8):
  Calls Tryz.prog 42 #[.pointer (some ⟨f,0,none⟩),.string ⟨n.toArray⟩] w fun e w'=>e= .returned (.int .i64 (doD d (opRemove n)).2.2.2)∧FsPost w f m L (doD d (opRemove n)).1 w':=by
 have HO:=Lib.hid (open_any w f m d L h n)
 have HH:=Lib.hid h
 by_cases he:openE d n=0
 case neg=>
  have HE:=Lib.hid (show doD d (opRemove n)=(d,[],0,openE d n) by rw [doD_barred (by simp [opRemove]) (by rw [bar_remove];exact he),bar_remove])
  have t1:(openE d n != 0)=true:=by simpa using he
  generalize openE d n=e0 at*
  clear he h
  go_enter Tryz.func42,Tryz.ntmps42
  go_wp2_with (go_at_call 48;refine HO.out.mono ?_;rintro e w1 ⟨rfl,rfl⟩)
  go_ret
  rw [HE.out]
  exact⟨rfl,FsPost.same HH.out⟩
 obtain⟨s,hs1,ha,hv,hr,hsm,hsn⟩:=slot_of h he
 have HD:=Lib.hid (doD_step (d:=d) (o:=opRemove n) (by simp [opRemove]) (by rw [bar_remove];exact he))
 have HS:=Lib.hid (step_any w f m (hdOf d) h.hd h.ok.fuse.1 h.ok.fuse.2 h.ok.steps hs)
 rw [he,hv] at HO
 by_cases hf:d.fuse=1
 ·have HF:=Lib.hid (dec_fuse (decide_eq_true hf))
  have HE:=Lib.hid (show doD d (opRemove n)=(stepD d,[],0,3) by rw [HD.out,if_pos hf,if_neg (by simp [opRemove]),if_pos hf])
  clear h hs he hs1 ha hv hr hsm hsn hf HD
  go_enter Tryz.func42,Tryz.ntmps42
  go_wp2_with (first | (go_at_call 48;refine HO.out.mono ?_;rintro e w1 ⟨rfl,rfl⟩) | (go_at_call 70;refine HS.out.mono ?_;rw [HF.out];rintro e w1 ⟨rfl,hh,ht⟩))
  go_ret
  rw [HE.out]
  exact⟨rfl,FsPost.stepped HH.out hh ht⟩
 ·have HF:=Lib.hid (dec_fuse (decide_eq_false hf))
  have HE:=Lib.hid (show doD d (opRemove n)=({stepD d with files:=takeF n (stepD d).files},[],0,0) by
   rw [HD.out,if_neg hf,if_neg hf]
   have ha':atF (stepD d).files n=some s.fil:=by rw [stepD_files];exact ha
   simp only [chgD,opRemove,ha']
   rfl)
  have HSL:=Lib.hid (show slotAt L n=some s∧s.fil.name=n∧atF (stepD d).files n=some s.fil∧s∈L∧n.length≤1000 from⟨hs1,hsn,by rw [stepD_files];exact ha,hsm,right_len hr⟩)
  have HUB:=Lib.hid (show 0≤(usedF (stepD d).files:Int) - (s.fil.data.length:Int)∧(usedF (stepD d).files:Int)≤67108864 by
   have:=len_le_used (at_name ha).2
   have:=h.ok.used
   have:=h.ok.room
   rw [stepD_files];omega)
  clear h hs he hs1 ha hv hr hsm hsn hf HD
  go_enter Tryz.func42,Tryz.ntmps42
  go_wp2_with (first | (go_at_call 48;refine HO.out.mono ?_;rintro e w1 ⟨rfl,rfl⟩))
  go_at_call 70
  refine HS.out.mono ?_
  rw [HF.out]
  rintro e w1 ⟨rfl,hh,ht⟩
  have H0:=Lib.hid (HH.out.stepped hh ht)
  have H1:=Lib.hid (show FsAt w1.drew f m (stepD d) L from H0.out.below (below_drewN' w1 1))
  have HT:=Lib.hid (show Turned (foot f m L) w w1.drew from(ht.mono fun _ hk=> .inl hk).trans (Turned.below (below_drewN' w1 1)) fun _ h=> .inl h)
  have hsl:=H0.out.body.slot s HSL.out.2.2.2.1
  obtain⟨ao,cap,hsh,_,_⟩:=hsl.2.shape
  have c0:w1.cell? ⟨s.blk,0,none⟩=some (.slice ao s.fil.data.length cap):=by rw [←hsh];exact hsl.c0
  have c2:w1.cell? ⟨f,2,none⟩=some (.int .i64 (usedF (stepD d).files:Int)):=H0.out.hd.c2
  have f2:=H0.out.hd.free 2
  have hw:IntKind.i64.wrap ((usedF (stepD d).files:Int) - (s.fil.data.length:Int))=(usedF (stepD d).files:Int) - (s.fil.data.length:Int):=by
   have:=HUB.out
   rw [IntKind.wrap_i64];omega
  clear hh ht hsl HS HO
  go_wp2_with fail
  go_still_tail 12,(by kernel_rfl)
  refine wpList_store_cellV rfl 3 (.tmp 30) (.tmp 28) rfl f 2 (.int .i64 ((usedF (stepD d).files:Int) - (s.fil.data.length:Int))) (.int .i64 (usedF (stepD d).files:Int)) (by kernel_rfl) rfl rfl rfl c2 f2 ?_
  intro w2 hw2
  have HB2:=Lib.hid (show HdAt w2 f m {hdOf (stepD d) with used:=(usedF (stepD d).files:Int) - (s.fil.data.length:Int)}∧Body w2 f m L∧Turned (fun k=>k=f) w1.drew w2 by
   rw [hw2.out]
   exact⟨H1.out.hd.set 2 _ rfl,H1.out.body.setHd 2 _,Turned.setCell _ _ _ rfl⟩)
  have k0:=HB2.out.1.c0
  clear hw2 c0 c2 f2 hw
  go_wp2_with (at_delete;refine wpList_fsDel rfl _ _ rfl rfl rfl HB2.out.2.1 HSL.out.2.2.2.2 ?_)
  intro w3 hb3 hg3
  have HB3:=Lib.hid hb3
  have HG3:=Lib.hid hg3
  clear hb3 hg3 k0
  go_wp2
  go_ret
  rw [HE.out]
  have hlt:=HB2.out.1.lt
  have hfm:=H1.out.body.apart.1
  have ht3:Turned (foot f m L) w1.drew w3:=(HB2.out.2.2.mono fun _ hk=> .inl hk).trans (Turned.grown (S:=foot f m L) HG3.out fun k hk=> .inr (.inl (Option.some.inj hk).symm)) fun _ h=> .inl h
  refine⟨rfl,takeS n L,⟨?_,HB3.out,by rw [fils_take,H1.out.fil],H1.out.ok.take n⟩,HT.out.trans ht3 fun _ h=> .inl h,fun k hk=> .inl (foot_take k hk)⟩
  have hu:=usedF_take H1.out.ok.rise HSL.out.2.2.1
  have e:hdOf {stepD d with files:=takeF n (stepD d).files}={hdOf (stepD d) with used:=(usedF (stepD d).files:Int) - (s.fil.data.length:Int)}:=by
   unfold hdOf
   simp only [Hd.mk.injEq,true_and,and_true]
   omega
  rw [e]
  exact HB2.out.1.kept (HG3.out.block f hlt (by simpa using hfm))
end Go.Proofs.YtcglcphhfmkccaaGreatDoor
namespace Go.Proofs.YtcglcphhfmkccaaGreatDoor
open Go.RowKit
section
variable {ops : Array Oper} {rest : List Oper} {o : Oper} {a : Act} {Q : Exit → Act → World → Prop}
theorem wpList_fsLen {w:World} {f m:Nat} {L:List Slot} (hg:o.guard=none) (x:Operand) (hop:o.op=Op.call {callee:=Callee.builtin Builtin.len,args:= #[x],argTypes:= #[50]})
  (hx:a.eval x= .map (some m)) (hB:Body w f m L) (hK:wpList Tryz.prog ops Q rest (a.put o.dst (.int .i64 (L.length:Int))) w):wpList Tryz.prog ops Q (o::rest) a w:=by
 refine wpList_plain hg fun K hKK=> ?_
 have hrun:=hB.map.len (P:=Tryz.prog) Tryz.underlying50 o.type
 have e:Maps.size (DataW.map (ents L))=L.length:=by simp [Maps.size,ents_length]
 rw [e] at hrun
 unfold Oper.wp
 simp [execOp,hop,resolve,invoke,builtin,hx,hrun,Result.andThen]
 exact hKK _ _ hK
end
theorem foot_put {f m:Nat} {L:List Slot} {s:Slot}: ∀ k,foot f m (putS s L) k→foot f m L k∨k=s.blk∨datBlk s.sl=some k:=by
 rintro k (rfl | rfl | ⟨t,ht,hk⟩)
 ·exact .inl (.inl rfl)
 ·exact .inl (.inr (.inl rfl))
 ·rcases mem_putS.1 ht with rfl | ht
  ·exact .inr hk
  ·exact .inl (.inr (.inr ⟨t,ht,hk⟩))
set_option maxRecDepth 100000 in
set_option maxHeartbeats 2000000 in
theorem create_any (w:World) (f m:Nat) (d:Disk) (L:List Slot) (h:FsAt w f m d L) (hs:d.steps<4611686018427387904) (n:List UInt8):
  Calls Tryz.prog 71 #[.pointer (some ⟨f,0,none⟩),.string ⟨n.toArray⟩] w fun e w'=>e= .returned (.int .i64 (doD d (opCreate n)).2.2.2)∧FsPost w f m L (doD d (opCreate n)).1 w':=by
 have HO:=Lib.hid (open_any w f m d L h n)
 have HH:=Lib.hid h
 have c0:=h.hd.c0
 have hLl:L.length=d.files.length:=by rw [←h.fil];simp [fils]
 by_cases he:openE d n=51
 case neg=>
  by_cases h0:openE d n=0
  ·have HE:=Lib.hid (show doD d (opCreate n)=(d,[],0,52) by
    have hb:barD d (opCreate n)=52:=by rw [bar_create,if_pos h0]
    rw [doD_barred (by simp [opCreate]) (by rw [hb];decide),hb])
   rw [h0] at HO
   clear he h h0
   go_enter Tryz.func71,Tryz.ntmps71
   go_wp2_with (go_at_call 48;refine HO.out.mono ?_;rintro e w1 ⟨rfl,rfl⟩)
   go_ret
   rw [HE.out]
   exact⟨rfl,FsPost.same HH.out⟩
  ·have HE:=Lib.hid (show doD d (opCreate n)=(d,[],0,openE d n) by
    have hb:barD d (opCreate n)=openE d n:=by rw [bar_create,if_neg h0,if_pos he]
    rw [doD_barred (by simp [opCreate]) (by rw [hb];exact h0),hb])
   have t1:(openE d n==0)=false:=by simpa using h0
   have t2:(openE d n != 51)=true:=by simpa using he
   generalize openE d n=e0 at*
   clear he h h0
   go_enter Tryz.func71,Tryz.ntmps71
   go_wp2_with (go_at_call 48;refine HO.out.mono ?_;rintro e w1 ⟨rfl,rfl⟩)
   go_ret
   rw [HE.out]
   exact⟨rfl,FsPost.same HH.out⟩
 have hr:d.down=false∧rightName n=true∧atF d.files n=none:=by
  rcases openE_cases d n with⟨h1,_⟩ | ⟨h1,_⟩ | ⟨_,h2,h3,h4⟩ | ⟨h1,_⟩
  ·omega
  ·omega
  ·exact⟨h2,h3,h4⟩
  ·omega
 have hv:openV L d n= .pointer none:=by unfold openV;rw [if_neg (by omega)]
 rw [he,hv] at HO
 by_cases hfull:700≤d.files.length
 case pos=>
  have HE:=Lib.hid (show doD d (opCreate n)=(d,[],0,53) by
   have hb:barD d (opCreate n)=53:=by rw [bar_create,if_neg (by omega),if_neg (by simpa using he),if_pos (by simpa using hfull)]
   rw [doD_barred (by simp [opCreate]) (by rw [hb];decide),hb])
  have t1:decide (700≤(L.length:Int))=true:=by simp;omega
  have t2:700≤L.length:=by omega
  clear he h hr hv hfull
  go_enter Tryz.func71,Tryz.ntmps71
  go_wp2_with (first | (go_at_call 48;refine HO.out.mono ?_;rintro e w1 ⟨rfl,rfl⟩) | (at_len;refine wpList_fsLen rfl _ rfl rfl HH.out.body ?_))
  go_ret
  rw [HE.out]
  exact⟨rfl,FsPost.same HH.out⟩
 have t1:decide (700≤(L.length:Int))=false:=by simp;omega
 have t2: ¬ 700≤L.length:=by omega
 have hb0:barD d (opCreate n)=0:=by rw [bar_create,if_neg (by omega),if_neg (by simpa using he),if_neg (by simpa using hfull)]
 have HD:=Lib.hid (doD_step (d:=d) (o:=opCreate n) (by simp [opCreate]) hb0)
 have HS:=Lib.hid (step_any w f m (hdOf d) h.hd h.ok.fuse.1 h.ok.fuse.2 h.ok.steps hs)
 by_cases hf:d.fuse=1
 ·have HF:=Lib.hid (dec_fuse (decide_eq_true hf))
  have HE:=Lib.hid (show doD d (opCreate n)=(stepD d,[],0,3) by rw [HD.out,if_pos hf,if_neg (by simp [opCreate]),if_pos hf])
  clear h hs he hr hv hf HD hb0 hfull
  go_enter Tryz.func71,Tryz.ntmps71
  go_wp2_with (first | (go_at_call 48;refine HO.out.mono ?_;rintro e w1 ⟨rfl,rfl⟩) | (at_len;refine wpList_fsLen rfl _ rfl rfl HH.out.body ?_) | (go_at_call 70;refine HS.out.mono ?_;rw [HF.out];rintro e w1 ⟨rfl,hh,ht⟩))
  go_ret
  rw [HE.out]
  exact⟨rfl,FsPost.stepped HH.out hh ht⟩
 ·have HF:=Lib.hid (dec_fuse (decide_eq_false hf))
  have HE:=Lib.hid (show doD d (opCreate n)=({stepD d with files:=putF ⟨n,[],0⟩ (stepD d).files},[],0,0) by
   rw [HD.out,if_neg hf,if_neg hf]
   rfl)
  have HR:=Lib.hid (show rightName n=true∧atF (stepD d).files n=none∧(stepD d).files.length<700 by rw [stepD_files];exact⟨hr.2.1,hr.2.2,by omega⟩)
  clear h hs he hr hv hf HD hb0 hfull
  go_enter Tryz.func71,Tryz.ntmps71
  go_wp2_with (first | (go_at_call 48;refine HO.out.mono ?_;rintro e w1 ⟨rfl,rfl⟩) | (at_len;refine wpList_fsLen rfl _ rfl rfl HH.out.body ?_))
  go_at_call 70
  refine HS.out.mono ?_
  rw [HF.out]
  rintro e w1 ⟨rfl,hh,ht⟩
  have H1:=Lib.hid (HH.out.stepped hh ht)
  have HT:=Lib.hid (show Turned (foot f m L) w w1 from ht.mono fun _ hk=> .inl hk)
  have HBL:=Lib.hid (below_alloc w1 (.cells (fileCs ⟨⟨n,[],0⟩,w1.heap.size,.slice none 0 0⟩) 55))
  have H2:=Lib.hid (H1.out.below HBL.out)
  have k0:=H1.out.hd.c0
  have HX:=Lib.hid (show SlotAt (w1.alloc (.cells (fileCs ⟨⟨n,[],0⟩,w1.heap.size,.slice none 0 0⟩) 55)) ⟨⟨n,[],0⟩,w1.heap.size,.slice none 0 0⟩ from⟨heap_alloc_new w1 _,.inl ⟨rfl,none,rfl⟩⟩)
  have HN:=Lib.hid (right_len HR.out.1)
  have hnone:slotAt L n=none:=by
   have:=fils_at n L
   rw [H1.out.fil,HR.out.2.1] at this
   exact Option.map_eq_none_iff.1 this.symm
  have HTK:=Lib.hid (show takeS n L=L by
   unfold takeS
   rw [List.filter_eq_self]
   intro x hx
   have:=List.find?_eq_none.1 hnone x hx
   simpa using this)
  have HL7:=Lib.hid (show L.length≤1000000 by omega)
  have HF1:=Lib.hid (show w1.heap.size≠f∧w1.heap.size≠m∧datBlk (.slice none 0 0)≠some f∧datBlk (.slice none 0 0)≠some m∧datBlk (.slice none 0 0)≠some w1.heap.size from
   ⟨fun e=>by have:=H1.out.hd.lt;omega,fun e=>by have:=H1.out.body.map.lt;omega,by simp [datBlk],by simp [datBlk],by simp [datBlk]⟩)
  have HF2:=Lib.hid (show ∀ t∈takeS n L,Far ⟨⟨n,[],0⟩,w1.heap.size,.slice none 0 0⟩ t from fun t ht'=>by
   have ht2:=(List.mem_filter.1 ht').1
   have h1:=H1.out.body.slot t ht2
   exact⟨fun e=>by have:=h1.lt;simp only at e;omega,by simp [datBlk],fun e=>by have:=h1.2.lt e;simp only at this;omega,fun g hg=>by simp [datBlk] at hg⟩)
  clear hh ht HS HO c0 hnone
  go_wp2_with (at_mapUpdate;refine wpList_fsPut (s:=⟨⟨n,[],0⟩,w1.heap.size,.slice none 0 0⟩) rfl _ _ _ rfl rfl rfl rfl rfl H2.out.body HN.out HL7.out HX.out HF1.out HF2.out ?_)
  intro w3 hb3 hg3
  have HB3:=Lib.hid hb3
  have HG3:=Lib.hid hg3
  clear hb3 hg3 k0
  go_wp2
  go_ret
  rw [HE.out]
  have hfm:=H1.out.body.apart.1
  have hb3:=HB3.out
  rw [HTK.out] at hb3
  have ht3:Turned (foot f m L) w1 w3:=(Turned.below HBL.out).trans (Turned.grown (S:=foot f m L) HG3.out fun k hk=> .inr (.inl (Option.some.inj hk).symm)) fun _ h=> .inl h
  refine⟨rfl,putS ⟨⟨n,[],0⟩,w1.heap.size,.slice none 0 0⟩ L,⟨?_,hb3,by rw [fils_put,H1.out.fil],?_⟩,HT.out.trans ht3 fun _ h=> .inl h,fun k hk=> ?_⟩
  ·have e:hdOf {stepD d with files:=putF ⟨n,[],0⟩ (stepD d).files}=hdOf (stepD d):=by
    unfold hdOf
    simp only [usedF_put,List.length_nil,Nat.zero_add]
   rw [e]
   exact H2.out.hd.kept (HG3.out.block f H2.out.hd.lt (by simpa using hfm))
  ·refine H1.out.ok.put (f:=⟨n,[],0⟩) HR.out.1 ⟨by simp,by simp⟩ (fun x hx=> ?_) HR.out.2.2 (by simpa using H1.out.ok.used)
   have:=List.find?_eq_none.1 HR.out.2.1 x hx
   simpa using this
  ·rcases foot_put k hk with h1 | h1 | h1
   ·exact .inl h1
   ·exact .inr (by rw [h1];exact HT.out.size)
   ·simp [datBlk] at h1
end Go.Proofs.YtcglcphhfmkccaaGreatDoor
namespace Go.Proofs.YtcglcphhfmkccaaGreatDoor
open Go.RowKit
theorem take_twice {n:List UInt8} {fs:List Fil}:takeF n (takeF n fs)=takeF n fs:=by
 unfold takeF
 rw [List.filter_filter]
 simp
theorem setF_same {n:List UInt8} {x:Fil} {fs:List Fil} (h:Rise fs) (ha:atF fs n=some x):setF n (fun _=>x) fs=fs:=by
 unfold setF
 rw [List.map_congr_left (g:=id) (fun y hy=>by
  by_cases hc:y.name=n
  ·rw [if_pos (by simpa using hc),rise_one h ha hy hc];rfl
  ·rw [if_neg (by simpa using hc)];rfl)]
 simp
theorem at_take {n t:List UInt8} {fs:List Fil} (h:n≠t):atF (takeF n fs) t=atF fs t:=by
 unfold atF takeF
 induction fs with
 | nil=>rfl
 | cons y r ih=>
  by_cases hy:y.name=n
  ·rw [List.filter_cons_of_neg (by simpa using hy),List.find?_cons,show (y.name==t)=false by rw [hy];simpa using h]
   exact ih
  ·rw [List.filter_cons_of_pos (by simpa using hy),List.find?_cons,List.find?_cons]
   rw [ih]
theorem takeF_length {fs:List Fil} {n:List UInt8} {x:Fil} (ha:atF fs n=some x):(takeF n fs).length<fs.length:=by
 obtain⟨h1,h2⟩:=at_name ha
 exact List.length_filter_lt_length_iff_exists.2 ⟨x,h2,by simp [h1]⟩
theorem far_of {w:World} {f m:Nat} {L:List Slot} (h:Body w f m L) {s t:Slot} (hs:s∈L) (ht:t∈L) (hn:s.fil.name≠t.fil.name):Far s t:=by
 obtain⟨i,hi⟩:=List.getElem?_of_mem ht
 obtain⟨j,hj⟩:=List.getElem?_of_mem hs
 have hi':=List.getElem?_eq_some_iff.1 hi
 have hj':=List.getElem?_eq_some_iff.1 hj
 have hij:i≠j:=fun e=>hn (by subst e;rw [hi] at hj;cases hj;rfl)
 rcases Nat.lt_or_gt_of_ne hij with hlt | hlt
 ·have hF:=List.pairwise_iff_getElem.1 h.apart.2.2 i j hi'.1 hj'.1 hlt
  rw [hi'.2,hj'.2] at hF
  exact hF.symm
 ·have hF:=List.pairwise_iff_getElem.1 h.apart.2.2 j i hj'.1 hi'.1 hlt
  rw [hi'.2,hj'.2] at hF
  exact hF
theorem rename_end {w w1 w2 w3 w4:World} {f m:Nat} {d1:Disk} {L:List Slot} {n t:List UInt8} {s:Slot} {used:Int} (H1:FsAt w1 f m d1 L) (ht:Turned (foot f m L) w w1) (hs:slotAt L n=some s) (ha:atF d1.files n=some s.fil) (hnt:n≠t) (hr:rightName t=true)
  (hh2:HdAt w2 f m {hdOf d1 with used:=used}) (ht2:Turned (fun k=>k=f) w1 w2) (hu:used+(match atF d1.files t with | none=>(0:Int) | some y=>(y.data.length:Int))=(usedF d1.files:Int))
  (hg3:w2.grownBy w3 (some m)) (hb4:Body w4 f m (putS ⟨{s.fil with name:=t},s.blk,s.sl⟩ (takeS t (takeS n L)))) (hg4:w3.grownBy w4 (some m)):
  FsPost w f m L {d1 with files:=putF {s.fil with name:=t} (takeF t (takeF n d1.files))} w4:=by
 have hsm:=(slotAt_mem hs).1
 have hfm:=H1.body.apart.1
 have hm: ∀ k,some m=some k→foot f m L k:=fun k hk=> .inr (.inl (Option.some.inj hk).symm)
 have htt:Turned (foot f m L) w1 w4:=((ht2.mono (S':=foot f m L) fun _ hk=> .inl hk).trans (Turned.grown (S:=foot f m L) hg3 hm) fun _ h=> .inl h).trans (Turned.grown (S:=foot f m L) hg4 hm) fun _ h=> .inl h
 refine⟨_,⟨?_,hb4,by rw [fils_put,fils_take,fils_take,H1.fil],?_⟩,ht.trans htt fun _ h=> .inl h,fun k hk=> .inl ?_⟩
 ·have h1:=usedF_take H1.ok.rise ha
  have e:hdOf {d1 with files:=putF {s.fil with name:=t} (takeF t (takeF n d1.files))}={hdOf d1 with used:=used}:=by
   unfold hdOf
   simp only [Hd.mk.injEq,true_and,and_true,usedF_put]
   rcases hy:atF d1.files t with _ | y
   ·rw [hy] at hu
    rw [usedF_take_none (by rw [at_take hnt];exact hy)]
    simp only at hu
    omega
   ·rw [hy] at hu
    have h2:=usedF_take (rise_take (n:=n) H1.ok.rise) (by rw [at_take hnt];exact hy)
    simp only at hu
    omega
  rw [e]
  have l3:f<w3.heap.size:=Nat.lt_of_lt_of_le hh2.lt hg3.size
  exact(hh2.kept (hg3.block f hh2.lt (by simpa using hfm))).kept (hg4.block f l3 (by simpa using hfm))
 ·have hok:=(H1.ok.take n).take t
  have hsf:=H1.ok.safe s.fil (at_name ha).2
  have hc:=takeF_length ha
  have hc2:(takeF t (takeF n d1.files)).length≤(takeF n d1.files).length:=List.length_filter_le _ _
  have h700:=H1.ok.count
  refine DiskOk.put (d:={d1 with files:=takeF t (takeF n d1.files)}) hok hr hsf (fun x hx=> ?_) (by show (takeF t (takeF n d1.files)).length<700;omega) ?_
  ·have:=(List.mem_filter.1 hx).2
   simpa using this
  ·have h1:=usedF_take H1.ok.rise ha
   have h2:usedF (takeF t (takeF n d1.files))≤usedF (takeF n d1.files):=by
    rcases hy:atF (takeF n d1.files) t with _ | y
    ·rw [usedF_take_none hy];exact Nat.le_refl _
    ·have:=usedF_take (rise_take (n:=n) H1.ok.rise) hy;omega
   have h3:=H1.ok.used
   show (usedF (takeF t (takeF n d1.files)):Int)+(s.fil.data.length:Int)≤d1.room
   omega
 ·rcases foot_put k hk with h1 | h1 | h1
  ·exact foot_take k (foot_take k h1)
  ·exact .inr (.inr ⟨s,hsm,.inl h1⟩)
  ·exact .inr (.inr ⟨s,hsm,.inr h1⟩)
set_option maxRecDepth 100000 in
set_option maxHeartbeats 2000000 in
theorem rename_any (w:World) (f m:Nat) (d:Disk) (L:List Slot) (h:FsAt w f m d L) (hs:d.steps<4611686018427387904) (n t:List UInt8):
  Calls Tryz.prog 109 #[.pointer (some ⟨f,0,none⟩),.string ⟨n.toArray⟩,.string ⟨t.toArray⟩] w fun e w'=>e= .returned (.int .i64 (doD d (opRename n t)).2.2.2)∧FsPost w f m L (doD d (opRename n t)).1 w':=by
 have HO:=Lib.hid (open_any w f m d L h n)
 have HRT:=Lib.hid (Right_any t w)
 have HH:=Lib.hid h
 by_cases he:openE d n=0∨openE d n=51
 case neg=>
  have HE:=Lib.hid (show doD d (opRename n t)=(d,[],0,openE d n) by
   have hb:barD d (opRename n t)=openE d n:=by rw [bar_rename,if_neg (fun hx=>he hx.1)]
   rw [doD_barred (by simp [opRename]) (by rw [hb];omega),hb])
  have t1:(openE d n==0)=false:=by rw [beq_eq_false_iff_ne];omega
  have t2:(openE d n==51)=false:=by rw [beq_eq_false_iff_ne];omega
  have t3:(openE d n != 0)=true:=by unfold bne;rw [t1];rfl
  generalize openE d n=e0 at*
  clear he h
  go_enter Tryz.func109,Tryz.ntmps109
  go_wp2_with (go_at_call 48;refine HO.out.mono ?_;rintro e w1 ⟨rfl,rfl⟩)
  go_ret
  rw [HE.out]
  exact⟨rfl,FsPost.same HH.out⟩
 rcases hrt:rightName t with _ | _
 ·have HE:=Lib.hid (show doD d (opRename n t)=(d,[],0,50) by
   have hb:barD d (opRename n t)=50:=by rw [bar_rename,if_pos ⟨he,hrt⟩]
   rw [doD_barred (by simp [opRename]) (by rw [hb];decide),hb])
  rw [hrt] at HRT
  rcases he with he | he
  all_goals
   rw [he] at HO
   clear he h hrt
   go_enter Tryz.func109,Tryz.ntmps109
   go_wp2_with (first | (go_at_call 48;refine HO.out.mono ?_;rintro e w1 ⟨rfl,rfl⟩) | (go_at_call 14;refine HRT.out.mono ?_;rintro e w1 ⟨rfl,rfl⟩))
   go_ret
   rw [HE.out]
   exact⟨rfl,FsPost.same HH.out⟩
 rw [hrt] at HRT
 by_cases he0:openE d n=0
 case neg=>
  have he51:openE d n=51:=by omega
  have HE:=Lib.hid (show doD d (opRename n t)=(d,[],0,51) by
   have hb:barD d (opRename n t)=51:=by rw [bar_rename,if_neg (fun hx=>by rw [hrt] at hx;cases hx.2),he51]
   rw [doD_barred (by simp [opRename]) (by rw [hb];decide),hb])
  rw [he51] at HO
  clear he h hrt he0 he51
  go_enter Tryz.func109,Tryz.ntmps109
  go_wp2_with (first | (go_at_call 48;refine HO.out.mono ?_;rintro e w1 ⟨rfl,rfl⟩) | (go_at_call 14;refine HRT.out.mono ?_;rintro e w1 ⟨rfl,rfl⟩))
  go_ret
  rw [HE.out]
  exact⟨rfl,FsPost.same HH.out⟩
 obtain⟨s,hs1,ha,hv,hr,hsm,hsn⟩:=slot_of h he0
 have hb0:barD d (opRename n t)=0:=by rw [bar_rename,if_neg (fun hx=>by rw [hrt] at hx;cases hx.2)];exact he0
 have HD:=Lib.hid (doD_step (d:=d) (o:=opRename n t) (by simp [opRename]) hb0)
 have HS:=Lib.hid (step_any w f m (hdOf d) h.hd h.ok.fuse.1 h.ok.fuse.2 h.ok.steps hs)
 rw [he0,hv] at HO
 by_cases hf:d.fuse=1
 ·have HF:=Lib.hid (dec_fuse (decide_eq_true hf))
  have HE:=Lib.hid (show doD d (opRename n t)=(stepD d,[],0,3) by rw [HD.out,if_pos hf,if_neg (by simp [opRename]),if_pos hf])
  clear h hs he he0 hs1 ha hv hr hsm hsn hf HD hb0 hrt
  go_enter Tryz.func109,Tryz.ntmps109
  go_wp2_with (first | (go_at_call 48;refine HO.out.mono ?_;rintro e w1 ⟨rfl,rfl⟩) | (go_at_call 14;refine HRT.out.mono ?_;rintro e w1 ⟨rfl,rfl⟩) | (go_at_call 70;refine HS.out.mono ?_;rw [HF.out];rintro e w1 ⟨rfl,hh,ht⟩))
  go_ret
  rw [HE.out]
  exact⟨rfl,FsPost.stepped HH.out hh ht⟩
 have HF:=Lib.hid (dec_fuse (decide_eq_false hf))
 have ha':atF (stepD d).files n=some s.fil:=by rw [stepD_files];exact ha
 have hrise:Rise (stepD d).files:=by rw [stepD_files];exact h.ok.rise
 have HE0:=Lib.hid (show doD d (opRename n t)=({stepD d with files:=putF {s.fil with name:=t} (takeF t (takeF n (stepD d).files))},[],0,0) by
  rw [HD.out,if_neg hf,if_neg hf]
  have e:chgD (stepD d) (opRename n t)={stepD d with files:=putF (chgF (opRename n t) s.fil) (takeF t (takeF n (stepD d).files))}:=by
   simp only [chgD,opRename,ha']
   rfl
  rw [e]
  rfl)
 by_cases hnt:n=t
 ·have HE:=Lib.hid (show doD d (opRename n t)=(stepD d,[],0,0) by
   rw [HE0.out]
   have e1:({s.fil with name:=t}:Fil)=s.fil:=by rw [←hnt,←hsn]
   rw [e1,←hnt,take_twice,put_take hrise ha' hsn,setF_same hrise ha'])
  have t1:(n==t)=true:=by simpa using hnt
  clear h hs he he0 hs1 ha hv hr hsm hsn hf HD hb0 hrt ha' hrise HE0 hnt
  go_enter Tryz.func109,Tryz.ntmps109
  go_wp2_with (first | (go_at_call 48;refine HO.out.mono ?_;rintro e w1 ⟨rfl,rfl⟩) | (go_at_call 14;refine HRT.out.mono ?_;rintro e w1 ⟨rfl,rfl⟩) | (go_at_call 70;refine HS.out.mono ?_;rw [HF.out];rintro e w1 ⟨rfl,hh,ht⟩))
  go_ret
  rw [HE.out]
  exact⟨rfl,FsPost.stepped HH.out hh ht⟩
 have t1:(n==t)=false:=by simpa using hnt
 have HSL:=Lib.hid (show slotAt L n=some s∧s.fil.name=n∧atF (stepD d).files n=some s.fil∧s∈L∧n.length≤1000∧t.length≤1000∧n≠t∧rightName t=true from⟨hs1,hsn,ha',hsm,right_len hr,right_len hrt,hnt,hrt⟩)
 have hrm:=h.ok.room
 have hus:=h.ok.used
 have HU:=Lib.hid (show (usedF (stepD d).files:Int)≤67108864 by rw [stepD_files];omega)
 have HL7:=Lib.hid (show L.length≤700 by have:=h.ok.count;rw [←h.fil] at this;simpa [fils] using this)
 clear h hs he he0 hs1 ha hv hr hsm hsn hf HD hb0 hrt ha' hrise hnt hrm hus
 go_enter Tryz.func109,Tryz.ntmps109
 go_wp2_with (first | (go_at_call 48;refine HO.out.mono ?_;rintro e w1 ⟨rfl,rfl⟩) | (go_at_call 14;refine HRT.out.mono ?_;rintro e w1 ⟨rfl,rfl⟩))
 go_at_call 70
 refine HS.out.mono ?_
 rw [HF.out]
 rintro e w1 ⟨rfl,hh,ht⟩
 have H1:=Lib.hid (HH.out.stepped hh ht)
 have HT:=Lib.hid (show Turned (foot f m L) w w1 from ht.mono fun _ hk=> .inl hk)
 have c0:=H1.out.hd.c0
 have hlook:=H1.out.body.look HSL.out.2.2.2.2.2.1
 have hat:=fils_at t L
 rw [H1.out.fil] at hat
 clear hh ht HS HO
 rcases hy:slotAt L t with _ | y
 ·rw [hy] at hlook hat
  simp only at hlook
  simp only [Option.map_none] at hat
  have HAT:=Lib.hid hat
  have HYN:=Lib.hid hy
  clear hat hy
  go_wp2_with (at_delete;refine wpList_fsDel rfl (.tmp 57) (.tmp 58) rfl rfl rfl H1.out.body HSL.out.2.2.2.2.1 ?_)
  intro w3 hb3 hg3
  have HB3:=Lib.hid hb3
  have HG3:=Lib.hid hg3
  have c3:w3.cell? ⟨f,0,none⟩=some (.map (some m)):=(H1.out.hd.kept (hg3.block f H1.out.hd.lt (by simpa using H1.out.body.apart.1))).c0
  clear hb3 hg3 hlook c0
  have hslot:=H1.out.body.slot s HSL.out.2.2.2.1
  have hap:=H1.out.body.apart.2.1 s HSL.out.2.2.2.1
  have HX:=Lib.hid (show SlotAt w3 ⟨{s.fil with name:=t},s.blk,s.sl⟩ from by
   have:=hslot.kept (HG3.out.block s.blk hslot.lt (by simpa using hap.2.1)) fun g hg=>HG3.out.block g (hslot.2.lt hg) (fun e=>hap.2.2.2.1 (by rw [hg,e]))
   exact⟨this.1,this.2⟩)
  have HFar:=Lib.hid (show ∀ y∈takeS t (takeS n L),Far ⟨{s.fil with name:=t},s.blk,s.sl⟩ y from fun y hy=>by
   have h1:=List.mem_filter.1 (List.mem_filter.1 hy).1
   have hF:=far_of H1.out.body HSL.out.2.2.2.1 h1.1 (by rw [HSL.out.2.1];have:=h1.2;simp at this;exact fun e=>this e.symm)
   exact hF)
  have HAP:=Lib.hid hap
  have HLL:=Lib.hid (show (takeS n L).length≤1000000 by have:=takeS_length n L;have:=HL7.out;omega)
  clear hslot hap
  go_wp2_with (at_mapUpdate;refine wpList_fsPut (s:=⟨{s.fil with name:=t},s.blk,s.sl⟩) rfl (.tmp 62) (.tmp 63) (.tmp 64) rfl rfl rfl rfl rfl HB3.out HSL.out.2.2.2.2.2.1 HLL.out HX.out HAP.out HFar.out ?_)
  intro w4 hb4 hg4
  have HB4:=Lib.hid hb4
  have HG4:=Lib.hid hg4
  clear hb4 hg4 c3
  go_wp2
  go_ret
  rw [HE0.out]
  refine⟨rfl,rename_end H1.out HT.out HSL.out.1 HSL.out.2.2.1 HSL.out.2.2.2.2.2.2.1 HSL.out.2.2.2.2.2.2.2 (used:=(usedF (stepD d).files:Int)) H1.out.hd (Turned.refl _ _) ?_ HG3.out HB4.out HG4.out⟩
  rw [HAT.out]
  simp
 ·rw [hy] at hlook hat
  simp only at hlook
  simp only [Option.map_some] at hat
  have HAT:=Lib.hid hat
  have hym:=(slotAt_mem hy).1
  have hsl:=H1.out.body.slot y hym
  obtain⟨ao,cap,hsh,_,_⟩:=hsl.2.shape
  have c4:w1.cell? ⟨y.blk,0,none⟩=some (.slice ao y.fil.data.length cap):=by rw [←hsh];exact hsl.c0
  have c2:w1.cell? ⟨f,2,none⟩=some (.int .i64 (usedF (stepD d).files:Int)):=H1.out.hd.c2
  have f2:=H1.out.hd.free 2
  have hyl:=len_le_used (at_name hat).2
  have hw:IntKind.i64.wrap ((usedF (stepD d).files:Int) - (y.fil.data.length:Int))=(usedF (stepD d).files:Int) - (y.fil.data.length:Int):=by
   have:=HU.out
   rw [IntKind.wrap_i64];omega
  have H1d:=Lib.hid (show FsAt w1.drew f m (stepD d) L from H1.out.below (below_drewN' w1 1))
  clear hat hy hym hsl hyl
  go_wp2_with fail
  go_still_tail 12,(by kernel_rfl)
  refine wpList_store_cellV rfl 3 (.tmp 53) (.tmp 51) rfl f 2 (.int .i64 ((usedF (stepD d).files:Int) - (y.fil.data.length:Int))) (.int .i64 (usedF (stepD d).files:Int)) (by kernel_rfl) rfl rfl rfl c2 f2 ?_
  intro w2 hw2
  have HB2:=Lib.hid (show HdAt w2 f m {hdOf (stepD d) with used:=(usedF (stepD d).files:Int) - (y.fil.data.length:Int)}∧Body w2 f m L∧Turned (fun k=>k=f) w1 w2 by
   rw [hw2.out]
   exact⟨H1d.out.hd.set 2 _ rfl,H1d.out.body.setHd 2 _,(Turned.below (below_drewN' w1 1)).trans (Turned.setCell (S:=fun k=>k=f) w1.drew ⟨f,2,none⟩ _ rfl) fun i h=> .inl h⟩)
  have k0:w2.cell? ⟨f,0,none⟩=some (.map (some m)):=HB2.out.1.c0
  clear hw2 c0 c2 f2 c4 hw hlook
  go_wp2_with (at_delete;refine wpList_fsDel rfl (.tmp 57) (.tmp 58) rfl rfl rfl HB2.out.2.1 HSL.out.2.2.2.2.1 ?_)
  intro w3 hb3 hg3
  have HB3:=Lib.hid hb3
  have HG3:=Lib.hid hg3
  have c3:w3.cell? ⟨f,0,none⟩=some (.map (some m)):=(HB2.out.1.kept (hg3.block f HB2.out.1.lt (by simpa using H1.out.body.apart.1))).c0
  clear hb3 hg3 k0
  have hslot:=HB2.out.2.1.slot s HSL.out.2.2.2.1
  have hap:=H1.out.body.apart.2.1 s HSL.out.2.2.2.1
  have HX:=Lib.hid (show SlotAt w3 ⟨{s.fil with name:=t},s.blk,s.sl⟩ from by
   have:=hslot.kept (HG3.out.block s.blk hslot.lt (by simpa using hap.2.1)) fun g hg=>HG3.out.block g (hslot.2.lt hg) (fun e=>hap.2.2.2.1 (by rw [hg,e]))
   exact⟨this.1,this.2⟩)
  have HFar:=Lib.hid (show ∀ y∈takeS t (takeS n L),Far ⟨{s.fil with name:=t},s.blk,s.sl⟩ y from fun y hy=>by
   have h1:=List.mem_filter.1 (List.mem_filter.1 hy).1
   have hF:=far_of H1.out.body HSL.out.2.2.2.1 h1.1 (by rw [HSL.out.2.1];have:=h1.2;simp at this;exact fun e=>this e.symm)
   exact hF)
  have HAP:=Lib.hid hap
  have HLL:=Lib.hid (show (takeS n L).length≤1000000 by have:=takeS_length n L;have:=HL7.out;omega)
  clear hslot hap
  go_wp2_with (at_mapUpdate;refine wpList_fsPut (s:=⟨{s.fil with name:=t},s.blk,s.sl⟩) rfl (.tmp 62) (.tmp 63) (.tmp 64) rfl rfl rfl rfl rfl HB3.out HSL.out.2.2.2.2.2.1 HLL.out HX.out HAP.out HFar.out ?_)
  intro w4 hb4 hg4
  have HB4:=Lib.hid hb4
  have HG4:=Lib.hid hg4
  clear hb4 hg4 c3
  go_wp2
  go_ret
  rw [HE0.out]
  refine⟨rfl,rename_end H1.out HT.out HSL.out.1 HSL.out.2.2.1 HSL.out.2.2.2.2.2.2.1 HSL.out.2.2.2.2.2.2.2 (used:=(usedF (stepD d).files:Int) - (y.fil.data.length:Int)) HB2.out.1 HB2.out.2.2 ?_ HG3.out HB4.out HG4.out⟩
  rw [HAT.out]
  simp only
  omega
end Go.Proofs.YtcglcphhfmkccaaGreatDoor
namespace Go.Proofs.YtcglcphhfmkccaaGreatDoor
open Go.RowKit
set_option maxHeartbeats 1000000 in
theorem sync_any (w:World) (f m:Nat) (d:Disk) (L:List Slot) (h:FsAt w f m d L) (hs:d.steps<4611686018427387904) (n:List UInt8):
  Calls Tryz.prog 45 #[.pointer (some ⟨f,0,none⟩),.string ⟨n.toArray⟩] w fun e w'=>e= .returned (.int .i64 (doD d (opSync n)).2.2.2)∧FsPost w f m L (doD d (opSync n)).1 w':=by
 have HO:=Lib.hid (open_any w f m d L h n)
 have HH:=Lib.hid h
 by_cases he:openE d n=0
 case neg=>
  have HE:=Lib.hid (show doD d (opSync n)=(d,[],0,openE d n) by rw [doD_barred (by simp [opSync]) (by rw [bar_sync];exact he),bar_sync])
  have t1:(openE d n != 0)=true:=by simpa using he
  generalize openE d n=e0 at*
  clear he h
  go_enter Tryz.func45,Tryz.ntmps45
  go_wp2_with (go_at_call 48;refine HO.out.mono ?_;rintro e w1 ⟨rfl,rfl⟩)
  go_ret
  rw [HE.out]
  exact⟨rfl,FsPost.same HH.out⟩
 obtain⟨s,hs1,ha,hv,hr,hsm,hsn⟩:=slot_of h he
 have HD:=Lib.hid (doD_step (d:=d) (o:=opSync n) (by simp [opSync]) (by rw [bar_sync];exact he))
 have HS:=Lib.hid (step_any w f m (hdOf d) h.hd h.ok.fuse.1 h.ok.fuse.2 h.ok.steps hs)
 rw [he,hv] at HO
 by_cases hf:d.fuse=1
 ·have HF:=Lib.hid (dec_fuse (decide_eq_true hf))
  have HE:=Lib.hid (show doD d (opSync n)=(stepD d,[],0,3) by rw [HD.out,if_pos hf,if_neg (by simp [opSync]),if_pos hf])
  clear h hs he hs1 ha hv hr hsm hsn hf HD
  go_enter Tryz.func45,Tryz.ntmps45
  go_wp2_with (first | (go_at_call 48;refine HO.out.mono ?_;rintro e w1 ⟨rfl,rfl⟩) | (go_at_call 70;refine HS.out.mono ?_;rw [HF.out];rintro e w1 ⟨rfl,hh,ht⟩))
  go_ret
  rw [HE.out]
  exact⟨rfl,FsPost.stepped HH.out hh ht⟩
 ·have HF:=Lib.hid (dec_fuse (decide_eq_false hf))
  have hrise:Rise (stepD d).files:=by rw [stepD_files];exact h.ok.rise
  have HE:=Lib.hid (show doD d (opSync n)=({stepD d with files:=setF n (fun _=>{s.fil with safe:=(s.fil.data.length:Int)}) (stepD d).files},[],0,0) by
   rw [HD.out,if_neg hf,if_neg hf,chg_set (x:=s.fil) hrise (by rw [stepD_files];exact ha) (by simp [opSync]) (by simp [opSync]) (by simp [opSync])]
   rfl)
  have HSL:=Lib.hid (show slotAt L n=some s∧s.fil.name=n∧atF (stepD d).files n=some s.fil∧s∈L from⟨hs1,hsn,by rw [stepD_files];exact ha,hsm⟩)
  clear h hs he hs1 ha hv hr hsm hsn hf HD hrise
  go_enter Tryz.func45,Tryz.ntmps45
  go_wp2_with (first | (go_at_call 48;refine HO.out.mono ?_;rintro e w1 ⟨rfl,rfl⟩))
  go_at_call 70
  refine HS.out.mono ?_
  rw [HF.out]
  rintro e w1 ⟨rfl,hh,ht⟩
  have H1:=Lib.hid (HH.out.stepped hh ht)
  have HT:=Lib.hid ht
  have hsl:=H1.out.body.slot s HSL.out.2.2.2
  have c0:=hsl.c0
  have c1:=hsl.c1
  have f1:=hsl.free 1
  obtain⟨ao,cap,hsh,_,_⟩:=hsl.2.shape
  rw [hsh] at c0
  clear hh ht hsl
  go_wp2
  go_ret
  rw [HE.out]
  have hap:=(H1.out.body.apart.2.1 s HSL.out.2.2.2)
  have hsl:=H1.out.body.slot s HSL.out.2.2.2
  refine⟨rfl,FsPost.setFile (x:=⟨{s.fil with safe:=(s.fil.data.length:Int)},s.blk,s.sl⟩) H1.out (HT.out.mono fun _ hk=> .inl hk) HSL.out.1 HSL.out.2.1 rfl (Turned.setCell _ ⟨s.blk,1,none⟩ _ (.inr (.inl rfl))) (hsl.putSafe _ hap.2.2.2.2) (fun _ hg=> .inl hg) ?_ rfl ?_⟩
  ·have hh:=H1.out.hd.otherCell (k:=s.blk) hap.1.symm 1 (.int .i64 (s.fil.data.length:Int))
   have hu:=usedF_set (f':=⟨s.fil.name,s.fil.data,(s.fil.data.length:Int)⟩) H1.out.ok.rise HSL.out.2.2.1 HSL.out.2.1
   have e:hdOf {stepD d with files:=setF n (fun _=>{s.fil with safe:=(s.fil.data.length:Int)}) (stepD d).files}=hdOf (stepD d):=by
    unfold hdOf
    simp only at hu ⊢
    rw [show usedF (setF n (fun _=>⟨s.fil.name,s.fil.data,(s.fil.data.length:Int)⟩) (stepD d).files)=usedF (stepD d).files by omega]
   rw [e]
   exact hh
  ·exact H1.out.ok.setFile HSL.out.2.2.1 HSL.out.2.1 ⟨by simp,by simp⟩ (by have:=H1.out.ok.used;simp only;omega)
end Go.Proofs.YtcglcphhfmkccaaGreatDoor
namespace Go.Proofs.YtcglcphhfmkccaaGreatDoor
open Go.RowKit
theorem Body.setHd' {w:World} {f m:Nat} {L:List Slot} (h:Body w f m L) (j:Nat) (v:Value):Body (w.setCell ⟨f,j,none⟩ v) f m L:=h.kept fun k hk _=>by
 simp only [World.setCell]
 rw [Array.getElem?_modify,if_neg (fun e=>hk e.symm)]
theorem doD_size {d:Disk} {n:List UInt8}:doD d (opSize n)=if openE d n≠0 then (d,[],0,openE d n) else (d,[],match atF d.files n with | none=>0 | some f=>(f.data.length:Int),0):=by
 by_cases he:openE d n=0
 ·rw [if_neg (by simpa using he)]
  unfold doD
  rw [if_neg (by simp [opSize]),if_neg (by simp [opSize]),if_neg (by simp [opSize]),if_neg (by rw [bar_size];simpa using he),if_neg (by simp [opSize]),if_pos (by simp [opSize])]
  rfl
 ·rw [if_pos he,doD_barred (by simp [opSize]) (by rw [bar_size];exact he),bar_size]
theorem size_any (w:World) (f m:Nat) (d:Disk) (L:List Slot) (h:FsAt w f m d L) (n:List UInt8):
  Calls Tryz.prog 26 #[.pointer (some ⟨f,0,none⟩),.string ⟨n.toArray⟩] w fun e w'=>e= .returned (.tuple #[.int .i64 (doD d (opSize n)).2.2.1,.int .i64 (doD d (opSize n)).2.2.2])∧w=w':=by
 have HO:=Lib.hid (open_any w f m d L h n)
 by_cases he:openE d n=0
 case neg=>
  have HE:=Lib.hid (show doD d (opSize n)=(d,[],0,openE d n) by rw [doD_size,if_pos he])
  have t1:(openE d n != 0)=true:=by simpa using he
  generalize openE d n=e0 at*
  clear he h
  go_enter Tryz.func26,Tryz.ntmps26
  go_wp2_with (go_at_call 48;refine HO.out.mono ?_;rintro e w1 ⟨rfl,rfl⟩)
  go_ret2
  rw [HE.out]
  exact⟨rfl,rfl⟩
 obtain⟨s,hs1,ha,hv,hr,hsm,hsn⟩:=slot_of h he
 have HE:=Lib.hid (show doD d (opSize n)=(d,[],(s.fil.data.length:Int),0) by rw [doD_size,if_neg (by simpa using he),ha])
 have hsl:=h.body.slot s hsm
 obtain⟨ao,cap,hsh,_,_⟩:=hsl.2.shape
 have c0:=hsl.c0
 rw [hsh] at c0
 rw [he,hv] at HO
 clear h he hs1 ha hv hr hsm hsn hsl hsh
 go_enter Tryz.func26,Tryz.ntmps26
 go_wp2_with (go_at_call 48;refine HO.out.mono ?_;rintro e w1 ⟨rfl,rfl⟩)
 go_ret2
 rw [HE.out]
 exact⟨rfl,rfl⟩
theorem doD_fuse (d:Disk) (n:Int):doD d (opFuse n)=({d with fuse:=if 0<n then n else 0},[],0,0):=by
 unfold doD
 rw [if_neg (by simp [opFuse]),if_pos (by simp [opFuse])]
 rfl
theorem fuse_any (w:World) (f m:Nat) (d:Disk) (L:List Slot) (h:FsAt w f m d L) (n:Int) (hn:n≤9223372036854775807):
  Calls Tryz.prog 9 #[.pointer (some ⟨f,0,none⟩),.int .i64 n] w fun e w'=>e= .returned (.tuple #[])∧FsPost w f m L (doD d (opFuse n)).1 w':=by
 have c5:=h.hd.c5
 have f5:=h.hd.free 5
 have HH:=Lib.hid h
 have HE:=Lib.hid (doD_fuse d n)
 clear h
 go_enter Tryz.func9,Tryz.ntmps9
 go_wp2
 go_end0
 rw [HE.out]
 have hm:max 0 n=if 0<n then n else 0:=by split<;>omega
 refine⟨rfl,L,⟨?_,HH.out.body.setHd' 5 _,HH.out.fil,?_⟩,Turned.setCell _ _ _ foot_f,fun _ h=> .inl h⟩
 ·rw [hm];exact HH.out.hd.set 5 _ rfl
 ·have hk:=HH.out.ok
  refine⟨hk.rise,hk.names,hk.safe,hk.count,hk.room,hk.used,?_,hk.steps,hk.reads⟩
  show 0≤(if 0<n then n else 0)∧(if 0<n then n else 0)≤9223372036854775807
  split<;>omega
theorem free_any (w:World) (f m:Nat) (d:Disk) (L:List Slot) (h:FsAt w f m d L):
  Calls Tryz.prog 31 #[.pointer (some ⟨f,0,none⟩)] w fun e w'=>e= .returned (.int .i64 (d.room - (usedF d.files:Int)))∧Below w.heap.size w w':=by
 have c1:=h.hd.c1
 have c2:=h.hd.c2
 have hr:=h.ok.room
 have hu:=h.ok.used
 have hw:IntKind.i64.wrap ((hdOf d).room - (hdOf d).used)=d.room - (usedF d.files:Int):=by
  show IntKind.i64.wrap (d.room - (usedF d.files:Int))=_
  rw [IntKind.wrap_i64];omega
 clear h
 go_enter Tryz.func31,Tryz.ntmps31
 go_wp2
 go_quiet (fail)
 go_wp2
 go_ret
 exact⟨rfl,below_drewN' _ _⟩
theorem used_any (w:World) (f m:Nat) (d:Disk) (L:List Slot) (h:FsAt w f m d L):
  Calls Tryz.prog 13 #[.pointer (some ⟨f,0,none⟩)] w fun e w'=>e= .returned (.int .i64 (usedF d.files:Int))∧w=w':=by
 have c2:=h.hd.c2
 clear h
 go_enter Tryz.func13,Tryz.ntmps13
 go_wp2
 go_ret
 exact⟨rfl,rfl⟩
end Go.Proofs.YtcglcphhfmkccaaGreatDoor

namespace Go.Proofs.YtcglcphhfmkccaaGreatDoor
open Go.RowKit
theorem wpList_load_fl {ops:Array Oper} {rest:List Oper} {o:Oper} {a:Act} {w:World} {Q:Exit→Act→World→Prop} (hgd:o.guard=none) (x:Operand) (ho:o.op= .load 47 x)
  (b off:Nat) (f:Fil) (dv:Value) (hx:a.eval x= .pointer (some ⟨b,off,none⟩)) (hE:w.rangeAt b off (flCs f dv).toList)
  (h:wpList Tryz.prog ops Q rest (a.put o.dst (flV f dv)) w):wpList Tryz.prog ops Q (o::rest) a w:=
 wpList_load_mid hgd 47 x ho b off hx (flCs f dv).toList _ hE Tryz.underlying47 rfl flInfo h
theorem dropF_cons {α:Type} {l:List α} {k:Nat} {x:α} (h:l[k]? =some x):l.drop k=x::l.drop (k+1):=by
 obtain⟨h1,h2⟩:=List.getElem?_eq_some_iff.1 h
 rw [List.drop_eq_getElem_cons h1,h2]
end Go.Proofs.YtcglcphhfmkccaaGreatDoor
namespace Go.Proofs.YtcglcphhfmkccaaGreatDoor
open Go.RowKit
end Go.Proofs.YtcglcphhfmkccaaGreatDoor
namespace Go.Proofs.YtcglcphhfmkccaaGreatDoor
open Go.RowKit
def FlBlk (w:World) (g:Nat) (f:Fil) (dv:Value):Prop:=w.heap[g]? =some (.cells (flCs f dv) 47 (0,0))
theorem FlBlk.keep {w w':World} {g B:Nat} {f:Fil} {dv:Value} (h:FlBlk w g f dv) (hb:Below B w w') (hB:g<B):FlBlk w' g f dv:=by unfold FlBlk at *;rw [hb.block g hB];exact h
theorem FlBlk.below {w w':World} {g:Nat} {f:Fil} {dv:Value} (h:FlBlk w g f dv) (hb:Below w.heap.size w w'):FlBlk w' g f dv:=h.keep hb (Array.getElem?_eq_some_iff.1 h).1
theorem FlBlk.range {w:World} {g:Nat} {f:Fil} {dv:Value} (h:FlBlk w g f dv):w.rangeAt g 0 (flCs f dv).toList:=fun j u hj=>by
 unfold FlBlk at h
 simp only [World.cell?,h,Nat.zero_add]
 simpa using hj
theorem FlBlk.c0 {w:World} {g:Nat} {f:Fil} {dv:Value} (h:FlBlk w g f dv):w.cell? ⟨g,0,none⟩=some (.string ⟨f.name.toArray⟩):=h.range 0 _ rfl
theorem flBlk_alloc (w:World) (f:Fil) (dv:Value):FlBlk (w.alloc (.cells (flCs f dv) 47)) w.heap.size f dv:=heap_alloc_new w _
end Go.Proofs.YtcglcphhfmkccaaGreatDoor
namespace Go.Proofs.YtcglcphhfmkccaaGreatDoor
open Go.RowKit
section
variable {w : World} {g : Nat} {o : DOp} {bv kv : Value}
end
theorem tkl {P:Program} {ops:Array Oper} {Q:Exit→Act→World→Prop} {md:Region.Mode} {S:World→Prop} {d:Option Tmp} {ty:TypeId} {x:Operand} {t:TypeId} {p:String} {af:Array Edge} {g:Option (Nat×Bool)} {fuel:Nat} {listed:Array Bool} {a:Act} {w:World}
  (i:Nat) (b o:Nat) (cs:List Value) {de:TypeDesc} (hi:ops[i]? =some ⟨d,.load ty x,t,p,af,g⟩) (hx:a.eval x= .pointer (some ⟨b,o,none⟩)) (hc: ∀ w,S w→w.rangeAt b o cs) (hu:P.underlying ty=some de) (hd:de.isRow=true) (hin:(P.info? ty).map (·.size)=some cs.length)
  (h:wpAnyH P md ops Q S fuel (listed.setIfInBounds i true) (a.put d (.agg cs.toArray)) w)
  (hs:Region.noSelect ops=true:=by kernel_rfl) (hf:Region.free md ops listed i=true:=by kernel_rfl) (hr:(Region.ready md ops listed).contains i=true:=by kernel_rfl)
  (hQ: ∀ c a w,Q (.panic c) (a.put d (.agg cs.toArray)) w→Q (.panic c) a w:=by exact fun _ _ _ h=>h) (hw:Region.wanted ⟨d,.load ty x,t,p,af,g⟩ (yielded ops a.tmps)=true:=by kernel_rfl) (hS:S w:=by assumption):
  wpAnyH P md ops Q S (fuel+1) listed a w:=wpAnyH_take hi hs hf hr hQ (yieldsIf_load_mid hw ty x rfl b o hx cs de hc hu hd hin) hS h
end Go.Proofs.YtcglcphhfmkccaaGreatDoor

namespace Go.Proofs.YtcglcphhfmkccaaGreatDoor
open Go.RowKit
def OwnD {α:Type} (e:TypeId) (size:Nat) (cs:α→Value→List Value) (dat:α→List UInt8) (w:World) (B:Nat) (v:Value) (ps:List (α×Value)):Prop:=
 w.ownsRow B e size v ps.length (ps.flatMap fun p=>cs p.1 p.2)∧ ∀ p∈ps,DatAt w p.2 (dat p.1)∧ ∀ g,datBlk p.2=some g→B≤g
theorem DatAt.later {w w':World} {v:Value} {l:List UInt8} (h:DatAt w v l) (hb:Below w.heap.size w w'):DatAt w' v l:=h.kept fun g hg=>hb.block g (h.lt hg)
theorem dat_ne_row {w:World} {v vr:Value} {l:List UInt8} {B size n:Nat} {e:TypeId} {xs:List Value} (hd:DatAt w v l) (hr:w.ownsRow B e size vr n xs) (hne:e≠5) {g:Nat} (hg:datBlk v=some g):vr.ownBlock≠some g:=by
 intro hk
 rcases hd with⟨_,ao,rfl⟩ | ⟨g',cap,cur,rfl,h0,h1,_⟩
 ·cases ao<;>simp [datBlk] at hg
 ·simp only [datBlk,if_neg (show ¬ cap=0 by omega),Option.some.injEq] at hg
  subst hg
  rcases hr.2 with⟨rfl,_⟩ | ⟨k,cap',cur',rfl,_,hb,_⟩
  ·cases hk
  ·have e1:k=g':=Option.some.inj hk
   subst e1
   rw [h1] at hb
   simp only [Option.some.injEq,Obj.cells.injEq] at hb
   exact hne hb.2.1.symm
theorem browIn_dat {A:Nat→Prop} {w:World} {v:Value} {l:List UInt8} (h:DatAt w v l) (hA: ∀ g,datBlk v=some g→A g):BRowIn A w v l:=by
 have hb:=h.brow
 rcases h with⟨rfl,ao,rfl⟩ | ⟨g,cap,cur,rfl,h0,h1,h2,h3,h4,h5⟩
 ·exact⟨ao,0,rfl,Nat.le_refl _,fun h=>absurd rfl h⟩
 ·refine⟨_,cap,rfl,h2,fun hn=>⟨g,0,rfl,hA g (by simp only [datBlk,if_neg (show ¬ cap=0 by omega)]),?_⟩⟩
  obtain⟨oa',cap',e,_,hc⟩:=hb
  simp only [Value.slice.injEq] at e
  obtain⟨b,off,e2,hcell⟩:=hc hn
  rw [←e.1] at e2
  simp only [Option.some.injEq,Addr.mk.injEq] at e2
  obtain⟨rfl,rfl,_⟩:=e2
  exact hcell
section
variable {α : Type} {e : TypeId} {size : Nat} {cs : α → Value → List Value} {dat : α → List UInt8}
theorem OwnD.later {w w':World} {B:Nat} {v:Value} {ps:List (α×Value)} (h:OwnD e size cs dat w B v ps) (hb:Below w.heap.size w w'):OwnD e size cs dat w' B v ps:=
 ⟨own_later h.1 hb,fun p hp=>⟨(h.2 p hp).1.later hb,(h.2 p hp).2⟩⟩
theorem ownD_fresh (w:World) (B:Nat) (hB:B≤w.heap.size):OwnD e size cs dat (w.alloc (.cells #[] e)) B (.slice (some ⟨w.heap.size,0,none⟩) 0 0) []:=⟨own_fresh w _ size B hB,fun _ h=>by cases h⟩
theorem wp_appD {o:Oper} {a:Act} {K:Act→World→Prop} {Q:Exit→Act→World→Prop} {w:World} (s y:Operand) (t:TypeId) (ho:o.op= .call {callee:= .builtin .append,args:= #[s,y],argTypes:= #[t,t]})
  {i:TypeInfo} {z:Value} {bytes:Nat} (ht:Tryz.prog.underlying t=some (.slice e)) (hi:Tryz.prog.info? e=some i) (hz0:i.zero=some z) (hz1:i.size=size) (hz2:i.bytes=bytes) (hzs:z.cells.size=size) (hsz:0<size) (hne:e≠5)
  (hcl: ∀ x v,(cs x v).length=size) (hc1: ∀ x v,v.oneCell'=true→ ∀ u∈cs x v,u.oneCell'=true) {B:Nat} {v:Value} {ps news:List (α×Value)} {m:Nat} {cells:Array Value}
  (hs:a.eval s=v) (hy:a.eval y= .slice (some ⟨w.heap.size,0,none⟩) m m) (hm:m=news.length) (hcells:cells.toList=news.flatMap fun p=>cs p.1 p.2) (hown:OwnD e size cs dat w B v ps) (hB:B≤w.heap.size)
  (hd: ∀ p∈news,DatAt w p.2 (dat p.1)∧ ∀ g,datBlk p.2=some g→B≤g) (hl:ps.length+m≤4611686018427387904) (hlb:(ps.length+m)*bytes≤140737488355328)
  (h: ∀ v' w',OwnD e size cs dat w' B v' (ps++news)→Below B w w'→w.heap.size≤w'.heap.size→K (a.put o.dst v') w'):o.wp Tryz.prog a (w.alloc (.cells cells e)) K Q:=by
 have hb:=below_alloc w (.cells cells e)
 have hone: ∀ (x:Value) (l:List UInt8),DatAt w x l→x.oneCell'=true:=fun x l hx=>by
  obtain⟨_,_,e1,_⟩:=hx.shape
  rw [e1];rfl
 have hlen: ∀ qs:List (α×Value),(qs.flatMap fun p=>cs p.1 p.2).length=qs.length*size:=fun qs=>by
  induction qs with
  | nil=>simp
  | cons q qs ih=>rw [List.flatMap_cons,List.length_append,ih,hcl,List.length_cons,Nat.add_mul];omega
 subst hm
 refine wp_append_own _ s y t ho B e i z size bytes ht hi hz0 hz1 hz2 hzs hsz v ps.length _ hs (own_later hown.1 hb) ⟨w.heap.size,0,none⟩ news.length news.length (news.flatMap fun p=>cs p.1 p.2) hy (hlen news) (fun j u hj=> ?_) (fun u hu=> ?_) (by unfold maxLen;omega) hlb (Nat.le_trans hB hb.size) ?_
 ·rw [addr_add,Nat.zero_add,World.cell?_alloc_new,←hcells] at*
  simpa using hj
 ·obtain⟨p,hp,hu⟩:=List.mem_flatMap.1 hu
  exact hc1 _ _ (hone _ _ (hd p hp).1) u hu
 ·intro v' w' hown' hg _
  have hrow0:=own_later hown.1 hb
  have hb2:=below_of_grown hrow0 (Nat.le_trans hB hb.size) hg
  have keep: ∀ (x:Value) (l:List UInt8),DatAt w x l→DatAt w' x l:=fun x l hx=>by
   have hx':=hx.later hb
   exact hx'.kept fun g hg'=>hg.block g (hx'.lt hg') fun e1=>dat_ne_row hx' hrow0 hne hg' e1.symm
  refine h v' w' ⟨?_,fun p hp=> ?_⟩ ((hb.mono hB).trans hb2) (Nat.le_trans hb.size hg.size)
  ·rw [List.length_append,List.flatMap_append]
   exact hown'
  ·rcases List.mem_append.1 hp with hp | hp
   ·exact⟨keep _ _ (hown.2 p hp).1,(hown.2 p hp).2⟩
   ·exact⟨keep _ _ (hd p hp).1,(hd p hp).2⟩
end
abbrev OwnG:=OwnD (α:=Fil) 47 3 (fun f v=>(flCs f v).toList) (fun f=>f.data)
theorem OwnG.files {A:Nat→Prop} {w:World} {B:Nat} {v:Value} {ps:List (Fil×Value)} (h:OwnG w B v ps) (hA: ∀ k,B≤k→A k):FilesIn A w v (ps.map (·.1)):=
 files_own h.1 hA fun p hp=>browIn_dat (h.2 p hp).1 fun g hg=>hA g ((h.2 p hp).2 g hg)
theorem flCs_one (f:Fil) (v:Value) (h:v.oneCell'=true): ∀ u∈(flCs f v).toList,u.oneCell'=true:=by
 intro u hu
 simp [flCs] at hu
 rcases hu with rfl | rfl | rfl
 ·rfl
 ·exact h
 ·rfl
theorem wp_appG {o:Oper} {a:Act} {K:Act→World→Prop} {Q:Exit→Act→World→Prop} {w:World} (s y:Operand) (ho:o.op= .call {callee:= .builtin .append,args:= #[s,y],argTypes:= #[22,22]})
  {B:Nat} {v:Value} {ps:List (Fil×Value)} {f:Fil} {dv:Value} (hs:a.eval s=v) (hy:a.eval y= .slice (some ⟨w.heap.size,0,none⟩) 1 1) (hown:OwnG w B v ps) (hB:B≤w.heap.size)
  (hd:DatAt w dv f.data) (hd2: ∀ g,datBlk dv=some g→B≤g) (hl:ps.length+1≤2932031007402)
  (h: ∀ v' w',OwnG w' B v' (ps++[(f,dv)])→Below B w w'→w.heap.size≤w'.heap.size→K (a.put o.dst v') w'):o.wp Tryz.prog a (w.alloc (.cells (flCs f dv) 47)) K Q:=by
 obtain⟨i0,hi,hz0,hz1,hz2⟩:=info_parts infoFl
 exact wp_appD s y _ ho (news:=[(f,dv)]) Tryz.underlying22 hi hz0 hz1 hz2 rfl (by decide) (by decide) (fun _ _=>rfl) flCs_one hs hy rfl (by simp) hown hB (fun p hp=>by simp at hp;rw [hp];exact⟨hd,hd2⟩) (by omega) (by omega) h
end Go.Proofs.YtcglcphhfmkccaaGreatDoor

namespace Go.Proofs.YtcglcphhfmkccaaGreatDoor
theorem bar_front {d:Disk} {o:DOp} (h:barD d o=0):d.down=false∧rightName o.name=true∧(o.k=3→rightName o.to=true):=by
 unfold barD at h
 rcases hd:d.down
 ·rw [hd] at h
  simp only [Bool.false_eq_true,if_false] at h
  rcases hr:rightName o.name
  ·rw [hr] at h;simp at h
  ·rw [hr] at h
   refine⟨rfl,rfl,fun hk=> ?_⟩
   rcases ht:rightName o.to
   ·rw [ht,hk] at h;simp at h
   ·rfl
 ·rw [hd] at h;simp at h
theorem bar_none {d:Disk} {o:DOp} (h:barD d o=0) (ha:atF d.files o.name=none):o.k=0∧d.files.length<700:=by
 obtain⟨h1,h2,h3⟩:=bar_front h
 unfold barD at h
 rw [h1,h2,ha] at h
 by_cases h0:o.k=0
 ·refine⟨h0,?_⟩
  simp [h0] at h
  exact h
 ·exfalso
  by_cases hk:o.k=3
  ·have:=h3 hk
   simp [hk,this] at h
  ·simp [h0,hk] at h
theorem bar_some {d:Disk} {o:DOp} {f:Fil} (h:barD d o=0) (ha:atF d.files o.name=some f):
  o.k≠0∧(o.k=1→(o.b.length:Int)≤d.room - (usedF d.files:Int))∧(o.k=5→0≤o.n∧o.n≤(f.data.length:Int))∧(o.k=6→0≤o.n∧0≤o.m∧o.n≤(f.data.length:Int)∧o.m≤(f.data.length:Int) - o.n):=by
 obtain⟨h1,h2,h3⟩:=bar_front h
 unfold barD at h
 rw [h1,h2,ha] at h
 have h4:(decide (o.k=3)&& !rightName o.to)=false:=by
  by_cases hk:o.k=3
  ·rw [h3 hk];simp
  ·simp [hk]
 simp only [h4,Bool.not_true,Bool.or_false,Bool.false_eq_true,if_false] at h
 by_cases h0:o.k=0
 ·exfalso;simp [h0] at h
 ·simp only [h0,decide_false,Bool.false_eq_true,if_false] at h
  refine⟨h0,fun hk=> ?_,fun hk=> ?_,fun hk=> ?_⟩
  ·simp [hk] at h;omega
  ·simp [hk] at h;omega
  ·simp [hk] at h;omega
theorem chgF_cases (o:DOp) (f:Fil) (h3:o.k≠3):(o.k=1∧chgF o f={f with data:=f.data++o.b})∨(o.k=2∧chgF o f={f with safe:=(f.data.length:Int)})∨
  (o.k=5∧chgF o f={f with data:=f.data.take o.n.toNat,safe:=if o.n<f.safe then o.n else f.safe})∨chgF o f=f:=by
 unfold chgF
 by_cases h1:o.k=1
 ·exact .inl ⟨h1,by rw [if_pos h1]⟩
 by_cases h2:o.k=2
 ·exact .inr (.inl ⟨h2,by rw [if_neg h1,if_pos h2]⟩)
 by_cases h5:o.k=5
 ·exact .inr (.inr (.inl ⟨h5,by rw [if_neg h1,if_neg h2,if_neg h3,if_pos h5]⟩))
 ·exact .inr (.inr (.inr (by rw [if_neg h1,if_neg h2,if_neg h3,if_neg h5])))
theorem chgD_ok {d x:Disk} {o:DOp} (h:DiskOk x) (hf:x.files=d.files) (hr:x.room=d.room) (hb:barD d o=0):DiskOk (chgD x o):=by
 obtain⟨b1,b2,b3⟩:=bar_front hb
 rcases ha:atF d.files o.name with _ | f
 ·obtain⟨c1,c2⟩:=bar_none hb ha
  unfold chgD
  rw [if_pos c1]
  refine h.put (f:=⟨o.name,[],0⟩) b2 ⟨by simp,by simp⟩ (fun y hy=> ?_) (by rw [hf];exact c2) (by simpa using h.used)
  rw [hf] at hy
  have:=List.find?_eq_none.1 ha y hy
  simpa using this
 ·obtain⟨c1,c2,c3,c4⟩:=bar_some hb ha
  have hax:atF x.files o.name=some f:=by rw [hf];exact ha
  obtain⟨hfn,hfm⟩:=at_name hax
  have hs:=h.safe f hfm
  have hu:=h.used
  by_cases h4:o.k=4
  ·unfold chgD
   rw [if_neg c1,hax]
   simp only [if_pos h4]
   exact h.take _
  by_cases h3:o.k=3
  ·unfold chgD
   rw [if_neg c1,hax]
   simp only [if_neg h4,if_pos h3]
   have e:chgF o f={f with name:=o.to}:=by
    unfold chgF
    rw [if_neg (by omega),if_neg (by omega),if_pos h3]
   rw [e]
   have k1:=h.take o.name
   have k2:=k1.take o.to
   have hl1:=takeF_length hax
   have hl2:(takeF o.to (takeF o.name x.files)).length≤(takeF o.name x.files).length:=List.length_filter_le _ _
   have hc:=h.count
   have u1:=usedF_take h.rise hax
   have u2:usedF (takeF o.to (takeF o.name x.files))≤usedF (takeF o.name x.files):=by
    rcases hat:atF (takeF o.name x.files) o.to with _ | y
    ·rw [take_none hat];exact Nat.le_refl _
    ·have:=usedF_take (fs:=takeF o.name x.files) k1.rise hat;omega
   have:=k2.put (f:={f with name:=o.to}) (b3 h3) hs (fun y hy=>by
    have:=(List.mem_filter.1 hy).2
    simpa using this) (by show (takeF o.to (takeF o.name x.files)).length<700;omega) (by show (usedF (takeF o.to (takeF o.name x.files)):Int)+f.data.length≤x.room;omega)
   exact this
  ·rw [chg_set (x:=f) h.rise hax c1 h3 h4]
   rcases chgF_cases o f h3 with⟨hk1,e⟩ | ⟨hk1,e⟩ | ⟨hk1,e⟩ | e
   ·have:=c2 hk1
    rw [e]
    refine h.setFile hax hfn ?_ ?_
    ·simp only [List.length_append];omega
    ·simp only [List.length_append]
     rw [hf,hr]
     omega
   ·rw [e]
    exact h.setFile hax hfn (by simp only;omega) (by simp only;omega)
   ·have:=c3 hk1
    rw [e]
    refine h.setFile hax hfn ?_ ?_
    ·simp only [List.length_take]
     split<;>omega
    ·simp only [List.length_take];omega
   ·rw [e]
    exact h.setFile hax hfn hs (by omega)
theorem doD_ok {d:Disk} {o:DOp} (h:DiskOk d) (h8:o.k≠8) (hn:o.n≤9223372036854775807):DiskOk (doD d o).1:=by
 by_cases h9:o.k=9
 ·unfold doD
  rw [if_neg h8,if_pos h9]
  refine⟨h.rise,h.names,h.safe,h.count,h.room,h.used,?_,h.steps,h.reads⟩
  show 0≤(if 0<o.n then o.n else 0)∧(if 0<o.n then o.n else 0)≤9223372036854775807
  split<;>omega
 by_cases hr:o.k<0∨9<o.k
 ·unfold doD
  rw [if_neg h8,if_neg h9,if_pos hr]
  exact h
 have hk:0≤o.k∧o.k≤7:=by omega
 by_cases hb:barD d o=0
 ·by_cases h5:o.k≤5
  ·rw [doD_step ⟨hk.1,h5⟩ hb]
   have hs:DiskOk (chgD (stepD d) o):=chgD_ok (d:=d) h.step (stepD_files d) (stepD_room d) hb
   by_cases hf:d.fuse=1
   ·simp only [if_pos hf]
    split
    ·exact hs
    ·exact h.step
   ·simp only [if_neg hf]
    exact hs
  ·unfold doD
   rw [if_neg h8,if_neg h9,if_neg hr,if_neg (by simpa using hb)]
   by_cases h6:o.k=6
   ·rw [if_pos h6]
    have hm:0≤o.m:=by
     rcases ha:atF d.files o.name with _ | f
     ·have:=(bar_none hb ha).1;omega
     ·exact((bar_some hb ha).2.2.2 h6).2.1
    exact⟨h.rise,h.names,h.safe,h.count,h.room,h.used,h.fuse,h.steps,by show -9223372036854775808≤IntKind.i64.wrap (d.reads+o.m)∧IntKind.i64.wrap (d.reads+o.m)≤9223372036854775807;rw [IntKind.wrap_i64];omega⟩
   ·rw [if_neg h6,if_pos (by omega)]
    exact h
 ·rw [doD_barred hk hb]
  exact h
end Go.Proofs.YtcglcphhfmkccaaGreatDoor
namespace Go.Proofs.YtcglcphhfmkccaaGreatDoor
def clampRoom (r:Int):Int:=if r<0 then 0 else if 67108864<r then 67108864 else r
def newD (r:Int):Disk:=⟨[],clampRoom r,0,false,0,0⟩
def zeroD:Disk:=⟨[],0,0,false,0,0⟩
theorem clamp_bounds (r:Int):0≤clampRoom r∧clampRoom r≤67108864:=by unfold clampRoom;split<;>(try split)<;>omega
theorem newD_ok (r:Int):DiskOk (newD r) where
 rise:=List.Pairwise.nil
 names:=fun _ h=>by cases h
 safe:=fun _ h=>by cases h
 count:=Nat.zero_le _
 room:=clamp_bounds r
 used:=by have:=(clamp_bounds r).1;simpa [newD,usedF] using this
 fuse:=⟨Int.le_refl _,by show (0:Int)≤9223372036854775807;decide⟩
 steps:=Int.le_refl _
 reads:=by show (-9223372036854775808:Int)≤0∧(0:Int)≤9223372036854775807;decide
def mountE (d:Disk) (f:Fil):Int:=
 if !rightName f.name then 50 else if (atF d.files f.name).isSome then 52 else if decide (f.safe<0) || decide ((f.data.length:Int)<f.safe) then 1
 else if decide (d.room - (usedF d.files:Int)<(f.data.length:Int)) then 54 else 0
def layF (d:Disk) (f:Fil):Disk:={d with files:=putF f d.files}
def mountGo:Disk→List Fil→Disk×Int
 | d,[]=>(d,0)
 | d,f::r=>if mountE d f=0 then mountGo (layF d f) r else (zeroD,mountE d f)
def mountD (room:Int) (fs:List Fil):Disk×Int:=if 700<fs.length then (zeroD,53) else mountGo (newD room) fs
theorem mountE_zero {d:Disk} {f:Fil} (h:mountE d f=0):rightName f.name=true∧atF d.files f.name=none∧0≤f.safe∧f.safe≤(f.data.length:Int)∧(f.data.length:Int)≤d.room - (usedF d.files:Int):=by
 unfold mountE at h
 rcases hr:rightName f.name
 ·rw [hr] at h;simp at h
 ·rw [hr] at h
  rcases ha:atF d.files f.name with _ | x
  ·rw [ha] at h
   simp only [Bool.not_true,Bool.false_eq_true,if_false,Option.isSome_none] at h
   by_cases hs:f.safe<0∨(f.data.length:Int)<f.safe
   ·rw [if_pos (by simpa using hs)] at h;cases h
   ·rw [if_neg (by simpa using hs)] at h
    by_cases hl:d.room - (usedF d.files:Int)<(f.data.length:Int)
    ·rw [if_pos (by simpa using hl)] at h;cases h
    ·exact⟨rfl,rfl,by omega,by omega,by omega⟩
  ·rw [ha] at h;simp at h
theorem layF_ok {d:Disk} {f:Fil} (h:DiskOk d) (he:mountE d f=0) (hc:d.files.length<700):DiskOk (layF d f):=by
 obtain⟨h1,h2,h3,h4,h5⟩:=mountE_zero he
 refine h.put h1 ⟨h3,h4⟩ (fun x hx=> ?_) hc (by omega)
 have:=List.find?_eq_none.1 h2 x hx
 simpa using this
theorem mountGo_ok: ∀ (fs:List Fil) (d:Disk),DiskOk d→d.files.length+fs.length≤700→(mountGo d fs).2=0→DiskOk (mountGo d fs).1
 | [],_,h,_,_=>h
 | f::r,d,h,hc,he=>by
  rw [mountGo] at he ⊢
  by_cases h0:mountE d f=0
  ·rw [if_pos h0] at he ⊢
   simp only [List.length_cons] at hc
   refine mountGo_ok r _ (layF_ok h h0 (by omega)) ?_ he
   simp only [layF,putF_length];omega
  ·rw [if_neg h0] at he
   exact absurd he h0
theorem mountD_ok {room:Int} {fs:List Fil} (h:(mountD room fs).2=0):DiskOk (mountD room fs).1∧(mountD room fs).1.steps=0∧(mountD room fs).1.down=false:=by
 have key: ∀ (fs:List Fil) (d:Disk),(mountGo d fs).2=0→(mountGo d fs).1.steps=d.steps∧(mountGo d fs).1.down=d.down:=fun fs=>by
  induction fs with
  | nil=>intro d _;exact⟨rfl,rfl⟩
  | cons f r ih=>
   intro d he
   rw [mountGo] at he ⊢
   by_cases h0:mountE d f=0
   ·rw [if_pos h0] at he ⊢
    exact ih _ he
   ·rw [if_neg h0] at he
    exact absurd he h0
 unfold mountD at h ⊢
 by_cases h7:700<fs.length
 ·rw [if_pos h7] at h;cases h
 ·rw [if_neg h7] at h ⊢
  exact⟨mountGo_ok fs _ (newD_ok room) (by simp [newD];omega) h,key fs _ h⟩
theorem dropF_cons' {α:Type} {l:List α} {k:Nat} {x:α} (h:l[k]? =some x):l.drop k=x::l.drop (k+1):=by
 obtain⟨h1,h2⟩:=List.getElem?_eq_some_iff.1 h
 rw [List.drop_eq_getElem_cons h1,h2]
theorem mountGo_at {fs:List Fil} {k:Nat} {f:Fil} (hf:fs[k]? =some f) (d:Disk):mountGo d (fs.drop k)=if mountE d f=0 then mountGo (layF d f) (fs.drop (k+1)) else (zeroD,mountE d f):=by
 rw [dropF_cons' hf,mountGo]
end Go.Proofs.YtcglcphhfmkccaaGreatDoor
namespace Go.Proofs.YtcglcphhfmkccaaGreatDoor
open Go.RowKit
end Go.Proofs.YtcglcphhfmkccaaGreatDoor
namespace Go.Proofs.YtcglcphhfmkccaaGreatDoor
open Go.RowKit
end Go.Proofs.YtcglcphhfmkccaaGreatDoor
namespace Go.Proofs.YtcglcphhfmkccaaGreatDoor
open Go.RowKit
end Go.Proofs.YtcglcphhfmkccaaGreatDoor
namespace Go.Proofs.YtcglcphhfmkccaaGreatDoor
open Go.RowKit
end Go.Proofs.YtcglcphhfmkccaaGreatDoor
namespace Go.Proofs.YtcglcphhfmkccaaGreatDoor
open Go.RowKit
end Go.Proofs.YtcglcphhfmkccaaGreatDoor

namespace Go.Proofs.YtcglcphhfmkccaaGreatDoor
open Go.RowKit Go.Maps Go.Sort
theorem sortNone (p:Option Addr) (cap:Nat) (w:World):
  Calls Tryz.prog 25 #[.slice p 0 cap] w fun e w'=>e= .returned (.tuple #[])∧w'=w:=Any.slices_Sort_string_none Tryz.lays190 p cap w
def ptrV:Option Nat→Value
 | none=> .pointer none
 | some g=> .pointer (some ⟨g,0,none⟩)
theorem ptrElem_inv {v:Value} {y:DataW Unit×List MemPlace} (h:ptrElem v=some y): ∃ c,v=ptrV c:=by
 unfold ptrElem at h
 split at h
 ·exact⟨none,rfl⟩
 ·exact⟨some _,rfl⟩
 ·cases h
theorem before_le: ∀ {a b:List UInt8},bytesBefore a b=true→a≤b
 | [],_,_=>List.nil_le _
 | x::a,[],h=>by simp [bytesBefore] at h
 | x::a,y::b,h=>by
  rw [bytesBefore] at h
  rcases Nat.lt_trichotomy x.toNat y.toNat with h1 | h1 | h1
  ·exact List.cons_le_cons_iff.2 (.inl (by rw [UInt8.lt_iff_toNat_lt];exact h1))
  ·have e:x=y:=UInt8.toNat_inj.1 h1
   subst e
   simp at h
   exact List.cons_le_cons_iff.2 (.inr ⟨rfl,before_le h⟩)
  ·exfalso
   simp at h
   rcases h with h | h
   ·have:=UInt8.lt_iff_toNat_lt.1 h;omega
   ·rw [h.1] at h1;omega
def namesL (L:List Slot):List (List UInt8):=L.map fun s=>s.fil.name
theorem names_sorted {L:List Slot} {ss:List (List UInt8)} (h:Rise (fils L)) (hp:ss.Perm (namesL L)):ss.mergeSort (fun x y=>decide (x≤y))=namesL L:=by
 refine List.Perm.eq_of_pairwise (le:=fun a b=>decide (a≤b)=true) (fun a b _ _ h1 h2=> ?_) (List.pairwise_mergeSort (fun a b c h1 h2=> ?_) (fun a b=> ?_) _) ?_ ((List.mergeSort_perm _ _).trans hp)
 ·exact List.le_antisymm (of_decide_eq_true h1) (of_decide_eq_true h2)
 ·exact decide_eq_true (List.le_trans (of_decide_eq_true h1) (of_decide_eq_true h2))
 ·rw [Bool.or_eq_true,decide_eq_true_eq,decide_eq_true_eq];exact List.le_total a b
 ·unfold Rise fils at h
  rw [List.pairwise_map] at h
  unfold namesL
  rw [List.pairwise_map]
  exact h.imp fun hab=>decide_eq_true (before_le hab)
theorem strKeys_ents (L:List Slot):strKeys (DataW.map (ents L))=namesL L:=by
 simp [strKeys,ents,namesL,strOf,Function.comp]
set_option maxRecDepth 100000 in
set_option maxHeartbeats 1000000 in
theorem fsNames_any (w:World) (f m:Nat) (d:Disk) (L:List Slot) (h:FsAt w f m d L) (hL:L.length≤1000000):
  Calls Tryz.prog 17 #[.pointer (some ⟨f,0,none⟩)] w fun e w'=> ∃ v,e= .returned v∧w'.ownsRow w.heap.size 9 1 v L.length ((namesL L).map encStr)∧Below w.heap.size w w':=by
 obtain⟨i0,hi,hz0,hz1,hz2⟩:=info_parts (show (Tryz.prog.info? 9).map (fun i=>(i.zero,i.size,i.bytes))=some (some (.string ⟨#[]⟩),1,16) by kernel_rfl)
 have c0:=h.hd.c0
 have HOWN:=Lib.hid h.body.map
 have HR:=Lib.hid h.body.rise
 have hml:=h.body.map.lt
 have HML:=Lib.hid hml
 have hsz:Maps.size (DataW.map (ents L))=L.length:=by simp [Maps.size,ents_length]
 clear h
 go_enter Tryz.func17,Tryz.ntmps17
 go_wp2_with (first
  | (at_range;refine wpList_range_own _ rfl _ 50 rfl 9 49 (string_keyed Tryz.underlying9) Tryz.underlying50 ptrElem m L.length _ rfl HOWN.out ?_;intro w0 hrg0 hg0 hs0))
 go_frame
 go_loopw [3,4] (fun v _ wr=> ∃ (left:Lit→Bool) (cnt:Nat) (ss:List (List UInt8)),wr.ranges Tryz.prog 9 ptrElem m w.heap.size L.length (.map (ents L)) left cnt∧ss.length+cnt≤L.length∧
   wr.ownsRow w.heap.size 9 1 v ss.length (ss.map encStr)∧Hid (Collected (DataW.map (ents L)) left ss)∧RowKit.Below w.heap.size w wr)
  (fun _ _ wr=>wr.rangeLeft m w.heap.size)
 case atStart=>
  exact⟨_,_,[],hrg0,by simp [hsz],World.ownsRow_nil _ _ _ _,Lib.hid (Collected.start _),(RowKit.Below.refl _ _).grown hg0 (Nat.le_refl _) (fun j hj=>by cases hj)⟩
 case round=>
  obtain⟨left,cnt,ss,hrg,hcs,hrow,HC,hnx⟩:=hrel
  have HNX:=Lib.hid hnx
  go_wp2_with (first
   | (at_next;refine wpList_next_ranges _ rfl _ rfl 9 (string_keyed Tryz.underlying9) ptrElem encStr ptrV (fun key kl hk=>by obtain⟨x,hx,_⟩:=Maps.keyOf_str Tryz.underlying9 hk;exact⟨x,hx⟩) (fun v y hv=>ptrElem_inv hv) m w.heap.size L.length _ _ _ rfl hrg ?_ ?_))
  ·
   intro hc0 hl0
   have hperm:ss.Perm (namesL L):=by rw [←strKeys_ents];exact HC.out.perm HOWN.out (string_keyed Tryz.underlying9) Tryz.underlying9 hl0
   have hlen:ss.length=L.length:=by rw [hperm.length_eq];simp [namesL]
   have HSO:=Lib.hid (names_sorted HR.out hperm)
   clear hperm HC hl0
   rcases hrow.2 with⟨rfl,hnil⟩ | ⟨g,cap,cur,rfl,hbase,hb,h1,h2,h3,h4⟩
   ·have hn:namesL L=[]:=List.length_eq_zero_iff.1 (by rw [show (namesL L).length=L.length by simp [namesL],←hlen];exact hnil)
    have HR0:=Lib.hid (show wr.ownsRow w.heap.size 9 1 (.slice none 0 0) L.length ((namesL L).map encStr) by rw [hn,←hlen,hnil];exact World.ownsRow_nil _ _ _ _)
    clear hrow hnil hn hlen
    go_wp2_with (go_at_call 25;refine(sortNone none 0 wr).mono ?_;rintro e w1 ⟨rfl,rfl⟩)
    go_ret
    exact⟨_,rfl,HR0.out,HNX.out⟩
   ·have HH:=Lib.hid (holds_of_block (ss:=ss) hb (by simpa using h4))
    have HGL:=Lib.hid (Array.getElem?_eq_some_iff.1 hb).1
    have HOS:=Lib.hid (fun(n:Nat) (os:Array Obj)=>ownsRow_sorted (n:=n) (os:=os) (base:=w.heap.size) (cap:=cap) (ss:=ss) (ts:=namesL L) (by simp [namesL,hlen]) hbase hb h1 h2 h3)
    have HBS:=Lib.hid hbase
    have hll:ss.length<4611686018427387904:=by omega
    have HLEN:=Lib.hid hlen
    clear hrow hb h4 h3 h2 hbase hlen
    go_wp2_with fail
    refine(Tryz.slices_Sort_string g 0 cap ss wr HH.out HGL.out hll).mono ?_
    rintro e w1 ⟨rfl,nn,os,hw1⟩
    rw [HSO.out] at hw1
    have HB:=Lib.hid (show RowKit.Below w.heap.size w w1 by rw [hw1];exact HNX.out.grown (grownBy_sorted (g:=g) (n:=nn) (os:=os) (namesL L).toArray) HNX.out.size (fun k e=>by cases e;exact HBS.out))
    have HW:=Lib.hid (show w1.ownsRow w.heap.size 9 1 (.slice (some ⟨g,0,none⟩) ss.length cap) ss.length ((namesL L).map encStr) by rw [hw1];exact HOS.out nn os)
    clear hw1
    go_wp2
    go_ret
    exact⟨_,rfl,by rw [←HLEN.out];exact HW.out,HB.out⟩
  ·
   intro x c kl yd yp w2 cnt2 hkey hlk hv hat hrg2 hlt hg2 hs2 hen
   obtain⟨x',ex,rfl,_⟩:=Maps.keyOf_str Tryz.underlying9 hkey
   obtain rfl:x=x':=encStr_inj ex
   have hrow2:=hrow.kept hg2 (Or.inr (row_ne_iter hrow hrg).symm)
   clear hs2
   go_wp2_with (first
    | (at_builtin;refine wpList_append_own _ rfl _ _ 35 rfl w.heap.size 9 i0 (.string ⟨#[]⟩) 1 16 Tryz.underlying35 hi hz0 hz1 hz2 rfl (by decide) _ _ _ rfl (hrow2.alloc _) ⟨w2.heap.size,0,none⟩ 1 1 [encStr x] rfl rfl (cell_one_new _ _ _) (by simp [Value.oneCell',encStr]) (by unfold maxLen at *;omega) (by omega) (by have:=hnx.size;have:=hg2.size;simp;omega) ?_;intro v' w3 hown' hg3 hnil3;go_frame))
   have hrg3:=(hrg2.alloc _).kept hg3 (row_ne_low hrow2 hml) (row_ne_iter hrow2 hrg2)
   go_roundw
   case rel=>
    refine⟨_,cnt2,ss++[x],hrg3,by simp;omega,by simpa using hown',Lib.hid (HC.out.step hlk hat),?_⟩
    exact((hnx.grown hg2 hnx.size (fun j hj=>by cases hj;exact Nat.le_refl _)).alloc (by have:=hnx.size;have:=hg2.size;omega) _).grown hg3 (by have:=hnx.size;have:=hg2.size;simp;omega) (fun j hj=>(hrow2.lt j hj).1)
   case measure=>rw [hrg3.left_eq,hrg.left_eq];exact hlt
end Go.Proofs.YtcglcphhfmkccaaGreatDoor
namespace Go.Proofs.YtcglcphhfmkccaaGreatDoor
open Go.RowKit
theorem slice_none_eq (w:World) (n cap:Nat):(binOp .eql 45 (.slice none n cap) (.slice none 0 0)).run Tryz.prog w= .ok (.bool true) w:=by kernel_rfl
theorem slice_some_eq (w:World) (ad:Addr) (n cap:Nat):(binOp .eql 45 (.slice (some ad) n cap) (.slice none 0 0)).run Tryz.prog w= .ok (.bool false) w:=by kernel_rfl
set_option maxRecDepth 100000 in
theorem clone_any (l:List UInt8) (v:Value) (w:World) (hv:BRow w v l) (hn:l.length≤140737488355328):
  Calls Tryz.prog 15 #[v] w fun e w'=> ∃ v',e= .returned v'∧OwnB w' w.heap.size v' l∧Below w.heap.size w w':=by
 obtain⟨oa,cap,rfl,hl,hc⟩:=hv
 rcases oa with _ | ad
 ·have hz:l=[]:=by
   by_cases h:l=[]
   ·exact h
   ·obtain⟨b,off,e,_⟩:=hc h;cases e
  subst hz
  have h1:=slice_none_eq w 0 cap
  clear hc hl hn
  go_enter Tryz.func15,Tryz.ntmps15
  go_wp2
  go_ret
  exact⟨_,rfl,OwnB.nil _ _,Below.refl _ _⟩
 ·have HV:=Lib.hid (show BRow w (.slice (some ad) l.length cap) l from⟨_,cap,rfl,hl,hc⟩)
  have h1:=slice_some_eq w ad l.length cap
  have hln:([]:List UInt8).length+l.length≤140737488355328:=by simpa using hn
  have HO:=Lib.hid (show OwnB (w.alloc (.cells #[] 5)) w.heap.size (.slice (some ⟨w.heap.size,0,none⟩) 0 0) [] from own_fresh w 5 1 w.heap.size (Nat.le_refl _))
  have HB:=Lib.hid (below_alloc w (.cells #[] 5))
  have HV1:=Lib.hid (show BRow (w.alloc (.cells #[] 5)) (.slice (some ad) l.length cap) l from by
   obtain⟨oa,cp,e,h3,h4⟩:=HV.out
   exact⟨oa,cp,e,h3,fun hn=>by obtain⟨b,off,e1,hcc⟩:=h4 hn;exact⟨b,off,e1,fun i x hx=>cell_later HB.out (hcc i x hx)⟩⟩)
  clear hc hn hl
  go_enter Tryz.func15,Tryz.ntmps15
  go_wp2_with (at_builtin;refine wpList_appB rfl _ _ rfl rfl rfl HO.out ?c1 HV1.out hln ?_)
  case c1=>exact HB.out.size
  intro v' w' h2 h3
  have HF:=Lib.hid h2
  have HG:=Lib.hid (HB.out.trans h3)
  clear h2 h3
  go_wp2
  go_ret
  exact⟨_,rfl,HF.out,HG.out⟩
theorem fsNew_any (room:Int) (w:World):
  Calls Tryz.prog 12 #[.int .i64 room] w fun e w'=> ∃ f m,e= .returned (.pointer (some ⟨f,0,none⟩))∧FsAt w' f m (newD room) []∧w.heap.size≤f∧w.heap.size≤m∧Below w.heap.size w w':=by
 have hmk:(Instr.makeMap 50 none).run Tryz.prog w= .ok (.map (some w.heap.size)) (w.alloc (.map #[] 0)):=rfl
 have sz:(w.alloc (.map #[] 0)).heap.size=w.heap.size+1:=by simp
 have hm:min (max 0 room) 67108864=clampRoom room:=by unfold clampRoom;split<;>(try split)<;>omega
 have HH:=Lib.hid (show HdAt ((w.alloc (.map #[] 0)).alloc (.cells (hdCs w.heap.size (hdOf (newD room))) 52)) (w.heap.size+1) w.heap.size (hdOf (newD room)) by
  rw [←sz];exact heap_alloc_new _ _)
 have HM:=Lib.hid ((w.ownsMap_made Tryz.prog 9 ptrElem).alloc (.cells (hdCs w.heap.size (hdOf (newD room))) 52))
 have HB:=Lib.hid (Below.next (below_alloc w (.map #[] 0)) (below_alloc _ (.cells (hdCs w.heap.size (hdOf (newD room))) 52)))
 clear sz
 go_enter Tryz.func12,Tryz.ntmps12
 go_wp2
 go_ret
 have hbd:Body ((w.alloc (.map #[] 0)).alloc (.cells (hdCs w.heap.size (hdOf (newD room))) 52)) (w.heap.size+1) w.heap.size []:=
  {map:=HM.out,slot:=fun s hs=>(List.not_mem_nil hs).elim,rise:=List.Pairwise.nil,apart:=And.intro (by omega) (And.intro (fun s hs=>(List.not_mem_nil hs).elim) List.Pairwise.nil)}
 refine⟨w.heap.size+1,w.heap.size,rfl,?_,by omega,by omega,?_⟩
 ·exact⟨HH.out,hbd,rfl,newD_ok room⟩
 ·exact HB.out
end Go.Proofs.YtcglcphhfmkccaaGreatDoor
namespace Go.Proofs.YtcglcphhfmkccaaGreatDoor
open Go.RowKit
end Go.Proofs.YtcglcphhfmkccaaGreatDoor

namespace Go.Proofs.YtcglcphhfmkccaaGreatDoor
open Go.RowKit
theorem run_eql4 (xs ys:List UInt8) (hx:xs.length=4) (hy:ys.length=4) (w:World):(binOp .eql 213 (.agg (Lib.byteCells xs).toArray) (.agg (Lib.byteCells ys).toArray)).run Tryz.prog w= .ok (.bool (xs==ys)) w:=
 run_eql_bytes (P:=Tryz.prog) w 213 5 4 Tryz.underlying213 Tryz.underlying5 (fun w=>by kernel_rfl) xs ys hx hy
theorem run_arr4 (a:Option Addr) (len cap:Nat) (h:4≤len) (w:World):(Instr.arrayAt 213 (.slice a len cap)).run Tryz.prog w= .ok (.pointer a) w:=by
 unfold Instr.arrayAt
 rw [Sem.run_bind,run_underlying Tryz.underlying213 w]
 simp [show ¬ len<4 by omega]
theorem range_bytes {w:World} {b off:Nat} {l:List UInt8} (h: ∀ (i:Nat) x,l[i]? =some x→w.cell? ⟨b,off+i,none⟩=some (.int .u8 (x.toNat:Int))):w.rangeAt b off (Lib.byteCells l):=fun j u hj=>by
 rw [Lib.byteCells,List.getElem?_map] at hj
 obtain⟨x,hx,rfl⟩:=Option.map_eq_some_iff.1 hj
 exact h j x hx
set_option maxRecDepth 100000 in
set_option maxHeartbeats 4000000 in
theorem closed_any (l:List UInt8) (v:Value) (w:World) (hv:BRow w v l) (hl:l.length≤9223372036854775807) (hn:NibTab w):
  Calls Tryz.prog 117 #[v] w fun e w'=>e= .returned (.bool (crcOk l))∧Below w.heap.size w w':=by
 rcases hq:decide (4≤l.length) with _ | _
 ·have hq4:=of_decide_eq_false hq
  have HE:=Lib.hid (show crcOk l=false by unfold crcOk;rw [hq];rfl)
  obtain⟨oa,cap,rfl,hlc,hc⟩:=hv
  have q1:(l.length:Int) - 4<0:=by omega
  clear hc hq
  go_enter Tryz.func117,Tryz.ntmps117
  go_wp2
  go_ret
  exact⟨by rw [HE.out];rfl,Below.refl _ _⟩
 ·have hq4:=of_decide_eq_true hq
  obtain⟨n,hn4⟩: ∃ n,l.length=n+4:=⟨l.length - 4,by omega⟩
  have HE:=Lib.hid (show crcOk l=(l.drop n==fourOf (crcSum (l.take n))) by unfold crcOk;rw [hq,hn4,Nat.add_sub_cancel];rfl)
  have HV:=Lib.hid (fun W (hb:Below w.heap.size w W)=>hv.below hb)
  have HNB:=Lib.hid hn
  obtain⟨oa,cap,rfl,hlc,hc⟩:=hv
  obtain⟨b,off,rfl,hcell⟩:=hc (by rintro rfl;simp at hq4)
  have HRG:=Lib.hid (show w.rangeAt b (off+n) (Lib.byteCells (l.drop n)) from range_bytes (fun i x hx=>by rw [List.getElem?_drop] at hx;rw [Nat.add_assoc];exact hcell _ x hx))
  have HSM:=Lib.hid (fun W oa' cap' (hb:Below w.heap.size w W) (hv:BRow W (.slice oa' n cap') (l.take n))=>crcSum_any (l.take n) _ W hv (hn.below hb) (by rw [List.length_take];omega))
  have HLD:=Lib.hid (show (l.drop n).length=4 by rw [List.length_drop];omega)
  obtain⟨s,hs⟩: ∃ s,s=crcSum (l.take n):=⟨_,rfl⟩
  rw [←hs] at HE HSM
  have hcn: ¬ cap=n:=by omega
  have q1: ¬ (l.length:Int) - 4<0:=by omega
  have q2:(l.length:Int) - 4=(n:Int):=by omega
  have HBR:=Lib.hid (HV.out w (Below.refl _ _))
  have hnl:n≤l.length:=by omega
  clear hc hcell hs hq hn
  have e2: ∀ w,(Instr.slice 45 (.slice (some ⟨b,off,none⟩) l.length cap) (some (.int .i64 (n:Int))) none none).run Tryz.prog w= .ok (.slice (some ⟨b,off+n,none⟩) 4 (cap - n)) w:=fun w=>by
   rw [run_cut_l _ _ _ _ hnl,sliced,if_neg hcn,show l.length - n=4 by omega]
   simp [Addr.add]
  have e3: ∀ w,(Instr.sliceAt 45 (.slice (some ⟨b,off,none⟩) l.length cap) (some (.int .i64 (n:Int))) none none).run Tryz.prog w= .ok (.slice (some ⟨b,off+n,none⟩) 4 (cap - n)) w:=fun w=>by rw [sliceAt_b,e2]
  have e4:=run_arr4 (some ⟨b,off+n,none⟩) 4 (cap - n) (by decide)
  have e5:=run_eql4 (l.drop n) (fourOf s) HLD.out rfl
  obtain⟨ls,hls⟩: ∃ x,x=Lib.byteCells (l.drop n):=⟨_,rfl⟩
  obtain⟨rs,hrs⟩: ∃ x,x=Lib.byteCells (fourOf s):=⟨_,rfl⟩
  obtain⟨bb,hbb⟩: ∃ x,x=(l.drop n==fourOf s):=⟨_,rfl⟩
  rw [←hls] at HRG e5
  rw [←hrs,←hbb] at e5
  have HRS:=Lib.hid hrs
  rw [←hbb] at HE
  have hll:ls.length=4:=by rw [hls,Lib.byteCells,List.length_map,HLD.out]
  have hrl:rs.length=4:=by rw [hrs];rfl
  have HLL:=Lib.hid hll
  have HRL:=Lib.hid hrl
  clear hls hrs hbb HLD hll hrl hn4 hq4
  go_enter Tryz.func117,Tryz.ntmps117
  go_wp2_with (with_reducible refine wpList_cut_h rfl (.tmp 10) (.tmp 11) rfl (some ⟨b,off,none⟩) cap n l rfl rfl HBR.out hnl ?_)
  intro oa' cap' hbr
  go_wp2_with fail
  refine(HSM.out w oa' cap' (Below.refl _ _) hbr).mono ?_
  rintro e w1 ⟨rfl,hb1⟩
  have HB1:=Lib.hid hb1
  have HR1:=Lib.hid (fun W (hb:Below w1.heap.size w1 W)=>range_later HRG.out (Below.next hb1 hb))
  clear hbr hb1 HSM HV
  go_wp2_with fail
  refine wp_region_held_drew (S:=fun w'=>Below w1.heap.size w1 w') (by kernel_rfl) (show Below w1.heap.size w1 w1.drew from below_drewN' w1 1) (fun hHeld=> ?_)
  refine tq 0 rfl ?_
  refine tq 1 rfl ?_
  refine tq 2 rfl ?_
  refine tq 3 rfl ?_
  refine tq 5 rfl ?_
  refine tkl 4 b (off+n) ls rfl rfl (fun w' h=>HR1.out w' h) Tryz.underlying213 rfl (by rw [HLL.out];kernel_rfl) ?_
  simp only [pA,pB,pC,pD]
  generalize World.drew _=Wd at*
  refine wpAnyH_ready (rs:=[6]) (by kernel_rfl) (by simp) ?_
  refine AllReadyH.cons rfl (fun K hK=> ?_) AllReadyH.nil
  go_simp
  go_at_call 88
  refine(crcFour_any s Wd).mono ?_
  rintro e w2 ⟨v2,rfl,ho2,hb2⟩
  obtain⟨g,cap2,rfl,_,_,hc2,_,hcell2⟩:=own_get ho2 (by decide)
  have HB2:=Lib.hid (Below.next hHeld hb2)
  have HR2:=Lib.hid (fun W (hb:Below w2.heap.size w2 W)=>range_later (show w2.rangeAt g 0 rs by rw [HRS.out];exact fun j u hj=>by rw [Nat.zero_add];exact hcell2 j u hj) hb)
  have e6:=run_arr4 (some ⟨g,0,none⟩) 4 cap2 (by decide)
  clear ho2 hb2 hHeld hcell2 HRS
  go_wp2_with fail
  refine hK.out _ _ HB2.out (fun hHeld=> ?_)
  clear hK K
  refine tq 7 rfl ?_
  refine wpAnyH_ready (rs:=[8]) (by kernel_rfl) (by simp) ?_
  refine AllReadyH.cons rfl (fun K hK=> ?_) AllReadyH.nil
  refine wp_load_mid 213 (.tmp 21) rfl g 0 rfl rs _ (HR2.out _ (Below.refl _ _)) Tryz.underlying213 rfl (by rw [HRL.out];kernel_rfl) ?_
  refine hK.out _ _ HB2.out (fun hHeld=> ?_)
  clear hK K
  refine tk 9 rfl ?v_1 ?hy_1 ?r_1
  case hy_1=>intro w hSw;go_simp;try with_reducible rfl
  simp only [pA]
  refine tk 10 rfl ?v_2 ?hy_2 ?r_2
  case hy_2=>intro w hSw;go_simp;try with_reducible rfl
  simp only [pA]
  refine wpAnyH_done (by kernel_rfl) ?_ _
  clear hHeld
  go_wp2
  go_ret
  exact⟨by rw [HE.out];rfl,Below.next HB1.out HB2.out⟩
end Go.Proofs.YtcglcphhfmkccaaGreatDoor

namespace Go.Proofs.YtcglcphhfmkccaaGreatDoor
open Go.RowKit
set_option maxRecDepth 100000 in
theorem frameSize_any (n:Nat) (w:World) (hn:n≤16384):Calls Tryz.prog 103 #[.int .i64 (n:Int)] w fun e w'=>e= .returned (.int .i64 (n+20:Nat))∧w=w':=by
 go_enter Tryz.func103,Tryz.ntmps103
 go_wp2
 go_ret
 exact⟨by simp;omega,rfl⟩
theorem i64_or_nat (a b:Nat) (ha:a<4294967296) (hb:b<4294967296):bits .or .i64 (a:Int) (b:Int)=((a ||| b:Nat):Int):=by
 have hx:a ||| b<2^32:=Nat.or_lt_two_pow (by omega) (by omega)
 show IntKind.i64.wrap ((BitVec.ofInt 64 (a:Int) ||| BitVec.ofInt 64 (b:Int)).toNat:Int)=_
 rw [BitVec.toNat_or,ofInt_u64 a (by omega),ofInt_u64 b (by omega),IntKind.wrap_i64]
 omega
theorem or256 {x y:UInt8}:bits .or .i64 (x.toNat:Int) ((y.toNat:Int)*256)=((x.toNat+y.toNat*256:Nat):Int):=by
 have h1:x.toNat<256:=x.toNat_lt
 have h2:y.toNat<256:=y.toNat_lt
 rw [show (y.toNat:Int)*256=((y.toNat*2^8:Nat):Int) by omega,i64_or_nat _ _ (by omega) (by omega),or_add (k:=8) (by omega)]
theorem or8 {u k:Nat} (x:UInt8) (hu:u<256^k) (hk:k<8):bits .or .u64 (u:Int) (IntKind.u64.wrap ((x.toNat:Int)*2^(8*k)))=((u+x.toNat*256^k:Nat):Int):=by
 have e:(256:Nat)^k=2^(8*k):=by rw [Nat.pow_mul]
 have hx:x.toNat<256:=x.toNat_lt
 have h8:(256:Nat)^(k+1)≤256^8:=Nat.pow_le_pow_right (by decide) (by omega)
 have h88:(256:Nat)^8=18446744073709551616:=by decide
 have hm:x.toNat*256^k≤255*256^k:=Nat.mul_le_mul_right _ (by omega)
 rw [Nat.pow_succ] at h8
 have hs:u+x.toNat*256^k<18446744073709551616:=by omega
 rw [e] at hu hs ⊢
 exact or64 hu hs
theorem byteAt_some {l:List UInt8} {i:Nat} {x:UInt8} (h:l[i]? =some x):byteAt l i=x.toNat:=by unfold byteAt;rw [List.getD_eq_getElem?_getD,h];rfl
theorem leNat_take {l:List UInt8} {k:Nat} {x:UInt8} (h:l[k]? =some x):leNat (l.take (k+1))=leNat (l.take k)+x.toNat*256^k:=by
 obtain⟨hk,rfl⟩:=List.getElem?_eq_some_iff.1 h
 rw [List.take_succ_eq_append_getElem hk,leNat_snoc,List.length_take,Nat.min_eq_left (by omega)]
theorem leNat_take_lt (l:List UInt8) (k:Nat):leNat (l.take k)<256^k:=
 Nat.lt_of_lt_of_le (leNat_lt _) (Nat.pow_le_pow_right (by decide) (by rw [List.length_take];omega))
theorem peek_short {b:List UInt8} (h:b.length<16):peekF b=(0,0,0,60):=by unfold peekF;rw [if_pos h]
theorem peek_mark {b:List UInt8} (h: ¬ b.length<16) (h1:byteAt b 0≠165):peekF b=(0,0,0,61):=by unfold peekF;rw [if_neg h,if_pos h1]
theorem peek_sum {b:List UInt8} (h: ¬ b.length<16) (h1: ¬ byteAt b 0≠165) (h2:crcOk (b.take 16)=false):peekF b=(0,0,0,62):=by unfold peekF;rw [if_neg h,if_neg h1,if_pos h2]
theorem peek_range {b:List UInt8} (h: ¬ b.length<16) (h1: ¬ byteAt b 0≠165) (h2: ¬ crcOk (b.take 16)=false) (h3:byteAt b 1=0∨7<byteAt b 1∨16384<byteAt b 2+byteAt b 3*256∨1099511627776<leNat ((b.drop 4).take 8)):peekF b=(0,0,0,63):=by
 unfold peekF;rw [if_neg h,if_neg h1,if_neg h2,if_pos h3]
theorem peek_good {b:List UInt8} (h: ¬ b.length<16) (h1: ¬ byteAt b 0≠165) (h2: ¬ crcOk (b.take 16)=false) (h3: ¬ (byteAt b 1=0∨7<byteAt b 1∨16384<byteAt b 2+byteAt b 3*256∨1099511627776<leNat ((b.drop 4).take 8))):
  peekF b=(byteAt b 1,leNat ((b.drop 4).take 8),byteAt b 2+byteAt b 3*256+20,0):=by
 unfold peekF;rw [if_neg h,if_neg h1,if_neg h2,if_neg h3]
def PeekPost (w:World) (r:Nat×Nat×Nat×Int) (e:Ending) (w':World):Prop:=e= .returned (.tuple #[.int .i64 (r.1:Int),.int .i64 (r.2.1:Int),.int .i64 (r.2.2.1:Int),.int .i64 r.2.2.2])∧Below w.heap.size w w'
set_option maxRecDepth 100000 in
set_option maxHeartbeats 4000000 in
theorem peek_any (l:List UInt8) (v:Value) (w:World) (hv:BRow w v l) (hl:l.length≤9223372036854775807) (hn:NibTab w):
  Calls Tryz.prog 116 #[v] w (PeekPost w (peekF l)):=by
 rcases h16:decide (l.length<16) with _ | _
 ·have hnl: ¬ l.length<16:=of_decide_eq_false h16
  have HNL:=Lib.hid hnl
  have q1: ¬ (l.length:Int)<16:=by omega
  have hle:16≤l.length:=by omega
  have HBR:=Lib.hid hv
  have HCL:=Lib.hid (fun oa' cap' (hv:BRow w (.slice oa' 16 cap') (l.take 16))=>closed_any (l.take 16) _ w hv (by rw [List.length_take];omega) hn)
  obtain⟨oa,cap,rfl,hlc,hc⟩:=hv
  obtain⟨b,off,rfl,hcell⟩:=hc (by rintro rfl;simp at hnl)
  have HC:=Lib.hid hcell
  obtain⟨x0,hx0,_,_⟩:=nth l 0 (by omega)
  obtain⟨x1,hx1,_,_⟩:=nth l 1 (by omega)
  obtain⟨x2,hx2,_,_⟩:=nth l 2 (by omega)
  obtain⟨x3,hx3,_,_⟩:=nth l 3 (by omega)
  have c0:w.cell? ⟨b,off,none⟩=some (.int .u8 (x0.toNat:Int)):=hcell 0 x0 hx0
  have HB0:=Lib.hid (byteAt_some hx0)
  have HB1:=Lib.hid (byteAt_some hx1)
  have HB2:=Lib.hid (byteAt_some hx2)
  have HB3:=Lib.hid (byteAt_some hx3)
  have HX1:=Lib.hid hx1
  have HX2:=Lib.hid hx2
  have HX3:=Lib.hid hx3
  clear hc hcell hx0 hx1 hx2 hx3 hn h16 hnl
  go_enter Tryz.func116,Tryz.ntmps116
  rcases hm:((x0.toNat:Int) != 165) with _ | _
  ·have HM:=Lib.hid (show ¬ byteAt l 0≠165 by rw [HB0.out];simp at hm;omega)
   go_wp2_with (with_reducible refine wpList_cut_h rfl (.tmp 20) (.const (.int .i64 16)) rfl (some ⟨b,off,none⟩) cap 16 l rfl rfl HBR.out hle ?_)
   intro oa' cap' hbr
   go_wp2_with fail
   refine(HCL.out oa' cap' hbr).mono ?_
   rintro e w1 ⟨rfl,hb1⟩
   have HBw:=Lib.hid hb1
   have c1:=cell_later hb1 (HC.out 1 x1 HX1.out)
   have c2:=cell_later hb1 (HC.out 2 x2 HX2.out)
   have c3:=cell_later hb1 (HC.out 3 x3 HX3.out)
   clear hb1 hbr HCL c0
   rcases hck:crcOk (l.take 16) with _ | _
   ·have HE:=Lib.hid (peek_sum HNL.out HM.out hck)
    go_wp2
    refine bodyPost_ret (v:= .tuple #[.int .i64 0,.int .i64 0,.int .i64 0,.int .i64 62]) (by simp [results,Tryz.results116,go_sem]) rfl ⟨by rw [HE.out];rfl,HBw.out⟩
   ·have HK:=Lib.hid (show ¬ crcOk (l.take 16)=false by rw [hck];decide)
    obtain⟨nn,hnn⟩: ∃ nn,nn=x2.toNat+x3.toNat*256:=⟨_,rfl⟩
    have n7:= @or256 x2 x3
    rw [←hnn] at n7
    have HN:=Lib.hid hnn
    have t3:x3.toNat<256:=x3.toNat_lt
    have t2:x2.toNat<256:=x2.toNat_lt
    have t1:x1.toNat<256:=x1.toNat_lt
    clear hck hnn
    go_wp2
    go_quiet (fail)
    have HB2w:=Lib.hid (Below.next HBw.out (below_drewN' w1 nq))
    have c1:(w1.drewN nq).cell? ⟨b,off+1,none⟩=some (.int .u8 (x1.toNat:Int)):=c1
    generalize w1.drewN nq=w2 at*
    clear n7 c2 c3 HBw
    go_wp2
    go_loopw [7,34] (fun sv iv wr=> ∃ k:Nat,k≤8∧iv= .int .i64 k∧sv= .int .u64 ((leNat ((l.drop 4).take k):Nat):Int)∧Below w.heap.size w wr) (fun _ iv _=>8 - (intOf iv).toNat)
    case atStart=>exact⟨0,by omega,rfl,rfl,HB2w.out⟩
    case round=>
     clear HB2w c1
     obtain⟨k,hk,rfl,rfl,hb⟩:=hrel
     have HBr:=Lib.hid hb
     clear hb
     by_cases hlt:k<8
     ·obtain⟨x,hx,_,_⟩:=nth l (4+k) (by omega)
      have q2:(k:Int)<8:=by omega
      have c1:=cell_later HBr.out (HC.out (4+k) x hx)
      have HX:=Lib.hid (show leNat ((l.drop 4).take (k+1))=leNat ((l.drop 4).take k)+x.toNat*256^k from leNat_take (by rw [List.getElem?_drop];exact hx))
      have hsl:=leNat_take_lt (l.drop 4) k
      obtain⟨s,hs⟩: ∃ s,s=leNat ((l.drop 4).take k):=⟨_,rfl⟩
      rw [←hs] at HX hsl ⊢
      have n1:=or8 x hsl hlt
      obtain⟨s2,hs2⟩: ∃ s2,s2=s+x.toNat*256^k:=⟨_,rfl⟩
      rw [←hs2] at HX n1
      have tx:x.toNat<256:=x.toNat_lt
      have n3:IntKind.u64.wrap (x.toNat:Int)=(x.toNat:Int):=by rw [IntKind.wrap_u64];omega
      have hidx:(4:Int)+(k:Int)<(l.length:Int):=by omega
      clear hs hs2 hsl hx
      go_wp2
      go_roundw
      case rel=>exact⟨k+1,by omega,by go_num,by rw [HX.out],HBr.out⟩
      case measure=>simp [intOf];omega
     ·obtain rfl:k=8:=by omega
      have c1:=cell_later HBr.out (HC.out 1 x1 HX1.out)
      obtain⟨s,hs⟩: ∃ s,s=leNat ((l.drop 4).take 8):=⟨_,rfl⟩
      rw [←hs]
      have HS:=Lib.hid hs.symm
      have hs64:s<18446744073709551616:=by rw [hs];exact leNat_take_lt (l.drop 4) 8
      clear hs hlt
      rcases g1:((x1.toNat:Int)==0) with _ | _
      ·rcases g2:decide ((7:Int)<(x1.toNat:Int)) with _ | _
       ·rcases g3:decide ((16384:Int)<(nn:Int)) with _ | _
        ·rcases g4:decide ((1099511627776:Int)<(s:Int)) with _ | _
         ·have h1: ¬ x1.toNat=0:=by simp at g1;omega
          have h2:=of_decide_eq_false g2
          have h3:=of_decide_eq_false g3
          have h4:=of_decide_eq_false g4
          have HE:=Lib.hid (peek_good HNL.out HM.out HK.out (by rw [HB1.out,HB2.out,HB3.out,←HN.out,HS.out];omega))
          rw [HB1.out,HB2.out,HB3.out,←HN.out,HS.out] at HE
          have n5:IntKind.i64.wrap (s:Int)=(s:Int):=by rw [IntKind.wrap_i64];omega
          have hnn:nn≤16384:=by omega
          clear h1 h2 h3 h4
          go_wp2_with fail
          refine(frameSize_any nn _ hnn).mono ?_
          rintro e w3 ⟨rfl,rfl⟩
          go_wp2
          refine bodyPost_ret (v:= .tuple #[.int .i64 (x1.toNat:Int),.int .i64 (s:Int),.int .i64 ((nn+20:Nat):Int),.int .i64 0]) (by simp [results,Tryz.results116,go_sem]) rfl ⟨by rw [HE.out],HBr.out⟩
         ·have h4:=of_decide_eq_true g4
          have HE:=Lib.hid (peek_range HNL.out HM.out HK.out (by rw [HB1.out,HB2.out,HB3.out,←HN.out,HS.out];omega))
          go_wp2
          refine bodyPost_ret (v:= .tuple #[.int .i64 0,.int .i64 0,.int .i64 0,.int .i64 63]) (by simp [results,Tryz.results116,go_sem]) rfl ⟨by rw [HE.out];rfl,HBr.out⟩
        ·have h3:=of_decide_eq_true g3
         have HE:=Lib.hid (peek_range HNL.out HM.out HK.out (by rw [HB1.out,HB2.out,HB3.out,←HN.out,HS.out];omega))
         go_wp2
         refine bodyPost_ret (v:= .tuple #[.int .i64 0,.int .i64 0,.int .i64 0,.int .i64 63]) (by simp [results,Tryz.results116,go_sem]) rfl ⟨by rw [HE.out];rfl,HBr.out⟩
       ·have h2:=of_decide_eq_true g2
        have HE:=Lib.hid (peek_range HNL.out HM.out HK.out (by rw [HB1.out,HB2.out,HB3.out,←HN.out,HS.out];omega))
        go_wp2
        refine bodyPost_ret (v:= .tuple #[.int .i64 0,.int .i64 0,.int .i64 0,.int .i64 63]) (by simp [results,Tryz.results116,go_sem]) rfl ⟨by rw [HE.out];rfl,HBr.out⟩
      ·have h1:x1.toNat=0:=by simp at g1;omega
       have H1:=Lib.hid h1
       clear h1
       have HE:=Lib.hid (peek_range HNL.out HM.out HK.out (by rw [HB1.out,HB2.out,HB3.out,←HN.out,HS.out];exact .inl H1.out))
       go_wp2
       refine bodyPost_ret (v:= .tuple #[.int .i64 0,.int .i64 0,.int .i64 0,.int .i64 63]) (by simp [results,Tryz.results116,go_sem]) rfl ⟨by rw [HE.out];rfl,HBr.out⟩
  ·have HM:=Lib.hid (show byteAt l 0≠165 by rw [HB0.out];simp at hm;omega)
   have HE:=Lib.hid (peek_mark HNL.out HM.out)
   go_wp2
   refine bodyPost_ret (v:= .tuple #[.int .i64 0,.int .i64 0,.int .i64 0,.int .i64 61]) (by simp [results,Tryz.results116,go_sem]) rfl ⟨by rw [HE.out];rfl,Below.refl _ _⟩
 ·have HE:=Lib.hid (peek_short (of_decide_eq_true h16))
  have q1:(l.length:Int)<16:=by have:=of_decide_eq_true h16;omega
  obtain⟨oa,cap,rfl,hlc,hc⟩:=hv
  clear hc h16 hn
  go_enter Tryz.func116,Tryz.ntmps116
  go_wp2
  refine bodyPost_ret (v:= .tuple #[.int .i64 0,.int .i64 0,.int .i64 0,.int .i64 60]) (by simp [results,Tryz.results116,go_sem]) rfl ⟨by rw [HE.out];rfl,Below.refl _ _⟩
end Go.Proofs.YtcglcphhfmkccaaGreatDoor

namespace Go.Proofs.YtcglcphhfmkccaaGreatDoor
open Go.RowKit
section
variable {ops : Array Oper} {rest : List Oper} {o : Oper} {a : Act} {Q : Exit → Act → World → Prop}
theorem wpList_appDat {w:World} (hgd:o.guard=none) (s y:Operand) (ho:o.op= .call {callee:= .builtin .append,args:= #[s,y],argTypes:= #[45,45]}) {v x:Value} {l m:List UInt8}
  (hs:a.eval s=v) (hy:a.eval y=x) (h:DatAt w v l) (hx:BRow w x m) (hl:l.length+m.length≤140737488355328)
  (hK: ∀ v' w',DatAt w' v' (l++m)→w.grownBy w' (datBlk v)→(∀ g,datBlk v'=some g→datBlk v=some g∨g=w.heap.size)→v'.oneCell'=true→wpList Tryz.prog ops Q rest (a.put o.dst v') w'):wpList Tryz.prog ops Q (o::rest) a w:=by
 refine wpList_plain hgd fun K hKK=> ?_
 obtain⟨v',w',hr,h1,h2,h3,h4⟩:=append_dat h hx hl o.type
 unfold Oper.wp
 simp [execOp,ho,resolve,invoke,builtin,hs,hy,hr,Result.andThen]
 exact hKK _ _ (hK v' w' h1 h2 h3 h4)
end
theorem BRowIn.turned {A S:Nat→Prop} {w w':World} {v:Value} {l:List UInt8} (h:BRowIn A w v l) (ht:Turned S w w') (hS: ∀ k,A k→ ¬ S k):BRowIn A w' v l:=by
 obtain⟨oa,cap,h1,h2,h3⟩:=h
 exact⟨oa,cap,h1,h2,fun hn=>by obtain⟨b,off,e,ha,hc⟩:=h3 hn;exact⟨b,off,e,ha,fun i x hx=>ht.cell (hc i x hx) (hS b ha)⟩⟩
theorem SlotAt.putData {w2 w3:World} {s:Slot} {v:Value} {l:List UInt8} (hb:w2.heap[s.blk]? =some (.cells (fileCs s) 55 (0,0))) (hd:DatAt w2 v l) (hv:datBlk v≠some s.blk) (hw:w3=w2.setCell ⟨s.blk,0,none⟩ v):
  SlotAt w3 ⟨{s.fil with data:=l},s.blk,v⟩:=by
 subst hw
 refine⟨?_,hd.kept fun g hg=> ?_⟩
 ·have e:(fileCs s).setIfInBounds 0 v=fileCs ⟨{s.fil with data:=l},s.blk,v⟩:=rfl
  rw [←e]
  simp only [World.setCell]
  rw [Array.getElem?_modify]
  simp [hb]
 ·simp only [World.setCell]
  rw [Array.getElem?_modify,if_neg (fun e=>hv (by rw [hg,e]))]
set_option maxRecDepth 100000 in
set_option maxHeartbeats 2000000 in
theorem append_any (w:World) (f m:Nat) (d:Disk) (L:List Slot) (h:FsAt w f m d L) (hs:d.steps<4611686018427387904) (n b:List UInt8) (bv:Value) (hb:BRowIn (fun k=> ¬ foot f m L k) w bv b):
  Calls Tryz.prog 72 #[.pointer (some ⟨f,0,none⟩),.string ⟨n.toArray⟩,bv] w fun e w'=>e= .returned (.int .i64 (doD d (opAppend n b)).2.2.2)∧FsPost w f m L (doD d (opAppend n b)).1 w':=by
 have HO:=Lib.hid (open_any w f m d L h n)
 have HH:=Lib.hid h
 have HBR:=Lib.hid hb
 obtain⟨ob,bcap,rfl,hbl,hbc⟩:=hb
 clear hbc
 by_cases he:openE d n=0
 case neg=>
  have HE:=Lib.hid (show doD d (opAppend n b)=(d,[],0,openE d n) by rw [doD_barred (by simp [opAppend]) (by rw [bar_append,if_pos he];exact he),bar_append,if_pos he])
  have t1:(openE d n != 0)=true:=by simpa using he
  generalize openE d n=e0 at*
  clear he h
  go_enter Tryz.func72,Tryz.ntmps72
  go_wp2_with (go_at_call 48;refine HO.out.mono ?_;rintro e w1 ⟨rfl,rfl⟩)
  go_ret
  rw [HE.out]
  exact⟨rfl,FsPost.same HH.out⟩
 obtain⟨s,hs1,ha,hv,hr,hsm,hsn⟩:=slot_of h he
 have c1:w.cell? ⟨f,1,none⟩=some (.int .i64 d.room):=h.hd.c1
 have c2:w.cell? ⟨f,2,none⟩=some (.int .i64 (usedF d.files:Int)):=h.hd.c2
 have hrm:=h.ok.room
 have hus:=h.ok.used
 have hw:IntKind.i64.wrap (d.room - (usedF d.files:Int))=d.room - (usedF d.files:Int):=by rw [IntKind.wrap_i64];omega
 by_cases hfull:d.room - (usedF d.files:Int)<(b.length:Int)
 case pos=>
  have HE:=Lib.hid (show doD d (opAppend n b)=(d,[],0,54) by
   have hb:barD d (opAppend n b)=54:=by rw [bar_append,if_neg (by simpa using he),if_pos (by simpa using hfull)]
   rw [doD_barred (by simp [opAppend]) (by rw [hb];decide),hb])
  have t2:decide (d.room - (usedF d.files:Int)<(b.length:Int))=true:=by simpa using hfull
  rw [he,hv] at HO
  clear he h hs1 ha hv hr hsm hsn hfull hrm hus
  go_enter Tryz.func72,Tryz.ntmps72
  go_wp2_with (go_at_call 48;refine HO.out.mono ?_;rintro e w1 ⟨rfl,rfl⟩)
  go_quiet (fail)
  go_wp2
  go_ret
  rw [HE.out]
  have:=HH.out.below (below_drewN' w nq)
  exact⟨rfl,L,this,Turned.below (below_drewN' _ _),fun _ h=> .inl h⟩
 have t2:decide (d.room - (usedF d.files:Int)<(b.length:Int))=false:=by simpa using hfull
 have hbar:barD d (opAppend n b)=0:=by rw [bar_append,if_neg (by simpa using he),if_neg (by simpa using hfull)]
 have ha':atF (stepD d).files n=some s.fil:=by rw [stepD_files];exact ha
 have hrise:Rise (stepD d).files:=by rw [stepD_files];exact h.ok.rise
 have hchg:chgD (stepD d) (opAppend n b)={stepD d with files:=setF n (fun _=>⟨s.fil.name,s.fil.data++b,s.fil.safe⟩) (stepD d).files}:=by
  rw [chg_set (x:=s.fil) hrise ha' (by simp [opAppend]) (by simp [opAppend]) (by simp [opAppend])]
  rfl
 have HE:=Lib.hid (show doD d (opAppend n b)=({stepD d with files:=setF n (fun _=>⟨s.fil.name,s.fil.data++b,s.fil.safe⟩) (stepD d).files},[],0,if d.fuse=1 then 3 else 0) by
  rw [doD_step (by simp [opAppend]) hbar,hchg]
  by_cases hf:d.fuse=1
  ·simp [hf,opAppend]
  ·simp [hf])
 have HSL:=Lib.hid (show slotAt L n=some s∧s.fil.name=n∧atF (stepD d).files n=some s.fil∧s∈L from⟨hs1,hsn,ha',hsm⟩)
 have hlen:=len_le_used (at_name ha).2
 have HN:=Lib.hid (show s.fil.data.length+b.length≤67108864∧(usedF (stepD d).files:Int)+b.length≤d.room by rw [stepD_files];omega)
 have hw2:IntKind.i64.wrap ((usedF (stepD d).files:Int)+(b.length:Int))=(usedF (stepD d).files:Int)+(b.length:Int):=by rw [stepD_files,IntKind.wrap_i64];omega
 rw [he,hv] at HO
 have HF0:=Lib.hid (show ∀ x:Bool,decide (d.fuse=1)=x→decide ((hdOf d).fuse=1)=x from fun x hx=>hx)
 have HS:=Lib.hid (fun k=>step_any (w.drewN k) f m (hdOf d) (h.hd.below (below_drewN' w k)) h.ok.fuse.1 h.ok.fuse.2 h.ok.steps hs)
 clear he h hs1 ha hv hr hsm hsn hfull hrm hus hbar ha' hrise hchg hlen
 go_enter Tryz.func72,Tryz.ntmps72
 go_wp2_with (go_at_call 48;refine HO.out.mono ?_;rintro e w1 ⟨rfl,rfl⟩)
 go_quiet (fail)
 go_wp2_with fail
 have HW1:=Lib.hid (HH.out.below (below_drewN' w nq))
 refine(HS.out nq).mono ?_
 rintro e w1 ⟨rfl,hh,ht⟩
 have H1:=Lib.hid (HW1.out.stepped hh ht)
 have HT:=Lib.hid (show Turned (foot f m L) w w1 from(Turned.below (below_drewN' w nq)).trans ht fun k hk=> .inl (.inl hk))
 have HB1:=Lib.hid (HBR.out.turned HT.out fun _ hk=>hk)
 have hsl:=H1.out.body.slot s HSL.out.2.2.2
 have hap:=H1.out.body.apart.2.1 s HSL.out.2.2.2
 have HSLT:=Lib.hid hsl
 have HAP:=Lib.hid hap
 have c0:=hsl.c0
 clear hh ht hsl hap HS HO c1 c2 HW1 hw
 obtain⟨sv,hsv⟩: ∃ sv,sv=s.sl:=⟨_,rfl⟩
 obtain⟨l0,hl0⟩: ∃ l0,l0=s.fil.data:=⟨_,rfl⟩
 have HDA:=Lib.hid (show DatAt w1 sv l0 by rw [hsv,hl0];exact HSLT.out.2)
 have hln:l0.length+b.length≤140737488355328:=by have:=HN.out.1;rw [hl0];omega
 rw [←hsv] at c0
 have HSV:=Lib.hid hsv
 have HL0:=Lib.hid hl0
 clear hsv hl0
 go_wp2_with (at_builtin;refine wpList_appDat rfl _ _ rfl rfl rfl HDA.out HB1.out.brow hln ?_)
 intro v2 w2 hd2 hg2 hb2 ho2
 have HD2:=Lib.hid hd2
 have HG2:=Lib.hid hg2
 have HBK:=Lib.hid hb2
 have hblk:w2.heap[s.blk]? =some (.cells (fileCs s) 55 (0,0)):=by
  rw [hg2.block s.blk HSLT.out.lt (by rw [HSV.out];exact fun e=>HAP.out.2.2.2.2 e.symm)]
  exact HSLT.out.1
 have k0:w2.cell? ⟨s.blk,0,none⟩=some s.sl:=by simp [World.cell?,hblk,fileCs]
 have f0:w2.frozen? ⟨s.blk,0,none⟩=false:=by simp [World.frozen?,hblk]
 have HBL:=Lib.hid hblk
 clear hd2 hg2 hb2 hblk c0
 go_wp2_with (with_reducible refine wpList_store_cellV rfl 45 (.tmp 41) (.tmp 39) rfl s.blk 0 v2 s.sl (by kernel_rfl) ho2 rfl rfl k0 f0 ?_)
 intro w3 hw3
 have HV2:=Lib.hid (show datBlk v2≠some s.blk from fun e=>by
  rcases HBK.out s.blk e with h1 | h1
  ·rw [HSV.out] at h1;exact HAP.out.2.2.2.2 h1
  ·have:=HSLT.out.lt;omega)
 have HX:=Lib.hid (SlotAt.putData HBL.out HD2.out HV2.out hw3.out)
 have HT3:=Lib.hid (show Turned (fun k=>k=f∨k=s.blk∨datBlk s.sl=some k) w1 w3 by
  rw [hw3.out]
  exact(Turned.grown (S:=fun k=>k=f∨k=s.blk∨datBlk s.sl=some k) HG2.out fun k hk=> .inr (.inr (by rw [←HSV.out];exact hk))).trans (Turned.setCell (S:=fun k=>k=f∨k=s.blk∨datBlk s.sl=some k) _ ⟨s.blk,0,none⟩ _ (.inr (.inl rfl))) fun i h=> .inl h)
 have HH3:=Lib.hid (show HdAt w3 f m (hdOf (stepD d)) by
  rw [hw3.out]
  exact(H1.out.hd.kept (HG2.out.block f H1.out.hd.lt (by rw [HSV.out];exact fun e=>HAP.out.2.2.1 e.symm))).otherCell HAP.out.1.symm 0 v2)
 have c2:w3.cell? ⟨f,2,none⟩=some (.int .i64 (usedF (stepD d).files:Int)):=HH3.out.c2
 have f2:=HH3.out.free 2
 clear hw3 k0 f0 HBL HG2 HB1
 have HEND:=Lib.hid (show FsPost w f m L (doD d (opAppend n b)).1 (w3.setCell ⟨f,2,none⟩ (.int .i64 ((usedF (stepD d).files:Int)+(b.length:Int)))) by
  rw [HE.out]
  have hfd:datBlk v2≠some f:=fun e=>by
   rcases HBK.out f e with h1 | h1
   ·rw [HSV.out] at h1;exact HAP.out.2.2.1 h1
   ·have:=H1.out.hd.lt;omega
  have hu:=usedF_set (f':=⟨s.fil.name,s.fil.data++b,s.fil.safe⟩) H1.out.ok.rise HSL.out.2.2.1 HSL.out.2.1
  have hsf:=H1.out.ok.safe s.fil (at_name HSL.out.2.2.1).2
  refine FsPost.setFile (x:=⟨⟨s.fil.name,s.fil.data++b,s.fil.safe⟩,s.blk,v2⟩) H1.out HT.out HSL.out.1 HSL.out.2.1 rfl (HT3.out.trans (Turned.setCell (S:=fun k=>k=f) _ ⟨f,2,none⟩ _ rfl) fun i h=> .inl (.inl h)) ?_ (fun g hg=> ?_) ?_ rfl ?_
  ·have hX:=HX.out
   rw [HL0.out] at hX
   refine hX.kept ?_ fun g hg=> ?_
   ·simp only [World.setCell]
    rw [Array.getElem?_modify,if_neg (fun e=>HAP.out.1 e.symm)]
   ·simp only [World.setCell]
    rw [Array.getElem?_modify,if_neg (fun e=>hfd (by rw [e];exact hg))]
  ·rcases HBK.out g hg with h1 | h1
   ·exact .inl (by rw [←HSV.out];exact h1)
   ·exact .inr (by omega)
  ·have e:hdOf {stepD d with files:=setF n (fun _=>⟨s.fil.name,s.fil.data++b,s.fil.safe⟩) (stepD d).files}={hdOf (stepD d) with used:=(usedF (stepD d).files:Int)+(b.length:Int)}:=by
    unfold hdOf
    simp only [Hd.mk.injEq,true_and,and_true]
    simp only [List.length_append] at hu
    omega
   rw [e]
   exact HH3.out.set 2 _ rfl
  ·refine H1.out.ok.setFile HSL.out.2.2.1 HSL.out.2.1 ⟨hsf.1,?_⟩ ?_
   ·simp only [List.length_append];omega
   ·have:=HN.out.2
    simp only [List.length_append]
    rw [stepD_room]
    omega)
 rcases hfz:decide (d.fuse=1) with _ | _
 ·have HF:=Lib.hid (HF0.out _ hfz)
  have HER:=Lib.hid (show (doD d (opAppend n b)).2.2.2=0 by rw [HE.out];simp only;rw [if_neg (by simpa using hfz)])
  rw [show decide ((hdOf d).fuse=1)=false from HF.out]
  clear hfz HE HX HT3 HH3 HF0
  go_wp2
  go_ret
  exact⟨by rw [HER.out];rfl,HEND.out⟩
 ·have HF:=Lib.hid (HF0.out _ hfz)
  have HER:=Lib.hid (show (doD d (opAppend n b)).2.2.2=3 by rw [HE.out];simp only;rw [if_pos (by simpa using hfz)])
  rw [show decide ((hdOf d).fuse=1)=true from HF.out]
  clear hfz HE HX HT3 HH3 HF0
  go_wp2
  go_ret
  exact⟨by rw [HER.out];rfl,HEND.out⟩
end Go.Proofs.YtcglcphhfmkccaaGreatDoor
namespace Go.Proofs.YtcglcphhfmkccaaGreatDoor
open Go.RowKit
set_option maxRecDepth 100000 in
set_option maxHeartbeats 2000000 in
theorem cut_any (w:World) (f m:Nat) (d:Disk) (L:List Slot) (h:FsAt w f m d L) (hs:d.steps<4611686018427387904) (n:List UInt8) (k:Int):
  Calls Tryz.prog 44 #[.pointer (some ⟨f,0,none⟩),.string ⟨n.toArray⟩,.int .i64 k] w fun e w'=>e= .returned (.int .i64 (doD d (opCut n k)).2.2.2)∧FsPost w f m L (doD d (opCut n k)).1 w':=by
 have HO:=Lib.hid (open_any w f m d L h n)
 have HH:=Lib.hid h
 by_cases he:openE d n=0
 case neg=>
  have HE:=Lib.hid (show doD d (opCut n k)=(d,[],0,openE d n) by rw [doD_barred (by simp [opCut]) (by rw [bar_cut,if_pos he];exact he),bar_cut,if_pos he])
  have t1:(openE d n != 0)=true:=by simpa using he
  generalize openE d n=e0 at*
  clear he h
  go_enter Tryz.func44,Tryz.ntmps44
  go_wp2_with (go_at_call 48;refine HO.out.mono ?_;rintro e w1 ⟨rfl,rfl⟩)
  go_ret
  rw [HE.out]
  exact⟨rfl,FsPost.same HH.out⟩
 obtain⟨s,hs1,ha,hv,hr,hsm,hsn⟩:=slot_of h he
 have hbar:barD d (opCut n k)=if decide (k<0) || decide ((s.fil.data.length:Int)<k) then 1 else 0:=by rw [bar_cut,if_neg (by simpa using he),ha]
 have hsl:=h.body.slot s hsm
 obtain⟨ao,cap,hsh,hlc,_⟩:=hsl.2.shape
 have c0:w.cell? ⟨s.blk,0,none⟩=some (.slice ao s.fil.data.length cap):=by rw [←hsh];exact hsl.c0
 rw [he,hv] at HO
 by_cases hbad:k<0∨(s.fil.data.length:Int)<k
 case pos=>
  have HE:=Lib.hid (show doD d (opCut n k)=(d,[],0,1) by
   have hb:barD d (opCut n k)=1:=by rw [hbar,if_pos (by simpa using hbad)]
   rw [doD_barred (by simp [opCut]) (by rw [hb];decide),hb])
  rcases h1:decide (k<0) with _ | _
  ·have h2:decide ((s.fil.data.length:Int)<k)=true:=by simp at h1 ⊢;omega
   clear he h hs1 ha hv hr hsm hsn hbar hsl hbad hsh
   go_enter Tryz.func44,Tryz.ntmps44
   go_wp2_with (go_at_call 48;refine HO.out.mono ?_;rintro e w1 ⟨rfl,rfl⟩)
   go_ret
   rw [HE.out]
   exact⟨rfl,FsPost.same HH.out⟩
  ·clear he h hs1 ha hv hr hsm hsn hbar hsl hbad hsh
   go_enter Tryz.func44,Tryz.ntmps44
   go_wp2_with (go_at_call 48;refine HO.out.mono ?_;rintro e w1 ⟨rfl,rfl⟩)
   go_ret
   rw [HE.out]
   exact⟨rfl,FsPost.same HH.out⟩
 have t1:decide (k<0)=false:=by simp;omega
 have t2:decide ((s.fil.data.length:Int)<k)=false:=by simp;omega
 obtain⟨q,rfl⟩:=Int.eq_ofNat_of_zero_le (show 0≤k by omega)
 have hq:q≤s.fil.data.length:=by omega
 have hb0:barD d (opCut n q)=0:=by rw [hbar,t1,t2];rfl
 have HD:=Lib.hid (doD_step (d:=d) (o:=opCut n q) (by simp [opCut]) hb0)
 have HS:=Lib.hid (step_any w f m (hdOf d) h.hd h.ok.fuse.1 h.ok.fuse.2 h.ok.steps hs)
 by_cases hf:d.fuse=1
 ·have HF:=Lib.hid (dec_fuse (decide_eq_true hf))
  have HE:=Lib.hid (show doD d (opCut n q)=(stepD d,[],0,3) by rw [HD.out,if_pos hf,if_neg (by simp [opCut]),if_pos hf])
  have hq2: ¬ s.fil.data.length<q:=by omega
  clear h hs he hs1 ha hv hr hsm hsn hf HD hbar hbad hsl hsh hb0 hq
  go_enter Tryz.func44,Tryz.ntmps44
  go_wp2_with (first | (go_at_call 48;refine HO.out.mono ?_;rintro e w1 ⟨rfl,rfl⟩) | (go_at_call 70;refine HS.out.mono ?_;rw [HF.out];rintro e w1 ⟨rfl,hh,ht⟩))
  go_ret
  rw [HE.out]
  exact⟨rfl,FsPost.stepped HH.out hh ht⟩
 ·have HF:=Lib.hid (dec_fuse (decide_eq_false hf))
  have ha':atF (stepD d).files n=some s.fil:=by rw [stepD_files];exact ha
  have HE:=Lib.hid (show doD d (opCut n q)=({stepD d with files:=setF n (fun _=>⟨s.fil.name,s.fil.data.take q,if (q:Int)<s.fil.safe then (q:Int) else s.fil.safe⟩) (stepD d).files},[],0,0) by
   rw [HD.out,if_neg hf,if_neg hf,chg_set (x:=s.fil) (by rw [stepD_files];exact h.ok.rise) ha' (by simp [opCut]) (by simp [opCut]) (by simp [opCut])]
   rfl)
  have HSL:=Lib.hid (show slotAt L n=some s∧s.fil.name=n∧atF (stepD d).files n=some s.fil∧s∈L from⟨hs1,hsn,ha',hsm⟩)
  have hlen:=len_le_used (at_name ha).2
  have hus:=h.ok.used
  have hrm:=h.ok.room
  have HN:=Lib.hid (show (s.fil.data.length:Int)≤usedF (stepD d).files∧(usedF (stepD d).files:Int)≤d.room∧d.room≤67108864 by rw [stepD_files];omega)
  have hw1:IntKind.i64.wrap ((s.fil.data.length:Int) - (q:Int))=(s.fil.data.length:Int) - (q:Int):=by rw [IntKind.wrap_i64];omega
  have hw2:IntKind.i64.wrap ((usedF (stepD d).files:Int) - ((s.fil.data.length:Int) - (q:Int)))=(usedF (stepD d).files:Int) - ((s.fil.data.length:Int) - (q:Int)):=by rw [stepD_files,IntKind.wrap_i64];omega
  have HQ:=Lib.hid hq
  clear h hs he hs1 ha hv hr hsm hsn hf HD hbar hbad hsl hb0 ha' hlen hus hrm
  go_enter Tryz.func44,Tryz.ntmps44
  go_wp2_with (first | (go_at_call 48;refine HO.out.mono ?_;rintro e w1 ⟨rfl,rfl⟩))
  go_at_call 70
  refine HS.out.mono ?_
  rw [HF.out]
  rintro e w1 ⟨rfl,hh,ht⟩
  have H0:=Lib.hid (HH.out.stepped hh ht)
  have H1:=Lib.hid (show FsAt w1.drew f m (stepD d) L from H0.out.below (below_drewN' w1 1))
  have HT:=Lib.hid (show Turned (foot f m L) w w1.drew from(ht.mono fun _ hk=> .inl hk).trans (Turned.below (below_drewN' w1 1)) fun _ h=> .inl h)
  have hsl:=H0.out.body.slot s HSL.out.2.2.2
  clear c0
  have c0:w1.cell? ⟨s.blk,0,none⟩=some (.slice ao s.fil.data.length cap):=by rw [←hsh];exact hsl.c0
  have c2:w1.cell? ⟨f,2,none⟩=some (.int .i64 (usedF (stepD d).files:Int)):=H0.out.hd.c2
  have f2:=H0.out.hd.free 2
  clear hh ht hsl HS HO
  go_wp2_with fail
  go_still_tail 14,(by kernel_rfl)
  refine wpList_store_cellV rfl 3 (.tmp 45) (.tmp 43) rfl f 2 (.int .i64 ((usedF (stepD d).files:Int) - ((s.fil.data.length:Int) - (q:Int)))) (.int .i64 (usedF (stepD d).files:Int)) (by kernel_rfl) rfl rfl rfl c2 f2 ?_
  intro w2 hw2'
  have HB2:=Lib.hid (show HdAt w2 f m {hdOf (stepD d) with used:=(usedF (stepD d).files:Int) - ((s.fil.data.length:Int) - (q:Int))}∧Body w2 f m L∧Turned (fun k=>k=f) w1.drew w2 by
   rw [hw2'.out]
   exact⟨H1.out.hd.set 2 _ rfl,H1.out.body.setHd 2 _,Turned.setCell _ _ _ rfl⟩)
  have hsl2:=HB2.out.2.1.slot s HSL.out.2.2.2
  have HAP:=Lib.hid (HB2.out.2.1.apart.2.1 s HSL.out.2.2.2)
  have k0:w2.cell? ⟨s.blk,0,none⟩=some (.slice ao s.fil.data.length cap):=by rw [←hsh];exact hsl2.c0
  have k1:=hsl2.c1
  have g0:=hsl2.free 0
  have g1:=hsl2.free 1
  have HS2:=Lib.hid hsl2
  clear hw2' c0 c2 f2 hw1 hw2 hsl2 t1 t2 hq
  have q1:(q:Int)≤(s.fil.data.length:Int):=by have:=HQ.out;omega
  have q2:(s.fil.data.length:Int)≤(cap:Int):=by omega
  go_wp2
  go_ret
  rw [HE.out]
  obtain⟨ao',cap',hsh',hdc,hdb⟩:=datAt_cut HS2.out.2 q HQ.out
  have hao:ao'=ao:=by rw [hsh] at hsh';cases hsh';rfl
  subst hao
  have hmin:min s.fil.safe (q:Int)=if (q:Int)<s.fil.safe then (q:Int) else s.fil.safe:=by split<;>omega
  have hdn:datBlk (.slice ao' q q)≠some s.blk:=fun e=>HAP.out.2.2.2.2 (hdb _ e)
  have hdf: ∀ g,datBlk (.slice ao' q q)=some g→datBlk s.sl=some g:=hdb
  have hX:=SlotAt.putData HS2.out.1 hdc hdn rfl
  have hX2:=hX.putSafe (if (q:Int)<s.fil.safe then (q:Int) else s.fil.safe) hdn
  have hlq:(s.fil.data.take q).length=q:=by rw [List.length_take];have:=HQ.out;omega
  have hu:=usedF_set (f':=⟨s.fil.name,s.fil.data.take q,if (q:Int)<s.fil.safe then (q:Int) else s.fil.safe⟩) H1.out.ok.rise HSL.out.2.2.1 HSL.out.2.1
  have hsf:=H1.out.ok.safe s.fil (at_name HSL.out.2.2.1).2
  rw [hmin]
  refine⟨rfl,FsPost.setFile (x:=⟨⟨s.fil.name,s.fil.data.take q,if (q:Int)<s.fil.safe then (q:Int) else s.fil.safe⟩,s.blk,.slice ao' q q⟩) H1.out HT.out HSL.out.1 HSL.out.2.1 rfl ?_ hX2 (fun g hg=> .inl (hdb g hg)) ?_ rfl ?_⟩
  ·exact((HB2.out.2.2.mono (S':=fun k=>k=f∨k=s.blk∨datBlk s.sl=some k) fun _ hk=> .inl hk).trans (Turned.setCell (S:=fun k=>k=s.blk) _ ⟨s.blk,0,none⟩ _ rfl) fun i h=> .inl (.inr (.inl h))).trans (Turned.setCell (S:=fun k=>k=s.blk) _ ⟨s.blk,1,none⟩ _ rfl) fun i h=> .inl (.inr (.inl h))
  ·have e:hdOf {stepD d with files:=setF n (fun _=>⟨s.fil.name,s.fil.data.take q,if (q:Int)<s.fil.safe then (q:Int) else s.fil.safe⟩) (stepD d).files}={hdOf (stepD d) with used:=(usedF (stepD d).files:Int) - ((s.fil.data.length:Int) - (q:Int))}:=by
    unfold hdOf
    simp only [Hd.mk.injEq,true_and,and_true]
    simp only [hlq] at hu
    have:=HQ.out
    omega
   rw [e]
   exact(HB2.out.1.otherCell HAP.out.1.symm 0 _).otherCell HAP.out.1.symm 1 _
  ·refine H1.out.ok.setFile HSL.out.2.2.1 HSL.out.2.1 ?_ ?_
   ·simp only [hlq]
    split<;>omega
   ·have:=H1.out.ok.used
    have:=HQ.out
    simp only [hlq]
    omega
end Go.Proofs.YtcglcphhfmkccaaGreatDoor

namespace Go.Proofs.YtcglcphhfmkccaaGreatDoor
open Go.RowKit
theorem BRowIn.low {A:Nat→Prop} {w:World} {v:Value} {l:List UInt8} (h:BRowIn A w v l):BRowIn (fun k=>A k∧k<w.heap.size) w v l:=by
 obtain⟨oa',cap',e1,e2,e3⟩:=h
 refine⟨oa',cap',e1,e2,fun hne=> ?_⟩
 obtain⟨b',off',e4,ha,hcell⟩:=e3 hne
 refine⟨b',off',e4,⟨ha,?_⟩,hcell⟩
 obtain⟨x,hx⟩:=List.exists_mem_of_ne_nil _ hne
 obtain⟨i,hi⟩:=List.getElem?_of_mem hx
 exact World.block_lt_of_cell? w _ (hcell i x hi)
theorem BRowIn.one {A:Nat→Prop} {w:World} {v:Value} {l:List UInt8} (h:BRowIn A w v l):v.oneCell'=true:=by obtain⟨_,_,e,_⟩:=h;rw [e];rfl
theorem below_row {w0 w:World} {B g:Nat} (h:Below B w0 w) (hg:B≤g) (cs:Array Value):Below B w0 (w.setRow g cs):=
 ⟨h.os,h.tape,h.output,by simpa using h.size,fun k hk=>by rw [setRow_other _ _ _ _ (by omega)];exact h.block k hk⟩
section
variable {w W W' : World} {d d' : Disk} {fv fv' : Value} {o : DOp} {bv kv : Value}
end
theorem FlBlk.c1 {w:World} {g:Nat} {f:Fil} {dv:Value} (h:FlBlk w g f dv):w.cell? ⟨g,1,none⟩=some dv:=h.range 1 _ rfl
theorem FlBlk.c2 {w:World} {g:Nat} {f:Fil} {dv:Value} (h:FlBlk w g f dv):w.cell? ⟨g,2,none⟩=some (.int .i64 f.safe):=h.range 2 _ rfl
theorem flCs_all (f:Fil) (v:Value) (h:v.oneCell'=true):(flCs f v).all (·.oneCell')=true:=
 Array.all_eq_true_iff_forall_mem.2 (by
  intro u hu
  simp only [flCs,List.mem_toArray,List.mem_cons,List.not_mem_nil,or_false] at hu
  rcases hu with rfl | rfl | rfl<;>first | rfl | assumption)
section
variable {A : Nat → Prop} {w W W' : World} {d : Disk} {fv : Value} {o : DOp} {bv kv : Value} {g : Nat} {f f' : Fil} {dv dv' : Value} {fs fs' : List Fil} {v v' : Value}
end
end Go.Proofs.YtcglcphhfmkccaaGreatDoor
namespace Go.Proofs.YtcglcphhfmkccaaGreatDoor
open Go.RowKit
end Go.Proofs.YtcglcphhfmkccaaGreatDoor

namespace Go.Proofs.YtcglcphhfmkccaaGreatDoor
open Go.RowKit Go.ChangeShapes Go.WideShapes
def Opens (P:Program) (t:TypeId) (n:Nat) {α:Type} (R:World→List Value→α→Prop):Prop:=
 ∀ {H:Type} (enc:TypeId×Value→H) (W:World) (fuel:Nat) (cs:List Value) (x:DataW H×List MemPlace),
  DataW.trod enc P W 0 (fun _=>true) true fuel t cs=some x→(x.1.weights P t).all (· ≤reachBytes)=true→cs.length=n∧ ∃ a,R W cs a
def RInt (k:IntKind) (_:World) (cs:List Value) (a:Int):Prop:=cs=[.int k a]∧(Lit.int k a).wf=true
def RStr (_:World) (cs:List Value) (l:List UInt8):Prop:=cs=[.string ⟨l.toArray⟩]∧l.length≤reachBytes
def Row {α:Type} (n bytes:Nat) (R:World→List Value→α→Prop) (w:World) (v:Value) (xs:List α):Prop:=
 ∃ oa cap,v= .slice oa xs.length cap∧xs.length≤cap∧cap≤maxLen∧cap*bytes≤reachBytes∧
  (xs≠ []→ ∃ b off,oa=some ⟨b,off,none⟩∧ ∀ (i:Nat) x,xs[i]? =some x→ ∃ cs,cs.length=n∧(∀ (j:Nat) u,cs[j]? =some u→w.cell? ⟨b,off+i*n+j,none⟩=some u)∧R w cs x)
def RRow {α:Type} (n bytes:Nat) (R:World→List Value→α→Prop) (w:World) (cs:List Value) (xs:List α):Prop:= ∃ v,cs=[v]∧Row n bytes R w v xs
theorem opens_int {P:Program} {t:TypeId} {k:IntKind} (h:P.underlying t=some (.int k)):Opens P t 1 (RInt k):=by
 intro H enc W fuel cs x hx _
 obtain⟨n,rfl,rfl,hw⟩:=DataW.trod_int h hx
 exact⟨rfl,n,rfl,hw⟩
theorem opens_str {P:Program} {t:TypeId} (h:P.underlying t=some .string):Opens P t 1 RStr:=by
 intro H enc W fuel cs x hx hz
 obtain⟨s,rfl,rfl,_⟩:=DataW.trod_string h hx
 refine⟨rfl,s.data.toList,by simp,?_⟩
 simpa [DataW.weights] using hz
theorem cells?_spec {W:World} {base:Nat} {a:Addr} {n:Nat} {cs:List Value} (h:W.cells? base a n=some cs):cs.length=n∧ ∀ (j:Nat) u,cs[j]? =some u→W.cell? (a.add j)=some u:=by
 obtain⟨_,hl,hc⟩:=World.cells?_some h
 refine⟨hl,fun j u hj=> ?_⟩
 rw [←hj]
 exact hc j (by have:=getElem?_lt hj;omega)
theorem weightsAll_mem {H:Type} {P:Program} {e:TypeId}: ∀ {ds:List (DataW H)} {d:DataW H},d∈ds→ ∀ n∈d.weights P e,n∈DataW.weightsAll P e ds
 | d0::ds,d,hm,n,hn=>by
  simp only [DataW.weightsAll,List.mem_append]
  rcases List.mem_cons.1 hm with rfl | hm
  ·exact .inl hn
  ·exact .inr (weightsAll_mem hm n hn)
theorem opens_slice {P:Program} {t e:TypeId} {n bytes:Nat} {α:Type} {R:World→List Value→α→Prop} (ht:P.underlying t=some (.slice e)) (hc:P.cellsOf e=n) (hb:P.bytesOf e=bytes) (hn:0<n)
  (he:Opens P e n R):Opens P t 1 (RRow n bytes R):=by
 intro H enc W fuel cs x hx hz
 rcases DataW.trod_slice ht hx with⟨rfl,rfl⟩ | ⟨a,len,cap,elems,rest,m,_,rfl,rfl,_,hl,hm,hel,hat,hsp,_⟩
 ·exact⟨rfl,[],_,rfl,none,0,rfl,Nat.le_refl _,by decide,by simp,fun h=>absurd rfl h⟩
 ·obtain⟨hrest,_⟩:=hsp rfl
  simp only [DataW.weights,ht,List.all_cons,List.all_append,Bool.and_eq_true,decide_eq_true_eq,List.length_map] at hz
  obtain⟨hz0,hz1,_⟩:=hz
  have key: ∀ i,i<len→ ∃ (a':α) (cs':List Value),cs'.length=n∧(∀ (j:Nat) u,cs'[j]? =some u→W.cell? ((a.add (i*n)).add j)=some u)∧R W cs' a':=by
   intro i hi
   have h1:=hat i hi
   rw [hc] at h1
   have hlt:i<elems.length:=by omega
   rw [List.getElem?_eq_getElem hlt] at h1
   obtain⟨cs',hcs',hx'⟩:=Option.bind_eq_some_iff.1 h1
   obtain⟨_,hs2⟩:=cells?_spec hcs'
   obtain⟨h3,a',h4⟩:=he enc W m cs' elems[i] hx' (by
    rw [List.all_eq_true]
    intro k hk
    exact List.all_eq_true.1 hz1 k (weightsAll_mem (List.mem_map.2 ⟨elems[i],List.getElem_mem hlt,rfl⟩) k hk))
   exact⟨a',cs',h3,hs2,h4⟩
  obtain⟨xs,hxl,hxs⟩: ∃ xs:List α,xs.length=len∧ ∀ (i:Nat) x,xs[i]? =some x→ ∃ cs':List Value,cs'.length=n∧(∀ (j:Nat) u,cs'[j]? =some u→W.cell? ((a.add (i*n)).add j)=some u)∧R W cs' x:=by
   have: ∀ k,k≤len→ ∃ xs:List α,xs.length=k∧ ∀ (i:Nat) x,xs[i]? =some x→ ∃ cs':List Value,cs'.length=n∧(∀ (j:Nat) u,cs'[j]? =some u→W.cell? ((a.add (i*n)).add j)=some u)∧R W cs' x:=by
    intro k
    induction k with
    | zero=>intro _;exact⟨[],rfl,by simp⟩
    | succ k ih=>
     intro hk
     obtain⟨xs,h1,h2⟩:=ih (by omega)
     obtain⟨x,cs',h3⟩:=key k (by omega)
     refine⟨xs++[x],by simp [h1],fun i y hy=> ?_⟩
     by_cases hi:i<xs.length
     ·rw [List.getElem?_append_left hi] at hy;exact h2 i y hy
     ·have hik:i=k:=by have:=getElem?_lt hy;simp at this;omega
      subst hik
      rw [List.getElem?_append_right (by omega),h1] at hy
      simp at hy
      subst hy
      exact⟨cs',h3⟩
   exact this len (Nat.le_refl _)
  refine⟨rfl,xs,_,rfl,some a,cap,by rw [hxl],by omega,hm,by rw [←hb];rw [hel,hrest,show len+(cap - len)=cap by omega] at hz0;exact hz0,fun hne=> ?_⟩
  obtain⟨b,off,spot⟩:=a
  have hpos:0<xs.length:=List.length_pos_iff.2 hne
  have hspot:spot=none:=by
   obtain⟨cs',h1,h2,_⟩:=hxs 0 _ (List.getElem?_eq_getElem hpos)
   have h3:=h2 0 _ (List.getElem?_eq_getElem (show 0<cs'.length by omega))
   have:=World.cell?_spot h3
   simpa [Addr.add] using this
  subst hspot
  refine⟨b,off,rfl,fun i x hi=> ?_⟩
  obtain⟨cs',h1,h2,h3⟩:=hxs i x hi
  refine⟨cs',h1,fun j u hj=> ?_,h3⟩
  have:=h2 j u hj
  rwa [addr_add,addr_add] at this
def OpensAll (P:Program) (off:Nat) (fs:List Field) {α:Type} (R:World→List Value→α→Prop):Prop:=
 ∀ {H:Type} (enc:TypeId×Value→H) (W:World) (fuel:Nat) (cs:List Value) (xs:List (DataW H×List MemPlace)),
  (∀ (i:Nat) (f:Field),fs[i]? =some f→DataW.trod enc P W 0 (fun _=>true) true fuel f.type ((cs.drop f.offset).take (P.cellsOf f.type))=xs[i]?)→xs.length=fs.length→
  (DataW.weightsEach P (fs.map (·.type)) (xs.map (·.1))).all (· ≤reachBytes)=true→ ∃ a,R W (cs.drop off) a
def RNil (_:World) (_:List Value) (_:Unit):Prop:=True
def RCons {α β:Type} (n:Nat) (R:World→List Value→α→Prop) (S:World→List Value→β→Prop) (w:World) (cs:List Value) (x:α×β):Prop:=R w (cs.take n) x.1∧S w (cs.drop n) x.2
theorem opens_nil {P:Program} {off:Nat}:OpensAll P off [] RNil:=fun _ _ _ _ _ _ _ _=>⟨(),trivial⟩
theorem opens_cons {P:Program} {off n:Nat} {f:Field} {fs:List Field} {α β:Type} {R:World→List Value→α→Prop} {S:World→List Value→β→Prop} (ho:f.offset=off) (hn:P.cellsOf f.type=n)
  (h:Opens P f.type n R) (hs:OpensAll P (off+n) fs S):OpensAll P off (f::fs) (RCons n R S):=by
 intro H enc W fuel cs xs hx hl hz
 cases xs with
 | nil=>simp at hl
 | cons x xs=>
  simp only [List.map_cons,DataW.weightsEach,List.all_append,Bool.and_eq_true] at hz
  have h0:=hx 0 f rfl
  rw [ho,hn] at h0
  obtain⟨_,a,ha⟩:=h enc W fuel _ x (by simpa using h0) hz.1
  obtain⟨b,hb⟩:=hs enc W fuel cs xs (fun i g hg=>by simpa using hx (i+1) g (by simpa using hg)) (by simpa using hl) hz.2
  exact⟨(a,b),ha,by rw [List.drop_drop];exact hb⟩
theorem opens_struct {P:Program} {t:TypeId} {n:Nat} {fs:Array Field} {α:Type} {R:World→List Value→α→Prop} (ht:P.underlying t=some (.struct fs)) (hc:P.cellsOf t=n) (h:OpensAll P 0 fs.toList R):
  Opens P t n R:=by
 intro H enc W fuel cs x hx hz
 obtain⟨xs,m,rfl,rfl,hl,hxl,hat⟩:=DataW.trod_struct ht hx
 simp only [DataW.weights,ht] at hz
 obtain⟨a,ha⟩:=h enc W m cs xs (fun i f hf=>hat i f (by simpa using hf)) (by simpa using hxl) hz
 exact⟨hl.trans hc,a,by simpa using ha⟩
end Go.Proofs.YtcglcphhfmkccaaGreatDoor

namespace Go.Proofs.YtcglcphhfmkccaaGreatDoor
open Go.RowKit Go.ChangeShapes Go.WideShapes
theorem open_slice_by {P:Program} {H:Type} {enc:TypeId×Value→H} {W:World} {base n bytes:Nat} {t e:TypeId} {v:Value} {d:DataW H} {p:List MemPlace} {α:Type} {R:World→List Value→α→Prop}
  (ho:Opens P t 1 (RRow n bytes R)) (ht:P.underlying t=some (.slice e)) (hok:Value.okWide P W .any base t v) (h:DataW.Trod enc P W 0 (fun _=>true) true t v d p) (hz:(d.weights P t).all (· ≤reachBytes)=true):
  ∃ xs,Row n bytes R W v xs:=by
 obtain⟨a,len,cap,rfl⟩:=okWide_slice ht hok
 obtain⟨fuel,hf⟩:=h
 obtain⟨_,xs,v',hv,hr⟩:=ho enc W fuel _ _ hf hz
 simp [Value.cells] at hv
 exact⟨xs,by rw [hv];exact hr⟩
end Go.Proofs.YtcglcphhfmkccaaGreatDoor

namespace Go.Proofs.YtcglcphhfmkccaaGreatDoor
structure Pl where
 fresh:Bool
 man:Man
 remove:List (List UInt8)
 cut:Int
 last:Int
def runD:Disk→List DOp→Disk×Int
 | d,[]=>(d,0)
 | d,o::r=>if (doD d o).2.2.2=0 then runD (doD d o).1 r else ((doD d o).1,(doD d o).2.2.2)
theorem runD_append: ∀ (a b:List DOp) (d:Disk),runD d (a++b)=if (runD d a).2=0 then runD (runD d a).1 b else runD d a
 | [],b,d=>by simp [runD]
 | o::a,b,d=>by
  rw [List.cons_append,runD,runD]
  by_cases h:(doD d o).2.2.2=0
  ·rw [if_pos h,if_pos h,runD_append a b]
  ·rw [if_neg h,if_neg h]
   simp only [if_neg h]
def manN:List UInt8:=[109,97,110,105,102,101,115,116]
def tmpN:List UInt8:=[109,97,110,105,102,101,115,116,46,116,109,112]
def beginOps (n:List UInt8) (g:Sg) (m:Man):List DOp:=
 [opCreate n,opAppend n (hdrEnc g.num g.first).1,opSync n,opCreate tmpN,opAppend tmpN (encMan m).1,opSync tmpN,opRename tmpN manN]
def cutOps (n:List UInt8) (k:Int) (x:Option Fil):List DOp:=
 match x with
 | none=>[]
 | some f=>if k<(f.data.length:Int) then [opCut n k] else []
def remOps (p:Pl):List DOp:=p.remove.map opRemove
def lastSg (m:Man):Sg:=m.segs.getLast?.getD ⟨0,0,0,0⟩
def segN (m:Man):List UInt8:=segName (lastSg m).num
def refOps (d:Disk) (p:Pl):List DOp:=
 remOps p++if p.fresh then beginOps (segN p.man) (lastSg p.man) p.man
  else opSize (segN p.man)::(cutOps (segN p.man) p.cut (if p.remove.any (fun x=>x==segN p.man) then none else atF d.files (segN p.man))++[opSync (segN p.man)])
def tailOps (d:Disk) (p:Pl):List DOp:=
 if p.fresh then beginOps (segN p.man) (lastSg p.man) p.man
  else opSize (segN p.man)::(cutOps (segN p.man) p.cut (atF d.files (segN p.man))++[opSync (segN p.man)])
def applyD (d:Disk) (p:Pl):Disk×Int:=
 if manOk p.man then runD d (refOps d p) else (d,1)
theorem take_at {n:List UInt8} (fs:List Fil):atF (takeF n fs) n=none:=by
 unfold atF takeF
 rw [List.find?_eq_none]
 intro x hx
 have:=(List.mem_filter.1 hx).2
 simpa using this
theorem doD_remove {d:Disk} {n:List UInt8} (h:(doD d (opRemove n)).2.2.2=0):(doD d (opRemove n)).1.files=takeF n d.files:=by
 by_cases hb:barD d (opRemove n)=0
 ·rw [doD_step (by simp [opRemove]) hb] at h ⊢
  by_cases hf:d.fuse=1
  ·simp only [if_pos hf] at h;omega
  ·simp only [if_neg hf]
   rw [bar_remove] at hb
   obtain⟨_,_,x,ha⟩:=openE_zero hb
   unfold chgD
   rw [if_neg (by simp [opRemove]),stepD_files]
   show (match atF d.files n with | none=>stepD d | some f=>_).files=_
   rw [ha]
   simp [opRemove]
 ·rw [doD_barred (by simp [opRemove]) hb] at h
  exact absurd h hb
theorem rem_at (n:List UInt8): ∀ (l:List (List UInt8)) (d:Disk),(runD d (l.map opRemove)).2=0→atF (runD d (l.map opRemove)).1.files n=if l.any (fun x=>x==n) then none else atF d.files n
 | [],d,_=>by simp [runD]
 | x::l,d,h=>by
  rw [List.map_cons,runD] at h ⊢
  by_cases h0:(doD d (opRemove x)).2.2.2=0
  ·rw [if_pos h0] at h ⊢
   rw [rem_at n l _ h,doD_remove h0,List.any_cons]
   by_cases hx:x=n
   ·subst hx
    rw [take_at]
    simp
   ·rw [show (x==n)=false by simpa using hx,at_take hx,Bool.false_or]
  ·rw [if_neg h0] at h
   exact absurd h h0
theorem size_refused {d:Disk} {n:List UInt8} (h:atF d.files n=none):(doD d (opSize n)).2.2.2≠0:=by
 have he:openE d n≠0:=fun e=>by
  obtain⟨_,_,x,hx⟩:=openE_zero e
  rw [h] at hx;cases hx
 rw [doD_barred (by simp [opSize]) (by rw [bar_size];exact he),bar_size]
 exact he
theorem refOps_run (d:Disk) (p:Pl):runD d (refOps d p)=if (runD d (remOps p)).2=0 then runD (runD d (remOps p)).1 (tailOps (runD d (remOps p)).1 p) else runD d (remOps p):=by
 unfold refOps tailOps
 rw [runD_append]
 by_cases h:(runD d (remOps p)).2=0
 ·rw [if_pos h,if_pos h]
  rcases p.fresh
  ·simp only [Bool.false_eq_true,if_false]
   have ha:=rem_at (segN p.man) p.remove d h
   rcases hx:atF (runD d (remOps p)).1.files (segN p.man) with _ | f
   ·have:=size_refused hx
    rw [runD,if_neg this,runD,if_neg this]
   ·rw [show (runD d (p.remove.map opRemove))=runD d (remOps p) from rfl,hx] at ha
    rw [←ha]
  ·rfl
 ·rw [if_neg h,if_neg h]
theorem doD_steps (d:Disk) (o:DOp):(doD d o).1.steps≤d.steps+1∧d.steps≤(doD d o).1.steps:=by
 have hc: ∀ x:Disk,(chgD x o).steps=x.steps:=fun x=>by
  unfold chgD
  split
  ·rfl
  ·split
   ·rfl
   ·split
    ·rfl
    ·split<;>rfl
 unfold doD
 split
 ·exact⟨by simp;omega,by simp⟩
 ·split
  ·exact⟨by simp;omega,by simp⟩
  ·split
   ·exact⟨by simp;omega,by simp⟩
   ·split
    ·exact⟨by simp;omega,by simp⟩
    ·split
     ·exact⟨by simp;omega,by simp⟩
     ·split
      ·exact⟨by simp;omega,by simp⟩
      ·split
       ·split
        ·simp only [hc];exact⟨by omega,by omega⟩
        ·exact⟨by simp;omega,by simp⟩
       ·simp only [hc];exact⟨by omega,by omega⟩
end Go.Proofs.YtcglcphhfmkccaaGreatDoor
namespace Go.Proofs.YtcglcphhfmkccaaGreatDoor
open Go.RowKit Go.ChangeShapes Go.WideShapes
theorem u8_of {z:Int} (h:(Lit.int .u8 z).wf=true):((UInt8.ofNat z.toNat).toNat:Int)=z:=by
 have h':0≤z∧z≤255:=by simpa [Lit.wf,show IntKind.u8.min=0 from by decide,show IntKind.u8.max=255 from by decide] using h
 rw [UInt8.toNat_ofNat']
 omega
theorem browIn_true {w:World} {v:Value} {l:List UInt8} (h:BRow w v l):BRowIn (fun _=>True) w v l:=by
 obtain⟨oa,cap,h1,h2,h3⟩:=h
 exact⟨oa,cap,h1,h2,fun hn=>by obtain⟨b,off,e,hc⟩:=h3 hn;exact⟨b,off,e,trivial,hc⟩⟩
def plCs (p:Pl) (sv rv:Value):Array Value:= #[.bool p.fresh,.int .i64 p.man.gen,.int .i64 p.man.next,.int .i64 p.man.floor,.int .i64 p.man.snap,.int .i64 p.man.snapSeq,sv,rv,.int .i64 p.cut,.int .i64 p.last]
@[reducible] def plV (p : Pl) (sv rv : Value) : Value := .agg #[.bool p.fresh, .int .i64 p.man.gen, .int .i64 p.man.next, .int .i64 p.man.floor, .int .i64 p.man.snap, .int .i64 p.man.snapSeq, sv, rv, .int .i64 p.cut, .int .i64 p.last]
end Go.Proofs.YtcglcphhfmkccaaGreatDoor

namespace Go.Proofs.YtcglcphhfmkccaaGreatDoor
open Go.RowKit
def saveOps (m:Man):List DOp:=[opCreate tmpN,opAppend tmpN (encMan m).1,opSync tmpN,opRename tmpN manN]
def RunPost (w:World) (f m:Nat) (L:List Slot) (r:Disk×Int) (e:Ending) (w':World):Prop:=e= .returned (.int .i64 r.2)∧FsPost w f m L r.1 w'
theorem NibTab.turned {S:Nat→Prop} {w w':World} (h:NibTab w) (ht:Turned S w w') (hS: ¬ S 0) (hg:0<w.heap.size):NibTab w':=by
 have hb:=ht.block 0 hg hS
 unfold NibTab Lib.TabIs World.var? at*
 simp only [show Tryz.prog.globalNamed "daybook/crc.nibbles" =some 0 by kernel_rfl,Option.bind_some,hb] at*
 exact h
theorem saveC1 (w:World) (f m:Nat) (d:Disk) (L:List Slot) (h:FsAt w f m d L) (hs:d.steps<4611686018427387904) (b:Nat) (hc:w.cell? ⟨b,0,none⟩=some (.pointer (some ⟨f,0,none⟩))):
  Calls Tryz.prog 105 #[.pointer (some ⟨b,0,none⟩)] w fun e w'=>e= .returned (.int .i64 (doD d (opCreate tmpN)).2.2.2)∧FsPost w f m L (doD d (opCreate tmpN)).1 w':=by
 have HC:=Lib.hid (create_any w f m d L h hs tmpN)
 clear h
 go_enter Tryz.func105,Tryz.ntmps105
 go_wp2_with fail
 refine HC.out.mono ?_
 rintro e w' ⟨rfl,hp⟩
 have HP:=Lib.hid hp
 clear hp
 go_wp2
 go_ret
 exact⟨rfl,HP.out⟩
theorem saveC2 (w:World) (f m:Nat) (d:Disk) (L:List Slot) (h:FsAt w f m d L) (hs:d.steps<4611686018427387904) (b b':Nat) (hc:w.cell? ⟨b,0,none⟩=some (.pointer (some ⟨f,0,none⟩))) (bv:Value) (bs:List UInt8) (hb:BRowIn (fun k=> ¬ foot f m L k) w bv bs) (hc':w.cell? ⟨b',0,none⟩=some bv):
  Calls Tryz.prog 106 #[.pointer (some ⟨b,0,none⟩),.pointer (some ⟨b',0,none⟩)] w fun e w'=>e= .returned (.int .i64 (doD d (opAppend tmpN bs)).2.2.2)∧FsPost w f m L (doD d (opAppend tmpN bs)).1 w':=by
 have HC:=Lib.hid (append_any w f m d L h hs tmpN bs bv hb)
 clear h hb
 go_enter Tryz.func106,Tryz.ntmps106
 go_wp2_with fail
 refine HC.out.mono ?_
 rintro e w' ⟨rfl,hp⟩
 have HP:=Lib.hid hp
 clear hp
 go_wp2
 go_ret
 exact⟨rfl,HP.out⟩
theorem saveC3 (w:World) (f m:Nat) (d:Disk) (L:List Slot) (h:FsAt w f m d L) (hs:d.steps<4611686018427387904) (b:Nat) (hc:w.cell? ⟨b,0,none⟩=some (.pointer (some ⟨f,0,none⟩))):
  Calls Tryz.prog 107 #[.pointer (some ⟨b,0,none⟩)] w fun e w'=>e= .returned (.int .i64 (doD d (opSync tmpN)).2.2.2)∧FsPost w f m L (doD d (opSync tmpN)).1 w':=by
 have HC:=Lib.hid (sync_any w f m d L h hs tmpN)
 clear h
 go_enter Tryz.func107,Tryz.ntmps107
 go_wp2_with fail
 refine HC.out.mono ?_
 rintro e w' ⟨rfl,hp⟩
 have HP:=Lib.hid hp
 clear hp
 go_wp2
 go_ret
 exact⟨rfl,HP.out⟩
theorem saveC4 (w:World) (f m:Nat) (d:Disk) (L:List Slot) (h:FsAt w f m d L) (hs:d.steps<4611686018427387904) (b:Nat) (hc:w.cell? ⟨b,0,none⟩=some (.pointer (some ⟨f,0,none⟩))):
  Calls Tryz.prog 108 #[.pointer (some ⟨b,0,none⟩)] w fun e w'=>e= .returned (.int .i64 (doD d (opRename tmpN manN)).2.2.2)∧FsPost w f m L (doD d (opRename tmpN manN)).1 w':=by
 have HC:=Lib.hid (rename_any w f m d L h hs tmpN manN)
 clear h
 go_enter Tryz.func108,Tryz.ntmps108
 go_wp2_with fail
 refine HC.out.mono ?_
 rintro e w' ⟨rfl,hp⟩
 have HP:=Lib.hid hp
 clear hp
 go_wp2
 go_ret
 exact⟨rfl,HP.out⟩
theorem FsPost.cell {w w':World} {f m:Nat} {L:List Slot} {d':Disk} (h:FsPost w f m L d' w') {p:Addr} {v:Value} (hc:w.cell? p=some v) (hn: ¬ foot f m L p.block):w'.cell? p=some v:=by
 obtain⟨L',_,ht,_⟩:=h
 exact ht.cell hc hn
theorem runD_stop {d:Disk} {o:DOp} {r:List DOp} (h:(doD d o).2.2.2≠0):runD d (o::r)=((doD d o).1,(doD d o).2.2.2):=by rw [runD,if_neg h]
theorem runD_go {d:Disk} {o:DOp} {r:List DOp} (h:(doD d o).2.2.2=0):runD d (o::r)=runD (doD d o).1 r:=by rw [runD,if_pos h]
set_option maxRecDepth 100000 in
set_option maxHeartbeats 4000000 in
theorem save_any (w:World) (f m:Nat) (d:Disk) (L:List Slot) (h:FsAt w f m d L) (hs:d.steps+4<4611686018427387904) (mn:Man) (sv:Value) (hr:SgRow w sv mn.segs) (hn:NibTab w) (hok:manOk mn=true):
  Calls Tryz.prog 73 #[.pointer (some ⟨f,0,none⟩),mnV mn sv] w (RunPost w f m L (runD d (saveOps mn))):=by
 have HH:=Lib.hid h
 have HST:=Lib.hid hs
 obtain⟨oa,cap,rfl,hl1,hl2,hc⟩:=hr
 have HR:=Lib.hid (show SgRow w (.slice oa mn.segs.length cap) mn.segs from⟨oa,cap,rfl,hl1,hl2,hc⟩)
 have HB0:=Lib.hid (Below.next (below_alloc w (.cells #[.pointer (some ⟨f,0,none⟩)] 26)) (below_alloc _ (.cells (mnCs mn (.slice oa mn.segs.length cap)) 34)))
 have hbx:(w.alloc (.cells #[.pointer (some ⟨f,0,none⟩)] 26)).cell? ⟨w.heap.size,0,none⟩=some (.pointer (some ⟨f,0,none⟩)):=by rw [World.cell?_alloc_new];rfl
 have HX0:=Lib.hid (cell_later (below_alloc _ (.cells (mnCs mn (.slice oa mn.segs.length cap)) 34)) hbx)
 have HMB:=Lib.hid (show MnBlk ((w.alloc (.cells #[.pointer (some ⟨f,0,none⟩)] 26)).alloc (.cells (mnCs mn (.slice oa mn.segs.length cap)) 34)) (w.heap.size+1) mn (.slice oa mn.segs.length cap) by
  have:=mnBlk_alloc (w.alloc (.cells #[.pointer (some ⟨f,0,none⟩)] 26)) mn (.slice oa mn.segs.length cap)
  rwa [show (w.alloc (.cells #[.pointer (some ⟨f,0,none⟩)] 26)).heap.size=w.heap.size+1 by simp] at this)
 simp only [mnCs] at HMB
 have HENC:=Lib.hid (manEncode_any mn (.slice oa mn.segs.length cap) _ (HR.out.below HB0.out) (hn.below HB0.out))
 have HENE:=Lib.hid (show (encMan mn).2=0 by rw [encMan_ok hok])
 have hmf: ∀ (fn:Fn) (first cap:Array Value) (w:World),(Instr.makeFunc fn first cap).run Tryz.prog w= .ok (.func fn first cap) w:=fun _ _ _ _=>rfl
 have hfw:=h.lt
 have HFW:=Lib.hid hfw
 clear hc hn hok h hs hbx hfw
 obtain⟨er,her⟩: ∃ er,er=encMan mn:=⟨_,rfl⟩
 rw [←her] at HENC HENE
 have HER:=Lib.hid her
 clear her
 go_enter Tryz.func73,Tryz.ntmps73
 go_wp2_with (with_reducible refine wpList_load_mn rfl (.tmp 3) rfl (w.heap.size+1) mn (.slice oa mn.segs.length cap) rfl HMB.out ?_)
 refine HENC.out.mono ?_
 rintro e w1 ⟨v1,rfl,ho1,hb1⟩
 rw [HENE.out]
 obtain⟨o1,cap1,rfl,_,_⟩:=own_shape ho1
 have HO1:=Lib.hid ho1
 have HB1:=Lib.hid (Below.next HB0.out hb1)
 have HX1:=Lib.hid (cell_later hb1 HX0.out)
 clear ho1 hb1 HENC HX0 HB0
 go_wp2
 have hb5:(w1.alloc (.cells #[.slice o1 er.1.length cap1] 45)).cell? ⟨w1.heap.size,0,none⟩=some (.slice o1 er.1.length cap1):=by rw [World.cell?_alloc_new];rfl
 have sz5:(w1.alloc (.cells #[.slice o1 er.1.length cap1] 45)).heap.size=w1.heap.size+1:=by simp
 have HBW:=Lib.hid (Below.next (below_alloc w1 (.cells #[.slice o1 er.1.length cap1] 45)) (below_alloc _ (.cells #[.func (.func 105) #[] #[.pointer (some ⟨w.heap.size,0,none⟩)],.func (.func 106) #[] #[.pointer (some ⟨w.heap.size,0,none⟩),.pointer (some ⟨w1.heap.size,0,none⟩)],.func (.func 107) #[] #[.pointer (some ⟨w.heap.size,0,none⟩)],.func (.func 108) #[] #[.pointer (some ⟨w.heap.size,0,none⟩)]] 180)))
 have HC2:=Lib.hid (cell_later HBW.out HX1.out)
 have HC5:=Lib.hid (cell_later (below_alloc _ (.cells #[.func (.func 105) #[] #[.pointer (some ⟨w.heap.size,0,none⟩)],.func (.func 106) #[] #[.pointer (some ⟨w.heap.size,0,none⟩),.pointer (some ⟨w1.heap.size,0,none⟩)],.func (.func 107) #[] #[.pointer (some ⟨w.heap.size,0,none⟩)],.func (.func 108) #[] #[.pointer (some ⟨w.heap.size,0,none⟩)]] 180)) hb5)
 have HGC:=Lib.hid (fun(j:Nat) (v:Value) (hj:(#[.func (.func 105) #[] #[.pointer (some ⟨w.heap.size,0,none⟩)],.func (.func 106) #[] #[.pointer (some ⟨w.heap.size,0,none⟩),.pointer (some ⟨w1.heap.size,0,none⟩)],.func (.func 107) #[] #[.pointer (some ⟨w.heap.size,0,none⟩)],.func (.func 108) #[] #[.pointer (some ⟨w.heap.size,0,none⟩)]]:Array Value)[j]? =some v)=>show ((w1.alloc (.cells #[.slice o1 er.1.length cap1] 45)).alloc (.cells #[.func (.func 105) #[] #[.pointer (some ⟨w.heap.size,0,none⟩)],.func (.func 106) #[] #[.pointer (some ⟨w.heap.size,0,none⟩),.pointer (some ⟨w1.heap.size,0,none⟩)],.func (.func 107) #[] #[.pointer (some ⟨w.heap.size,0,none⟩)],.func (.func 108) #[] #[.pointer (some ⟨w.heap.size,0,none⟩)]] 180)).cell? ⟨w1.heap.size+1,j,none⟩=some v by
  have:=World.cell?_alloc_new (w1.alloc (.cells #[.slice o1 er.1.length cap1] 45)) #[.func (.func 105) #[] #[.pointer (some ⟨w.heap.size,0,none⟩)],.func (.func 106) #[] #[.pointer (some ⟨w.heap.size,0,none⟩),.pointer (some ⟨w1.heap.size,0,none⟩)],.func (.func 107) #[] #[.pointer (some ⟨w.heap.size,0,none⟩)],.func (.func 108) #[] #[.pointer (some ⟨w.heap.size,0,none⟩)]] 180 j
  rw [sz5] at this
  rw [this];exact hj)
 have HBV:=Lib.hid ((browIn_own (A:=fun k=>w.heap.size≤k) HO1.out (fun k hk=>by simp at hk;omega)).below HBW.out)
 have HBW0:=Lib.hid (Below.next HB1.out HBW.out)
 have HLO:=Lib.hid (show w.heap.size≤w1.heap.size from HB1.out.size)
 have HF4:=Lib.hid (HH.out.below HBW0.out)
 have hmf':=Lib.hid hmf
 clear hb5 sz5 hmf HO1 HB1 HX1 HBW
 have HNF:=Lib.hid (fun k (hk:w.heap.size≤k)=>show ¬ foot f m L k from fun hf=>by have:=HFW.out k hf;omega)
 generalize ((w1.alloc (.cells #[.slice o1 er.1.length cap1] 45)).alloc (.cells #[.func (.func 105) #[] #[.pointer (some ⟨w.heap.size,0,none⟩)],.func (.func 106) #[] #[.pointer (some ⟨w.heap.size,0,none⟩),.pointer (some ⟨w1.heap.size,0,none⟩)],.func (.func 107) #[] #[.pointer (some ⟨w.heap.size,0,none⟩)],.func (.func 108) #[] #[.pointer (some ⟨w.heap.size,0,none⟩)]] 180))=W4 at*
 have HQ:=Lib.hid (fun(d':Disk) (W:World) (hp:FsPost W4 f m L d' W)=>show FsPost w f m L d' W from hp.then (Turned.below HBW0.out) (fun _ h=> .inl h))
 have HCL:=Lib.hid (fun(d':Disk) (W:World) (hp:FsPost W4 f m L d' W)=>show W.cell? ⟨w.heap.size,0,none⟩=some (.pointer (some ⟨f,0,none⟩))∧W.cell? ⟨w1.heap.size,0,none⟩=some (.slice o1 er.1.length cap1)∧ ∀ (j:Nat) (v:Value),(#[.func (.func 105) #[] #[.pointer (some ⟨w.heap.size,0,none⟩)],.func (.func 106) #[] #[.pointer (some ⟨w.heap.size,0,none⟩),.pointer (some ⟨w1.heap.size,0,none⟩)],.func (.func 107) #[] #[.pointer (some ⟨w.heap.size,0,none⟩)],.func (.func 108) #[] #[.pointer (some ⟨w.heap.size,0,none⟩)]]:Array Value)[j]? =some v→W.cell? ⟨w1.heap.size+1,j,none⟩=some v from
  ⟨hp.cell HC2.out (HNF.out _ (Nat.le_refl _)),hp.cell HC5.out (HNF.out _ HLO.out),fun j v hj=>hp.cell (HGC.out j v hj) (HNF.out _ (Nat.le_trans HLO.out (Nat.le_succ _)))⟩)
 have HP0:=Lib.hid (FsPost.same HF4.out)
 have HS0:=Lib.hid (show d.steps≤d.steps+0 by omega)
 obtain⟨d0,hd0⟩: ∃ x,x=d:=⟨_,rfl⟩
 have HRUN:=Lib.hid (show runD d (saveOps mn)=runD d0 [opCreate tmpN,opAppend tmpN er.1,opSync tmpN,opRename tmpN manN] by rw [hd0,HER.out];rfl)
 rw [←hd0] at HP0
 have HS:=Lib.hid (show d0.steps<4611686018427387904 by rw [hd0];have:=HST.out;omega)
 have HST':=Lib.hid (show d0.steps+4<4611686018427387904 by rw [hd0];exact HST.out)
 clear hd0 HST
 refine wp_loop_rounds 5 ?_
 rw [rounds_succ]
 have g0:=(HCL.out _ _ HP0.out).2.2 0 _ rfl
 obtain⟨L0,hfs0,ht0,hsub0⟩:=HP0.out
 have HCJ:=Lib.hid (saveC1 _ f m _ L0 hfs0 HS.out w.heap.size (HCL.out _ _ HP0.out).1)
 have HTJ:=Lib.hid ht0
 have HSJ:=Lib.hid hsub0
 clear hfs0 ht0 hsub0
 go_wp2_with fail
 refine HCJ.out.mono ?_
 rintro e W5 ⟨rfl,hp⟩
 have HPn:=Lib.hid (hp.then HTJ.out HSJ.out)
 clear hp HCJ g0
 by_cases he0:(doD d0 (opCreate tmpN)).2.2.2=0
 case neg=>
  have tn:((doD d0 (opCreate tmpN)).2.2.2 != 0)=true:=by simpa using he0
  have HE:=Lib.hid (show runD d (saveOps mn)=((doD d0 (opCreate tmpN)).1,(doD d0 (opCreate tmpN)).2.2.2) by rw [HRUN.out,runD_stop he0])
  have HF:=Lib.hid (HQ.out _ _ HPn.out)
  clear he0
  generalize (doD d0 (opCreate tmpN)).2.2.2=ev at*
  go_wp2
  go_ret
  unfold RunPost
  rw [HE.out]
  exact⟨rfl,HF.out⟩
 have HRUN:=Lib.hid (show runD d (saveOps mn)=runD (doD d0 (opCreate tmpN)).1 [opAppend tmpN er.1,opSync tmpN,opRename tmpN manN] by rw [HRUN.out,runD_go he0])
 have HS:=Lib.hid (show (doD d0 (opCreate tmpN)).1.steps<4611686018427387904 by have h1:=(doD_steps d0 (opCreate tmpN)).1;have:=HST'.out;omega)
 rw [he0]
 clear he0
 have HSB:=Lib.hid (show (doD d0 (opCreate tmpN)).1.steps≤4611686018427387900+0 by have h1:=(doD_steps d0 (opCreate tmpN)).1;have:=HST'.out;omega)
 obtain⟨d1,hdn⟩: ∃ x,x=(doD d0 (opCreate tmpN)).1:=⟨_,rfl⟩
 rw [←hdn] at HPn HRUN HS HSB
 clear hdn HTJ HSJ
 have HP1:=HPn
 clear HPn
 go_wp2
 rw [rounds_succ]
 have g1:=(HCL.out _ _ HP1.out).2.2 1 _ rfl
 obtain⟨L1,hfs1,ht1,hsub1⟩:=HP1.out
 have HBVj:=Lib.hid (show BRowIn (fun k=> ¬ foot f m L1 k) _ (.slice o1 er.1.length cap1) er.1 from(HBV.out.low.turned ht1 (fun k hk hf=>HNF.out k hk.1 hf)).mono (fun k hk hf=>by
  rcases hsub1 k hf with h1 | h1
  ·exact HNF.out k hk.1 h1
  ·have:=hk.2;omega))
 have HCJ:=Lib.hid (saveC2 _ f m _ L1 hfs1 HS.out w.heap.size w1.heap.size (HCL.out _ _ HP1.out).1 _ _ HBVj.out (HCL.out _ _ HP1.out).2.1)
 have HTJ:=Lib.hid ht1
 have HSJ:=Lib.hid hsub1
 clear hfs1 ht1 hsub1
 go_wp2_with fail
 refine HCJ.out.mono ?_
 rintro e W6 ⟨rfl,hp⟩
 have HPn:=Lib.hid (hp.then HTJ.out HSJ.out)
 clear hp HCJ g1
 by_cases he1:(doD d1 (opAppend tmpN er.1)).2.2.2=0
 case neg=>
  have tn:((doD d1 (opAppend tmpN er.1)).2.2.2 != 0)=true:=by simpa using he1
  have HE:=Lib.hid (show runD d (saveOps mn)=((doD d1 (opAppend tmpN er.1)).1,(doD d1 (opAppend tmpN er.1)).2.2.2) by rw [HRUN.out,runD_stop he1])
  have HF:=Lib.hid (HQ.out _ _ HPn.out)
  clear he1
  generalize (doD d1 (opAppend tmpN er.1)).2.2.2=ev at*
  go_wp2
  go_ret
  unfold RunPost
  rw [HE.out]
  exact⟨rfl,HF.out⟩
 have HRUN:=Lib.hid (show runD d (saveOps mn)=runD (doD d1 (opAppend tmpN er.1)).1 [opSync tmpN,opRename tmpN manN] by rw [HRUN.out,runD_go he1])
 have HS:=Lib.hid (show (doD d1 (opAppend tmpN er.1)).1.steps<4611686018427387904 by have h1:=(doD_steps d1 (opAppend tmpN er.1)).1;have:=HSB.out;omega)
 rw [he1]
 clear he1
 have HSB:=Lib.hid (show (doD d1 (opAppend tmpN er.1)).1.steps≤4611686018427387900+1 by have h1:=(doD_steps d1 (opAppend tmpN er.1)).1;have:=HSB.out;omega)
 obtain⟨d2,hdn⟩: ∃ x,x=(doD d1 (opAppend tmpN er.1)).1:=⟨_,rfl⟩
 rw [←hdn] at HPn HRUN HS HSB
 clear hdn HTJ HSJ
 have HP2:=HPn
 clear HPn
 go_wp2
 rw [rounds_succ]
 have g2:=(HCL.out _ _ HP2.out).2.2 2 _ rfl
 obtain⟨L2,hfs2,ht2,hsub2⟩:=HP2.out
 have HCJ:=Lib.hid (saveC3 _ f m _ L2 hfs2 HS.out w.heap.size (HCL.out _ _ HP2.out).1)
 have HTJ:=Lib.hid ht2
 have HSJ:=Lib.hid hsub2
 clear hfs2 ht2 hsub2
 go_wp2_with fail
 refine HCJ.out.mono ?_
 rintro e W7 ⟨rfl,hp⟩
 have HPn:=Lib.hid (hp.then HTJ.out HSJ.out)
 clear hp HCJ g2
 by_cases he2:(doD d2 (opSync tmpN)).2.2.2=0
 case neg=>
  have tn:((doD d2 (opSync tmpN)).2.2.2 != 0)=true:=by simpa using he2
  have HE:=Lib.hid (show runD d (saveOps mn)=((doD d2 (opSync tmpN)).1,(doD d2 (opSync tmpN)).2.2.2) by rw [HRUN.out,runD_stop he2])
  have HF:=Lib.hid (HQ.out _ _ HPn.out)
  clear he2
  generalize (doD d2 (opSync tmpN)).2.2.2=ev at*
  go_wp2
  go_ret
  unfold RunPost
  rw [HE.out]
  exact⟨rfl,HF.out⟩
 have HRUN:=Lib.hid (show runD d (saveOps mn)=runD (doD d2 (opSync tmpN)).1 [opRename tmpN manN] by rw [HRUN.out,runD_go he2])
 have HS:=Lib.hid (show (doD d2 (opSync tmpN)).1.steps<4611686018427387904 by have h1:=(doD_steps d2 (opSync tmpN)).1;have:=HSB.out;omega)
 rw [he2]
 clear he2
 have HSB:=Lib.hid (show (doD d2 (opSync tmpN)).1.steps≤4611686018427387900+2 by have h1:=(doD_steps d2 (opSync tmpN)).1;have:=HSB.out;omega)
 obtain⟨d3,hdn⟩: ∃ x,x=(doD d2 (opSync tmpN)).1:=⟨_,rfl⟩
 rw [←hdn] at HPn HRUN HS HSB
 clear hdn HTJ HSJ
 have HP3:=HPn
 clear HPn
 go_wp2
 rw [rounds_succ]
 have g3:=(HCL.out _ _ HP3.out).2.2 3 _ rfl
 obtain⟨L3,hfs3,ht3,hsub3⟩:=HP3.out
 have HCJ:=Lib.hid (saveC4 _ f m _ L3 hfs3 HS.out w.heap.size (HCL.out _ _ HP3.out).1)
 have HTJ:=Lib.hid ht3
 have HSJ:=Lib.hid hsub3
 clear hfs3 ht3 hsub3
 go_wp2_with fail
 refine HCJ.out.mono ?_
 rintro e W8 ⟨rfl,hp⟩
 have HPn:=Lib.hid (hp.then HTJ.out HSJ.out)
 clear hp HCJ g3
 by_cases he3:(doD d3 (opRename tmpN manN)).2.2.2=0
 case neg=>
  have tn:((doD d3 (opRename tmpN manN)).2.2.2 != 0)=true:=by simpa using he3
  have HE:=Lib.hid (show runD d (saveOps mn)=((doD d3 (opRename tmpN manN)).1,(doD d3 (opRename tmpN manN)).2.2.2) by rw [HRUN.out,runD_stop he3])
  have HF:=Lib.hid (HQ.out _ _ HPn.out)
  clear he3
  generalize (doD d3 (opRename tmpN manN)).2.2.2=ev at*
  go_wp2
  go_ret
  unfold RunPost
  rw [HE.out]
  exact⟨rfl,HF.out⟩
 have HRUN:=Lib.hid (show runD d (saveOps mn)=runD (doD d3 (opRename tmpN manN)).1 [] by rw [HRUN.out,runD_go he3])
 have HS:=Lib.hid (show (doD d3 (opRename tmpN manN)).1.steps<4611686018427387904 by have h1:=(doD_steps d3 (opRename tmpN manN)).1;have:=HSB.out;omega)
 rw [he3]
 clear he3
 have HSB:=Lib.hid (show (doD d3 (opRename tmpN manN)).1.steps≤4611686018427387900+3 by have h1:=(doD_steps d3 (opRename tmpN manN)).1;have:=HSB.out;omega)
 obtain⟨d4,hdn⟩: ∃ x,x=(doD d3 (opRename tmpN manN)).1:=⟨_,rfl⟩
 rw [←hdn] at HPn HRUN HS HSB
 clear hdn HTJ HSJ
 have HP4:=HPn
 clear HPn
 go_wp2
 rw [rounds_succ]
 have HF:=Lib.hid (HQ.out _ _ HP4.out)
 go_wp2
 go_ret
 unfold RunPost
 rw [HRUN.out]
 exact⟨rfl,HF.out⟩
end Go.Proofs.YtcglcphhfmkccaaGreatDoor
namespace Go.Proofs.YtcglcphhfmkccaaGreatDoor
open Go.RowKit
def SgIn (A:Nat→Prop) (w:World) (v:Value) (l:List Sg):Prop:=
 ∃ oa cap,v= .slice oa l.length cap∧l.length≤cap∧cap≤9223372036854775807∧ ∀ (i:Nat) g,l[i]? =some g→ ∃ b off,oa=some ⟨b,off,none⟩∧A b∧w.rangeAt b (off+i*4) (sgCs g).toList
theorem SgIn.row {A:Nat→Prop} {w:World} {v:Value} {l:List Sg} (h:SgIn A w v l):SgRow w v l:=by
 obtain⟨oa,cap,h1,h2,h3,h4⟩:=h
 exact⟨oa,cap,h1,h2,h3,fun i g hg=>by obtain⟨b,off,e,_,hc⟩:=h4 i g hg;exact⟨b,off,e,hc⟩⟩
theorem SgIn.turned {A S:Nat→Prop} {w w':World} {v:Value} {l:List Sg} (h:SgIn A w v l) (ht:Turned S w w') (hS: ∀ k,A k→ ¬ S k):SgIn A w' v l:=by
 obtain⟨oa,cap,h1,h2,h3,h4⟩:=h
 exact⟨oa,cap,h1,h2,h3,fun i g hg=>by obtain⟨b,off,e,ha,hc⟩:=h4 i g hg;exact⟨b,off,e,ha,fun j u hj=>ht.cell (hc j u hj) (hS b ha)⟩⟩
theorem SgIn.below {A:Nat→Prop} {w w':World} {v:Value} {l:List Sg} (h:SgIn A w v l) (hb:Below w.heap.size w w'):SgIn A w' v l:=by
 obtain⟨oa,cap,h1,h2,h3,h4⟩:=h
 exact⟨oa,cap,h1,h2,h3,fun i g hg=>by obtain⟨b,off,e,ha,hc⟩:=h4 i g hg;exact⟨b,off,e,ha,range_later hc hb⟩⟩
theorem SgIn.mono {A A':Nat→Prop} {w:World} {v:Value} {l:List Sg} (h:SgIn A w v l) (hA: ∀ k,A k→A' k):SgIn A' w v l:=by
 obtain⟨oa,cap,h1,h2,h3,h4⟩:=h
 exact⟨oa,cap,h1,h2,h3,fun i g hg=>by obtain⟨b,off,e,ha,hc⟩:=h4 i g hg;exact⟨b,off,e,hA b ha,hc⟩⟩
theorem SgIn.low {A:Nat→Prop} {w:World} {v:Value} {l:List Sg} (h:SgIn A w v l):SgIn (fun k=>A k∧k<w.heap.size) w v l:=by
 obtain⟨oa,cap,h1,h2,h3,h4⟩:=h
 exact⟨oa,cap,h1,h2,h3,fun i g hg=>by obtain⟨b,off,e,ha,hc⟩:=h4 i g hg;exact⟨b,off,e,⟨ha,World.block_lt_of_cell? w _ (hc 0 _ rfl)⟩,hc⟩⟩
theorem FsPost.block {w w':World} {f m:Nat} {L:List Slot} {d':Disk} (h:FsPost w f m L d' w') {k:Nat} (hk:k<w.heap.size) (hn: ¬ foot f m L k):w'.heap[k]? =w.heap[k]? :=by
 obtain⟨L',_,ht,_⟩:=h
 exact ht.block k hk hn
theorem NibTab.lt {w:World} (h:NibTab w):0<w.heap.size:=World.block_lt_of_cell? w _ (h.at 0 (by decide))
theorem FsPost.nib {w w':World} {f m:Nat} {L:List Slot} {d':Disk} (h:FsPost w f m L d' w') (hn:NibTab w) (hg: ¬ foot f m L 0):NibTab w':=by
 obtain⟨L',_,ht,_⟩:=h
 exact hn.turned ht hg hn.lt
def SgBlk (w:World) (b:Nat) (g:Sg):Prop:=w.heap[b]? =some (.cells (sgCs g) 63 (0,0))
theorem SgBlk.range {w:World} {b:Nat} {g:Sg} (h:SgBlk w b g):w.rangeAt b 0 (sgCs g).toList:=fun j u hj=>by
 unfold SgBlk at h
 simp only [World.cell?,h,Nat.zero_add]
 simpa using hj
theorem SgBlk.c0 {w:World} {b:Nat} {g:Sg} (h:SgBlk w b g):w.cell? ⟨b,0,none⟩=some (.int .i64 g.num):=h.range 0 _ rfl
set_option maxRecDepth 100000 in
set_option maxHeartbeats 4000000 in
theorem begin_any (w:World) (f m:Nat) (d:Disk) (L:List Slot) (h:FsAt w f m d L) (hs:d.steps+8<4611686018427387904) (n:List UInt8) (g:Sg) (mn:Man) (sv:Value) (hr:SgIn (fun k=> ¬ foot f m L k) w sv mn.segs) (hn:NibTab w) (hg: ¬ foot f m L 0) (hok:manOk mn=true):
  Calls Tryz.prog 43 #[.pointer (some ⟨f,0,none⟩),.string ⟨n.toArray⟩,sgV g,mnV mn sv] w (RunPost w f m L (runD d (beginOps n g mn))):=by
 have HH:=Lib.hid h
 have HST:=Lib.hid hs
 have HOK:=Lib.hid hok
 have HNG:=Lib.hid hg
 have HRI:=Lib.hid hr
 have HNB:=Lib.hid hn
 have hfw:=h.lt
 have HFW:=Lib.hid hfw
 obtain⟨oa,cap,rfl,hl1,hl2,hc⟩:=hr
 have HB0:=Lib.hid (Below.next (below_alloc w (.cells (sgCs g) 63)) (below_alloc _ (.cells (mnCs mn (.slice oa mn.segs.length cap)) 34)))
 have HMB:=Lib.hid (show MnBlk ((w.alloc (.cells (sgCs g) 63)).alloc (.cells (mnCs mn (.slice oa mn.segs.length cap)) 34)) (w.heap.size+1) mn (.slice oa mn.segs.length cap) by
  have:=mnBlk_alloc (w.alloc (.cells (sgCs g) 63)) mn (.slice oa mn.segs.length cap)
  rwa [show (w.alloc (.cells (sgCs g) 63)).heap.size=w.heap.size+1 by simp] at this)
 have HHD:=Lib.hid (header_any g.num g.first _ (hn.below HB0.out))
 clear hc hn hok h hs hg hfw
 obtain⟨er,her⟩: ∃ er,er=hdrEnc g.num g.first:=⟨_,rfl⟩
 rw [←her] at HHD
 have HER:=Lib.hid her
 clear her
 go_enter Tryz.func43,Tryz.ntmps43
 go_wp2_with fail
 refine HHD.out.mono ?_
 rintro e w1 ⟨v1,rfl,ho1,hb1⟩
 obtain⟨o1,cap1,rfl,_,_⟩:=own_shape ho1
 have HBW0:=Lib.hid (Below.next HB0.out hb1)
 have HF4:=Lib.hid (HH.out.below HBW0.out)
 have HM1:=Lib.hid (HMB.out.below hb1)
 have HBV:=Lib.hid (browIn_own (A:=fun k=>w.heap.size≤k) ho1 (fun k hk=>by simp at hk;omega))
 have HNB1:=Lib.hid (HNB.out.below HBW0.out)
 have HRI1:=Lib.hid (HRI.out.below HBW0.out)
 clear ho1 hb1 HB0 HMB HHD HNB HRI
 have HNF:=Lib.hid (fun k (hk:w.heap.size≤k)=>show ¬ foot f m L k from fun hf=>by have:=HFW.out k hf;omega)
 have HQ:=Lib.hid (fun(d':Disk) (W:World) (hp:FsPost w1 f m L d' W)=>show FsPost w f m L d' W from hp.then (Turned.below HBW0.out) (fun _ h=> .inl h))
 have HP0:=Lib.hid (FsPost.same HF4.out)
 obtain⟨d0,hd0⟩: ∃ x,x=d:=⟨_,rfl⟩
 have HRUN:=Lib.hid (show runD d (beginOps n g mn)=runD d0 ([opCreate n,opAppend n er.1,opSync n]++saveOps mn) by rw [hd0,HER.out];rfl)
 rw [←hd0] at HP0
 have HS:=Lib.hid (show d0.steps<4611686018427387904 by rw [hd0];have:=HST.out;omega)
 have HSB:=Lib.hid (show d0.steps≤4611686018427387895 by rw [hd0];have:=HST.out;omega)
 simp only [List.cons_append,List.nil_append] at HRUN
 clear hd0 HST
 obtain⟨L0,hfs0,ht0,hsub0⟩:=HP0.out
 have HCJ:=Lib.hid (create_any _ f m _ L0 hfs0 HS.out n)
 have HTJ:=Lib.hid ht0
 have HSJ:=Lib.hid hsub0
 clear hfs0 ht0 hsub0
 go_wp2_with fail
 refine HCJ.out.mono ?_
 rintro e W5 ⟨rfl,hp⟩
 have HPn:=Lib.hid (hp.then HTJ.out HSJ.out)
 clear hp HCJ
 by_cases he0:(doD d0 (opCreate n)).2.2.2=0
 case neg=>
  have tn:((doD d0 (opCreate n)).2.2.2 != 0)=true:=by simpa using he0
  have HE:=Lib.hid (show runD d (beginOps n g mn)=((doD d0 (opCreate n)).1,(doD d0 (opCreate n)).2.2.2) by rw [HRUN.out,runD_stop he0])
  have HF:=Lib.hid (HQ.out _ _ HPn.out)
  clear he0
  generalize (doD d0 (opCreate n)).2.2.2=ev at*
  go_wp2
  go_ret
  unfold RunPost
  rw [HE.out]
  exact⟨rfl,HF.out⟩
 have HRUN:=Lib.hid (show runD d (beginOps n g mn)=runD (doD d0 (opCreate n)).1 (opAppend n er.1::opSync n::saveOps mn) by rw [HRUN.out,runD_go he0])
 have HS:=Lib.hid (show (doD d0 (opCreate n)).1.steps<4611686018427387904 by have h1:=(doD_steps d0 (opCreate n)).1;have:=HSB.out;omega)
 have HSB:=Lib.hid (show (doD d0 (opCreate n)).1.steps≤4611686018427387895+1 by have h1:=(doD_steps d0 (opCreate n)).1;have:=HSB.out;omega)
 rw [he0]
 clear he0
 obtain⟨d1,hdn⟩: ∃ x,x=(doD d0 (opCreate n)).1:=⟨_,rfl⟩
 rw [←hdn] at HPn HRUN HS HSB
 clear hdn HTJ HSJ
 have HP1:=HPn
 clear HPn
 obtain⟨L1,hfs1,ht1,hsub1⟩:=HP1.out
 have HBVj:=Lib.hid (show BRowIn (fun k=> ¬ foot f m L1 k) _ (.slice o1 er.1.length cap1) er.1 from(HBV.out.low.turned ht1 (fun k hk hf=>HNF.out k hk.1 hf)).mono (fun k hk hf=>by
  rcases hsub1 k hf with h1 | h1
  ·exact HNF.out k hk.1 h1
  ·have:=hk.2;omega))
 have HCJ:=Lib.hid (append_any _ f m _ L1 hfs1 HS.out n er.1 (.slice o1 er.1.length cap1) HBVj.out)
 have HTJ:=Lib.hid ht1
 have HSJ:=Lib.hid hsub1
 clear hfs1 ht1 hsub1
 go_wp2_with fail
 refine HCJ.out.mono ?_
 rintro e W6 ⟨rfl,hp⟩
 have HPn:=Lib.hid (hp.then HTJ.out HSJ.out)
 clear hp HCJ
 by_cases he1:(doD d1 (opAppend n er.1)).2.2.2=0
 case neg=>
  have tn:((doD d1 (opAppend n er.1)).2.2.2 != 0)=true:=by simpa using he1
  have HE:=Lib.hid (show runD d (beginOps n g mn)=((doD d1 (opAppend n er.1)).1,(doD d1 (opAppend n er.1)).2.2.2) by rw [HRUN.out,runD_stop he1])
  have HF:=Lib.hid (HQ.out _ _ HPn.out)
  clear he1
  generalize (doD d1 (opAppend n er.1)).2.2.2=ev at*
  go_wp2
  go_ret
  unfold RunPost
  rw [HE.out]
  exact⟨rfl,HF.out⟩
 have HRUN:=Lib.hid (show runD d (beginOps n g mn)=runD (doD d1 (opAppend n er.1)).1 (opSync n::saveOps mn) by rw [HRUN.out,runD_go he1])
 have HS:=Lib.hid (show (doD d1 (opAppend n er.1)).1.steps<4611686018427387904 by have h1:=(doD_steps d1 (opAppend n er.1)).1;have:=HSB.out;omega)
 have HSB:=Lib.hid (show (doD d1 (opAppend n er.1)).1.steps≤4611686018427387895+2 by have h1:=(doD_steps d1 (opAppend n er.1)).1;have:=HSB.out;omega)
 rw [he1]
 clear he1
 obtain⟨d2,hdn⟩: ∃ x,x=(doD d1 (opAppend n er.1)).1:=⟨_,rfl⟩
 rw [←hdn] at HPn HRUN HS HSB
 clear hdn HTJ HSJ
 have HP2:=HPn
 clear HPn
 obtain⟨L2,hfs2,ht2,hsub2⟩:=HP2.out
 have HCJ:=Lib.hid (sync_any _ f m _ L2 hfs2 HS.out n)
 have HTJ:=Lib.hid ht2
 have HSJ:=Lib.hid hsub2
 clear hfs2 ht2 hsub2
 go_wp2_with fail
 refine HCJ.out.mono ?_
 rintro e W7 ⟨rfl,hp⟩
 have HPn:=Lib.hid (hp.then HTJ.out HSJ.out)
 clear hp HCJ
 by_cases he2:(doD d2 (opSync n)).2.2.2=0
 case neg=>
  have tn:((doD d2 (opSync n)).2.2.2 != 0)=true:=by simpa using he2
  have HE:=Lib.hid (show runD d (beginOps n g mn)=((doD d2 (opSync n)).1,(doD d2 (opSync n)).2.2.2) by rw [HRUN.out,runD_stop he2])
  have HF:=Lib.hid (HQ.out _ _ HPn.out)
  clear he2
  generalize (doD d2 (opSync n)).2.2.2=ev at*
  go_wp2
  go_ret
  unfold RunPost
  rw [HE.out]
  exact⟨rfl,HF.out⟩
 have HRUN:=Lib.hid (show runD d (beginOps n g mn)=runD (doD d2 (opSync n)).1 (saveOps mn) by rw [HRUN.out,runD_go he2])
 have HS:=Lib.hid (show (doD d2 (opSync n)).1.steps<4611686018427387904 by have h1:=(doD_steps d2 (opSync n)).1;have:=HSB.out;omega)
 have HSB:=Lib.hid (show (doD d2 (opSync n)).1.steps≤4611686018427387895+3 by have h1:=(doD_steps d2 (opSync n)).1;have:=HSB.out;omega)
 rw [he2]
 clear he2
 obtain⟨d3,hdn⟩: ∃ x,x=(doD d2 (opSync n)).1:=⟨_,rfl⟩
 rw [←hdn] at HPn HRUN HS HSB
 clear hdn HTJ HSJ
 have HP3:=HPn
 clear HPn
 have HM3:=Lib.hid (show MnBlk W7 (w.heap.size+1) mn (.slice oa mn.segs.length cap) by
  unfold MnBlk
  rw [HP3.out.block HM1.out.lt (HNF.out _ (Nat.le_succ _))]
  exact HM1.out)
 obtain⟨L3,hfs3,ht3,hsub3⟩:=HP3.out
 have HSV:=Lib.hid (save_any _ f m _ L3 hfs3 (by have:=HSB.out;omega) mn (.slice oa mn.segs.length cap) (HRI1.out.turned ht3 (fun k hk hf=>hk hf)).row (HP3.out.nib HNB1.out HNG.out) HOK.out)
 have HTJ:=Lib.hid ht3
 have HSJ:=Lib.hid hsub3
 clear hfs3 ht3 hsub3
 go_wp2_with (with_reducible refine wpList_load_mn rfl (.tmp 7) rfl (w.heap.size+1) mn (.slice oa mn.segs.length cap) rfl HM3.out ?_)
 refine HSV.out.mono ?_
 rintro e W9 ⟨rfl,hp⟩
 have HF:=Lib.hid (HQ.out _ _ (hp.then HTJ.out HSJ.out))
 clear hp
 rw [←HRUN.out]
 rw [←HRUN.out] at HF
 generalize runD d (beginOps n g mn)=rr at*
 go_wp2
 go_ret
 exact⟨rfl,HF.out⟩
end Go.Proofs.YtcglcphhfmkccaaGreatDoor
namespace Go.Proofs.YtcglcphhfmkccaaGreatDoor
open Go.RowKit
def StIn (A:Nat→Prop) (w:World) (v:Value) (l:List (List UInt8)):Prop:=
 ∃ oa cap,v= .slice oa l.length cap∧l.length≤cap∧cap≤9223372036854775807∧ ∀ (i:Nat) x,l[i]? =some x→ ∃ b off,oa=some ⟨b,off,none⟩∧A b∧w.cell? ⟨b,off+i,none⟩=some (.string ⟨x.toArray⟩)
theorem StIn.below {A:Nat→Prop} {w w':World} {v:Value} {l:List (List UInt8)} (h:StIn A w v l) (hb:Below w.heap.size w w'):StIn A w' v l:=by
 obtain⟨oa,cap,h1,h2,h3,h4⟩:=h
 exact⟨oa,cap,h1,h2,h3,fun i g hg=>by obtain⟨b,off,e,ha,hc⟩:=h4 i g hg;exact⟨b,off,e,ha,cell_later hb hc⟩⟩
theorem StIn.mono {A A':Nat→Prop} {w:World} {v:Value} {l:List (List UInt8)} (h:StIn A w v l) (hA: ∀ k,A k→A' k):StIn A' w v l:=by
 obtain⟨oa,cap,h1,h2,h3,h4⟩:=h
 exact⟨oa,cap,h1,h2,h3,fun i g hg=>by obtain⟨b,off,e,ha,hc⟩:=h4 i g hg;exact⟨b,off,e,hA b ha,hc⟩⟩
def PlBlk (w:World) (b:Nat) (p:Pl) (sv rv:Value):Prop:=w.heap[b]? =some (.cells (plCs p sv rv) 37 (0,0))
theorem PlBlk.lt {w:World} {b:Nat} {p:Pl} {sv rv:Value} (h:PlBlk w b p sv rv):b<w.heap.size:=(Array.getElem?_eq_some_iff.1 h).1
theorem PlBlk.cell {w:World} {b:Nat} {p:Pl} {sv rv:Value} (h:PlBlk w b p sv rv) (j:Nat):w.cell? ⟨b,j,none⟩=(plCs p sv rv)[j]? :=by unfold PlBlk at h;simp [World.cell?,h]
theorem PlBlk.kept {w w':World} {b:Nat} {p:Pl} {sv rv:Value} (h:PlBlk w b p sv rv) (hk:w'.heap[b]? =w.heap[b]?):PlBlk w' b p sv rv:=by unfold PlBlk at *;rw [hk];exact h
theorem PlBlk.below {w w':World} {b:Nat} {p:Pl} {sv rv:Value} (h:PlBlk w b p sv rv) (hb:Below w.heap.size w w'):PlBlk w' b p sv rv:=h.kept (hb.block b h.lt)
theorem PlBlk.c0 {w:World} {b:Nat} {p:Pl} {sv rv:Value} (h:PlBlk w b p sv rv):w.cell? ⟨b,0,none⟩=some (.bool p.fresh):=h.cell 0
theorem PlBlk.c6 {w:World} {b:Nat} {p:Pl} {sv rv:Value} (h:PlBlk w b p sv rv):w.cell? ⟨b,6,none⟩=some sv:=h.cell 6
theorem PlBlk.c7 {w:World} {b:Nat} {p:Pl} {sv rv:Value} (h:PlBlk w b p sv rv):w.cell? ⟨b,7,none⟩=some rv:=h.cell 7
theorem PlBlk.c8 {w:World} {b:Nat} {p:Pl} {sv rv:Value} (h:PlBlk w b p sv rv):w.cell? ⟨b,8,none⟩=some (.int .i64 p.cut):=h.cell 8
theorem PlBlk.man {w:World} {b:Nat} {p:Pl} {sv rv:Value} (h:PlBlk w b p sv rv):w.rangeAt b 1 (mnCs p.man sv).toList:=fun j u hj=>by
 rw [show (⟨b,1+j,none⟩:Addr)=⟨b,j+1,none⟩ by rw [Nat.add_comm],h.cell]
 have hl:j<6:=by have:=(List.getElem?_eq_some_iff.1 hj).1;simpa [mnCs] using this
 rcases (show j=0∨j=1∨j=2∨j=3∨j=4∨j=5 by omega) with rfl | rfl | rfl | rfl | rfl | rfl<;>simpa [mnCs,plCs] using hj
theorem plBlk_alloc (w:World) (p:Pl) (sv rv:Value):PlBlk (w.alloc (.cells (plCs p sv rv) 37)) w.heap.size p sv rv:=heap_alloc_new w _
theorem wpList_load_mnAt {ops:Array Oper} {rest:List Oper} {o:Oper} {a:Act} {w:World} {Q:Exit→Act→World→Prop} (hgd:o.guard=none) (x:Operand) (ho:o.op= .load 34 x)
  (b off:Nat) (m:Man) (sv:Value) (hx:a.eval x= .pointer (some ⟨b,off,none⟩)) (hE:w.rangeAt b off (mnCs m sv).toList)
  (h:wpList Tryz.prog ops Q rest (a.put o.dst (mnV m sv)) w):wpList Tryz.prog ops Q (o::rest) a w:=
 wpList_load_mid hgd 34 x ho b off hx (mnCs m sv).toList _ hE Tryz.underlying34 rfl mnInfo h
theorem FsPost.after {w w' w'':World} {f m:Nat} {L:List Slot} {d':Disk} (h:FsPost w f m L d' w') (hb:Below w'.heap.size w' w''):FsPost w f m L d' w'':=by
 obtain⟨L',h1,h2,h3⟩:=h
 exact⟨L',h1.below hb,h2.trans (Turned.below hb) (fun _ h=> .inl h),h3⟩
theorem runD_one (d:Disk) (o:DOp):runD d [o]=((doD d o).1,(doD d o).2.2.2):=by
 by_cases h:(doD d o).2.2.2=0
 ·rw [runD_go h,runD,h]
 ·rw [runD_stop h]
theorem drop_map_cons {l:List (List UInt8)} {k:Nat} {x:List UInt8} (h:l[k]? =some x):(l.drop k).map opRemove=opRemove x::(l.drop (k+1)).map opRemove:=by
 rw [dropF_cons h,List.map_cons]
set_option maxRecDepth 100000 in
set_option maxHeartbeats 8000000 in
theorem recApply_good (w:World) (f m:Nat) (d:Disk) (L:List Slot) (h:FsAt w f m d L) (p:Pl) (sv rv:Value) (hs:SgIn (fun k=> ¬ foot f m L k) w sv p.man.segs) (hr:StIn (fun k=> ¬ foot f m L k) w rv p.remove)
  (hn:NibTab w) (hg: ¬ foot f m L 0) (hst:d.steps+p.remove.length+16<4611686018427387904) (hok:manOk p.man=true):
  Calls Tryz.prog 24 #[.pointer (some ⟨f,0,none⟩),plV p sv rv] w (RunPost w f m L (applyD d p)):=by
 have HH:=Lib.hid h
 have HST:=Lib.hid hst
 have HOK:=Lib.hid hok
 have HNG:=Lib.hid hg
 have HNB:=Lib.hid hn
 have HFW:=Lib.hid h.lt
 have HSI:=Lib.hid hs
 obtain⟨ob,bcap,rfl,hl1,hl2,hcs⟩:=hs
 obtain⟨oa,cap,rfl,hl3,hl4,hcr⟩:=hr
 have HCR:=Lib.hid hcr
 have HAP:=Lib.hid (show applyD d p=runD d (refOps d p) by unfold applyD;rw [hok];rfl)
 have HV:=Lib.hid (manValid_any p.man (.slice ob p.man.segs.length bcap) _ (HSI.out.row.below (below_alloc w (.cells (plCs p (.slice ob p.man.segs.length bcap) (.slice oa p.remove.length cap)) 37))))
 rw [hok] at HV
 have HB0:=Lib.hid (below_alloc w (.cells (plCs p (.slice ob p.man.segs.length bcap) (.slice oa p.remove.length cap)) 37))
 have HPB:=Lib.hid (plBlk_alloc w p (.slice ob p.man.segs.length bcap) (.slice oa p.remove.length cap))
 have hlast: ∃ (j:Nat) (g:Sg),p.man.segs.length=j+1∧p.man.segs[j]? =some g∧lastSg p.man=g:=by
  obtain⟨g,h1,_,_,_,_⟩:=chain_last _ _ _ _ (manFine hok).chain
  rcases hx:p.man.segs.length with _ | j
  ·rw [List.length_eq_zero_iff.1 hx] at h1;cases h1
  ·refine⟨j,g,rfl,?_,?_⟩
   ·rw [List.getLast?_eq_getElem?,hx] at h1;simpa using h1
   ·unfold lastSg;rw [h1];rfl
 clear h hst hok hg hn hcs hcr
 go_enter Tryz.func24,Tryz.ntmps24
 go_wp2_with fail
 go_at_call 41
 refine HV.out.mono ?_
 rintro e w1 ⟨rfl,hb1⟩
 have HBW:=Lib.hid (Below.next HB0.out hb1)
 have HP1:=Lib.hid (HPB.out.below hb1)
 have HF1:=Lib.hid (HH.out.below HBW.out)
 have HSI1:=Lib.hid (HSI.out.below HBW.out)
 have HNB1:=Lib.hid (HNB.out.below HBW.out)
 have HNF:=Lib.hid (fun k (hk:w.heap.size≤k)=>show ¬ foot f m L k from fun hf=>by have:=HFW.out k hf;omega)
 have HQ:=Lib.hid (fun(d':Disk) (W:World) (hp:FsPost w1 f m L d' W)=>show FsPost w f m L d' W from hp.then (Turned.below HBW.out) (fun _ h=> .inl h))
 have r7:=HP1.out.c7
 clear hb1 HV HB0 HPB HSI HNB
 go_wp2
 go_loopw [6,7,24] (fun _ _ iv wr=> ∃ (k:Nat) (dk:Disk),k≤p.remove.length∧iv= .int .i64 k∧Hid (FsPost w1 f m L dk wr)∧Hid (runD d (remOps p)=runD dk ((p.remove.drop k).map opRemove))∧Hid (dk.steps≤d.steps+k)) (fun _ _ iv _=>p.remove.length - (intOf iv).toNat)
 case atStart=>exact⟨0,d,Nat.zero_le _,rfl,Lib.hid (FsPost.same HF1.out),Lib.hid rfl,Lib.hid (by omega)⟩
 case round=>
  clear r7
  obtain⟨k,dk,hk,rfl,HP,HRM,HSK⟩:=hrel
  by_cases hlt:k<p.remove.length
  ·obtain⟨x,hx,_,_⟩:=nth p.remove k hlt
   have q1:(k:Int)<(p.remove.length:Int):=by omega
   obtain⟨b,off,rfl,hnb,hcx⟩:=HCR.out k x hx
   have cn:wr.cell? ⟨b,off+k,none⟩=some (.string ⟨x.toArray⟩):=HP.out.cell (cell_later HBW.out hcx) hnb
   obtain⟨Lk,hfk,htk,hsk⟩:=HP.out
   have HRV:=Lib.hid (remove_any wr f m dk Lk hfk (by have:=HSK.out;have:=HST.out;omega) x)
   have HTJ:=Lib.hid htk
   have HSJ:=Lib.hid hsk
   have HDC:=Lib.hid (drop_map_cons hx)
   clear hx hnb hcx hfk htk hsk
   go_wp2_with fail
   refine HRV.out.mono ?_
   rintro e w3 ⟨rfl,hp⟩
   have HPn:=Lib.hid (hp.then HTJ.out HSJ.out)
   clear hp HRV HTJ HSJ cn
   by_cases he:(doD dk (opRemove x)).2.2.2=0
   ·have HRM:=Lib.hid (show runD d (remOps p)=runD (doD dk (opRemove x)).1 ((p.remove.drop (k+1)).map opRemove) by rw [HRM.out,HDC.out,runD_go he])
    have HSK:=Lib.hid (show (doD dk (opRemove x)).1.steps≤d.steps+(k+1:Nat) by have:=(doD_steps dk (opRemove x)).1;have:=HSK.out;omega)
    rw [he]
    clear he
    go_wp2
    go_roundw
    case rel=>exact⟨k+1,_,by omega,by go_num,HPn,HRM,HSK⟩
    case measure=>simp [intOf];omega
   ·have tn:((doD dk (opRemove x)).2.2.2 != 0)=true:=by simpa using he
    have HE:=Lib.hid (show applyD d p=((doD dk (opRemove x)).1,(doD dk (opRemove x)).2.2.2) by
     have h1:runD d (remOps p)=((doD dk (opRemove x)).1,(doD dk (opRemove x)).2.2.2):=by rw [HRM.out,HDC.out,runD_stop he]
     rw [HAP.out,refOps_run,if_neg (by rw [h1];exact he),h1])
    have HF:=Lib.hid (HQ.out _ _ HPn.out)
    clear he
    generalize (doD dk (opRemove x)).2.2.2=ev at*
    go_wp2
    go_ret
    unfold RunPost
    rw [HE.out]
    exact⟨rfl,HF.out⟩
  ·obtain rfl:k=p.remove.length:=by omega
   have HRUN0:=Lib.hid (show applyD d p=runD dk (tailOps dk p) by
    have h1:runD d (remOps p)=(dk,0):=by rw [HRM.out,List.drop_of_length_le (Nat.le_refl _)];rfl
    rw [HAP.out,refOps_run,h1];rfl)
   have HSD:=Lib.hid (show dk.steps+16<4611686018427387904 by have:=HSK.out;have:=HST.out;omega)
   clear HRM HSK
   obtain⟨j,g,hjl,hjg,hlg⟩:=hlast
   have HLG:=Lib.hid hlg
   have HPB:=Lib.hid (HP1.out.kept (HP.out.block HP1.out.lt (HNF.out _ (Nat.le_refl _))))
   have hw1:IntKind.i64.wrap ((p.man.segs.length:Int) - 1)=(j:Int):=by rw [IntKind.wrap_i64];omega
   have q1:(j:Int)<(p.man.segs.length:Int):=by omega
   obtain⟨oa',cap',e1,_,_,hcs⟩:=HSI1.out
   simp only [Value.slice.injEq] at e1
   obtain⟨rfl,_,rfl⟩:=e1
   obtain⟨b,off,rfl,hnb,hrg⟩:=hcs j g hjg
   have HRG:=Lib.hid (show wr.rangeAt b (off+j*4) (sgCs g).toList from fun i u hi=>HP.out.cell (hrg i u hi) hnb)
   have r6:=HPB.out.c6
   clear hjg hlg hcs hnb hrg hjl
   go_wp2_with (with_reducible refine wpList_load_sg rfl (.tmp 43) rfl b (off+j*4) g rfl HRG.out ?_)
   have HB5:=Lib.hid (below_alloc wr (.cells (sgCs g) 63))
   have HS5:=Lib.hid (show SgBlk (wr.alloc (.cells (sgCs g) 63)) wr.heap.size g from heap_alloc_new wr _)
   refine(Segment_any g.num _).mono ?_
   rintro e w5 ⟨rfl,hb5⟩
   have HP5:=Lib.hid ((HP.out.after HB5.out).after hb5)
   have HPB5:=Lib.hid ((HPB.out.below HB5.out).below hb5)
   have HSB5:=Lib.hid (show SgBlk w5 wr.heap.size g by unfold SgBlk;rw [hb5.block _ (Array.getElem?_eq_some_iff.1 HS5.out).1];exact HS5.out)
   have r0:=HPB5.out.c0
   have HSN:=Lib.hid (show segN p.man=segName g.num by unfold segN;rw [HLG.out])
   obtain⟨n,hnn⟩: ∃ n,n=segName g.num:=⟨_,rfl⟩
   have HNN:=Lib.hid hnn
   rw [←hnn]
   clear hb5 r6 hw1 HB5 HS5 HP hnn
   obtain⟨L5,hf5,ht5,hs5⟩:=HP5.out
   have HF5:=Lib.hid hf5
   have HT5:=Lib.hid ht5
   have HS5:=Lib.hid hs5
   have HQ5:=Lib.hid (fun(d':Disk) (W:World) (hp:FsPost w5 f m L5 d' W)=>show FsPost w f m L d' W from HQ.out _ _ (hp.then HT5.out HS5.out))
   have HNG5:=Lib.hid (show ¬ foot f m L5 0 from fun hf=>by
    rcases HS5.out _ hf with h1 | h1
    ·exact HNG.out h1
    ·have:=HNB1.out.lt;omega)
   have HNB5:=Lib.hid (HP5.out.nib HNB1.out HNG.out)
   have HSI5:=Lib.hid (show SgIn (fun k=> ¬ foot f m L5 k) w5 (.slice (some ⟨b,off,none⟩) p.man.segs.length bcap) p.man.segs from(HSI1.out.low.turned HT5.out (fun k hk hf=>hk.1 hf)).mono (fun k hk hf=>by
    rcases HS5.out k hf with h1 | h1
    ·exact hk.1 h1
    ·have:=hk.2;omega))
   clear hf5 ht5 hs5
   rcases hfr:p.fresh with _ | _
   case true=>
    have HRUN:=Lib.hid (show applyD d p=runD dk (beginOps n g p.man) by rw [HRUN0.out];unfold tailOps;rw [hfr,HSN.out,HLG.out,HNN.out];rfl)
    rw [hfr] at r0
    have HBG:=Lib.hid (begin_any w5 f m dk L5 HF5.out (by have:=HSD.out;omega) n g p.man (.slice (some ⟨b,off,none⟩) p.man.segs.length bcap) HSI5.out HNB5.out HNG5.out HOK.out)
    have HSR:=Lib.hid HSB5.out.range
    have HMR:=Lib.hid HPB5.out.man
    clear hfr
    go_wp2_with (first | (with_reducible refine wpList_load_sg rfl (.tmp 8) rfl wr.heap.size 0 g rfl HSR.out ?_) | (with_reducible refine wpList_load_mnAt rfl (.tmp 53) rfl w.heap.size 1 p.man (.slice (some ⟨b,off,none⟩) p.man.segs.length bcap) rfl HMR.out ?_))
    refine HBG.out.mono ?_
    rintro e w6 ⟨rfl,hp⟩
    have HF:=Lib.hid (HQ5.out _ _ hp)
    clear hp
    rw [←HRUN.out]
    rw [←HRUN.out] at HF
    generalize applyD d p=rr at*
    go_wp2
    go_ret
    exact⟨rfl,HF.out⟩
   rw [hfr] at r0
   have HRUNS:=Lib.hid (show applyD d p=runD dk (opSize n::(cutOps n p.cut (atF dk.files n)++[opSync n])) by rw [HRUN0.out];unfold tailOps;rw [hfr,HSN.out,HNN.out];rfl)
   have HSZ:=Lib.hid (size_any w5 f m dk L5 HF5.out n)
   have r8:=HPB5.out.c8
   clear hfr
   by_cases hop:openE dk n=0
   case neg=>
    have hE1:doD dk (opSize n)=(dk,[],0,openE dk n):=by rw [doD_size,if_pos hop]
    have HE:=Lib.hid (show applyD d p=(dk,openE dk n) by rw [HRUNS.out,runD_stop (by rw [hE1];exact hop),hE1])
    rw [hE1] at HSZ
    have tn:(openE dk n != 0)=true:=by simpa using hop
    have HF:=Lib.hid (HQ5.out _ _ (FsPost.same HF5.out))
    clear hop hE1
    generalize openE dk n=ev at*
    go_wp2_with fail
    refine HSZ.out.mono ?_
    rintro e w6 ⟨rfl,rfl⟩
    go_wp2
    go_ret
    unfold RunPost
    rw [HE.out]
    exact⟨rfl,HF.out⟩
   obtain⟨_,_,x,hax⟩:=openE_zero hop
   have hE1:doD dk (opSize n)=(dk,[],(x.data.length:Int),0):=by rw [doD_size,if_neg (by simpa using hop),hax]
   have HRUNT:=Lib.hid (show applyD d p=runD dk (cutOps n p.cut (some x)++[opSync n]) by rw [HRUNS.out,runD_go (by rw [hE1]),hE1,hax])
   rw [hE1] at HSZ
   clear hop hE1 hax
   go_wp2_with fail
   refine HSZ.out.mono ?_
   rintro e w6 ⟨rfl,rfl⟩
   have HP0:=Lib.hid (FsPost.same HF5.out)
   have HQ:=HQ5
   have HS:=Lib.hid (show dk.steps<4611686018427387904 by have:=HSD.out;omega)
   have HSB:=Lib.hid (show dk.steps≤4611686018427387887 by have:=HSD.out;omega)
   obtain⟨d0,hd0⟩: ∃ y,y=dk:=⟨_,rfl⟩
   rw [←hd0] at HP0 HS HSB HRUNT
   clear hd0 HSZ HQ5 HRUNS HRUN0
   rcases hcut:decide (p.cut<(x.data.length:Int)) with _ | _
   case true=>
    have HRUN:=Lib.hid (show applyD d p=runD d0 (opCut n p.cut::[opSync n]) by rw [HRUNT.out];show runD d0 ((if p.cut<(x.data.length:Int) then [opCut n p.cut] else [])++[opSync n])=_;rw [if_pos (by simpa using hcut)];rfl)
    obtain⟨L0,hfs0,ht0,hsub0⟩:=HP0.out
    have HCJ:=Lib.hid (cut_any _ f m _ L0 hfs0 HS.out n p.cut)
    have HTJ:=Lib.hid ht0
    have HSJ:=Lib.hid hsub0
    clear hfs0 ht0 hsub0
    go_wp2_with fail
    refine HCJ.out.mono ?_
    rintro e W5 ⟨rfl,hp⟩
    have HPn:=Lib.hid (hp.then HTJ.out HSJ.out)
    clear hp HCJ
    by_cases he0:(doD d0 (opCut n p.cut)).2.2.2=0
    case neg=>
     have tn:((doD d0 (opCut n p.cut)).2.2.2 != 0)=true:=by simpa using he0
     have HE:=Lib.hid (show applyD d p=((doD d0 (opCut n p.cut)).1,(doD d0 (opCut n p.cut)).2.2.2) by rw [HRUN.out,runD_stop he0])
     have HF:=Lib.hid (HQ.out _ _ HPn.out)
     clear he0
     generalize (doD d0 (opCut n p.cut)).2.2.2=ev at*
     go_wp2
     go_ret
     unfold RunPost
     rw [HE.out]
     exact⟨rfl,HF.out⟩
    have HRUN:=Lib.hid (show applyD d p=runD (doD d0 (opCut n p.cut)).1 ([opSync n]) by rw [HRUN.out,runD_go he0])
    have HS:=Lib.hid (show (doD d0 (opCut n p.cut)).1.steps<4611686018427387904 by have h1:=(doD_steps d0 (opCut n p.cut)).1;have:=HSB.out;omega)
    have HSB:=Lib.hid (show (doD d0 (opCut n p.cut)).1.steps≤4611686018427387887+1 by have h1:=(doD_steps d0 (opCut n p.cut)).1;have:=HSB.out;omega)
    rw [he0]
    clear he0
    obtain⟨d1,hdn⟩: ∃ x,x=(doD d0 (opCut n p.cut)).1:=⟨_,rfl⟩
    rw [←hdn] at HPn HRUN HS HSB
    clear hdn HTJ HSJ
    have HP1:=HPn
    clear HPn
    obtain⟨L8,hfs,ht,hsub⟩:=HP1.out
    have HCJ:=Lib.hid (sync_any _ f m _ L8 hfs HS.out n)
    have HTJ:=Lib.hid ht
    have HSJ:=Lib.hid hsub
    clear hfs ht hsub
    go_wp2_with fail
    refine HCJ.out.mono ?_
    rintro e W9 ⟨rfl,hp⟩
    have HF:=Lib.hid (HQ.out _ _ (hp.then HTJ.out HSJ.out))
    have HE:=Lib.hid (show applyD d p=((doD d1 (opSync n)).1,(doD d1 (opSync n)).2.2.2) by rw [HRUN.out,runD_one])
    clear hp HCJ
    generalize (doD d1 (opSync n)).2.2.2=ev at*
    go_wp2
    go_ret
    unfold RunPost
    rw [HE.out]
    exact⟨rfl,HF.out⟩
   have HRUN:=Lib.hid (show applyD d p=runD d0 [opSync n] by rw [HRUNT.out];show runD d0 ((if p.cut<(x.data.length:Int) then [opCut n p.cut] else [])++[opSync n])=_;rw [if_neg (by simpa using hcut)];rfl)
   obtain⟨L8,hfs,ht,hsub⟩:=HP0.out
   have HCJ:=Lib.hid (sync_any _ f m _ L8 hfs HS.out n)
   have HTJ:=Lib.hid ht
   have HSJ:=Lib.hid hsub
   clear hfs ht hsub
   go_wp2_with fail
   refine HCJ.out.mono ?_
   rintro e W9 ⟨rfl,hp⟩
   have HF:=Lib.hid (HQ.out _ _ (hp.then HTJ.out HSJ.out))
   have HE:=Lib.hid (show applyD d p=((doD d0 (opSync n)).1,(doD d0 (opSync n)).2.2.2) by rw [HRUN.out,runD_one])
   clear hp HCJ
   generalize (doD d0 (opSync n)).2.2.2=ev at*
   go_wp2
   go_ret
   unfold RunPost
   rw [HE.out]
   exact⟨rfl,HF.out⟩
end Go.Proofs.YtcglcphhfmkccaaGreatDoor

namespace Go.Proofs.YtcglcphhfmkccaaGreatDoor
open Go.RowKit
theorem SgBlk.c1 {w:World} {b:Nat} {g:Sg} (h:SgBlk w b g):w.cell? ⟨b,1,none⟩=some (.int .i64 g.first):=h.range 1 _ rfl
end Go.Proofs.YtcglcphhfmkccaaGreatDoor
namespace Go.Proofs.YtcglcphhfmkccaaGreatDoor
open Go.RowKit
section
variable {w W W' : World} {p : Pl} {sv rv : Value} {dk d' : Disk} {vk fv' : Value}
end
theorem plInfo:(Tryz.prog.info? 37).map (·.size)=some 10:=by kernel_rfl
theorem wpList_load_pl {ops:Array Oper} {rest:List Oper} {o:Oper} {a:Act} {w:World} {Q:Exit→Act→World→Prop} (hgd:o.guard=none) (x:Operand) (ho:o.op= .load 37 x)
  (g:Nat) (p:Pl) (sv rv:Value) (hx:a.eval x= .pointer (some ⟨g,0,none⟩)) (hE:PlBlk w g p sv rv)
  (h:wpList Tryz.prog ops Q rest (a.put o.dst (plV p sv rv)) w):wpList Tryz.prog ops Q (o::rest) a w:=
 wpList_load_row hgd 37 x ho g hx 37 (plCs p sv rv) (0,0) _ hE Tryz.underlying37 rfl plInfo h
end Go.Proofs.YtcglcphhfmkccaaGreatDoor

namespace Go.Proofs.YtcglcphhfmkccaaGreatDoor
open Go.RowKit
theorem take_succ_of {α:Type} {l:List α} {k:Nat} {x:α} (h:l[k]? =some x):l.take (k+1)=l.take k++[x]:=by
 obtain⟨h1,h2⟩:=List.getElem?_eq_some_iff.1 h
 rw [List.take_succ_eq_append_getElem h1,h2]
set_option maxRecDepth 100000 in
set_option maxHeartbeats 2000000 in
theorem refCopyF_any {A:Nat→Prop} (fs:List Fil) (fv:Value) (w:World) (hf:FilesIn A w fv fs) (hn:fs.length≤2932031007401) (hl: ∀ f∈fs,f.data.length≤140737488355328):
  Calls Tryz.prog 6 #[fv] w fun e w'=> ∃ v,e= .returned v∧FilesIn (fun k=>w.heap.size≤k) w' v fs∧Below w.heap.size w w':=by
 obtain⟨oa,cap,rfl,hl1,hl2,hcc⟩:=hf.shape
 have HCC:=Lib.hid hcc
 have HL:=Lib.hid hl
 have HO0:=Lib.hid (show OwnG (w.alloc (.cells #[] 47)) w.heap.size (.slice (some ⟨w.heap.size,0,none⟩) 0 0) [] from ownD_fresh w w.heap.size (Nat.le_refl _))
 have HB0:=Lib.hid (below_alloc w (.cells #[] 47))
 clear hcc hf hl
 go_enter Tryz.func6,Tryz.ntmps6
 go_wp2
 go_loopw [3,4,8] (fun v _ iv wr=> ∃ (k:Nat) (ps:List (Fil×Value)),k≤fs.length∧iv= .int .i64 k∧ps.length=k∧OwnG wr w.heap.size v ps∧Hid (ps.map (·.1)=fs.take k)∧Below w.heap.size w wr) (fun _ _ iv _=>fs.length - (intOf iv).toNat)
 case atStart=>exact⟨0,[],Nat.zero_le _,rfl,rfl,HO0.out,Lib.hid rfl,HB0.out⟩
 case round=>
  clear HO0 HB0
  obtain⟨k,ps,hk,rfl,hpl,hown,HP,hb⟩:=hrel
  have HO:=Lib.hid hown
  have HB:=Lib.hid hb
  clear hown hb
  by_cases hlt:k<fs.length
  ·obtain⟨f,hf,_,hfm⟩:=nth fs k hlt
   have q1:(k:Int)<(fs.length:Int):=by omega
   obtain⟨b,off,rfl,_,dv,hr,hdv⟩:=HCC.out k f hf
   have HSL:=Lib.hid (fun W (hW:Below w.heap.size w W)=>show W.rangeAt b (off+k*3) (flCs f dv).toList∧BRow W dv f.data from⟨range_later hr hW,(hdv.below hW).brow⟩)
   have HLEN:=Lib.hid (HL.out f hfm)
   have HTK:=Lib.hid (take_succ_of hf)
   clear hf hfm hr hdv
   go_wp2_with fail
   refine wp_region_held_drew (S:=fun w'=>Below w.heap.size w w') (by kernel_rfl) (Below.next HB.out (show Below wr.heap.size wr wr.drew from below_drewN' wr 1)) (fun hHeld=> ?_)
   have FX1:=Lib.hid (fun(wF:World) (hSw:(fun w'=>Below w.heap.size w w') wF)=>And.intro ((show wF.cell? ⟨b,off+k*3,none⟩=some (.string ⟨f.name.toArray⟩) from(HSL.out _ hSw).1 0 _ rfl)) (And.intro (((HSL.out _ hSw).1 1 _ rfl)) (((HSL.out _ hSw).1 2 _ rfl))))
   refine tf FX1 0 rfl ?_
   refine tf FX1 1 rfl ?_
   refine tf FX1 2 rfl ?_
   refine tf FX1 3 rfl ?_
   refine tf FX1 4 rfl ?_
   refine tf FX1 5 rfl ?_
   refine tf FX1 6 rfl ?_
   refine tf FX1 7 rfl ?_
   refine tf FX1 8 rfl ?_
   refine tf FX1 9 rfl ?_
   refine tf FX1 10 rfl ?_
   refine tf FX1 12 rfl ?_
   refine tf FX1 13 rfl ?_
   refine tf FX1 14 rfl ?_
   refine tf FX1 15 rfl ?_
   refine tf FX1 16 rfl ?_
   clear FX1
   have HOd:=Lib.hid (HO.out.later (show Below wr.heap.size wr wr.drew from below_drewN' wr 1))
   have HBd:=Lib.hid (Below.next HB.out (show Below wr.heap.size wr wr.drew from below_drewN' wr 1))
   clear HO HB
   generalize World.drew _=Wd at*
   refine wpAnyH_ready (rs:=[11]) (by kernel_rfl) (by simp) ?_
   refine AllReadyH.cons rfl (fun K hK=> ?_) AllReadyH.nil
   go_simp
   go_at_call 16
   refine(copyBytes_any f.data dv _ (HSL.out _ hHeld).2 HLEN.out).mono ?_
   rintro e w2 ⟨v2,rfl,ho2,hb2⟩
   have HD2:=Lib.hid (datAt_own ho2)
   obtain⟨o2,cap2,rfl,_,_⟩:=own_shape ho2
   have HO2:=Lib.hid (HOd.out.later hb2)
   have HB2:=Lib.hid (Below.next HBd.out hb2)
   have HGE:=Lib.hid HBd.out.size
   clear ho2 hb2 hHeld HOd HBd
   go_wp2_with fail
   refine hK.out _ _ HB2.out (fun hHeld=> ?_)
   clear hK K
   refine tq 17 rfl ?_
   refine wpAnyH_ready (rs:=[18]) (by kernel_rfl) (by simp) ?_
   refine AllReadyH.cons rfl (fun K hK=> ?_) AllReadyH.nil
   go_simp
   refine hK.out _ _ (Below.next HB2.out (below_alloc w2 _)) (fun hHeld=> ?_)
   clear hK K
   have hB2:w.heap.size≤w2.heap.size:=HB2.out.size
   refine wpAnyH_ready (rs:=[19]) (by kernel_rfl) (by simp) ?_
   refine AllReadyH.cons rfl (fun K hK=> ?_) AllReadyH.nil
   rw [if_pos (by kernel_rfl)]
   refine wp_appG (f:=f) (dv:= .slice o2 f.data.length cap2) (.tmp 11) (.tmp 29) rfl rfl rfl HO2.out hB2 HD2.out.1 (fun g' hg'=>Nat.le_trans HGE.out (HD2.out.2 g' hg')) (by omega) ?_
   intro v3 w3 h3 h4 h5
   have HO3:=Lib.hid h3
   have HB3:=Lib.hid (HB2.out.trans h4)
   clear h3 h4 h5 hB2
   refine hK.out _ _ HB3.out (fun hHeld=> ?_)
   clear hK K
   refine tk 20 rfl ?v_2 ?hy_2 ?r_2
   case hy_2=>intro w hSw;go_simp;try with_reducible rfl
   simp only [pA]
   refine wpAnyH_done (by kernel_rfl) ?_ _
   go_wp2
   go_roundw
   case rel=>exact⟨k+1,ps++[(f,.slice o2 f.data.length cap2)],by omega,by go_num,by simp;omega,HO3.out,Lib.hid (by rw [List.map_append,HP.out,HTK.out];rfl),HB3.out⟩
   case measure=>simp [intOf];omega
  ·obtain rfl:k=fs.length:=by omega
   have HE:=Lib.hid (show ps.map (·.1)=fs by rw [HP.out,List.take_length])
   have HF:=Lib.hid (HO.out.files (A:=fun k=>w.heap.size≤k) (fun k hk=>hk))
   go_wp2
   go_ret
   exact⟨_,rfl,by rw [←HE.out];exact HF.out,HB.out⟩
end Go.Proofs.YtcglcphhfmkccaaGreatDoor
namespace Go.Proofs.YtcglcphhfmkccaaGreatDoor
open Go.RowKit
theorem wpList_store_fl {ops:Array Oper} {rest:List Oper} {o:Oper} {a:Act} {w:World} {Q:Exit→Act→World→Prop} (hgd:o.guard=none) (x y:Operand) (ho:o.op= .store 47 x y)
  (g:Nat) (f f':Fil) (dv dv':Value) (hx:a.eval x= .pointer (some ⟨g,0,none⟩)) (hy:a.eval y=flV f' dv') (hE:FlBlk w g f dv) (h1:dv'.oneCell'=true)
  (h: ∀ W,Hid (W=w.setRow g (flCs f' dv'))→wpList Tryz.prog ops Q rest (a.put o.dst undef) W):wpList Tryz.prog ops Q (o::rest) a w:=
 wpList_store_row hgd 47 x y ho g (flCs f' dv') hx hy 47 (flCs f dv) hE flInfo rfl (flCs_all f' dv' h1) (h _ (Lib.hid rfl))
theorem FlBlk.row {w:World} {g:Nat} {f f':Fil} {dv dv':Value} (h:FlBlk w g f dv):FlBlk (w.setRow g (flCs f' dv')) g f' dv':=setRow_heap w g _ _ _ _ h
section
variable {w : World} {room : Int} {fs : List Fil} {gd k : Nat} {dc : Disk} {vc : Value} {wr W : World}
end
end Go.Proofs.YtcglcphhfmkccaaGreatDoor
