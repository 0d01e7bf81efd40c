import Derived.Deep.RegionHeld3
import Derived.Laws.StructEq
import Derived.Deep.MidRow
import Derived.Test.YtcglcphhfmkccaaGreatDoorPb4
namespace Go.Proofs.YtcglcphhfmkccaaGreatDoor
open Go.RowKit
@[reducible] def evV (e : Ev) : Value := .agg #[.int .i64 e.kind, .int .i64 e.order, .int .i64 e.item, .int .i64 e.qty, .int .i64 e.price, .int .i64 e.cur, .int .i64 e.tax, .string ⟨e.who.toArray⟩, .int .i64 e.stamp, .string ⟨e.note.toArray⟩]
structure EvOk (n:Nat) (e:Ev):Prop where
 kind:I64 e.kind
 order:I64 e.order
 item:I64 e.item
 qty:I64 e.qty
 price:I64 e.price
 cur:I64 e.cur
 tax:I64 e.tax
 stamp:I64 e.stamp
 who:e.who.length≤n
 note:e.note.length≤n
structure EvAt (w:World) (b:Nat) (e:Ev):Prop where
 c0:w.cell? ⟨b,0,none⟩=some (.int .i64 e.kind)
 c1:w.cell? ⟨b,1,none⟩=some (.int .i64 e.order)
 c2:w.cell? ⟨b,2,none⟩=some (.int .i64 e.item)
 c3:w.cell? ⟨b,3,none⟩=some (.int .i64 e.qty)
 c4:w.cell? ⟨b,4,none⟩=some (.int .i64 e.price)
 c5:w.cell? ⟨b,5,none⟩=some (.int .i64 e.cur)
 c6:w.cell? ⟨b,6,none⟩=some (.int .i64 e.tax)
 c7:w.cell? ⟨b,7,none⟩=some (.string ⟨e.who.toArray⟩)
 c8:w.cell? ⟨b,8,none⟩=some (.int .i64 e.stamp)
 c9:w.cell? ⟨b,9,none⟩=some (.string ⟨e.note.toArray⟩)
theorem EvAt.below {w w':World} {b:Nat} {e:Ev} (h:EvAt w b e) (hb:Below w.heap.size w w'):EvAt w' b e:=
 ⟨cell_later hb h.c0,cell_later hb h.c1,cell_later hb h.c2,cell_later hb h.c3,cell_later hb h.c4,cell_later hb h.c5,cell_later hb h.c6,cell_later hb h.c7,cell_later hb h.c8,cell_later hb h.c9⟩
theorem evAt_alloc (w:World) (e:Ev) (t:TypeId):
  EvAt (w.alloc (.cells #[.int .i64 e.kind,.int .i64 e.order,.int .i64 e.item,.int .i64 e.qty,.int .i64 e.price,.int .i64 e.cur,.int .i64 e.tax,.string ⟨e.who.toArray⟩,.int .i64 e.stamp,.string ⟨e.note.toArray⟩] t)) w.heap.size e:=by
 constructor<;>(rw [World.cell?_alloc_new];rfl)
end Go.Proofs.YtcglcphhfmkccaaGreatDoor
namespace Go.Proofs.YtcglcphhfmkccaaGreatDoor
open Go.RowKit
def evSame (a b:Ev):Bool:=a.kind==b.kind&&(a.order==b.order&&(a.item==b.item&&(a.qty==b.qty&&(a.price==b.price&&(a.cur==b.cur&&(a.tax==b.tax&&(a.who==b.who&&(a.stamp==b.stamp&&a.note==b.note))))))))
theorem evSame_iff (a b:Ev):evSame a b=true↔a=b:=by
 unfold evSame
 simp only [Bool.and_eq_true,beq_iff_eq]
 constructor
 ·rintro⟨h0,h1,h2,h3,h4,h5,h6,h7,h8,h9⟩
  exact Ev.ext' h0 h1 h2 h3 h4 h5 h6 h7 h8 h9
 ·rintro rfl;simp
set_option maxHeartbeats 1000000 in
theorem run_evEqual (a b:Ev) (w:World):(Op.equalIn 10000 229 (evV a) (evV b)).run Tryz.prog w= .ok (evSame a b) w:=by
 have hS:Tryz.prog.underlying 229=some (.struct (Tryz.prog.fieldsOf 229)):=by kernel_rfl
 have hp:Tryz.prog.stoodInHeld 229=false:=by kernel_rfl
 unfold evV
 rw [show (10000:Nat)=9999+1 from rfl,run_equalIn_agg w 9999 229 _ _ hS hp]
 simp only [Program.fieldsOf,Tryz.underlying229]
 go_simp
 unfold evSame
 by_cases h0:a.kind=b.kind
 case neg=>simp [h0]
 rw [if_pos h0]
 by_cases h1:a.order=b.order
 case neg=>simp [h1]
 rw [if_pos h1]
 by_cases h2:a.item=b.item
 case neg=>simp [h2]
 rw [if_pos h2]
 by_cases h3:a.qty=b.qty
 case neg=>simp [h3]
 rw [if_pos h3]
 by_cases h4:a.price=b.price
 case neg=>simp [h4]
 rw [if_pos h4]
 by_cases h5:a.cur=b.cur
 case neg=>simp [h5]
 rw [if_pos h5]
 by_cases h6:a.tax=b.tax
 case neg=>simp [h6]
 rw [if_pos h6]
 by_cases h7:a.who=b.who
 case neg=>simp [h7]
 rw [if_pos h7]
 by_cases h8:a.stamp=b.stamp
 case neg=>simp [h8]
 rw [if_pos h8]
 by_cases h9:a.note=b.note
 case neg=>simp [h9]
 rw [if_pos h9]
 simp [h0,h1,h2,h3,h4,h5,h6,h7,h8,h9]
theorem run_evNeq (a b:Ev) (w:World):(binOp .neq 229 (evV a) (evV b)).run Tryz.prog w= .ok (.bool (!evSame a b)) w:=by
 unfold evV;rw [run_neq_struct];have:=run_evEqual a b w;unfold evV at this;rw [this];rfl
end Go.Proofs.YtcglcphhfmkccaaGreatDoor
namespace Go.Proofs.YtcglcphhfmkccaaGreatDoor
open Go.RowKit
def ChkPost (n:Int) (w:World) (x:Ending) (w':World):Prop:=x= .returned (.int .i64 n)∧Below w.heap.size w w'
theorem chk31 {v:Int} {e:Ev} (h0: ¬ (v<1∨5<v)) (h:e.kind<1∨lastKind v<e.kind):evCheck v e=31:=by unfold evCheck;rw [if_neg h0,if_pos h]
theorem chk24 {v:Int} {e:Ev} (h0: ¬ (v<1∨5<v)) (h1: ¬ (e.kind<1∨lastKind v<e.kind)) (h:16<e.who.length∨120<e.note.length):evCheck v e=24:=by
 unfold evCheck;rw [if_neg h0,if_neg h1,if_pos h]
theorem chkRest {v:Int} {e:Ev} (h0: ¬ (v<1∨5<v)) (h1: ¬ (e.kind<1∨lastKind v<e.kind)) (h2: ¬ (16<e.who.length∨120<e.note.length)):evCheck v e=if evFits v e=true then 0 else 32:=by
 unfold evCheck;rw [if_neg h0,if_neg h1,if_neg h2]
end Go.Proofs.YtcglcphhfmkccaaGreatDoor

namespace Go.Proofs.YtcglcphhfmkccaaGreatDoor
open Go.RowKit
def lnCs (l:Ln):Array Value:= #[.int .i64 l.item,.int .i64 l.price,.int .i64 l.qty,.int .i64 l.shipped]
@[reducible] def lnV (l : Ln) : Value := .agg #[.int .i64 l.item, .int .i64 l.price, .int .i64 l.qty, .int .i64 l.shipped]
def LnRow (w:World) (v:Value) (ls:List Ln):Prop:=
 ∃ oa cap,v= .slice oa ls.length cap∧ls.length≤cap∧cap≤9223372036854775807∧
  (ls≠ []→ ∃ b off,oa=some ⟨b,off,none⟩∧ ∀ (i:Nat) l,ls[i]? =some l→ ∀ (j:Nat) u,(lnCs l)[j]? =some u→w.cell? ⟨b,off+i*4+j,none⟩=some u)
theorem LnRow.below {w w':World} {v:Value} {ls:List Ln} (h:LnRow w v ls) (hb:Below w.heap.size w w'):LnRow w' v ls:=by
 obtain⟨oa,cap,h1,h2,h3,h4⟩:=h
 refine⟨oa,cap,h1,h2,h3,fun hn=> ?_⟩
 obtain⟨b,off,h5,h6⟩:=h4 hn
 exact⟨b,off,h5,fun i r hi j u hj=>cell_later hb (h6 i r hi j u hj)⟩
theorem LnRow.shape {w:World} {v:Value} {ls:List Ln} (h:LnRow w v ls): ∃ oa cap,v= .slice oa ls.length cap∧ls.length≤cap∧cap≤9223372036854775807∧
  ∀ (i:Nat) l,ls[i]? =some l→ ∃ b off,oa=some ⟨b,off,none⟩∧w.rangeAt b (off+i*4) (lnCs l).toList:=by
 obtain⟨oa,cap,rfl,h2,h3,h4⟩:=h
 refine⟨oa,cap,rfl,h2,h3,fun i l hl=> ?_⟩
 obtain⟨b,off,rfl,h6⟩:=h4 (by rintro rfl;simp at hl)
 exact⟨b,off,rfl,fun j u hj=>h6 i l hl j u (by simpa using hj)⟩
def stCs (s:St) (lv:Value):Array Value:= #[.int .i64 s.order,.int .i64 s.status,.int .i64 s.prior,.int .i64 s.cur,.int .i64 s.tax,lv,.int .i64 s.paid,.int .i64 s.refunded,.int .i64 s.events,.int .i64 s.refused,.int .i64 s.stamp,.string ⟨s.who.toArray⟩]
@[reducible] def stV (s : St) (lv : Value) : Value := .agg #[.int .i64 s.order, .int .i64 s.status, .int .i64 s.prior, .int .i64 s.cur, .int .i64 s.tax, lv, .int .i64 s.paid, .int .i64 s.refunded, .int .i64 s.events, .int .i64 s.refused, .int .i64 s.stamp, .string ⟨s.who.toArray⟩]
def StBlk (w:World) (g:Nat) (s:St) (lv:Value):Prop:=w.heap[g]? =some (.cells (stCs s lv) 130 (0,0))
theorem StBlk.lt {w:World} {g:Nat} {s:St} {lv:Value} (h:StBlk w g s lv):g<w.heap.size:=(Array.getElem?_eq_some_iff.1 h).1
theorem StBlk.below {w w':World} {g:Nat} {s:St} {lv:Value} (h:StBlk w g s lv) (hb:Below w.heap.size w w'):StBlk w' g s lv:=by unfold StBlk;rw [hb.block g h.lt];exact h
theorem StBlk.cell {w:World} {g:Nat} {s:St} {lv:Value} (h:StBlk w g s lv) (j:Nat):w.cell? ⟨g,j,none⟩=(stCs s lv)[j]? :=by
 unfold StBlk at h;simp [World.cell?,h]
theorem stBlk_alloc (w:World) (s:St) (lv:Value):StBlk (w.alloc (.cells (stCs s lv) 130)) w.heap.size s lv:=heap_alloc_new w _
theorem StBlk.c0 {w:World} {g:Nat} {s:St} {lv:Value} (h:StBlk w g s lv):w.cell? ⟨g,0,none⟩=some (.int .i64 s.order):=h.cell 0
theorem StBlk.c1 {w:World} {g:Nat} {s:St} {lv:Value} (h:StBlk w g s lv):w.cell? ⟨g,1,none⟩=some (.int .i64 s.status):=h.cell 1
theorem StBlk.c2 {w:World} {g:Nat} {s:St} {lv:Value} (h:StBlk w g s lv):w.cell? ⟨g,2,none⟩=some (.int .i64 s.prior):=h.cell 2
theorem StBlk.c3 {w:World} {g:Nat} {s:St} {lv:Value} (h:StBlk w g s lv):w.cell? ⟨g,3,none⟩=some (.int .i64 s.cur):=h.cell 3
theorem StBlk.c4 {w:World} {g:Nat} {s:St} {lv:Value} (h:StBlk w g s lv):w.cell? ⟨g,4,none⟩=some (.int .i64 s.tax):=h.cell 4
theorem StBlk.c5 {w:World} {g:Nat} {s:St} {lv:Value} (h:StBlk w g s lv):w.cell? ⟨g,5,none⟩=some lv:=h.cell 5
theorem StBlk.c6 {w:World} {g:Nat} {s:St} {lv:Value} (h:StBlk w g s lv):w.cell? ⟨g,6,none⟩=some (.int .i64 s.paid):=h.cell 6
theorem StBlk.c7 {w:World} {g:Nat} {s:St} {lv:Value} (h:StBlk w g s lv):w.cell? ⟨g,7,none⟩=some (.int .i64 s.refunded):=h.cell 7
theorem StBlk.c8 {w:World} {g:Nat} {s:St} {lv:Value} (h:StBlk w g s lv):w.cell? ⟨g,8,none⟩=some (.int .i64 s.events):=h.cell 8
theorem StBlk.c9 {w:World} {g:Nat} {s:St} {lv:Value} (h:StBlk w g s lv):w.cell? ⟨g,9,none⟩=some (.int .i64 s.refused):=h.cell 9
theorem StBlk.c10 {w:World} {g:Nat} {s:St} {lv:Value} (h:StBlk w g s lv):w.cell? ⟨g,10,none⟩=some (.int .i64 s.stamp):=h.cell 10
theorem StBlk.c11 {w:World} {g:Nat} {s:St} {lv:Value} (h:StBlk w g s lv):w.cell? ⟨g,11,none⟩=some (.string ⟨s.who.toArray⟩):=h.cell 11
theorem stInfo:(Tryz.prog.info? 130).map (·.size)=some 12:=by kernel_rfl
theorem lnInfo:(Tryz.prog.info? 177).map (·.size)=some 4:=by kernel_rfl
theorem wpList_load_st {ops:Array Oper} {rest:List Oper} {o:Oper} {a:Act} {w:World} {Q:Exit→Act→World→Prop} (hgd:o.guard=none) (x:Operand) (ho:o.op= .load 130 x)
  (g:Nat) (s:St) (lv:Value) (hx:a.eval x= .pointer (some ⟨g,0,none⟩)) (hE:StBlk w g s lv)
  (h:wpList Tryz.prog ops Q rest (a.put o.dst (stV s lv)) w):wpList Tryz.prog ops Q (o::rest) a w:=
 wpList_load_row hgd 130 x ho g hx 130 (stCs s lv) (0,0) _ hE Tryz.underlying130 rfl stInfo h
theorem wpList_load_ln {ops:Array Oper} {rest:List Oper} {o:Oper} {a:Act} {w:World} {Q:Exit→Act→World→Prop} (hgd:o.guard=none) (x:Operand) (ho:o.op= .load 177 x)
  (b off:Nat) (l:Ln) (hx:a.eval x= .pointer (some ⟨b,off,none⟩)) (hE:w.rangeAt b off (lnCs l).toList)
  (h:wpList Tryz.prog ops Q rest (a.put o.dst (lnV l)) w):wpList Tryz.prog ops Q (o::rest) a w:=
 wpList_load_mid hgd 177 x ho b off hx (lnCs l).toList _ hE Tryz.underlying177 rfl lnInfo h
theorem net_bound (ls:List Ln) (h: ∀ l∈ls,lnFine l=true):0≤netOf ls∧netOf ls≤10000000000000*(ls.length:Int):=by
 induction ls using snoc_ind with
 | h0=>simp [netOf]
 | h1 ls l ih=>
  have h1:=ih fun x hx=>h x (by simp [hx])
  have h2:=h l (by simp)
  simp only [lnFine,btw,Bool.and_eq_true,decide_eq_true_eq] at h2
  rw [net_snoc]
  have h3:0≤l.qty*l.price:=Int.mul_nonneg (by omega) (by omega)
  have h4:l.qty*l.price≤100000*100000000:=Int.mul_le_mul (by omega) (by omega) (by omega) (by omega)
  rw [List.length_append,List.length_singleton]
  omega
theorem net_take (ls:List Ln) (k:Nat) (l:Ln) (h:ls[k]? =some l):netOf (ls.take (k+1))=netOf (ls.take k)+l.qty*l.price:=by
 have h1:=List.getElem?_eq_some_iff.1 h
 rw [List.take_succ_eq_append_getElem h1.1,h1.2,net_snoc]
def lnCells (ls:List Ln):List Value:=ls.flatMap fun l=>(lnCs l).toList
theorem lnCells_at: ∀ (rs:List Ln) (i:Nat) (r:Ln),rs[i]? =some r→ ∀ (j:Nat) u,(lnCs r)[j]? =some u→(lnCells rs)[i*4+j]? =some u
 | [],i,r,h,_,_,_=>by simp at h
 | x::rs,0,r,h,j,u,hj=>by
  simp at h;subst h
  have hl:j<4:=by have:=(Array.getElem?_eq_some_iff.1 hj).1;simpa [lnCs] using this
  unfold lnCells
  rw [List.flatMap_cons,Nat.zero_mul,Nat.zero_add,List.getElem?_append_left (by simpa [lnCs] using hl)]
  simpa using hj
 | x::rs,i+1,r,h,j,u,hj=>by
  have:=lnCells_at rs i r (by simpa using h) j u hj
  unfold lnCells at this ⊢
  rw [List.flatMap_cons,List.getElem?_append_right (by simp [lnCs];omega)]
  rw [←this]
  congr 1
  simp [lnCs];omega
theorem lnCells_snoc (a:List Ln) (l:Ln):lnCells (a++[l])=lnCells a++(lnCs l).toList:=by simp [lnCells]
theorem lnRow_own {w:World} {B:Nat} {v:Value} {rs:List Ln} (h:w.ownsRow B 177 4 v rs.length (lnCells rs)):LnRow w v rs:=by
 by_cases hn:rs=[]
 ·subst hn
  rcases h.2 with⟨rfl,_⟩ | ⟨g,cap,cur,rfl,_,_,h1,h2,_⟩
  ·exact⟨none,0,rfl,Nat.le_refl _,by decide,fun h=>absurd rfl h⟩
  ·exact⟨_,cap,rfl,h1,by unfold maxLen at h2;omega,fun h=>absurd rfl h⟩
 ·obtain⟨g,cap,rfl,_,_,h1,h2,h3⟩:=own_get h (List.length_pos_iff.2 hn)
  exact⟨_,cap,rfl,h1,by unfold maxLen at h2;omega,fun _=>⟨g,0,rfl,fun i r hi j u hj=>by rw [Nat.zero_add];exact h3 _ _ (lnCells_at rs i r hi j u hj)⟩⟩
def zeroLn:Value:= .agg #[.int .i64 0,.int .i64 0,.int .i64 0,.int .i64 0]
theorem infoLn:(Tryz.prog.info? 177).map (fun i=>(i.zero,i.size,i.bytes))=some (some zeroLn,4,32):=by kernel_rfl
theorem StBlk.free {w:World} {g:Nat} {s:St} {lv:Value} (h:StBlk w g s lv) (j:Nat):w.frozen? ⟨g,j,none⟩=false:=by unfold StBlk at h;simp [World.frozen?,h]
theorem StBlk.putLines {w:World} {g:Nat} {s:St} {lv:Value} (h:StBlk w g s lv) (lv':Value):StBlk (w.setCell ⟨g,5,none⟩ lv') g s lv':=by
 unfold StBlk at h ⊢
 have e:(stCs s lv).setIfInBounds 5 lv'=stCs s lv':=rfl
 rw [←e]
 simp only [World.setCell]
 rw [Array.getElem?_modify]
 simp [h]
theorem StBlk.row {w:World} {g:Nat} {s s0:St} {lv lv0:Value} (h:StBlk w g s0 lv0):StBlk (w.setRow g (stCs s lv)) g s lv:=setRow_heap w g _ _ _ _ h
theorem stCs_one (s:St) (lv:Value) (h:lv.oneCell'=true):(stCs s lv).all (·.oneCell')=true:=
 Array.all_eq_true_iff_forall_mem.2 (by
  intro v hv
  simp only [stCs,List.mem_toArray,List.mem_cons,List.not_mem_nil,or_false] at hv
  rcases hv with rfl | rfl | rfl | rfl | rfl | rfl | rfl | rfl | rfl | rfl | rfl | rfl<;>first | rfl | assumption)
theorem wpList_store_st {ops:Array Oper} {rest:List Oper} {o:Oper} {a:Act} {w:World} {Q:Exit→Act→World→Prop} (hgd:o.guard=none) (x y:Operand) (ho:o.op= .store 130 x y)
  (g:Nat) (s s':St) (lv lv':Value) (hx:a.eval x= .pointer (some ⟨g,0,none⟩)) (hy:a.eval y=stV s' lv') (hE:StBlk w g s lv) (h1:lv'.oneCell'=true)
  (h:wpList Tryz.prog ops Q rest (a.put o.dst undef) (w.setRow g (stCs s' lv'))):wpList Tryz.prog ops Q (o::rest) a w:=
 wpList_store_row hgd 130 x y ho g (stCs s' lv') hx hy 130 (stCs s lv) hE stInfo rfl (stCs_one s' lv' h1) h
def stNone:St:=⟨0,0,0,0,0,[],0,0,0,0,0,[]⟩
end Go.Proofs.YtcglcphhfmkccaaGreatDoor

namespace Go.Proofs.YtcglcphhfmkccaaGreatDoor
open Go.RowKit
def OwnLn (w:World) (B:Nat) (v:Value) (ls:List Ln):Prop:=w.ownsRow B 177 4 v ls.length (lnCells ls)
def LnIn (A:Nat→Prop) (w:World) (v:Value) (ls:List Ln):Prop:=
 ∃ oa cap,v= .slice oa ls.length cap∧ls.length≤cap∧cap≤9223372036854775807∧(ls≠ []→ ∃ b off,oa=some ⟨b,off,none⟩∧A b∧ ∀ (i:Nat) l,ls[i]? =some l→w.rangeAt b (off+i*4) (lnCs l).toList)
theorem lnIn_nil (A:Nat→Prop) (w:World):LnIn A w (.slice none 0 0) []:=⟨none,0,rfl,Nat.le_refl _,by decide,fun h=>absurd rfl h⟩
theorem LnIn.mono {A A':Nat→Prop} {w:World} {v:Value} {ls:List Ln} (h:LnIn A w v ls) (hA: ∀ k,A k→A' k):LnIn A' w v ls:=by
 obtain⟨oa,cap,h1,h2,h3,h4⟩:=h
 exact⟨oa,cap,h1,h2,h3,fun hn=>by obtain⟨b,off,e,ha,hc⟩:=h4 hn;exact⟨b,off,e,hA b ha,hc⟩⟩
theorem LnIn.turned {A S:Nat→Prop} {w w':World} {v:Value} {ls:List Ln} (h:LnIn A w v ls) (ht:Turned S w w') (hS: ∀ k,A k→ ¬ S k):LnIn A w' v ls:=by
 obtain⟨oa,cap,h1,h2,h3,h4⟩:=h
 refine⟨oa,cap,h1,h2,h3,fun hn=> ?_⟩
 obtain⟨b,off,e,ha,hc⟩:=h4 hn
 exact⟨b,off,e,ha,fun i l hl j u hj=>ht.cell (hc i l hl j u hj) fun hs=>hS b ha hs⟩
theorem LnIn.below {A:Nat→Prop} {w w':World} {v:Value} {ls:List Ln} (h:LnIn A w v ls) (hb:Below w.heap.size w w'):LnIn A w' v ls:=h.turned (S:=fun _=>False) (Turned.below hb) fun _ _ h=>h
theorem LnIn.row {A:Nat→Prop} {w:World} {v:Value} {ls:List Ln} (h:LnIn A w v ls):LnRow w v ls:=by
 obtain⟨oa,cap,h1,h2,h3,h4⟩:=h
 refine⟨oa,cap,h1,h2,h3,fun hn=> ?_⟩
 obtain⟨b,off,e,_,hc⟩:=h4 hn
 exact⟨b,off,e,fun i l hl j u hj=>hc i l hl j u (by simpa using hj)⟩
theorem LnIn.one {A:Nat→Prop} {w:World} {v:Value} {ls:List Ln} (h:LnIn A w v ls):v.oneCell'=true:=by obtain⟨_,_,e,_⟩:=h;rw [e];rfl
theorem lnIn_own {A:Nat→Prop} {w:World} {B:Nat} {v:Value} {ls:List Ln} (h:OwnLn w B v ls) (hA: ∀ k,B≤k→k<w.heap.size→A k):LnIn A w v ls:=by
 by_cases hn:ls=[]
 ·subst hn
  rcases h.2 with⟨rfl,_⟩ | ⟨g,cap,cur,rfl,_,_,h1,h2,_⟩
  ·exact lnIn_nil _ _
  ·exact⟨_,cap,rfl,h1,by unfold maxLen at h2;omega,fun h=>absurd rfl h⟩
 ·obtain⟨g,cap,rfl,hB,hlt,h1,h2,h3⟩:=own_get h (List.length_pos_iff.2 hn)
  exact⟨_,cap,rfl,h1,by unfold maxLen at h2;omega,fun _=>⟨g,0,rfl,hA g hB hlt,fun i l hl j u hj=>by rw [Nat.zero_add];exact h3 _ _ (lnCells_at ls i l hl j u (by simpa using hj))⟩⟩
theorem own_setRow {w:World} {B size n k:Nat} {e:TypeId} {v:Value} {xs:List Value} (h:w.ownsRow B e size v n xs) (hk:k<B) (cs:Array Value):(w.setRow k cs).ownsRow B e size v n xs:=by
 refine⟨h.1,?_⟩
 rcases h.2 with hn | ⟨g,cap,cur,rfl,hb1,hg,rest⟩
 ·exact .inl hn
 ·exact .inr ⟨g,cap,cur,rfl,hb1,(setRow_other _ _ _ _ (show ¬ g=k by omega)).trans hg,rest⟩
theorem own_turned {S:Nat→Prop} {w w':World} {B size n:Nat} {e:TypeId} {v:Value} {xs:List Value} (h:w.ownsRow B e size v n xs) (ht:Turned S w w') (hS: ∀ k,S k→k<B):w'.ownsRow B e size v n xs:=by
 refine⟨h.1,?_⟩
 rcases h.2 with hn | ⟨g,cap,cur,rfl,hb1,hg,rest⟩
 ·exact .inl hn
 ·exact .inr ⟨g,cap,cur,rfl,hb1,(ht.block g (Array.getElem?_eq_some_iff.1 hg).1 (fun hs=>by have:=hS _ hs;omega)).trans hg,rest⟩
theorem own_blk {w:World} {B size n k:Nat} {e:TypeId} {v:Value} {xs:List Value} (h:w.ownsRow B e size v n xs) (hk:v.ownBlock=some k):B≤k:=by
 rcases h.2 with⟨rfl,_⟩ | ⟨g,cap,cur,rfl,hb1,_⟩
 ·cases hk
 ·cases hk;exact hb1
def stCells (xs:List (St×Value)):List Value:=xs.flatMap fun x=>(stCs x.1 x.2).toList
theorem stCells_snoc (xs:List (St×Value)) (x:St×Value):stCells (xs++[x])=stCells xs++(stCs x.1 x.2).toList:=by simp [stCells]
theorem stCells_at: ∀ (xs:List (St×Value)) (i:Nat) (x:St×Value),xs[i]? =some x→ ∀ (j:Nat) u,(stCs x.1 x.2)[j]? =some u→(stCells xs)[i*12+j]? =some u
 | [],i,x,h=>by simp at h
 | y::ys,0,x,h=>by
  intro j u hj
  simp at h;subst h
  have hl:j<12:=by have:=(Array.getElem?_eq_some_iff.1 hj).1;simpa [stCs] using this
  unfold stCells
  rw [List.flatMap_cons,Nat.zero_mul,Nat.zero_add,List.getElem?_append_left (by simpa [stCs] using hl)]
  simpa using hj
 | y::ys,i+1,x,h=>by
  intro j u hj
  have:=stCells_at ys i x (by simpa using h) j u hj
  unfold stCells at this ⊢
  rw [List.flatMap_cons,List.getElem?_append_right (by simp [stCs];omega)]
  rw [←this]
  congr 1
  simp [stCs];omega
def StsIn (A:Nat→Prop) (w:World) (v:Value) (ss:List St):Prop:=
 ∃ oa cap,v= .slice oa ss.length cap∧ss.length≤cap∧cap≤maxLen∧(ss≠ []→ ∃ b off,oa=some ⟨b,off,none⟩∧A b∧ ∀ (i:Nat) s,ss[i]? =some s→ ∃ lv,w.rangeAt b (off+i*12) (stCs s lv).toList∧LnIn A w lv s.lines)
theorem stsIn_nil (A:Nat→Prop) (w:World):StsIn A w (.slice none 0 0) []:=⟨none,0,rfl,Nat.le_refl _,by decide,fun h=>absurd rfl h⟩
theorem StsIn.mono {A A':Nat→Prop} {w:World} {v:Value} {ss:List St} (h:StsIn A w v ss) (hA: ∀ k,A k→A' k):StsIn A' w v ss:=by
 obtain⟨oa,cap,h1,h2,h3,h4⟩:=h
 refine⟨oa,cap,h1,h2,h3,fun hn=> ?_⟩
 obtain⟨b,off,e,ha,hc⟩:=h4 hn
 refine⟨b,off,e,hA b ha,fun i s hs=> ?_⟩
 obtain⟨lv,h5,h6⟩:=hc i s hs
 exact⟨lv,h5,h6.mono hA⟩
theorem StsIn.turned {A S:Nat→Prop} {w w':World} {v:Value} {ss:List St} (h:StsIn A w v ss) (ht:Turned S w w') (hS: ∀ k,A k→ ¬ S k):StsIn A w' v ss:=by
 obtain⟨oa,cap,h1,h2,h3,h4⟩:=h
 refine⟨oa,cap,h1,h2,h3,fun hn=> ?_⟩
 obtain⟨b,off,e,ha,hc⟩:=h4 hn
 refine⟨b,off,e,ha,fun i s hs=> ?_⟩
 obtain⟨lv,h5,h6⟩:=hc i s hs
 exact⟨lv,fun j u hj=>ht.cell (h5 j u hj) fun hs=>hS b ha hs,h6.turned ht hS⟩
theorem StsIn.below {A:Nat→Prop} {w w':World} {v:Value} {ss:List St} (h:StsIn A w v ss) (hb:Below w.heap.size w w'):StsIn A w' v ss:=h.turned (S:=fun _=>False) (Turned.below hb) fun _ _ h=>h
theorem StsIn.shape {A:Nat→Prop} {w:World} {v:Value} {ss:List St} (h:StsIn A w v ss): ∃ oa cap,v= .slice oa ss.length cap∧ss.length≤cap∧cap≤9223372036854775807∧
  ∀ (i:Nat) s,ss[i]? =some s→ ∃ b off,oa=some ⟨b,off,none⟩∧A b∧ ∃ lv,w.rangeAt b (off+i*12) (stCs s lv).toList∧LnIn A w lv s.lines:=by
 obtain⟨oa,cap,rfl,h2,h3,h4⟩:=h
 refine⟨oa,cap,rfl,h2,by unfold maxLen at h3;omega,fun i p hp=> ?_⟩
 obtain⟨b,off,rfl,ha,h6⟩:=h4 (by rintro rfl;simp at hp)
 exact⟨b,off,rfl,ha,h6 i p hp⟩
def StsOwn (w:World) (B:Nat) (v:Value) (xs:List (St×Value)):Prop:=
 w.ownsRow B 130 12 v xs.length (stCells xs)∧ ∀ x∈xs,LnIn (fun k=>B≤k∧k<w.heap.size∧v.ownBlock≠some k) w x.2 x.1.lines
theorem stsOwn_nil (w:World) (B:Nat):StsOwn w B (.slice none 0 0) []:=⟨⟨rfl,.inl ⟨rfl,rfl⟩⟩,fun _ h=>by cases h⟩
theorem StsOwn.below {w w':World} {B:Nat} {v:Value} {xs:List (St×Value)} (h:StsOwn w B v xs) (hb:Below w.heap.size w w'):StsOwn w' B v xs:=
 ⟨own_later h.1 hb,fun x hx=>((h.2 x hx).below hb).mono fun _ hk=>⟨hk.1,Nat.lt_of_lt_of_le hk.2.1 hb.size,hk.2.2⟩⟩
theorem StsOwn.stsIn {A:Nat→Prop} {w:World} {B:Nat} {v:Value} {xs:List (St×Value)} (h:StsOwn w B v xs) (hA: ∀ k,B≤k→A k):StsIn A w v (xs.map (·.1)):=by
 by_cases hn:xs=[]
 ·subst hn
  rcases h.1.2 with⟨rfl,_⟩ | ⟨g,cap,cur,rfl,_,_,h1,h2,_⟩
  ·exact stsIn_nil _ _
  ·exact⟨_,cap,rfl,h1,h2,fun h=>absurd rfl h⟩
 ·obtain⟨g,cap,rfl,hB,_,h1,h2,h3⟩:=own_get h.1 (List.length_pos_iff.2 hn)
  refine⟨_,cap,by rw [List.length_map],by rw [List.length_map];exact h1,h2,fun _=>⟨g,0,rfl,hA g hB,fun i p hp=> ?_⟩⟩
  rw [List.getElem?_map] at hp
  obtain⟨x,hx,rfl⟩:=Option.map_eq_some_iff.1 hp
  exact⟨x.2,fun j u hj=>by rw [Nat.zero_add];exact h3 _ _ (stCells_at xs i x hx j u (by simpa using hj)),(h.2 x (List.mem_of_getElem? hx)).mono fun k hk=>hA k hk.1⟩
def zeroSt:Value:= .agg #[.int .i64 0,.int .i64 0,.int .i64 0,.int .i64 0,.int .i64 0,.slice none 0 0,.int .i64 0,.int .i64 0,.int .i64 0,.int .i64 0,.int .i64 0,.string ⟨#[]⟩]
theorem infoSt:(Tryz.prog.info? 130).map (fun i=>(i.zero,i.size,i.bytes))=some (some zeroSt,12,120):=by kernel_rfl
theorem wpList_appSt {ops:Array Oper} {rest:List Oper} {o:Oper} {a:Act} {Q:Exit→Act→World→Prop} {w:World} (hgd:o.guard=none) (s y:Operand) (ho:o.op= .call {callee:= .builtin .append,args:= #[s,y],argTypes:= #[59,59]}) {B:Nat} {v:Value} {xs:List (St×Value)} {p:St} {dv:Value}
  (hs:a.eval s=v) (hy:a.eval y= .slice (some ⟨w.heap.size,0,none⟩) 1 1) (hown:StsOwn w B v xs) (hB:B≤w.heap.size) (hd:LnIn (fun k=>B≤k∧k<w.heap.size∧v.ownBlock≠some k) w dv p.lines) (hl:xs.length+1≤1000000000)
  (h: ∀ v' w',StsOwn w' B v' (xs++[(p,dv)])→Below B w w'→Turned (fun k=>v.ownBlock=some k) w w'→v'.oneCell'=true→wpList Tryz.prog ops Q rest (a.put o.dst v') w'):wpList Tryz.prog ops Q (o::rest) a (w.alloc (.cells #[.int .i64 p.order,.int .i64 p.status,.int .i64 p.prior,.int .i64 p.cur,.int .i64 p.tax,dv,.int .i64 p.paid,.int .i64 p.refunded,.int .i64 p.events,.int .i64 p.refused,.int .i64 p.stamp,.string ⟨p.who.toArray⟩] 130)):=by
 show wpList Tryz.prog ops Q (o::rest) a (w.alloc (.cells (stCs p dv) 130))
 obtain⟨i0,hi,hz0,hz1,hz2⟩:=info_parts infoSt
 have hb:=below_alloc w (.cells (stCs p dv) 130)
 have h1d:dv.oneCell'=true:=hd.one
 refine wpList_append_ownB _ hgd s y 59 ho B 130 i0 zeroSt 12 120 Tryz.underlying59 hi hz0 hz1 hz2 rfl (by decide) v xs.length (stCells xs) hs (own_later hown.1 hb) ⟨w.heap.size,0,none⟩ 1 1 (stCs p dv).toList hy rfl (fun j u hj=> ?_) (fun u hu=> ?_) (by unfold maxLen;omega) (by omega) (Nat.le_trans hB hb.size) (by decide) ?_
 ·rw [addr_add,Nat.zero_add,World.cell?_alloc_new]
  simpa [stCs] using hj
 ·exact Array.all_eq_true_iff_forall_mem.1 (stCs_one p dv h1d) u (by simpa using hu)
 ·intro v' w' hown' hg hnew
  have hb2:=below_of_grown (own_later hown.1 hb) (Nat.le_trans hB hb.size) hg
  have hrow: ∀ (x:Value) (l:List Ln),LnIn (fun k=>B≤k∧k<w.heap.size∧v.ownBlock≠some k) w x l→LnIn (fun k=>B≤k∧k<w'.heap.size∧v'.ownBlock≠some k) w' x l:=fun x l hx=>by
   obtain⟨oa,cap,e1,e2,e3,e5⟩:=hx.below hb
   refine⟨oa,cap,e1,e2,e3,fun hn=> ?_⟩
   obtain⟨b,off,e4,ha,hc⟩:=e5 hn
   refine⟨b,off,e4,⟨ha.1,Nat.lt_of_lt_of_le ha.2.1 (Nat.le_trans hb.size hg.size),fun e=> ?_⟩,fun i u hu j y hj=>hg.cell (hc i u hu j y hj) fun e=>ha.2.2 e.symm⟩
   have:=ha.2.1
   rcases hnew with h | h
   ·rw [h] at e;exact ha.2.2 e
   ·rw [h] at e
    have e':=Option.some.inj e
    have:=hb.size
    omega
  have hone:v'.oneCell'=true:=by obtain⟨_,_,e,_⟩:=own_shape hown';rw [e];rfl
  refine h v' w' ⟨?_,fun x hx=> ?_⟩ ((hb.mono hB).trans hb2) ⟨hg.os.trans hb.os,hg.tape.trans hb.tape,hg.output.trans hb.output,Nat.le_trans hb.size hg.size,fun k hk hne=> ?_⟩ hone
  ·rw [List.length_append,stCells_snoc]
   exact hown'
  ·rcases List.mem_append.1 hx with hx | hx
   ·exact hrow _ _ (hown.2 x hx)
   ·simp at hx;rw [hx];exact hrow _ _ hd
  ·rw [hg.block k (Nat.lt_of_lt_of_le hk hb.size) (fun e=>hne e.symm)]
   exact hb.block k hk
def LnBlk (w:World) (g:Nat) (l:Ln):Prop:=w.heap[g]? =some (.cells (lnCs l) 177 (0,0))
theorem wpList_appLn {ops:Array Oper} {rest:List Oper} {o:Oper} {a:Act} {Q:Exit→Act→World→Prop} {w:World} (hgd:o.guard=none) (s y:Operand) (ho:o.op= .call {callee:= .builtin .append,args:= #[s,y],argTypes:= #[128,128]}) {B:Nat} {v:Value} {ls:List Ln} {l:Ln}
  (hs:a.eval s=v) (hy:a.eval y= .slice (some ⟨w.heap.size,0,none⟩) 1 1) (hown:OwnLn w B v ls) (hB:B≤w.heap.size) (hl:ls.length+1≤1000000000)
  (h: ∀ v' w',OwnLn w' B v' (ls++[l])→Below B w w'→Turned (fun k=>v.ownBlock=some k) w w'→wpList Tryz.prog ops Q rest (a.put o.dst v') w'):wpList Tryz.prog ops Q (o::rest) a (w.alloc (.cells #[.int .i64 l.item,.int .i64 l.price,.int .i64 l.qty,.int .i64 l.shipped] 177)):=by
 show wpList Tryz.prog ops Q (o::rest) a (w.alloc (.cells (lnCs l) 177))
 obtain⟨i0,hi,hz0,hz1,hz2⟩:=info_parts infoLn
 have hb:=below_alloc w (.cells (lnCs l) 177)
 refine wpList_append_own _ hgd s y 128 ho B 177 i0 zeroLn 4 32 Tryz.underlying128 hi hz0 hz1 hz2 rfl (by decide) v ls.length (lnCells ls) hs (own_later hown hb) ⟨w.heap.size,0,none⟩ 1 1 (lnCs l).toList hy rfl (fun j u hj=> ?_) (fun u hu=> ?_) (by unfold maxLen;omega) (by omega) (Nat.le_trans hB hb.size) ?_
 ·rw [addr_add,Nat.zero_add,World.cell?_alloc_new]
  simpa [lnCs] using hj
 ·simp [lnCs] at hu;rcases hu with rfl | rfl | rfl | rfl<;>rfl
 ·intro v' w' hown' hg _
  have hb2:=below_of_grown (own_later hown hb) (Nat.le_trans hB hb.size) hg
  refine h v' w' ?_ ((hb.mono hB).trans hb2) ⟨hg.os.trans hb.os,hg.tape.trans hb.tape,hg.output.trans hb.output,Nat.le_trans hb.size hg.size,fun k hk hne=> ?_⟩
  ·unfold OwnLn
   rw [List.length_append,lnCells_snoc]
   exact hown'
  ·rw [hg.block k (Nat.lt_of_lt_of_le hk hb.size) (fun e=>hne e.symm)]
   exact hb.block k hk
end Go.Proofs.YtcglcphhfmkccaaGreatDoor

namespace Go.Proofs.YtcglcphhfmkccaaGreatDoor
open Go.RowKit
def unlineGo:Nat→List UInt8→List Int→Option (List Int×List UInt8)
 | 0,b,vs=>some (vs,b)
 | n+1,b,vs=>if (decV b).2.2≠0 then none else unlineGo n (b.drop (decV b).2.1) (vs++[smallV (decV b).1])
theorem unlineGo_stop {n:Nat} {b:List UInt8} {vs:List Int} (h:(decV b).2.2≠0):unlineGo (n+1) b vs=none:=by rw [unlineGo,if_pos h]
theorem unlineGo_go {n:Nat} {b:List UInt8} {vs:List Int} (h:(decV b).2.2=0):unlineGo (n+1) b vs=unlineGo n (b.drop (decV b).2.1) (vs++[smallV (decV b).1]):=by rw [unlineGo,if_neg (fun k=>k h)]
def ln0:Ln:=⟨0,0,0,0⟩
def unlineV (b:List UInt8):Ln×Bool:=match unlineGo 4 b [] with
 | none=>(ln0,false)
 | some (vs,r)=>(⟨vs.getD 0 0,vs.getD 1 0,vs.getD 2 0,vs.getD 3 0⟩,decide (r.length=0))
def arCs (vs:List Int):Array Value:= #[.int .i64 (vs.getD 0 0),.int .i64 (vs.getD 1 0),.int .i64 (vs.getD 2 0),.int .i64 (vs.getD 3 0)]
theorem arCs_set {vs:List Int} {x:Int} (h:vs.length<4):(arCs vs).setIfInBounds vs.length (.int .i64 x)=arCs (vs++[x]):=by
 rcases vs with _ | ⟨a,_ | ⟨b,_ | ⟨c,_ | ⟨d,vs⟩⟩⟩⟩
 ·rfl
 ·rfl
 ·rfl
 ·rfl
 ·simp at h;omega
def ArBlk (w:World) (g:Nat) (vs:List Int):Prop:=w.heap[g]? =some (.cells (arCs vs) 206 (0,0))
theorem LnBlk.below {w w':World} {g:Nat} {l:Ln} (h:LnBlk w g l) (hb:Below w.heap.size w w'):LnBlk w' g l:=(hb.block _ (Array.getElem?_eq_some_iff.1 h).1).trans h
theorem ArBlk.below {w w':World} {g:Nat} {vs:List Int} (h:ArBlk w g vs) (hb:Below w.heap.size w w'):ArBlk w' g vs:=(hb.block _ (Array.getElem?_eq_some_iff.1 h).1).trans h
theorem ArBlk.cell {w:World} {g:Nat} {vs:List Int} (h:ArBlk w g vs) (j:Nat):w.cell? ⟨g,j,none⟩=(arCs vs)[j]? :=by unfold ArBlk at h;simp [World.cell?,h]
theorem ArBlk.free {w:World} {g:Nat} {vs:List Int} (h:ArBlk w g vs) (j:Nat):w.frozen? ⟨g,j,none⟩=false:=by unfold ArBlk at h;simp [World.frozen?,h]
theorem ArBlk.at {w:World} {g k:Nat} {vs:List Int} (h:ArBlk w g vs) (_:vs.length=k) (hk:k<4): ∃ y,w.cell? ⟨g,k,none⟩=some (.int .i64 y):=by
 rw [h.cell]
 obtain rfl | rfl | rfl | rfl:k=0∨k=1∨k=2∨k=3:=by omega
 all_goals exact⟨_,rfl⟩
theorem ArBlk.put {w:World} {g k:Nat} {vs:List Int} (h:ArBlk w g vs) (hv:vs.length=k) (hk:k<4) (x:Int):ArBlk (w.setCell ⟨g,k,none⟩ (.int .i64 x)) g (vs++[x]):=by
 subst hv
 unfold ArBlk at h ⊢
 rw [←arCs_set hk]
 simp only [World.setCell]
 rw [Array.getElem?_modify]
 simp [h]
theorem blk_set {w:World} {g j k:Nat} {o:Obj} {v:Value} (h:w.heap[g]? =some o) (hg:j≠g):(w.setCell ⟨j,k,none⟩ v).heap[g]? =some o:=by
 simp only [World.setCell]
 rw [Array.getElem?_modify]
 simp [h,hg]
theorem heap_setRow_new {w:World} {g:Nat} {cs cs':Array Value} {t:TypeId} (h:w.heap[g]? =some (.cells cs t (0,0))):(w.setRow g cs').heap[g]? =some (.cells cs' t (0,0)):=setRow_heap w g _ _ _ _ h
theorem lnCs_all (l:Ln):(lnCs l).all (·.oneCell')=true:=
 Array.all_eq_true_iff_forall_mem.2 (by
  intro v hv
  simp only [lnCs,List.mem_toArray,List.mem_cons,List.not_mem_nil,or_false] at hv
  rcases hv with rfl | rfl | rfl | rfl<;>rfl)
theorem run_load_ln {w:World} {g:Nat} {l:Ln} (hE:LnBlk w g l):(loadVar 177 ⟨g,0,none⟩).run Tryz.prog w= .ok (lnV l) w:=
 run_loadVar_row (P:=Tryz.prog) w g 177 177 (lnCs l) (0,0) _ hE Tryz.underlying177 rfl lnInfo
theorem results_ln2 {fn:Func} {p q:Tmp} (h:fn.results= #[.cell p 177,.tmp q]) (tmps:Array Value) (w:World) (g:Nat) (l:Ln) (x:Value)
  (hp:tmps.getD p undef= .pointer (some ⟨g,0,none⟩)) (hq:tmps.getD q undef=x) (hE:LnBlk w g l):(results fn tmps).run Tryz.prog w= .ok (.tuple #[lnV l,x]) w:=by
 have hl:=run_load_ln hE
 have hp':tmps[p]?.getD undef= .pointer (some ⟨g,0,none⟩):=by simpa using hp
 have hq':tmps[q]?.getD undef=x:=by simpa using hq
 simp [results,h,hp',hq',asAddr,hl]
theorem wpList_store_ln {ops:Array Oper} {rest:List Oper} {o:Oper} {a:Act} {w:World} {Q:Exit→Act→World→Prop} (hgd:o.guard=none) (x y:Operand) (ho:o.op= .store 177 x y)
  (g:Nat) (l l':Ln) (hx:a.eval x= .pointer (some ⟨g,0,none⟩)) (hy:a.eval y=lnV l') (hE:LnBlk w g l)
  (h: ∀ W,Hid (W=w.setRow g (lnCs l'))→wpList Tryz.prog ops Q rest (a.put o.dst undef) W):wpList Tryz.prog ops Q (o::rest) a w:=
 wpList_store_row hgd 177 x y ho g (lnCs l') hx hy 177 (lnCs l) hE lnInfo rfl (lnCs_all l') (h _ (Lib.hid rfl))
set_option maxRecDepth 100000 in
set_option maxHeartbeats 4000000 in
theorem unline_any (b:List UInt8) (v:Value) (w:World) (hv:BRow w v b) (hl:b.length≤1048576):
  Calls Tryz.prog 97 #[v] w fun e w'=>e= .returned (.tuple #[lnV (unlineV b).1,.bool (unlineV b).2])∧Below w.heap.size w w':=by
 have HV:=Lib.hid hv
 have HE:=Lib.hid (show unlineV b=match unlineGo 4 b [] with
  | none=>(ln0,false)
  | some (vs,r)=>(⟨vs.getD 0 0,vs.getD 1 0,vs.getD 2 0,vs.getD 3 0⟩,decide (r.length=0)) from rfl)
 have HB0:=Lib.hid (below_alloc w (.cells #[.int .i64 0,.int .i64 0,.int .i64 0,.int .i64 0] 177))
 have HL0:=Lib.hid (show LnBlk (w.alloc (.cells #[.int .i64 0,.int .i64 0,.int .i64 0,.int .i64 0] 177)) w.heap.size ln0 from heap_alloc_new w _)
 clear hv
 go_enter Tryz.func97,Tryz.ntmps97
 go_wp2
 have HB1:=Lib.hid (Below.next HB0.out (below_alloc (w.alloc (.cells #[.int .i64 0,.int .i64 0,.int .i64 0,.int .i64 0] 177)) (.cells #[.int .i64 0,.int .i64 0,.int .i64 0,.int .i64 0] 206)))
 have HL1:=Lib.hid (HL0.out.below (below_alloc (w.alloc (.cells #[.int .i64 0,.int .i64 0,.int .i64 0,.int .i64 0] 177)) (.cells #[.int .i64 0,.int .i64 0,.int .i64 0,.int .i64 0] 206)))
 have HA1:=Lib.hid (show ArBlk ((w.alloc (.cells #[.int .i64 0,.int .i64 0,.int .i64 0,.int .i64 0] 177)).alloc (.cells #[.int .i64 0,.int .i64 0,.int .i64 0,.int .i64 0] 206)) (w.heap.size+1) [] by
  have h:=heap_alloc_new (w.alloc (.cells #[.int .i64 0,.int .i64 0,.int .i64 0,.int .i64 0] 177)) (.cells #[.int .i64 0,.int .i64 0,.int .i64 0,.int .i64 0] 206)
  rw [World.size_alloc] at h
  exact h)
 generalize (w.alloc (.cells #[.int .i64 0,.int .i64 0,.int .i64 0,.int .i64 0] 177)).alloc (.cells #[.int .i64 0,.int .i64 0,.int .i64 0,.int .i64 0] 206)=w1 at*
 clear HB0 HL0
 go_loopw [0,9] (fun sv iv wr=> ∃ (k:Nat) (c:List UInt8) (vs:List Int),k≤4∧iv= .int .i64 (k:Int)∧vs.length=k∧Hid (c.length≤b.length)∧Hid (ArBlk wr (w.heap.size+1) vs)∧Hid (LnBlk wr w.heap.size ln0)∧Hid (BRow w sv c)∧Hid (unlineGo 4 b []=unlineGo (4 - k) c vs)∧Hid (Below w.heap.size w wr)) (fun _ iv _=>4 - (intOf iv).toNat)
 case atStart=>exact⟨0,b,[],by decide,rfl,rfl,Lib.hid (Nat.le_refl _),HA1,HL1,HV,Lib.hid rfl,HB1⟩
 case round=>
  obtain⟨k,c,vs,hk,rfl,hvl,HCL,HA,HL,HC,HU,HB⟩:=hrel
  clear HV HA1 HL1 HB1
  obtain⟨oa,cap,hsh,hcc,_⟩:=HC.out
  subst hsh
  by_cases hlt:k<4
  ·have q1:(k:Int)<4:=by omega
   have HNK:=Lib.hid (show 4 - k=(4 - (k+1))+1 by omega)
   rw [HNK.out] at HU
   have HD:=Lib.hid (varDecode_any c _ wr (HC.out.below HB.out) (by have:=HCL.out;omega))
   have HLN:=Lib.hid (@decV_len c)
   have HST:=Lib.hid (@unlineGo_stop (4 - (k+1)) c vs)
   have HGO:=Lib.hid (@unlineGo_go (4 - (k+1)) c vs)
   obtain⟨r,hr⟩: ∃ r,r=decV c:=⟨_,rfl⟩
   rw [←hr] at HD HLN HST HGO
   clear hr HNK hcc
   obtain⟨u,n1,e1⟩:=r
   unfold VarPost at HD
   go_wp2_with fail
   refine HD.out.mono ?_
   rintro e w2 ⟨rfl,hb2⟩
   have HB2:=Lib.hid (Below.next HB.out hb2)
   have HA2:=Lib.hid (HA.out.below hb2)
   have HL2:=Lib.hid (HL.out.below hb2)
   clear hb2 HD HA HB HL
   rcases he1:(e1 != 0) with _ | _
   ·have HE1:=Lib.hid (show e1=0 by simpa using he1)
    have hn1:n1≤c.length:=(HLN.out HE1.out).2
    have HG:=Lib.hid (HGO.out HE1.out)
    have hk1:IntKind.i64.wrap ((k:Int)+1)=(k:Int)+1:=by rw [IntKind.wrap_i64];omega
    clear HLN HST HGO
    go_wp2_with fail
    refine(small_any u w2).mono ?_
    rintro e w3 ⟨rfl,rfl⟩
    obtain⟨y,hy⟩:=HA2.out.at hvl hlt
    have fy:=HA2.out.free k
    have HA3:=Lib.hid (HA2.out.put hvl hlt (smallV u))
    have HL3:=Lib.hid (show LnBlk (w2.setCell ⟨w.heap.size+1,k,none⟩ (.int .i64 (smallV u))) w.heap.size ln0 from blk_set HL2.out (by omega))
    have HB3:=Lib.hid (HB2.out.setCell (p:=⟨w.heap.size+1,k,none⟩) (by simp only;omega) (.int .i64 (smallV u)))
    go_wp2_with (with_reducible refine wpList_cut_lU rfl (.tmp 25) (.tmp 26) rfl oa cap n1 c rfl rfl HC.out hn1 ?_)
    intro oa' cap' hbr
    have HBR:=Lib.hid hbr
    clear hbr
    go_wp2
    go_roundw
    case rel=>exact⟨k+1,c.drop n1,vs++[smallV u],by omega,by go_num,by simp [hvl],Lib.hid (by have:=HCL.out;rw [List.length_drop];omega),HA3,HL3,HBR,Lib.hid (by rw [HU.out];exact HG.out),HB3⟩
    case measure=>simp [intOf];omega
   ·have HE2:=Lib.hid (show unlineV b=(ln0,false) by rw [HE.out,HU.out,HST.out (by simpa using he1)])
    clear HLN HST HGO
    go_wp2_with (with_reducible refine wpList_store_ln rfl (.tmp 2) (.tmp 20) rfl w.heap.size ln0 ln0 rfl rfl HL2.out ?_)
    intro w3 hw3
    have HL3:=Lib.hid (show LnBlk w3 w.heap.size ln0 by rw [hw3.out];exact heap_setRow_new HL2.out)
    have HB3:=Lib.hid (show Below w.heap.size w w3 by rw [hw3.out];exact below_row HB2.out (Nat.le_refl _) _)
    clear hw3
    go_wp2
    refine bodyPost_ret (v:= .tuple #[lnV ln0,.bool false]) (results_ln2 rfl _ _ w.heap.size _ _ rfl rfl HL3.out) rfl ⟨by rw [HE2.out],HB3.out⟩
  ·obtain rfl:k=4:=by omega
   have HE2:=Lib.hid (show unlineV b=(⟨vs.getD 0 0,vs.getD 1 0,vs.getD 2 0,vs.getD 3 0⟩,decide (c.length=0)) by rw [HE.out,HU.out];rfl)
   have a0:wr.cell? ⟨w.heap.size+1,0,none⟩=some (.int .i64 (vs.getD 0 0)):=HA.out.cell 0
   have a1:wr.cell? ⟨w.heap.size+1,1,none⟩=some (.int .i64 (vs.getD 1 0)):=HA.out.cell 1
   have a2:wr.cell? ⟨w.heap.size+1,2,none⟩=some (.int .i64 (vs.getD 2 0)):=HA.out.cell 2
   have a3:wr.cell? ⟨w.heap.size+1,3,none⟩=some (.int .i64 (vs.getD 3 0)):=HA.out.cell 3
   obtain⟨l,hl⟩: ∃ l:Ln,l=⟨vs.getD 0 0,vs.getD 1 0,vs.getD 2 0,vs.getD 3 0⟩:=⟨_,rfl⟩
   rw [←hl] at HE2
   rw [show vs.getD 0 0=l.item by rw [hl]] at a0
   rw [show vs.getD 1 0=l.price by rw [hl]] at a1
   rw [show vs.getD 2 0=l.qty by rw [hl]] at a2
   rw [show vs.getD 3 0=l.shipped by rw [hl]] at a3
   clear hl hcc HA HU
   go_wp2_with (with_reducible refine wpList_store_ln rfl (.tmp 2) (.tmp 37) rfl w.heap.size ln0 l rfl rfl HL.out ?_)
   intro w3 hw3
   have HL3:=Lib.hid (show LnBlk w3 w.heap.size l by rw [hw3.out];exact heap_setRow_new HL.out)
   have HB3:=Lib.hid (show Below w.heap.size w w3 by rw [hw3.out];exact below_row HB.out (Nat.le_refl _) _)
   clear hw3
   go_wp2
   refine bodyPost_ret (v:= .tuple #[lnV l,.bool (decide (c.length=0))]) (results_ln2 rfl _ _ w.heap.size _ _ rfl (by show Value.bool ((c.length:Int)==0)=_;congr 1;rw [Bool.eq_iff_iff,beq_iff_eq,decide_eq_true_eq];omega) HL3.out) rfl ⟨by rw [HE2.out],HB3.out⟩
end Go.Proofs.YtcglcphhfmkccaaGreatDoor

namespace Go.Proofs.YtcglcphhfmkccaaGreatDoor
open Go.RowKit Go.Maps
def tagQ (k:Int) (f:Fld):Bool:=(f.tag:Int)==k
def restQ (k:Int) (fs:List Fld):List Fld:=fs.filter fun f=> !tagQ k f
def takeQ (q:List Fld×Int) (k:Int) (t:Bool):Fld×List Fld×Int:=
 match q.1.find? (tagQ k) with
 | none=>(fld0,q)
 | some f=>if f.text=t then (f,restQ k q.1,q.2) else (fld0,restQ k q.1,33)
theorem takeP_Q (xs:List (Fld×Value)) (bad k:Int) (t:Bool):takeQ (xs.map (·.1),bad) k t=((takeP xs bad k t).1.1,(takeP xs bad k t).2.1.map (·.1),(takeP xs bad k t).2.2):=by
 unfold takeQ takeP
 dsimp only
 have e1:(xs.map (·.1)).find? (tagQ k)=(xs.find? (tagIs k)).map (·.1):=by rw [List.find?_map];rfl
 have e2:restQ k (xs.map (·.1))=(leftF k xs).map (·.1):=by unfold restQ leftF;rw [List.filter_map];rfl
 rw [e1,e2]
 rcases xs.find? (tagIs k) with _ | x
 ·rfl
 ·dsimp only [Option.map_some]
  split<;>rfl
def numQ (q:List Fld×Int) (k:Int):Int×List Fld×Int:=(smallV (takeQ q k false).1.num,(takeQ q k false).2)
def linesQ:Nat→Int→List Fld×Int→Bool→List Ln→List Ln×Bool×List Fld×Int
 | 0,_,q,ok,ls=>(ls,ok,q)
 | n+1,k,q,ok,ls=>if (takeQ q k true).1.data=[] then (ls,ok,(takeQ q k true).2)
  else linesQ n (k+1) (takeQ q k true).2 (ok&&(unlineV (takeQ q k true).1.data).2) (ls++[(unlineV (takeQ q k true).1.data).1])
theorem linesQ_end {n:Nat} {k:Int} {q:List Fld×Int} {ok:Bool} {ls:List Ln} (h:(takeQ q k true).1.data=[]):linesQ (n+1) k q ok ls=(ls,ok,(takeQ q k true).2):=by rw [linesQ,if_pos h]
theorem linesQ_go {n:Nat} {k:Int} {q:List Fld×Int} {ok:Bool} {ls:List Ln} (h: ¬ (takeQ q k true).1.data=[]):
  linesQ (n+1) k q ok ls=linesQ n (k+1) (takeQ q k true).2 (ok&&(unlineV (takeQ q k true).1.data).2) (ls++[(unlineV (takeQ q k true).1.data).1]):=by rw [linesQ,if_neg h]
def errQ (q:List Fld×Int):Int:=if q.2≠0 then q.2 else if q.1=[] then 0 else 20
theorem errR_Q (xs:List (Fld×Value)) (bad:Int):errR xs bad=errQ (xs.map (·.1),bad):=by
 unfold errR errQ
 cases xs<;>simp
def numsQ:Nat→Int→List Fld×Int→List Int→List Int×List Fld×Int
 | 0,_,q,vs=>(vs,q)
 | n+1,k,q,vs=>numsQ n (k+1) (numQ q k).2 (vs++[(numQ q k).1])
def stOf (vs:List Int) (ls:List Ln) (who:List UInt8):St:=⟨vs.getD 0 0,vs.getD 1 0,vs.getD 2 0,vs.getD 3 0,vs.getD 4 0,ls,vs.getD 5 0,vs.getD 6 0,vs.getD 7 0,vs.getD 8 0,vs.getD 9 0,who⟩
def decSt (b:List UInt8):St×Int:=
 if (tlvDec b).1≠0 then (stNone,(tlvDec b).1)
 else
  let ns:=numsQ 10 1 ((tlvDec b).2,0) []
  let tx:=takeQ ns.2 11 true
  let ls:=linesQ 16 12 tx.2 true []
  if errQ ls.2.2≠0 then (stNone,errQ ls.2.2)
  else if ls.2.1&&validB (stOf ns.1 ls.1 tx.1.data) then (stOf ns.1 ls.1 tx.1.data,0) else (stNone,40)
end Go.Proofs.YtcglcphhfmkccaaGreatDoor

namespace Go.Proofs.YtcglcphhfmkccaaGreatDoor
open Go.RowKit
def numF (f:Frm):Nat×Bool:=((decV f.body).1,decide ((decV f.body).2.2=0)&&decide ((decV f.body).2.1=f.body.length))
def stsP:List Plc→List St→Option (List St)
 | [],ss=>some ss
 | p::r,ss=>if (decSt p.f.body).2≠0∨p.f.k≠5∨(p.f.s:Int)≠(decSt p.f.body).1.order then none else stsP r (ss++[(decSt p.f.body).1])
theorem stsP_stop {p:Plc} {r:List Plc} {ss:List St} (h:(decSt p.f.body).2≠0∨p.f.k≠5∨(p.f.s:Int)≠(decSt p.f.body).1.order):stsP (p::r) ss=none:=by rw [stsP,if_pos h]
theorem stsP_go {p:Plc} {r:List Plc} {ss:List St} (h: ¬ ((decSt p.f.body).2≠0∨p.f.k≠5∨(p.f.s:Int)≠(decSt p.f.body).1.order)):stsP (p::r) ss=stsP r (ss++[(decSt p.f.body).1]):=by rw [stsP,if_neg h]
def bookOk:Int→List St→Bool
 | _,[]=>true
 | last,s::r=>decide (last<s.order)&&decide (1≤s.events)&&validB s&&bookOk s.order r
def zPlc:Plc:=⟨0,0,zFrm⟩
def bookBad (p q:Frm) (n:Nat):Prop:=(numF p).2=false∨(numF q).2=false∨p.k≠6∨q.k≠7∨q.s≠p.s∨p.s<1∨999999<p.s∨(numF p).1<1∨1099511627776<(numF p).1∨(numF q).1≠n
instance (p q:Frm) (n:Nat):Decidable (bookBad p q n):=by unfold bookBad;infer_instance
def decBook (b:List UInt8):Option (Nat×Nat×List St):=
 let ps:=(scanAll b).1
 if (scanAll b).2.2≠0∨ps.length<2 then none
 else if bookBad (ps.getD 0 zPlc).f (ps.getD (ps.length - 1) zPlc).f (ps.length - 2) then none
 else match stsP ((ps.take (ps.length - 1)).drop 1) [] with
  | none=>none
  | some ss=>if bookOk 0 ss then some ((ps.getD 0 zPlc).f.s,(numF (ps.getD 0 zPlc).f).1,ss) else none
def bookV (d:Disk) (num:Int):(Int×Nat×List St)×Nat:=
 match filD d (bookName num) with
 | none=>((openE d (bookName num),0,[]),0)
 | some x=>match decBook x.data with
  | none=>((81,0,[]),x.data.length)
  | some r=>if (r.1:Int)≠num then ((81,0,[]),x.data.length) else ((0,r.2.1,r.2.2),x.data.length)
def sealsV (d:Disk):List Sg→Bool×Nat
 | []=>(true,0)
 | g::r=>if (sealedV d g).1 then ((sealsV d r).1,(sealedV d g).2+(sealsV d r).2) else (false,(sealedV d g).2)
def sizeN (d:Disk) (n:List UInt8):Nat:=match atF d.files n with | none=>0 | some f=>f.data.length
def sizesN (d:Disk) (ns:List (List UInt8)):Nat:=(ns.map (sizeN d)).sum
def freshD (d:Disk):Pl×Int:=
 if d.room - (usedF d.files:Int)+(sizesN d (straysD d false firstM):Int)<51∨700<(d.files.length:Int) - ((straysD d false firstM).length:Int)+2 then (planZ,54)
 else (⟨true,firstM,straysD d false firstM,22,0⟩,0)
def snapV (d:Disk) (m:Man):Bool×Nat:=if 0<m.snap then (decide ((bookV d m.snap).1.1=0)&&decide (((bookV d m.snap).1.2.1:Int)=m.snapSeq),(bookV d m.snap).2) else (true,0)
def planM (d:Disk) (m:Man):(Pl×Int)×Nat:=
 if (snapV d m).1=false then ((planZ,4),(snapV d m).2)
 else if (sealsV d m.segs.dropLast).1=false then ((planZ,4),(snapV d m).2+(sealsV d m.segs.dropLast).2)
 else if (activeV d (lastSg m)).1.2.2=false∨(lastSg m).first - 1+((activeV d (lastSg m)).1.2.1:Int)<m.snapSeq then ((planZ,4),(snapV d m).2+(sealsV d m.segs.dropLast).2+(activeV d (lastSg m)).2)
 else ((⟨false,m,straysD d true m,((activeV d (lastSg m)).1.1:Int),(lastSg m).first - 1+((activeV d (lastSg m)).1.2.1:Int)⟩,0),(snapV d m).2+(sealsV d m.segs.dropLast).2+(activeV d (lastSg m)).2)
def planD (d:Disk):(Pl×Int)×Nat:=
 if (loadM d).1.2.2≠0 then ((planZ,if (loadM d).1.2.2=80 then 4 else (loadM d).1.2.2),(loadM d).2)
 else if (loadM d).1.2.1=false then (freshD d,(loadM d).2)
 else ((planM d (loadM d).1.1).1,(loadM d).2+(planM d (loadM d).1.1).2)
theorem sizeN_some {d:Disk} {n:List UInt8} {x:Fil} (h:atF d.files n=some x):sizeN d n=x.data.length:=by unfold sizeN;rw [h]
theorem filD_at {d:Disk} {n:List UInt8} {x:Fil} (h:filD d n=some x):atF d.files n=some x:=by
 unfold filD at h
 split at h
 ·exact h
 ·cases h
theorem atF_take {n k:List UInt8} (fs:List Fil) (h:k≠n):atF (takeF n fs) k=atF fs k:=by
 unfold atF takeF
 rw [List.find?_filter]
 congr 1
 funext f
 by_cases hf:f.name=k
 ·simp [hf,h]
 ·simp [hf]
theorem sizes_le: ∀ (ns:List (List UInt8)) (fs:List Fil),Rise fs→ns.Nodup→(ns.map fun n=>match atF fs n with | none=>0 | some f=>f.data.length).sum≤usedF fs
 | [],fs,_,_=>by simp
 | n::ns,fs,hr,hn=>by
  obtain⟨h1,h2⟩:=List.nodup_cons.1 hn
  have ih:=sizes_le ns (takeF n fs) (rise_take hr) h2
  have e:(ns.map fun k=>match atF (takeF n fs) k with | none=>0 | some f=>f.data.length)=ns.map fun k=>match atF fs k with | none=>0 | some f=>f.data.length:=
   List.map_congr_left fun k hk=>by rw [atF_take fs (by rintro rfl;exact h1 hk)]
  rw [e] at ih
  rw [List.map_cons,List.sum_cons]
  rcases ha:atF fs n with _ | f
  ·rw [usedF_take_none ha] at ih
   simpa using ih
  ·have:=usedF_take hr ha
   simp only
   omega
theorem sizesN_le {d:Disk} {ns:List (List UInt8)} (h:Rise d.files) (hn:ns.Nodup):sizesN d ns≤usedF d.files:=by
 have:=sizes_le ns d.files h hn
 exact this
theorem load_read (d:Disk):(loadM d).2≤sizeN d manName:=by
 unfold loadM
 rcases h:filD d manName with _ | x
 ·dsimp only;split<;>exact Nat.zero_le _
 ·dsimp only
  rw [sizeN_some (filD_at h)]
  split<;>exact Nat.le_refl _
theorem book_read (d:Disk) (n:Int):(bookV d n).2≤sizeN d (bookName n):=by
 unfold bookV
 rcases h:filD d (bookName n) with _ | x
 ·exact Nat.zero_le _
 ·dsimp only
  rw [sizeN_some (filD_at h)]
  repeat' split
  all_goals exact Nat.le_refl _
theorem sealed_read (d:Disk) (g:Sg):(sealedV d g).2≤2*sizeN d (segName g.num):=by
 unfold sealedV
 rcases h:filD d (segName g.num) with _ | x
 ·exact Nat.zero_le _
 ·dsimp only
  rw [sizeN_some (filD_at h)]
  repeat' split
  all_goals simp only
  all_goals omega
theorem chain_nums (nx:Int): ∀ (l:List Sg) (first num:Int),chainOk nx first num l=true→l.Pairwise (fun a b=>a.num<b.num)∧ ∀ g∈l,num<g.num∧g.num<nx
 | [],_,_,h=>by simp [chainOk] at h
 | g::r,first,num,h=>by
  simp only [chainOk,Bool.and_eq_true,decide_eq_true_eq] at h
  obtain⟨⟨⟨a1,a2⟩,a3⟩,a4⟩:=h
  by_cases hr:r=[]
  ·subst hr
   exact⟨List.pairwise_singleton _ _,fun x hx=>by simp at hx;subst hx;exact⟨a2,a3⟩⟩
  ·rw [if_neg (by cases r<;>simp_all)] at a4
   simp only [Bool.and_eq_true,decide_eq_true_eq] at a4
   obtain⟨h1,h2⟩:=chain_nums nx r (first+g.count) g.num a4.2
   refine⟨List.pairwise_cons.2 ⟨fun x hx=>(h2 x hx).1,h1⟩,fun x hx=> ?_⟩
   rcases List.mem_cons.1 hx with rfl | hx
   ·exact⟨a2,a3⟩
   ·have:=h2 x hx;omega
theorem last_segs {m:Man} (h:ManFine m):m.segs=m.segs.dropLast++[lastSg m]∧lastSg m∈m.segs:=by
 obtain⟨g,h1,_,_,_,h2⟩:=chain_last _ _ _ _ h.chain
 have e:lastSg m=g:=by unfold lastSg;rw [h1];rfl
 rw [e]
 have hne:m.segs≠ []:=by rintro h;rw [h] at h1;cases h1
 refine⟨?_,h2⟩
 have h3:m.segs.getLast hne=g:=by rw [List.getLast?_eq_some_getLast hne] at h1;exact Option.some.inj h1
 rw [←h3]
 exact(List.dropLast_concat_getLast hne).symm
theorem load_ok {d:Disk} (h:(loadM d).1.2.1=true):manOk (loadM d).1.1=true∧(loadM d).1.2.2=0∧ ∃ x,filD d manName=some x∧decMan x.data=((loadM d).1.1,0):=by
 unfold loadM at h ⊢
 rcases hf:filD d manName with _ | x
 ·rw [hf] at h;dsimp only at h;split at h<;>cases h
 ·rw [hf] at h
  dsimp only at h ⊢
  split at h
  ·cases h
  ·rename_i hc
   rw [if_neg hc]
   have h0:(decMan x.data).2=0:=by simpa using hc
   refine⟨?_,rfl,x,rfl,Prod.ext rfl h0⟩
   show manOk (decMan x.data).1=true
   revert h0
   unfold decMan
   repeat' split
   ·simp
   ·simp
   ·rename_i h;intro _;simpa using h
   ·simp
theorem hdr_pos {b:List UInt8} {g:Sg} (h:(begV b g).2=true):20≤(begV b g).1∧(begV b g).1≤b.length:=by
 unfold begV at h ⊢
 simp only [Bool.and_eq_true,decide_eq_true_eq] at h
 have:=hdrOf_fine h.1.1
 exact⟨this.1,this.2.1⟩
theorem active_pos {d:Disk} {g:Sg} (h:(activeV d g).1.2.2=true):20≤(activeV d g).1.1:=by
 unfold activeV at h ⊢
 rcases hf:filD d (segName g.num) with _ | x
 ·rw [hf] at h;cases h
 ·rw [hf] at h
  dsimp only at h ⊢
  split at h
  ·cases h
  ·rename_i hc
   rw [if_neg hc]
   have:=hdr_pos (b:=x.data) (g:=g) (by simpa using hc)
   show 20≤(scanRun _ _ _ _).2
   unfold scanRun
   simp only
   omega
theorem plan_bad {d:Disk} (h:(planD d).1.2≠0):(planD d).1.1=planZ:=by
 unfold planD planM freshD at h ⊢
 repeat' split
 all_goals first
  | rfl
  | (exfalso;simp_all)
theorem plan_errs {d:Disk} (hd:d.down=false):(planD d).1.2=0∨(planD d).1.2=4∨(planD d).1.2=54:=by
 have hl:(loadM d).1.2.2=0∨(loadM d).1.2.2=80:=by
  unfold loadM
  rcases hf:filD d manName with _ | x
  ·dsimp only
   split
   ·exact .inl rfl
   ·rename_i h
    exfalso
    unfold filD at hf
    unfold openE at h hf
    rw [hd,show rightName manName=true by decide] at h hf
    rcases ha:atF d.files manName with _ | f
    ·rw [ha] at h;simp at h
    ·rw [ha] at hf;simp at hf
  ·dsimp only
   split
   ·rename_i h
    right
    show (decMan x.data).2=80
    revert h
    unfold decMan
    repeat' split
    all_goals simp
   ·exact .inl rfl
 unfold planD planM freshD
 rcases hl with h | h
 ·rw [if_neg (by rw [h];simp)]
  repeat' split
  all_goals simp
 ·rw [if_pos (by rw [h];decide),if_pos h]
  simp
theorem strays_sub (d:Disk) (t:Bool) (m:Man) (h:Rise d.files):(straysD d t m).Pairwise (fun a b=>bytesBefore a b=true)∧ ∀ n∈straysD d t m,∃ x,atF d.files n=some x:=by
 unfold straysD
 refine⟨List.Pairwise.filter _ (List.pairwise_map.2 h),fun n hn=> ?_⟩
 obtain⟨h1,_⟩:=List.mem_filter.1 hn
 obtain⟨f,hf,rfl⟩:=List.mem_map.1 h1
 rcases ha:atF d.files f.name with _ | x
 ·have:=List.find?_eq_none.1 ha f hf
  simp at this
 ·exact⟨x,rfl⟩
theorem plan_good {d:Disk} (h:(planD d).1.2=0):(planD d).1.1.man.snapSeq≤(planD d).1.1.last∧0<(planD d).1.1.cut∧ ∃ t m,(planD d).1.1.remove=straysD d t m:=by
 unfold planD at h ⊢
 split at h
 ·rename_i h1
  exfalso
  simp only at h
  split at h
  ·cases h
  ·exact h1 h
 ·rename_i h1
  rw [if_neg h1]
  split at h
  ·rename_i h2
   rw [if_pos h2]
   unfold freshD at h ⊢
   split at h
   ·cases h
   ·rename_i h3
    simp only [if_neg h3]
    exact⟨by decide,by decide,_,_,rfl⟩
  ·rename_i h2
   rw [if_neg h2]
   simp only at h ⊢
   unfold planM at h ⊢
   split at h
   ·cases h
   ·rename_i h3
    rw [if_neg h3]
    split at h
    ·cases h
    ·rename_i h4
     rw [if_neg h4]
     split at h
     ·cases h
     ·rename_i h5
      rw [if_neg h5]
      have ha:(activeV d (lastSg (loadM d).1.1)).1.2.2=true:=by
       rcases hx:(activeV d (lastSg (loadM d).1.1)).1.2.2
       ·exact absurd (.inl hx) h5
       ·rfl
      have hp:=active_pos ha
      have h6: ¬ (lastSg (loadM d).1.1).first - 1+((activeV d (lastSg (loadM d).1.1)).1.2.1:Int)<(loadM d).1.1.snapSeq:=fun h=>h5 (.inr h)
      simp only
      exact⟨by omega,by omega,_,_,rfl⟩
end Go.Proofs.YtcglcphhfmkccaaGreatDoor

namespace Go.Proofs.YtcglcphhfmkccaaGreatDoor
open Go.RowKit
theorem size_nat (a:Nat) (w:World) (ha:a<9223372036854775808):Calls Tryz.prog 137 #[.int .i64 (a:Int)] w fun e w'=>e= .returned (.tuple #[.int .u64 (a:Int),.bool false])∧w=w':=by
 have a0: ¬ ((a:Int)<0):=by omega
 have ea:IntKind.u64.wrap (a:Int)=(a:Int):=by rw [IntKind.wrap_u64];omega
 go_enter Tryz.func137,Tryz.ntmps137
 go_wp2
 go_ret2
 exact⟨rfl,rfl⟩
theorem signed_nat (q:Nat) (w:World) (hq:q<9223372036854775808):Calls Tryz.prog 140 #[.int .u64 (q:Int),.bool false] w fun e w'=>e= .returned (.tuple #[.int .i64 (q:Int),.bool true])∧w=w':=by
 have k7:(q:Int)<9223372036854775808:=by omega
 have k8:decide ((q:Int)<9223372036854775808)=true:=by rw [decide_eq_true_eq];exact k7
 have k6:IntKind.i64.wrap (q:Int)=(q:Int):=by rw [IntKind.wrap_i64];omega
 go_enter Tryz.func140,Tryz.ntmps140
 go_wp2
 go_ret2
 exact⟨rfl,rfl⟩
set_option maxRecDepth 100000 in
theorem div64_small (p d:Nat) (w:World) (hp:p<18446744073709551616) (hd0:0<d) (hd:d<18446744073709551616):
  Calls Tryz.prog 139 #[.int .u64 0,.int .u64 (p:Int),.int .u64 (d:Int)] w fun e w'=>e= .returned (.tuple #[.int .u64 ((p / d:Nat):Int),.int .u64 ((p % d:Nat):Int)])∧Below w.heap.size w w':=by
 obtain⟨q,hq⟩: ∃ q,q=p / d:=⟨_,rfl⟩
 obtain⟨r,hr⟩: ∃ r,r=p % d:=⟨_,rfl⟩
 have hqb:q≤p:=by rw [hq];exact Nat.div_le_self _ _
 have hrb:r<d:=by rw [hr];exact Nat.mod_lt _ hd0
 have k1: ¬ ((d:Int)≤0):=by omega
 have k1':((d:Int)==0)=false:=by rw [beq_eq_false_iff_ne];omega
 have k0: ¬ (d=0):=by omega
 have k2:(p:Int) / (d:Int)=(q:Int):=by rw [hq];rfl
 have k3:(p:Int) % (d:Int)=(r:Int):=by rw [hr];rfl
 have k2':(p:Int).tdiv (d:Int)=(q:Int):=by rw [hq];rfl
 have k3':(p:Int).tmod (d:Int)=(r:Int):=by rw [hr];rfl
 have k4:IntKind.u64.wrap (q:Int)=(q:Int):=by rw [IntKind.wrap_u64];omega
 have k5:IntKind.u64.wrap (r:Int)=(r:Int):=by rw [IntKind.wrap_u64];omega
 rw [←hq,←hr]
 clear hq hr hqb hrb hp hd
 go_enter Tryz.func139,Tryz.ntmps139
 go_wp2
 go_quiet (fail)
 go_wp2
 go_ret2
 exact⟨rfl,below_drewN' _ _⟩
set_option maxRecDepth 100000 in
set_option maxHeartbeats 4000000 in
theorem mulDivS_any (a b d:Nat) (w:World) (ha:a<9223372036854775808) (hb:b<9223372036854775808) (hd0:0<d) (hd:d<9223372036854775808) (hp:a*b<9223372036854775808):
  Calls Tryz.prog 134 #[.int .i64 (a:Int),.int .i64 (b:Int),.int .i64 (d:Int)] w fun e w'=>e= .returned (.tuple #[.int .i64 ((a*b / d:Nat):Int),.bool true])∧Below w.heap.size w w':=by
 obtain⟨p,hpp⟩: ∃ p,p=a*b:=⟨_,rfl⟩
 rw [←hpp] at hp
 have h1:a*b / 18446744073709551616=0:=by rw [←hpp];omega
 have h2:a*b % 18446744073709551616=p:=by rw [←hpp];omega
 have HM:=Lib.hid (fun W=>Tryz.bits_Mul64 a b (by omega) (by omega) W)
 rw [h1,h2] at HM
 rw [←hpp]
 have HSA:=Lib.hid (fun W=>size_nat a W ha)
 have HSB:=Lib.hid (fun W=>size_nat b W hb)
 have HSD:=Lib.hid (fun W=>size_nat d W hd)
 have HDV:=Lib.hid (fun W=>div64_small p d W (by omega) hd0 (by omega))
 obtain⟨q,hq⟩: ∃ q,q=p / d:=⟨_,rfl⟩
 rw [←hq] at HDV ⊢
 have hqb:q≤p:=by rw [hq];exact Nat.div_le_self _ _
 have HSG:=Lib.hid (fun W=>signed_nat q W (by omega))
 have k1: ¬ ((d:Int)≤0):=by omega
 clear hpp h1 h2 hq hp hd0 hd ha hb hqb
 go_enter Tryz.func134,Tryz.ntmps134
 go_wp2_with (first
  | (go_at_call 138;(with_reducible refine(HM.out _).mono ?_);rintro e w1 ⟨rfl,rfl⟩)
  | (go_at_call 137;(with_reducible refine(HSA.out _).mono ?_);rintro e w1 ⟨rfl,rfl⟩)
  | (go_at_call 137;(with_reducible refine(HSB.out _).mono ?_);rintro e w1 ⟨rfl,rfl⟩)
  | (go_at_call 137;(with_reducible refine(HSD.out _).mono ?_);rintro e w1 ⟨rfl,rfl⟩)
  | (go_at_call 139;(with_reducible refine(HDV.out _).mono ?_);rintro e w1 ⟨rfl,hb1⟩)
  | (go_at_call 140;(with_reducible refine(HSG.out _).mono ?_);rintro e w1 ⟨rfl,rfl⟩))
 go_ret2
 exact⟨rfl,hb1⟩
end Go.Proofs.YtcglcphhfmkccaaGreatDoor

namespace Go.Proofs.YtcglcphhfmkccaaGreatDoor
open Go.RowKit
theorem swithin_any (x lo hi:Int) (w:World):Calls Tryz.prog 168 #[.int .i64 x,.int .i64 lo,.int .i64 hi] w fun e w'=>e= .returned (.bool (btw x lo hi))∧w=w':=by
 by_cases h1:lo≤x
 ·by_cases h2:x≤hi
  ·have hr:=Lib.hid (show btw x lo hi=true by simp [btw,h1,h2])
   have d1:=decide_eq_true h1
   have d2:=decide_eq_true h2
   go_enter Tryz.func168,Tryz.ntmps168
   go_wp2
   go_ret
   exact⟨by rw [hr.out];rfl,rfl⟩
  ·have hr:=Lib.hid (show btw x lo hi=false by simp [btw,h2])
   have d1:=decide_eq_true h1
   have d2:=decide_eq_false h2
   go_enter Tryz.func168,Tryz.ntmps168
   go_wp2
   go_ret
   exact⟨by rw [hr.out];rfl,rfl⟩
 ·have hr:=Lib.hid (show btw x lo hi=false by simp [btw,h1])
  have d1:=decide_eq_false h1
  go_enter Tryz.func168,Tryz.ntmps168
  go_wp2
  go_ret
  exact⟨by rw [hr.out];rfl,rfl⟩
def coreB (e:Ev) (least dear:Int):Bool:=btw e.order 1 1099511627776&&btw e.item 0 65535&&btw e.qty least 10000&&btw e.price 0 dear
@[reducible] def v1V (e : Ev) : Value := .agg #[.int .i64 e.kind, .int .i64 e.order, .int .i64 e.item, .int .i64 e.qty, .int .i64 e.price]
@[reducible] def v2V (e : Ev) : Value := .agg #[.int .i64 e.kind, .int .i64 e.order, .int .i64 e.item, .int .i64 e.qty, .int .i64 e.price, .int .i64 e.cur]
@[reducible] def v3V (e : Ev) : Value := .agg #[.int .i64 e.kind, .int .i64 e.order, .int .i64 e.item, .int .i64 e.qty, .int .i64 e.price, .int .i64 e.cur, .int .i64 e.tax]
@[reducible] def v4V (e : Ev) : Value := .agg #[.int .i64 e.kind, .int .i64 e.order, .int .i64 e.item, .int .i64 e.qty, .int .i64 e.price, .int .i64 e.cur, .int .i64 e.tax, .string ⟨e.who.toArray⟩]
@[reducible] def v5V (e : Ev) : Value := .agg #[.int .i64 e.kind, .int .i64 e.order, .int .i64 e.item, .int .i64 e.qty, .int .i64 e.price, .int .i64 e.cur, .int .i64 e.tax, .string ⟨e.who.toArray⟩, .int .i64 e.stamp, .string ⟨e.note.toArray⟩]
set_option maxHeartbeats 1000000 in
theorem core_any (e:Ev) (least dear:Int) (w:World):Calls Tryz.prog 167 #[v1V e,.int .i64 least,.int .i64 dear] w fun x w'=>x= .returned (.bool (coreB e least dear))∧Below w.heap.size w w':=by
 obtain⟨b1,hb1⟩: ∃ b,b=btw e.order 1 1099511627776:=⟨_,rfl⟩
 obtain⟨b2,hb2⟩: ∃ b,b=btw e.item 0 65535:=⟨_,rfl⟩
 obtain⟨b3,hb3⟩: ∃ b,b=btw e.qty least 10000:=⟨_,rfl⟩
 obtain⟨b4,hb4⟩: ∃ b,b=btw e.price 0 dear:=⟨_,rfl⟩
 have hr:=Lib.hid (show coreB e least dear=(b1&&b2&&b3&&b4) by rw [coreB,hb1,hb2,hb3,hb4])
 have W1:=Lib.hid (fun W=>hb1▸swithin_any e.order 1 1099511627776 W)
 have W2:=Lib.hid (fun W=>hb2▸swithin_any e.item 0 65535 W)
 have W3:=Lib.hid (fun W=>hb3▸swithin_any e.qty least 10000 W)
 have W4:=Lib.hid (fun W=>hb4▸swithin_any e.price 0 dear W)
 clear hb1 hb2 hb3 hb4
 cases b1<;>cases b2<;>cases b3<;>cases b4
 all_goals
  go_enter Tryz.func167,Tryz.ntmps167
  go_wp2_with (first
   | (go_at_call 168;(with_reducible refine(W1.out _).mono ?_);rintro x w' ⟨rfl,rfl⟩)
   | (go_at_call 168;(with_reducible refine(W2.out _).mono ?_);rintro x w' ⟨rfl,rfl⟩)
   | (go_at_call 168;(with_reducible refine(W3.out _).mono ?_);rintro x w' ⟨rfl,rfl⟩)
   | (go_at_call 168;(with_reducible refine(W4.out _).mono ?_);rintro x w' ⟨rfl,rfl⟩))
  go_ret
  exact⟨by rw [hr.out];rfl,(Below.refl _ _).alloc (Nat.le_refl _) _⟩
end Go.Proofs.YtcglcphhfmkccaaGreatDoor
namespace Go.Proofs.YtcglcphhfmkccaaGreatDoor
open Go.RowKit
theorem last5_any (e:Ev) (w:World):Calls Tryz.prog 183 #[v5V e] w fun x w'=>x= .returned (.int .i64 10)∧Below w.heap.size w w':=by
 unfold v5V
 go_enter Tryz.func183,Tryz.ntmps183
 go_wp2
 go_ret
 exact⟨rfl,(Below.refl _ _).alloc (Nat.le_refl _) _⟩
set_option maxHeartbeats 1000000 in
theorem plain_any (s:List UInt8) (w:World) (hs:s.length≤9223372036854775000):Calls Tryz.prog 180 #[.string ⟨s.toArray⟩] w fun x w'=>x= .returned (.bool (plainS s))∧Below w.heap.size w w':=by
 go_enter Tryz.func180,Tryz.ntmps180
 go_wp2
 go_loopw [7] (fun i wr=> ∃ k:Nat,k≤s.length∧i= .int .i64 k∧Hid (plainS (s.take k)=true)∧w=wr) (fun i _=>s.length - (intOf i).toNat)
 case atStart=>exact⟨0,by omega,rfl,Lib.hid rfl,rfl⟩
 case round=>
  obtain⟨k,hk,rfl,HP,rfl⟩:=hrel
  by_cases hlt:k<s.length
  ·obtain⟨x,hx,ht,hmem⟩:=nth s k hlt
   have gx: ∀ hh,(⟨s.toArray⟩:ByteArray)[k]'hh=x:=ba_get hx
   have HX:=Lib.hid (show plainS (s.take (k+1))=plainC x by
    rw [ht];unfold plainS;rw [List.all_append];have:=HP.out;unfold plainS at this;rw [this];simp)
   have hxl:=x.toNat_lt
   have hno:Hid (plainC x=false→plainS s=false):=Lib.hid fun h=>by
    rw [←Bool.not_eq_true];intro h2
    have:=List.all_eq_true.1 h2 x hmem
    rw [h] at this;cases this
   clear hx ht hmem
   have hpc:Hid (plainC x=true↔x.toNat=45∨(48≤x.toNat∧x.toNat≤57)∨(97≤x.toNat∧x.toNat≤122)):=Lib.hid (by
    simp only [plainC,Bool.or_eq_true,Bool.and_eq_true,beq_iff_eq,decide_eq_true_eq];omega)
   by_cases hp:plainC x=true
   ·have hpa:=hpc.out.1 hp
    have HP2:=Lib.hid (HX.out.trans hp)
    clear hp
    by_cases h45:x.toNat=45
    ·have k45:((x.toNat:Int) != 45)=false:=by rw [bne_eq_false_iff_eq];omega
     clear hpa h45
     go_wp2
     go_roundw
     case rel=>exact⟨k+1,by omega,by go_num,HP2,trivial⟩
     case measure=>simp [intOf];omega
    ·have k45:((x.toNat:Int) != 45)=true:=by rw [bne_iff_ne];omega
     by_cases h57:x.toNat≤57
     ·have hr:48≤x.toNat:=by omega
      have t48:decide ((x.toNat:Int)<48)=false:=by simp;omega
      have t57:decide ((57:Int)<x.toNat)=false:=by simp;omega
      have t97:decide ((x.toNat:Int)<97)=true:=by simp;omega
      have t122:decide ((122:Int)<x.toNat)=false:=by simp;omega
      clear hpa h45 h57 hr
      go_wp2
      go_roundw
      case rel=>exact⟨k+1,by omega,by go_num,HP2,trivial⟩
      case measure=>simp [intOf];omega
     ·have hr:97≤x.toNat∧x.toNat≤122:=by omega
      have t48:decide ((x.toNat:Int)<48)=false:=by simp;omega
      have t57:decide ((57:Int)<x.toNat)=true:=by simp;omega
      have t97:decide ((x.toNat:Int)<97)=false:=by simp;omega
      have t122:decide ((122:Int)<x.toNat)=false:=by simp;omega
      clear hpa h45 h57 hr
      go_wp2
      go_roundw
      case rel=>exact⟨k+1,by omega,by go_num,HP2,trivial⟩
      case measure=>simp [intOf];omega
   ·have hpa: ¬ (x.toNat=45∨(48≤x.toNat∧x.toNat≤57)∨(97≤x.toNat∧x.toNat≤122)):=fun h=>hp (hpc.out.2 h)
    have hfin:=Lib.hid (hno.out (by simpa using hp))
    have k45:((x.toNat:Int) != 45)=true:=by rw [bne_iff_ne];omega
    clear hp
    by_cases h48:x.toNat<48
    ·have hr:x.toNat<48:=h48
     have t48:decide ((x.toNat:Int)<48)=true:=by simp;omega
     have t57:decide ((57:Int)<x.toNat)=false:=by simp;omega
     have t97:decide ((x.toNat:Int)<97)=true:=by simp;omega
     have t122:decide ((122:Int)<x.toNat)=false:=by simp;omega
     clear hpa h48 hr
     go_wp2
     go_ret
     exact⟨by rw [hfin.out];rfl,Below.refl _ _⟩
    ·by_cases h97:x.toNat<97
     ·have hr:57<x.toNat:=by omega
      have t48:decide ((x.toNat:Int)<48)=false:=by simp;omega
      have t57:decide ((57:Int)<x.toNat)=true:=by simp;omega
      have t97:decide ((x.toNat:Int)<97)=true:=by simp;omega
      have t122:decide ((122:Int)<x.toNat)=false:=by simp;omega
      clear hpa h48 h97 hr
      go_wp2
      go_ret
      exact⟨by rw [hfin.out];rfl,Below.refl _ _⟩
     ·have hr:122<x.toNat:=by omega
      have t48:decide ((x.toNat:Int)<48)=false:=by simp;omega
      have t57:decide ((57:Int)<x.toNat)=true:=by simp;omega
      have t97:decide ((x.toNat:Int)<97)=false:=by simp;omega
      have t122:decide ((122:Int)<x.toNat)=true:=by simp;omega
      clear hpa h48 h97 hr
      go_wp2
      go_ret
      exact⟨by rw [hfin.out];rfl,Below.refl _ _⟩
  ·obtain rfl:k=s.length:=by omega
   have hfin:=Lib.hid (show plainS s=true by simpa using HP.out)
   go_wp2
   go_ret
   exact⟨by rw [hfin.out];rfl,Below.refl _ _⟩
def fits2 (e:Ev):Bool:=coreB e (-10000) 100000000&&btw e.cur 0 3
def fits3 (e:Ev):Bool:=fits2 e&&decide (0≤e.qty)&&btw e.tax 0 5000
def fits4 (e:Ev):Bool:=fits3 e&&plainS e.who
def fits5 (e:Ev):Bool:=fits4 e&&btw e.stamp 0 1099511627776
set_option maxHeartbeats 1000000 in
theorem fits2_any (e:Ev) (w:World):Calls Tryz.prog 170 #[v2V e] w fun x w'=>x= .returned (.bool (fits2 e))∧Below w.heap.size w w':=by
 obtain⟨b1,hb1⟩: ∃ b,b=coreB e (-10000) 100000000:=⟨_,rfl⟩
 obtain⟨b2,hb2⟩: ∃ b,b=btw e.cur 0 3:=⟨_,rfl⟩
 have hr:=Lib.hid (show fits2 e=(b1&&b2) by rw [fits2,hb1,hb2])
 have W1:=Lib.hid (fun W=>hb1▸core_any e (-10000) 100000000 W)
 have W2:=Lib.hid (fun W=>hb2▸swithin_any e.cur 0 3 W)
 clear hb1 hb2
 cases b1<;>cases b2
 all_goals
  unfold v2V
  go_enter Tryz.func170,Tryz.ntmps170
  go_wp2_with fail
  refine(W1.out _).mono ?_
  rintro x w2 ⟨rfl,hb⟩
  have c1:w2.cell? ⟨w.heap.size,5,none⟩=some (.int .i64 e.cur):=cell_later hb (by rw [World.cell?_alloc_new];rfl)
  have HB:=Lib.hid hb
  clear hb
  go_wp2_with (first | (go_at_call 168;(with_reducible refine(W2.out _).mono ?_);rintro x w' ⟨rfl,rfl⟩))
  go_ret
  exact⟨by rw [hr.out];rfl,Below.next ((Below.refl _ _).alloc (Nat.le_refl _) _) HB.out⟩
set_option maxHeartbeats 1000000 in
theorem fits3_any (e:Ev) (w:World):Calls Tryz.prog 173 #[v3V e] w fun x w'=>x= .returned (.bool (fits3 e))∧Below w.heap.size w w':=by
 obtain⟨b1,hb1⟩: ∃ b,b=fits2 e:=⟨_,rfl⟩
 obtain⟨b2,hb2⟩: ∃ b,b=decide (0≤e.qty):=⟨_,rfl⟩
 obtain⟨b3,hb3⟩: ∃ b,b=btw e.tax 0 5000:=⟨_,rfl⟩
 have hr:=Lib.hid (show fits3 e=(b1&&b2&&b3) by rw [fits3,hb1,hb2,hb3])
 have W1:=Lib.hid (fun W=>hb1▸fits2_any e W)
 have W2:=Lib.hid (fun W=>hb3▸swithin_any e.tax 0 5000 W)
 clear hb1 hb3
 cases b1<;>cases b2<;>cases b3
 all_goals
  have k:=hb2.symm
  clear hb2
  unfold v3V
  go_enter Tryz.func173,Tryz.ntmps173
  go_wp2_with fail
  refine(W1.out _).mono ?_
  rintro x w2 ⟨rfl,hb⟩
  have c1:w2.cell? ⟨w.heap.size,3,none⟩=some (.int .i64 e.qty):=cell_later hb (by rw [World.cell?_alloc_new];rfl)
  have c2:w2.cell? ⟨w.heap.size,6,none⟩=some (.int .i64 e.tax):=cell_later hb (by rw [World.cell?_alloc_new];rfl)
  have HB:=Lib.hid hb
  clear hb
  go_wp2_with (first | (go_at_call 168;(with_reducible refine(W2.out _).mono ?_);rintro x w' ⟨rfl,rfl⟩))
  go_ret
  exact⟨by rw [hr.out];rfl,Below.next ((Below.refl _ _).alloc (Nat.le_refl _) _) HB.out⟩
set_option maxHeartbeats 1000000 in
theorem fits4_any (e:Ev) (w:World) (hs:e.who.length≤9223372036854775000):Calls Tryz.prog 177 #[v4V e] w fun x w'=>x= .returned (.bool (fits4 e))∧Below w.heap.size w w':=by
 obtain⟨b1,hb1⟩: ∃ b,b=fits3 e:=⟨_,rfl⟩
 obtain⟨b2,hb2⟩: ∃ b,b=plainS e.who:=⟨_,rfl⟩
 have hr:=Lib.hid (show fits4 e=(b1&&b2) by rw [fits4,hb1,hb2])
 have W1:=Lib.hid (fun W=>hb1▸fits3_any e W)
 have W2:=Lib.hid (fun W=>hb2▸plain_any e.who W hs)
 clear hb1 hb2
 cases b1<;>cases b2
 all_goals
  unfold v4V
  go_enter Tryz.func177,Tryz.ntmps177
  go_wp2_with fail
  refine(W1.out _).mono ?_
  rintro x w2 ⟨rfl,hb⟩
  have c1:w2.cell? ⟨w.heap.size,7,none⟩=some (.string ⟨e.who.toArray⟩):=cell_later hb (by rw [World.cell?_alloc_new];rfl)
  have HB:=Lib.hid (Below.next ((Below.refl _ _).alloc (Nat.le_refl _) _) hb)
  clear hb
  go_wp2_with (first | (go_at_call 180;(with_reducible refine(W2.out _).mono ?_);rintro x w3 ⟨rfl,hb3⟩))
  go_ret
  exact⟨by rw [hr.out];rfl,by first | exact Below.next HB.out hb3 | exact HB.out⟩
set_option maxHeartbeats 1000000 in
theorem fits5_any (e:Ev) (w:World) (hs:e.who.length≤9223372036854775000):Calls Tryz.prog 182 #[v5V e] w fun x w'=>x= .returned (.bool (fits5 e))∧Below w.heap.size w w':=by
 obtain⟨b1,hb1⟩: ∃ b,b=fits4 e:=⟨_,rfl⟩
 obtain⟨b2,hb2⟩: ∃ b,b=btw e.stamp 0 1099511627776:=⟨_,rfl⟩
 have hr:=Lib.hid (show fits5 e=(b1&&b2) by rw [fits5,hb1,hb2])
 have W1:=Lib.hid (fun W=>hb1▸fits4_any e W hs)
 have W2:=Lib.hid (fun W=>hb2▸swithin_any e.stamp 0 1099511627776 W)
 clear hb1 hb2
 cases b1<;>cases b2
 all_goals
  unfold v5V
  go_enter Tryz.func182,Tryz.ntmps182
  go_wp2_with fail
  refine(W1.out _).mono ?_
  rintro x w2 ⟨rfl,hb⟩
  have c1:w2.cell? ⟨w.heap.size,8,none⟩=some (.int .i64 e.stamp):=cell_later hb (by rw [World.cell?_alloc_new];rfl)
  have HB:=Lib.hid hb
  clear hb
  go_wp2_with (first | (go_at_call 168;(with_reducible refine(W2.out _).mono ?_);rintro x w' ⟨rfl,rfl⟩))
  go_ret
  exact⟨by rw [hr.out];rfl,Below.next ((Below.refl _ _).alloc (Nat.le_refl _) _) HB.out⟩
end Go.Proofs.YtcglcphhfmkccaaGreatDoor
namespace Go.Proofs.YtcglcphhfmkccaaGreatDoor
open Go.RowKit
def ev1 (e:Ev):Ev:={e with cur:=0,tax:=0,who:=[],stamp:=0,note:=[]}
def ev2 (e:Ev):Ev:={e with tax:=0,who:=[],stamp:=0,note:=[]}
def ev3 (e:Ev):Ev:={e with who:=[],stamp:=0,note:=[]}
def ev4 (e:Ev):Ev:={e with stamp:=0,note:=[]}
theorem event1_x (e:Ev) (w:World):Calls Tryz.prog 162 #[v1V e] w fun x w'=>x= .returned (evV (ev1 e))∧((w.alloc (.cells #[.int .i64 e.kind,.int .i64 e.order,.int .i64 e.item,.int .i64 e.qty,.int .i64 e.price] 243)).alloc (.cells #[.int .i64 e.kind,.int .i64 e.order,.int .i64 e.item,.int .i64 e.qty,.int .i64 e.price,.int .i64 0,.int .i64 0,.string ⟨#[]⟩,.int .i64 0,.string ⟨#[]⟩] 229))=w':=by
 unfold v1V
 go_enter Tryz.func162,Tryz.ntmps162
 go_wp2
 refine bodyPost_ret (v:= .agg #[.int .i64 e.kind,.int .i64 e.order,.int .i64 e.item,.int .i64 e.qty,.int .i64 e.price,.int .i64 0,.int .i64 0,.string ⟨#[]⟩,.int .i64 0,.string ⟨#[]⟩]) (by simp [results,Tryz.results162,go_sem]) rfl ⟨rfl,rfl⟩
theorem event2_x (e:Ev) (w:World):Calls Tryz.prog 169 #[v2V e] w fun x w'=>x= .returned (evV (ev2 e))∧(((((w.alloc (.cells #[.int .i64 e.kind,.int .i64 e.order,.int .i64 e.item,.int .i64 e.qty,.int .i64 e.price,.int .i64 e.cur] 245)).alloc (.cells #[.int .i64 e.kind,.int .i64 e.order,.int .i64 e.item,.int .i64 e.qty,.int .i64 e.price,.int .i64 e.cur,.int .i64 0,.string ⟨#[]⟩,.int .i64 0,.string ⟨#[]⟩] 229)).alloc (.cells #[.int .i64 e.kind,.int .i64 e.order,.int .i64 e.item,.int .i64 e.qty,.int .i64 e.price] 243)).alloc (.cells #[.int .i64 e.kind,.int .i64 e.order,.int .i64 e.item,.int .i64 e.qty,.int .i64 e.price,.int .i64 0,.int .i64 0,.string ⟨#[]⟩,.int .i64 0,.string ⟨#[]⟩] 229)).alloc (.cells #[.int .i64 e.kind,.int .i64 e.order,.int .i64 e.item,.int .i64 e.qty,.int .i64 e.price,.int .i64 e.cur,.int .i64 0,.string ⟨#[]⟩,.int .i64 0,.string ⟨#[]⟩] 229))=w':=by
 unfold v2V
 go_enter Tryz.func169,Tryz.ntmps169
 go_wp2_with (go_at_call 162;(with_reducible refine(event1_x e _).mono ?_);rintro x w' ⟨rfl,rfl⟩)
 refine bodyPost_ret (v:= .agg #[.int .i64 e.kind,.int .i64 e.order,.int .i64 e.item,.int .i64 e.qty,.int .i64 e.price,.int .i64 e.cur,.int .i64 0,.string ⟨#[]⟩,.int .i64 0,.string ⟨#[]⟩]) (by simp [results,Tryz.results169,go_sem,ev1]) rfl ⟨rfl,rfl⟩
theorem event3_x (e:Ev) (w:World):Calls Tryz.prog 172 #[v3V e] w fun x w'=>x= .returned (evV (ev3 e))∧((((((((w.alloc (.cells #[.int .i64 e.kind,.int .i64 e.order,.int .i64 e.item,.int .i64 e.qty,.int .i64 e.price,.int .i64 e.cur,.int .i64 e.tax] 247)).alloc (.cells #[.int .i64 e.kind,.int .i64 e.order,.int .i64 e.item,.int .i64 e.qty,.int .i64 e.price,.int .i64 e.cur,.int .i64 e.tax,.string ⟨#[]⟩,.int .i64 0,.string ⟨#[]⟩] 229)).alloc (.cells #[.int .i64 e.kind,.int .i64 e.order,.int .i64 e.item,.int .i64 e.qty,.int .i64 e.price,.int .i64 e.cur] 245)).alloc (.cells #[.int .i64 e.kind,.int .i64 e.order,.int .i64 e.item,.int .i64 e.qty,.int .i64 e.price,.int .i64 e.cur,.int .i64 0,.string ⟨#[]⟩,.int .i64 0,.string ⟨#[]⟩] 229)).alloc (.cells #[.int .i64 e.kind,.int .i64 e.order,.int .i64 e.item,.int .i64 e.qty,.int .i64 e.price] 243)).alloc (.cells #[.int .i64 e.kind,.int .i64 e.order,.int .i64 e.item,.int .i64 e.qty,.int .i64 e.price,.int .i64 0,.int .i64 0,.string ⟨#[]⟩,.int .i64 0,.string ⟨#[]⟩] 229)).alloc (.cells #[.int .i64 e.kind,.int .i64 e.order,.int .i64 e.item,.int .i64 e.qty,.int .i64 e.price,.int .i64 e.cur,.int .i64 0,.string ⟨#[]⟩,.int .i64 0,.string ⟨#[]⟩] 229)).alloc (.cells #[.int .i64 e.kind,.int .i64 e.order,.int .i64 e.item,.int .i64 e.qty,.int .i64 e.price,.int .i64 e.cur,.int .i64 e.tax,.string ⟨#[]⟩,.int .i64 0,.string ⟨#[]⟩] 229))=w':=by
 unfold v3V
 go_enter Tryz.func172,Tryz.ntmps172
 go_wp2_with (go_at_call 169;(with_reducible refine(event2_x e _).mono ?_);rintro x w' ⟨rfl,rfl⟩)
 refine bodyPost_ret (v:= .agg #[.int .i64 e.kind,.int .i64 e.order,.int .i64 e.item,.int .i64 e.qty,.int .i64 e.price,.int .i64 e.cur,.int .i64 e.tax,.string ⟨#[]⟩,.int .i64 0,.string ⟨#[]⟩]) (by simp [results,Tryz.results172,go_sem,ev2]) rfl ⟨rfl,rfl⟩
theorem event4_x (e:Ev) (w:World):Calls Tryz.prog 176 #[v4V e] w fun x w'=>x= .returned (evV (ev4 e))∧(((((((((((w.alloc (.cells #[.int .i64 e.kind,.int .i64 e.order,.int .i64 e.item,.int .i64 e.qty,.int .i64 e.price,.int .i64 e.cur,.int .i64 e.tax,.string ⟨e.who.toArray⟩] 249)).alloc (.cells #[.int .i64 e.kind,.int .i64 e.order,.int .i64 e.item,.int .i64 e.qty,.int .i64 e.price,.int .i64 e.cur,.int .i64 e.tax,.string ⟨e.who.toArray⟩,.int .i64 0,.string ⟨#[]⟩] 229)).alloc (.cells #[.int .i64 e.kind,.int .i64 e.order,.int .i64 e.item,.int .i64 e.qty,.int .i64 e.price,.int .i64 e.cur,.int .i64 e.tax] 247)).alloc (.cells #[.int .i64 e.kind,.int .i64 e.order,.int .i64 e.item,.int .i64 e.qty,.int .i64 e.price,.int .i64 e.cur,.int .i64 e.tax,.string ⟨#[]⟩,.int .i64 0,.string ⟨#[]⟩] 229)).alloc (.cells #[.int .i64 e.kind,.int .i64 e.order,.int .i64 e.item,.int .i64 e.qty,.int .i64 e.price,.int .i64 e.cur] 245)).alloc (.cells #[.int .i64 e.kind,.int .i64 e.order,.int .i64 e.item,.int .i64 e.qty,.int .i64 e.price,.int .i64 e.cur,.int .i64 0,.string ⟨#[]⟩,.int .i64 0,.string ⟨#[]⟩] 229)).alloc (.cells #[.int .i64 e.kind,.int .i64 e.order,.int .i64 e.item,.int .i64 e.qty,.int .i64 e.price] 243)).alloc (.cells #[.int .i64 e.kind,.int .i64 e.order,.int .i64 e.item,.int .i64 e.qty,.int .i64 e.price,.int .i64 0,.int .i64 0,.string ⟨#[]⟩,.int .i64 0,.string ⟨#[]⟩] 229)).alloc (.cells #[.int .i64 e.kind,.int .i64 e.order,.int .i64 e.item,.int .i64 e.qty,.int .i64 e.price,.int .i64 e.cur,.int .i64 0,.string ⟨#[]⟩,.int .i64 0,.string ⟨#[]⟩] 229)).alloc (.cells #[.int .i64 e.kind,.int .i64 e.order,.int .i64 e.item,.int .i64 e.qty,.int .i64 e.price,.int .i64 e.cur,.int .i64 e.tax,.string ⟨#[]⟩,.int .i64 0,.string ⟨#[]⟩] 229)).alloc (.cells #[.int .i64 e.kind,.int .i64 e.order,.int .i64 e.item,.int .i64 e.qty,.int .i64 e.price,.int .i64 e.cur,.int .i64 e.tax,.string ⟨e.who.toArray⟩,.int .i64 0,.string ⟨#[]⟩] 229))=w':=by
 unfold v4V
 go_enter Tryz.func176,Tryz.ntmps176
 go_wp2_with (go_at_call 172;(with_reducible refine(event3_x e _).mono ?_);rintro x w' ⟨rfl,rfl⟩)
 refine bodyPost_ret (v:= .agg #[.int .i64 e.kind,.int .i64 e.order,.int .i64 e.item,.int .i64 e.qty,.int .i64 e.price,.int .i64 e.cur,.int .i64 e.tax,.string ⟨e.who.toArray⟩,.int .i64 0,.string ⟨#[]⟩]) (by simp [results,Tryz.results176,go_sem,ev3]) rfl ⟨rfl,rfl⟩
theorem event5_x (e:Ev) (w:World):Calls Tryz.prog 181 #[v5V e] w fun x w'=>x= .returned (evV e)∧((((((((((((((w.alloc (.cells #[.int .i64 e.kind,.int .i64 e.order,.int .i64 e.item,.int .i64 e.qty,.int .i64 e.price,.int .i64 e.cur,.int .i64 e.tax,.string ⟨e.who.toArray⟩,.int .i64 e.stamp,.string ⟨e.note.toArray⟩] 251)).alloc (.cells #[.int .i64 e.kind,.int .i64 e.order,.int .i64 e.item,.int .i64 e.qty,.int .i64 e.price,.int .i64 e.cur,.int .i64 e.tax,.string ⟨e.who.toArray⟩,.int .i64 e.stamp,.string ⟨e.note.toArray⟩] 229)).alloc (.cells #[.int .i64 e.kind,.int .i64 e.order,.int .i64 e.item,.int .i64 e.qty,.int .i64 e.price,.int .i64 e.cur,.int .i64 e.tax,.string ⟨e.who.toArray⟩] 249)).alloc (.cells #[.int .i64 e.kind,.int .i64 e.order,.int .i64 e.item,.int .i64 e.qty,.int .i64 e.price,.int .i64 e.cur,.int .i64 e.tax,.string ⟨e.who.toArray⟩,.int .i64 0,.string ⟨#[]⟩] 229)).alloc (.cells #[.int .i64 e.kind,.int .i64 e.order,.int .i64 e.item,.int .i64 e.qty,.int .i64 e.price,.int .i64 e.cur,.int .i64 e.tax] 247)).alloc (.cells #[.int .i64 e.kind,.int .i64 e.order,.int .i64 e.item,.int .i64 e.qty,.int .i64 e.price,.int .i64 e.cur,.int .i64 e.tax,.string ⟨#[]⟩,.int .i64 0,.string ⟨#[]⟩] 229)).alloc (.cells #[.int .i64 e.kind,.int .i64 e.order,.int .i64 e.item,.int .i64 e.qty,.int .i64 e.price,.int .i64 e.cur] 245)).alloc (.cells #[.int .i64 e.kind,.int .i64 e.order,.int .i64 e.item,.int .i64 e.qty,.int .i64 e.price,.int .i64 e.cur,.int .i64 0,.string ⟨#[]⟩,.int .i64 0,.string ⟨#[]⟩] 229)).alloc (.cells #[.int .i64 e.kind,.int .i64 e.order,.int .i64 e.item,.int .i64 e.qty,.int .i64 e.price] 243)).alloc (.cells #[.int .i64 e.kind,.int .i64 e.order,.int .i64 e.item,.int .i64 e.qty,.int .i64 e.price,.int .i64 0,.int .i64 0,.string ⟨#[]⟩,.int .i64 0,.string ⟨#[]⟩] 229)).alloc (.cells #[.int .i64 e.kind,.int .i64 e.order,.int .i64 e.item,.int .i64 e.qty,.int .i64 e.price,.int .i64 e.cur,.int .i64 0,.string ⟨#[]⟩,.int .i64 0,.string ⟨#[]⟩] 229)).alloc (.cells #[.int .i64 e.kind,.int .i64 e.order,.int .i64 e.item,.int .i64 e.qty,.int .i64 e.price,.int .i64 e.cur,.int .i64 e.tax,.string ⟨#[]⟩,.int .i64 0,.string ⟨#[]⟩] 229)).alloc (.cells #[.int .i64 e.kind,.int .i64 e.order,.int .i64 e.item,.int .i64 e.qty,.int .i64 e.price,.int .i64 e.cur,.int .i64 e.tax,.string ⟨e.who.toArray⟩,.int .i64 0,.string ⟨#[]⟩] 229)).alloc (.cells #[.int .i64 e.kind,.int .i64 e.order,.int .i64 e.item,.int .i64 e.qty,.int .i64 e.price,.int .i64 e.cur,.int .i64 e.tax,.string ⟨e.who.toArray⟩,.int .i64 e.stamp,.string ⟨e.note.toArray⟩] 229))=w':=by
 unfold v5V
 go_enter Tryz.func181,Tryz.ntmps181
 go_wp2_with (go_at_call 176;(with_reducible refine(event4_x e _).mono ?_);rintro x w' ⟨rfl,rfl⟩)
 refine bodyPost_ret (v:= .agg #[.int .i64 e.kind,.int .i64 e.order,.int .i64 e.item,.int .i64 e.qty,.int .i64 e.price,.int .i64 e.cur,.int .i64 e.tax,.string ⟨e.who.toArray⟩,.int .i64 e.stamp,.string ⟨e.note.toArray⟩]) (by simp [results,Tryz.results181,go_sem,ev4]) rfl ⟨rfl,rfl⟩
theorem event5_any (e:Ev) (w:World):Calls Tryz.prog 181 #[v5V e] w fun x w'=>x= .returned (evV e)∧Below w.heap.size w w':=
 (event5_x e w).mono fun x w' ⟨he,hw⟩=>⟨he,by
  subst hw
  repeat (first | exact Below.refl _ _ | refine Below.alloc ?_ (by simp;try omega) _)⟩
theorem lift_x (e:Ev) (w:World):Calls Tryz.prog 143 #[evV e] w fun x w'=>x= .returned (v5V e)∧Below w.heap.size w w':=by
 unfold evV
 go_enter Tryz.func143,Tryz.ntmps143
 go_wp2
 refine bodyPost_ret (v:=v5V e) (by simp [results,Tryz.results143,go_sem]) rfl ⟨rfl,?_⟩
 repeat (first | exact Below.refl _ _ | refine Below.alloc ?_ (by simp;try omega) _)
end Go.Proofs.YtcglcphhfmkccaaGreatDoor
namespace Go.Proofs.YtcglcphhfmkccaaGreatDoor
open Go.RowKit
theorem m5last (k:Nat) (e:Ev) (w:World):(Go.method (k+1) 251 (v5V e) "daybook/schema.last").run Tryz.prog w= .ok (183,v5V e) w:=by kernel_rfl
theorem m5fits (k:Nat) (e:Ev) (w:World):(Go.method (k+1) 251 (v5V e) "daybook/schema.fits").run Tryz.prog w= .ok (182,v5V e) w:=by kernel_rfl
theorem m5event (k:Nat) (e:Ev) (w:World):(Go.method (k+1) 251 (v5V e) "Event").run Tryz.prog w= .ok (181,v5V e) w:=by kernel_rfl
def typedV (v:Int) (e:Ev):Value:=
 if v=1 then .iface 243 (v1V e) else if v=2 then .iface 245 (v2V e) else if v=3 then .iface 247 (v3V e) else if v=4 then .iface 249 (v4V e) else if v=5 then .iface 251 (v5V e) else .nilIface
set_option maxHeartbeats 1000000 in
theorem typed_any (v:Int) (e:Ev) (w:World):Calls Tryz.prog 141 #[.int .i64 v,evV e] w fun x w'=>x= .returned (typedV v e)∧Below w.heap.size w w':=by
 have HL:=Lib.hid (lift_x e)
 unfold evV
 have hE:=evAt_alloc w e 229
 have HE:=Lib.hid hE
 clear hE
 by_cases h:1≤v∧v≤5
 ·rcases (show v=1∨v=2∨v=3∨v=4∨v=5 by omega) with rfl | rfl | rfl | rfl | rfl
  all_goals
   clear h
   go_enter Tryz.func141,Tryz.ntmps141
   go_wp2_with fail
   refine(HL.out _).mono ?_
   rintro x w2 ⟨rfl,hb⟩
   have HB:=Lib.hid (Below.next ((Below.refl _ _).alloc (Nat.le_refl _) _) hb)
   clear hb
   go_wp2
   go_ret
   exact⟨rfl,Below.next HB.out ((Below.refl _ _).alloc (Nat.le_refl _) _)⟩
 ·have d1:(v==1)=false:=by simp;omega
  have d2:(v==2)=false:=by simp;omega
  have d3:(v==3)=false:=by simp;omega
  have d4:(v==4)=false:=by simp;omega
  have d5:(v==5)=false:=by simp;omega
  have hv:=Lib.hid (show typedV v e= .nilIface by unfold typedV;rw [if_neg (by omega),if_neg (by omega),if_neg (by omega),if_neg (by omega),if_neg (by omega)])
  clear h
  go_enter Tryz.func141,Tryz.ntmps141
  go_wp2_with fail
  refine(HL.out _).mono ?_
  rintro x w2 ⟨rfl,hb⟩
  have HB:=Lib.hid (Below.next ((Below.refl _ _).alloc (Nat.le_refl _) _) hb)
  clear hb
  go_wp2
  go_ret
  exact⟨by rw [hv.out];rfl,Below.next HB.out ((Below.refl _ _).alloc (Nat.le_refl _) _)⟩
end Go.Proofs.YtcglcphhfmkccaaGreatDoor
namespace Go.Proofs.YtcglcphhfmkccaaGreatDoor
open Go.RowKit
theorem evCells {w':World} {b:Nat} {e:Ev} (h:EvAt w' b e):w'.cell? ⟨b,0,none⟩=some (.int .i64 e.kind)∧w'.cell? ⟨b,1,none⟩=some (.int .i64 e.order)∧w'.cell? ⟨b,2,none⟩=some (.int .i64 e.item)∧w'.cell? ⟨b,3,none⟩=some (.int .i64 e.qty)∧w'.cell? ⟨b,4,none⟩=some (.int .i64 e.price)∧w'.cell? ⟨b,5,none⟩=some (.int .i64 e.cur)∧w'.cell? ⟨b,6,none⟩=some (.int .i64 e.tax)∧w'.cell? ⟨b,7,none⟩=some (.string ⟨e.who.toArray⟩)∧w'.cell? ⟨b,8,none⟩=some (.int .i64 e.stamp)∧w'.cell? ⟨b,9,none⟩=some (.string ⟨e.note.toArray⟩):=
 ⟨h.c0,h.c1,h.c2,h.c3,h.c4,h.c5,h.c6,h.c7,h.c8,h.c9⟩
theorem evFits_5 (e:Ev):evFits 5 e=fits5 e:=by
 rw [Bool.eq_iff_iff]
 simp only [evFits,fits5,fits4,fits3,fits2,coreB,btw,Bool.and_eq_true,decide_eq_true_eq,Bool.or_eq_true,List.isEmpty_iff]
 grind
end Go.Proofs.YtcglcphhfmkccaaGreatDoor

namespace Go.Proofs.YtcglcphhfmkccaaGreatDoor
open Go.RowKit
set_option maxRecDepth 100000 in
set_option maxHeartbeats 4000000 in
theorem schemaCheck_5 (e:Ev) (w:World) (hw:e.who.length≤281474976710656) (hn:e.note.length≤281474976710656):Calls Tryz.prog 136 #[.int .i64 5,evV e] w (ChkPost (evCheck 5 e) w):=by
 have HT:=Lib.hid (fun W=>(show typedV 5 e=Value.iface 251 (v5V e) from rfl)▸typed_any 5 e W)
 have HLa:=Lib.hid (fun W=>last5_any e W)
 have HFi:=Lib.hid (fun W=>fits5_any e W (by omega))
 have HEv:=Lib.hid (fun W=>event5_any e W)
 unfold v5V at HT
 have ml:=fun k W=>m5last k e W
 have mf:=fun k W=>m5fits k e W
 have me:=fun k W=>m5event k e W
 unfold v5V at ml
 unfold v5V at mf me
 have HQ:=fun W=>run_evNeq e e W
 unfold evV at HQ HEv
 have hE:=Lib.hid (evAt_alloc w e 229)
 unfold evV
 by_cases h1:e.kind<1∨10<e.kind
 ·have hf:=Lib.hid (chk31 (v:=5) (e:=e) (by decide) h1)
  by_cases hk:e.kind<1
  ·have d1:=decide_eq_true hk
   clear h1 hk
   go_enter Tryz.func136,Tryz.ntmps136
   go_wp2_with fail
   refine(HT.out _).mono ?_
   rintro x w2 ⟨rfl,hb⟩
   have HB:=Lib.hid (Below.next ((Below.refl _ _).alloc (Nat.le_refl _) _) hb)
   have c0:=(hE.out.below hb).c0
   clear hb
   go_wp2
   go_quiet (fail)
   go_wp2
   go_ret
   exact⟨by rw [hf.out];rfl,Below.next HB.out (below_drewN' _ _)⟩
  ·have d1:=decide_eq_false hk
   have hk2:10<e.kind:=by rcases h1 with h | h;exact absurd h hk;exact h
   have d2:=decide_eq_true hk2
   clear h1 hk hk2
   go_enter Tryz.func136,Tryz.ntmps136
   go_wp2_with fail
   refine(HT.out _).mono ?_
   rintro x w2 ⟨rfl,hb⟩
   have HB:=Lib.hid (Below.next ((Below.refl _ _).alloc (Nat.le_refl _) _) hb)
   have c0:=(hE.out.below hb).c0
   clear hb
   go_wp2
   go_region_held3 (fun w'=>w'.cell? ⟨w.heap.size,0,none⟩=some (.int .i64 e.kind)) (first | assumption | exact cell_later hb2 c0 | go_keep)
    (first | (go_at_call 183;refine(HLa.out _).mono ?_;rintro x w3 ⟨rfl,hb2⟩))
   go_wp2
   go_ret
   exact⟨by rw [hf.out];rfl,Below.next HB.out (Below.next ((Below.refl _ _).drew) hb2)⟩
 ·have hk: ¬ e.kind<1:=fun h=>h1 (.inl h)
  have hk2: ¬ 10<e.kind:=fun h=>h1 (.inr h)
  have d1:=decide_eq_false hk
  have d2:=decide_eq_false hk2
  by_cases h3:16<e.who.length∨120<e.note.length
  ·have hf:=Lib.hid (chk24 (v:=5) (e:=e) (by decide) h1 h3)
   clear h1 hk hk2
   go_enter Tryz.func136,Tryz.ntmps136
   go_wp2_with fail
   refine(HT.out _).mono ?_
   rintro x w2 ⟨rfl,hb⟩
   have HB:=Lib.hid (Below.next ((Below.refl _ _).alloc (Nat.le_refl _) _) hb)
   have HE2:=Lib.hid (hE.out.below hb)
   have c0:=HE2.out.c0
   clear hb
   go_wp2
   go_region_held3 (fun w'=>w'.cell? ⟨w.heap.size,0,none⟩=some (.int .i64 e.kind)) (first | assumption | exact cell_later hb2 c0 | go_keep)
    (first | (go_at_call 183;refine(HLa.out _).mono ?_;rintro x w3 ⟨rfl,hb2⟩))
   have hb3:=Below.next ((Below.refl _ _).drew) hb2
   have HB3:=Lib.hid (Below.next HB.out hb3)
   have c7:=(HE2.out.below hb3).c7
   have c9:=(HE2.out.below hb3).c9
   clear hb3 hb2
   by_cases hw3:16<e.who.length
   ·go_wp2
    go_ret
    exact⟨by rw [hf.out];rfl,HB3.out⟩
   ·have hn3:120<e.note.length:=by omega
    clear h3
    go_wp2
    go_ret
    exact⟨by rw [hf.out];rfl,HB3.out⟩
  ·have hf:=Lib.hid (chkRest (v:=5) (e:=e) (by decide) h1 h3)
   have hw16:e.who.length≤16:=by omega
   have hn120:e.note.length≤120:=by omega
   obtain⟨F,hF⟩: ∃ F,F=fits5 e:=⟨_,rfl⟩
   obtain⟨Q,hQ⟩: ∃ Q,Q=evSame e e:=⟨_,rfl⟩
   have HR:=Lib.hid (show evFits 5 e=(F&&Q) by rw [evFits_5,hF,hQ,(evSame_iff e e).2 rfl,Bool.and_true])
   rw [←hF] at HFi
   rw [←hQ] at HQ
   clear h1 hk hk2 h3 hF hQ
   cases F
   ·have hfin:=Lib.hid (show evCheck 5 e=32 by rw [hf.out,HR.out];rfl)
    go_enter Tryz.func136,Tryz.ntmps136
    go_wp2_with fail
    refine(HT.out _).mono ?_
    rintro x w2 ⟨rfl,hb⟩
    have HB:=Lib.hid (Below.next ((Below.refl _ _).alloc (Nat.le_refl _) _) hb)
    have HE2:=Lib.hid (hE.out.below hb)
    have c0:=HE2.out.c0
    clear hb
    go_wp2
    go_region_held3 (fun w'=>w'.cell? ⟨w.heap.size,0,none⟩=some (.int .i64 e.kind)) (first | assumption | exact cell_later hb2 c0 | go_keep)
     (first | (go_at_call 183;refine(HLa.out _).mono ?_;rintro x w3 ⟨rfl,hb2⟩))
    have hb3:=Below.next ((Below.refl _ _).drew) hb2
    have HB3:=Lib.hid (Below.next HB.out hb3)
    have HE3:=Lib.hid (HE2.out.below hb3)
    have c7:=HE3.out.c7
    have c9:=HE3.out.c9
    clear hb3 hb2
    go_wp2
    first | (go_region_with (go_at_call 182;refine(HFi.out _).mono ?_;rintro x w4 ⟨rfl,hb4⟩)) | fail
    all_goals go_wp2
    all_goals go_ret
    all_goals exact⟨by rw [hfin.out];rfl,Below.next HB3.out (Below.next ((Below.refl _ _).drew) hb4)⟩
   ·cases Q
    ·have hfin:=Lib.hid (show evCheck 5 e=32 by rw [hf.out,HR.out];rfl)
     go_enter Tryz.func136,Tryz.ntmps136
     go_wp2_with fail
     refine(HT.out _).mono ?_
     rintro x w2 ⟨rfl,hb⟩
     have HB:=Lib.hid (Below.next ((Below.refl _ _).alloc (Nat.le_refl _) _) hb)
     have HE2:=Lib.hid (hE.out.below hb)
     have c0:=HE2.out.c0
     clear hb
     go_wp2
     go_region_held3 (fun w'=>w'.cell? ⟨w.heap.size,0,none⟩=some (.int .i64 e.kind)) (first | assumption | exact cell_later hb2 c0 | go_keep)
      (first | (go_at_call 183;refine(HLa.out _).mono ?_;rintro x w3 ⟨rfl,hb2⟩))
     have hb3:=Below.next ((Below.refl _ _).drew) hb2
     have HB3:=Lib.hid (Below.next HB.out hb3)
     have HE3:=Lib.hid (HE2.out.below hb3)
     have c7:=HE3.out.c7
     have c9:=HE3.out.c9
     clear hb3 hb2
     go_wp2
     have HC0:=Lib.hid (evCells HE3.out)
     have HCK:=Lib.hid (show ∀ W,Below w3.drew.heap.size w3.drew W→_ from fun W h=>evCells (HE3.out.below (Below.next ((Below.refl _ _).drew) h)))
     obtain⟨d0,d1',d2',d3',d4',d5',d6',d7',d8',d9'⟩:=HC0.out
     have HKK:=Lib.hid (show ∀ W W',(W.cell? ⟨w.heap.size,0,none⟩=some (.int .i64 e.kind)∧W.cell? ⟨w.heap.size,1,none⟩=some (.int .i64 e.order)∧W.cell? ⟨w.heap.size,2,none⟩=some (.int .i64 e.item)∧W.cell? ⟨w.heap.size,3,none⟩=some (.int .i64 e.qty)∧W.cell? ⟨w.heap.size,4,none⟩=some (.int .i64 e.price)∧W.cell? ⟨w.heap.size,5,none⟩=some (.int .i64 e.cur)∧W.cell? ⟨w.heap.size,6,none⟩=some (.int .i64 e.tax)∧W.cell? ⟨w.heap.size,7,none⟩=some (.string ⟨e.who.toArray⟩)∧W.cell? ⟨w.heap.size,8,none⟩=some (.int .i64 e.stamp)∧W.cell? ⟨w.heap.size,9,none⟩=some (.string ⟨e.note.toArray⟩))∧Below w3.drew.heap.size w3.drew W→Below W.heap.size W W'→(W'.cell? ⟨w.heap.size,0,none⟩=some (.int .i64 e.kind)∧W'.cell? ⟨w.heap.size,1,none⟩=some (.int .i64 e.order)∧W'.cell? ⟨w.heap.size,2,none⟩=some (.int .i64 e.item)∧W'.cell? ⟨w.heap.size,3,none⟩=some (.int .i64 e.qty)∧W'.cell? ⟨w.heap.size,4,none⟩=some (.int .i64 e.price)∧W'.cell? ⟨w.heap.size,5,none⟩=some (.int .i64 e.cur)∧W'.cell? ⟨w.heap.size,6,none⟩=some (.int .i64 e.tax)∧W'.cell? ⟨w.heap.size,7,none⟩=some (.string ⟨e.who.toArray⟩)∧W'.cell? ⟨w.heap.size,8,none⟩=some (.int .i64 e.stamp)∧W'.cell? ⟨w.heap.size,9,none⟩=some (.string ⟨e.note.toArray⟩))∧Below w3.drew.heap.size w3.drew W' from fun W W' h k=>⟨HCK.out W' (Below.next h.2 k),Below.next h.2 k⟩)
     first | (go_region_held3 (fun w'=>(w'.cell? ⟨w.heap.size,0,none⟩=some (.int .i64 e.kind)∧w'.cell? ⟨w.heap.size,1,none⟩=some (.int .i64 e.order)∧w'.cell? ⟨w.heap.size,2,none⟩=some (.int .i64 e.item)∧w'.cell? ⟨w.heap.size,3,none⟩=some (.int .i64 e.qty)∧w'.cell? ⟨w.heap.size,4,none⟩=some (.int .i64 e.price)∧w'.cell? ⟨w.heap.size,5,none⟩=some (.int .i64 e.cur)∧w'.cell? ⟨w.heap.size,6,none⟩=some (.int .i64 e.tax)∧w'.cell? ⟨w.heap.size,7,none⟩=some (.string ⟨e.who.toArray⟩)∧w'.cell? ⟨w.heap.size,8,none⟩=some (.int .i64 e.stamp)∧w'.cell? ⟨w.heap.size,9,none⟩=some (.string ⟨e.note.toArray⟩))∧Below w3.drew.heap.size w3.drew w')
      (first | exact⟨HC0.out,Below.refl _ _⟩ | assumption | (refine HKK.out _ _ ?_ hb4;assumption))
      (first
       | (go_at_call 182;refine(HFi.out _).mono ?_;rintro x w4 ⟨rfl,hb4⟩)
       | (go_at_call 181;refine(HEv.out _).mono ?_;rintro x w4 ⟨rfl,hb4⟩))) | fail
     go_split_ands
     go_wp2
     go_ret
     exact⟨by rw [hfin.out];rfl,Below.next HB3.out (Below.next ((Below.refl _ _).drew) (by assumption))⟩
    ·have hfin:=Lib.hid (show evCheck 5 e=0 by rw [hf.out,HR.out];rfl)
     go_enter Tryz.func136,Tryz.ntmps136
     go_wp2_with fail
     refine(HT.out _).mono ?_
     rintro x w2 ⟨rfl,hb⟩
     have HB:=Lib.hid (Below.next ((Below.refl _ _).alloc (Nat.le_refl _) _) hb)
     have HE2:=Lib.hid (hE.out.below hb)
     have c0:=HE2.out.c0
     clear hb
     go_wp2
     go_region_held3 (fun w'=>w'.cell? ⟨w.heap.size,0,none⟩=some (.int .i64 e.kind)) (first | assumption | exact cell_later hb2 c0 | go_keep)
      (first | (go_at_call 183;refine(HLa.out _).mono ?_;rintro x w3 ⟨rfl,hb2⟩))
     have hb3:=Below.next ((Below.refl _ _).drew) hb2
     have HB3:=Lib.hid (Below.next HB.out hb3)
     have HE3:=Lib.hid (HE2.out.below hb3)
     have c7:=HE3.out.c7
     have c9:=HE3.out.c9
     clear hb3 hb2
     go_wp2
     have HC0:=Lib.hid (evCells HE3.out)
     have HCK:=Lib.hid (show ∀ W,Below w3.drew.heap.size w3.drew W→_ from fun W h=>evCells (HE3.out.below (Below.next ((Below.refl _ _).drew) h)))
     obtain⟨d0,d1',d2',d3',d4',d5',d6',d7',d8',d9'⟩:=HC0.out
     have HKK:=Lib.hid (show ∀ W W',(W.cell? ⟨w.heap.size,0,none⟩=some (.int .i64 e.kind)∧W.cell? ⟨w.heap.size,1,none⟩=some (.int .i64 e.order)∧W.cell? ⟨w.heap.size,2,none⟩=some (.int .i64 e.item)∧W.cell? ⟨w.heap.size,3,none⟩=some (.int .i64 e.qty)∧W.cell? ⟨w.heap.size,4,none⟩=some (.int .i64 e.price)∧W.cell? ⟨w.heap.size,5,none⟩=some (.int .i64 e.cur)∧W.cell? ⟨w.heap.size,6,none⟩=some (.int .i64 e.tax)∧W.cell? ⟨w.heap.size,7,none⟩=some (.string ⟨e.who.toArray⟩)∧W.cell? ⟨w.heap.size,8,none⟩=some (.int .i64 e.stamp)∧W.cell? ⟨w.heap.size,9,none⟩=some (.string ⟨e.note.toArray⟩))∧Below w3.drew.heap.size w3.drew W→Below W.heap.size W W'→(W'.cell? ⟨w.heap.size,0,none⟩=some (.int .i64 e.kind)∧W'.cell? ⟨w.heap.size,1,none⟩=some (.int .i64 e.order)∧W'.cell? ⟨w.heap.size,2,none⟩=some (.int .i64 e.item)∧W'.cell? ⟨w.heap.size,3,none⟩=some (.int .i64 e.qty)∧W'.cell? ⟨w.heap.size,4,none⟩=some (.int .i64 e.price)∧W'.cell? ⟨w.heap.size,5,none⟩=some (.int .i64 e.cur)∧W'.cell? ⟨w.heap.size,6,none⟩=some (.int .i64 e.tax)∧W'.cell? ⟨w.heap.size,7,none⟩=some (.string ⟨e.who.toArray⟩)∧W'.cell? ⟨w.heap.size,8,none⟩=some (.int .i64 e.stamp)∧W'.cell? ⟨w.heap.size,9,none⟩=some (.string ⟨e.note.toArray⟩))∧Below w3.drew.heap.size w3.drew W' from fun W W' h k=>⟨HCK.out W' (Below.next h.2 k),Below.next h.2 k⟩)
     first | (go_region_held3 (fun w'=>(w'.cell? ⟨w.heap.size,0,none⟩=some (.int .i64 e.kind)∧w'.cell? ⟨w.heap.size,1,none⟩=some (.int .i64 e.order)∧w'.cell? ⟨w.heap.size,2,none⟩=some (.int .i64 e.item)∧w'.cell? ⟨w.heap.size,3,none⟩=some (.int .i64 e.qty)∧w'.cell? ⟨w.heap.size,4,none⟩=some (.int .i64 e.price)∧w'.cell? ⟨w.heap.size,5,none⟩=some (.int .i64 e.cur)∧w'.cell? ⟨w.heap.size,6,none⟩=some (.int .i64 e.tax)∧w'.cell? ⟨w.heap.size,7,none⟩=some (.string ⟨e.who.toArray⟩)∧w'.cell? ⟨w.heap.size,8,none⟩=some (.int .i64 e.stamp)∧w'.cell? ⟨w.heap.size,9,none⟩=some (.string ⟨e.note.toArray⟩))∧Below w3.drew.heap.size w3.drew w')
      (first | exact⟨HC0.out,Below.refl _ _⟩ | assumption | (refine HKK.out _ _ ?_ hb4;assumption))
      (first
       | (go_at_call 182;refine(HFi.out _).mono ?_;rintro x w4 ⟨rfl,hb4⟩)
       | (go_at_call 181;refine(HEv.out _).mono ?_;rintro x w4 ⟨rfl,hb4⟩))) | fail
     go_split_ands
     go_wp2
     go_ret
     exact⟨by rw [hfin.out];rfl,Below.next HB3.out (Below.next ((Below.refl _ _).drew) (by assumption))⟩
end Go.Proofs.YtcglcphhfmkccaaGreatDoor
namespace Go.Proofs.YtcglcphhfmkccaaGreatDoor
open Go.RowKit
end Go.Proofs.YtcglcphhfmkccaaGreatDoor

namespace Go.Proofs.YtcglcphhfmkccaaGreatDoor
open Go.RowKit
theorem owithin_any (x lo hi:Int) (w:World):Calls Tryz.prog 130 #[.int .i64 x,.int .i64 lo,.int .i64 hi] w fun e w'=>e= .returned (.bool (btw x lo hi))∧w=w':=by
 by_cases h1:lo≤x
 ·by_cases h2:x≤hi
  ·have hr:=Lib.hid (show btw x lo hi=true by simp [btw,h1,h2])
   have d1:=decide_eq_true h1
   have d2:=decide_eq_true h2
   go_enter Tryz.func130,Tryz.ntmps130
   go_wp2
   go_ret
   exact⟨by rw [hr.out];rfl,rfl⟩
  ·have hr:=Lib.hid (show btw x lo hi=false by simp [btw,h2])
   have d1:=decide_eq_true h1
   have d2:=decide_eq_false h2
   go_enter Tryz.func130,Tryz.ntmps130
   go_wp2
   go_ret
   exact⟨by rw [hr.out];rfl,rfl⟩
 ·have hr:=Lib.hid (show btw x lo hi=false by simp [btw,h1])
  have d1:=decide_eq_false h1
  go_enter Tryz.func130,Tryz.ntmps130
  go_wp2
  go_ret
  exact⟨by rw [hr.out];rfl,rfl⟩
set_option maxRecDepth 100000 in
set_option maxHeartbeats 4000000 in
theorem onet_any (s:St) (lv:Value) (w:World) (hr:LnRow w lv s.lines) (hf: ∀ l∈s.lines,lnFine l=true) (hn:s.lines.length≤16):
  Calls Tryz.prog 133 #[stV s lv] w fun e w'=>e= .returned (.int .i64 (netOf s.lines))∧Below w.heap.size w w':=by
 obtain⟨oa,cap,rfl,hl1,hl2,hcs⟩:=hr.shape
 have HC:=Lib.hid hcs
 have HF:=Lib.hid hf
 have HN:=Lib.hid hn
 have hB0:=Lib.hid (show Below w.heap.size w (w.alloc (.cells (stCs s (.slice oa s.lines.length cap)) 130)) from(Below.refl _ _).alloc (Nat.le_refl _) _)
 clear hr hcs hf
 go_enter Tryz.func133,Tryz.ntmps133
 go_wp2
 go_loopw [3,9] (fun nv iv wr=> ∃ (k:Nat),k≤s.lines.length∧iv= .int .i64 k∧nv= .int .i64 (netOf (s.lines.take k))∧Below w.heap.size w wr) (fun _ iv _=>s.lines.length - (intOf iv).toNat)
 case atStart=>exact⟨0,Nat.zero_le _,rfl,rfl,hB0.out⟩
 case round=>
  obtain⟨k,hk,rfl,rfl,hb⟩:=hrel
  have HB:=Lib.hid hb
  clear hb
  by_cases hlt:k<s.lines.length
  ·obtain⟨l,hl,_,hmem⟩:=nth s.lines k hlt
   have q1:(k:Int)<(s.lines.length:Int):=by omega
   obtain⟨b,off,rfl,hcell⟩:=HC.out k l hl
   have HCE:=Lib.hid (range_later hcell HB.out)
   have hfl:=HF.out l hmem
   have hnt:=net_take s.lines k l hl
   have hb1:=net_bound (s.lines.take k) fun x hx=>HF.out x (List.mem_of_mem_take hx)
   have hb2:=net_bound (s.lines.take (k+1)) fun x hx=>HF.out x (List.mem_of_mem_take hx)
   have hlen:((s.lines.take k).length:Int)≤16:=by have:=List.length_take_le k s.lines;have:=HN.out;simp only [List.length_take];omega
   have hlen2:((s.lines.take (k+1)).length:Int)≤16:=by have:=HN.out;simp only [List.length_take];omega
   obtain⟨n,hnn⟩: ∃ n,n=netOf (s.lines.take k):=⟨_,rfl⟩
   obtain⟨n',hnn'⟩: ∃ n',n'=netOf (s.lines.take (k+1)):=⟨_,rfl⟩
   obtain⟨m,hm⟩: ∃ m,m=l.qty*l.price:=⟨_,rfl⟩
   rw [←hnn,←hm,←hnn'] at hnt
   rw [←hnn] at hb1 ⊢
   rw [←hnn'] at hb2
   have e1:IntKind.i64.wrap (l.qty*l.price)=m:=by rw [←hm,IntKind.wrap_i64];omega
   have e2:IntKind.i64.wrap (n+m)=n':=by rw [IntKind.wrap_i64];omega
   have HNN:=Lib.hid hnn'
   clear hl hmem hcell hfl hnt hb1 hb2 hlen hlen2 hnn hnn' hm
   go_wp2_with (with_reducible refine wpList_load_ln rfl (.tmp 11) rfl b (off+k*4) l rfl HCE.out ?_)
   go_roundw
   case rel=>exact⟨k+1,by omega,by go_num,by rw [HNN.out],HB.out.alloc HB.out.size _⟩
   case measure=>simp [intOf];omega
  ·obtain rfl:k=s.lines.length:=by omega
   rw [List.take_length]
   go_wp2
   go_ret
   exact⟨rfl,HB.out⟩
theorem due_bound (s:St) (h: ∀ l∈s.lines,lnFine l=true) (hn:s.lines.length≤16) (h0:0≤s.tax) (h1:s.tax≤5000):
  ∃ n t d:Nat,netOf s.lines=(n:Int)∧s.tax=(t:Int)∧dueOf s=(d:Int)∧n≤160000000000000∧t≤5000∧d=n+n*t / 10000∧n*t≤800000000000000000∧d≤240000000000000:=by
 have hb:=net_bound s.lines h
 obtain⟨n,hn'⟩:=Int.eq_ofNat_of_zero_le hb.1
 obtain⟨t,ht⟩:=Int.eq_ofNat_of_zero_le h0
 have hm:n*t≤160000000000000*5000:=Nat.mul_le_mul (by omega) (by omega)
 refine⟨n,t,n+n*t / 10000,hn',ht,?_,by omega,by omega,rfl,by omega,by omega⟩
 unfold dueOf
 rw [hn',ht]
 rfl
set_option maxRecDepth 100000 in
set_option maxHeartbeats 4000000 in
theorem odue_any (s:St) (lv:Value) (w:World) (hr:LnRow w lv s.lines) (hf: ∀ l∈s.lines,lnFine l=true) (hn:s.lines.length≤16) (h0:0≤s.tax) (h1:s.tax≤5000):
  Calls Tryz.prog 122 #[stV s lv] w fun e w'=>e= .returned (.int .i64 (dueOf s))∧Below w.heap.size w w':=by
 obtain⟨n,t,d,hN,hT,hD,hn1,ht1,hd1,hm1,hd2⟩:=due_bound s hf hn h0 h1
 have HN:=Lib.hid (fun W (h:Below w.heap.size w W)=>onet_any s lv W (hr.below h) hf hn)
 have hB0:=Lib.hid (show Below w.heap.size w (w.alloc (.cells (stCs s lv) 130)) from(Below.refl _ _).alloc (Nat.le_refl _) _)
 have hE:=stBlk_alloc w s lv
 have HM:=Lib.hid (show ∀ W:World,Calls Tryz.prog 134 #[.int .i64 (n:Int),.int .i64 (t:Int),.int .i64 10000] W fun e w'=>e= .returned (.tuple #[.int .i64 ((n*t / 10000:Nat):Int),.bool true])∧Below W.heap.size W w' from fun W=>mulDivS_any n t 10000 W (by omega) (by omega) (by omega) (by omega) (by omega))
 obtain⟨q,hq⟩: ∃ q,q=n*t / 10000:=⟨_,rfl⟩
 rw [←hq] at HM hd1
 have e1:IntKind.i64.wrap ((n:Int)+(q:Int))=(d:Int):=by rw [IntKind.wrap_i64];omega
 have HE:=Lib.hid hE
 rw [hD]
 have HNN:=Lib.hid hN
 have HTT:=Lib.hid hT
 clear hf hn h0 h1 hN hT hD hn1 ht1 hd1 hm1 hd2 hq hE hr
 go_enter Tryz.func122,Tryz.ntmps122
 go_wp2_with (first
  | (go_at_call 133;refine(HN.out _ hB0.out).mono ?_;rintro e w1 ⟨rfl,hb1⟩;have HB1:=Lib.hid (Below.next hB0.out hb1);have c4:w1.cell? ⟨w.heap.size,4,none⟩=some (.int .i64 s.tax):=(HE.out.below hb1).cell 4;rw [HTT.out] at c4;rw [HNN.out];clear hb1)
  | (go_at_call 134;(with_reducible refine(HM.out _).mono ?_);rintro e w2 ⟨rfl,hb2⟩;have HB2:=Lib.hid (Below.next HB1.out hb2);clear hb2))
 go_ret
 exact⟨rfl,HB2.out⟩
def evWho (who:List UInt8):Ev:=⟨1,1,0,0,0,0,0,who,0,[]⟩
theorem evWho_ok (who:List UInt8) (hw:who.length≤281474976710656):EvOk 281474976710656 (evWho who):=
 have h0:I64 0:=by unfold I64;decide
 have h1:I64 1:=by unfold I64;decide
 ⟨h1,h1,h0,h0,h0,h0,h0,h0,hw,Nat.zero_le _⟩
theorem evWho_check (v:Int) (hv:v=4∨v=5) (who:List UInt8):(evCheck v (evWho who)==0)=namedB who:=by
 have hl:lastKind v=9∨lastKind v=10:=by rcases hv with rfl | rfl<;>decide
 unfold evCheck namedB
 rw [if_neg (by omega),if_neg (by show ¬ ((1:Int)<1∨lastKind v<1);omega)]
 by_cases h1:16<who.length
 ·rw [if_pos (.inl h1)]
  rw [decide_eq_false (by omega)];rfl
 ·rw [if_neg (by show ¬ (16<who.length∨120<0);omega),decide_eq_true (by omega)]
  have hf:evFits v (evWho who)=plainS who:=by
   unfold evFits evWho
   rcases hv with rfl | rfl<;>simp [btw]
  rw [hf]
  by_cases h2:plainS who=true
  ·rw [if_pos h2,h2];rfl
  ·rw [if_neg h2]
   have:plainS who=false:=by simpa using h2
   rw [this];rfl
set_option maxRecDepth 100000 in
set_option maxHeartbeats 4000000 in
theorem onamed_any (who:List UInt8) (w:World) (hw:who.length≤281474976710656):
  Calls Tryz.prog 132 #[.string ⟨who.toArray⟩] w fun e w'=>e= .returned (.bool (namedB who))∧Below w.heap.size w w':=by
 obtain⟨c,hc⟩: ∃ c,c=evCheck 5 (evWho who):=⟨_,rfl⟩
 have hn:=Lib.hid (show namedB who=(c==0) by rw [hc];exact(evWho_check 5 (.inr rfl) who).symm)
 have HC:=Lib.hid (show ∀ W:World,Calls Tryz.prog 136 #[.int .i64 5,.agg #[.int .i64 1,.int .i64 1,.int .i64 0,.int .i64 0,.int .i64 0,.int .i64 0,.int .i64 0,.string ⟨who.toArray⟩,.int .i64 0,.string ⟨#[]⟩]] W (ChkPost c W) from fun W=>hc▸schemaCheck_5 (evWho who) W (evWho_ok who hw).who (evWho_ok who hw).note)
 clear hc
 go_enter Tryz.func132,Tryz.ntmps132
 go_wp2_with (go_at_call 136;(with_reducible refine(HC.out _).mono ?_);rintro e w1 ⟨rfl,hb1⟩)
 go_ret
 exact⟨by rw [hn.out];rfl,hb1⟩
set_option maxRecDepth 100000 in
set_option maxHeartbeats 8000000 in
theorem oshipped_any (s:St) (lv:Value) (w:World) (hr:LnRow w lv s.lines):
  Calls Tryz.prog 123 #[stV s lv] w fun e w'=>e= .returned (.tuple #[.bool (noneB s.lines),.bool (wholeB s.lines)])∧Below w.heap.size w w':=by
 obtain⟨oa,cap,rfl,hl1,hl2,hcs⟩:=hr.shape
 have HC:=Lib.hid hcs
 have hB0:=Lib.hid (show Below w.heap.size w (w.alloc (.cells (stCs s (.slice oa s.lines.length cap)) 130)) from(Below.refl _ _).alloc (Nat.le_refl _) _)
 clear hr hcs
 go_enter Tryz.func123,Tryz.ntmps123
 go_wp2
 go_loopw [2,3,9] (fun av bv iv wr=> ∃ (k:Nat),k≤s.lines.length∧iv= .int .i64 k∧av= .bool (noneB (s.lines.take k))∧bv= .bool (wholeB (s.lines.take k))∧Below w.heap.size w wr) (fun _ _ iv _=>s.lines.length - (intOf iv).toNat)
 case atStart=>exact⟨0,Nat.zero_le _,rfl,rfl,rfl,hB0.out⟩
 case round=>
  obtain⟨k,hk,rfl,rfl,rfl,hb⟩:=hrel
  have HB:=Lib.hid hb
  clear hb
  by_cases hlt:k<s.lines.length
  ·obtain⟨l,hl,htk,_⟩:=nth s.lines k hlt
   have q1:(k:Int)<(s.lines.length:Int):=by omega
   obtain⟨b,off,rfl,hcell⟩:=HC.out k l hl
   have HCE:=Lib.hid (range_later hcell HB.out)
   have HN:=Lib.hid (show noneB (s.lines.take (k+1))=(noneB (s.lines.take k)&&(l.shipped==0)) by rw [htk];simp [noneB])
   have HW:=Lib.hid (show wholeB (s.lines.take (k+1))=(wholeB (s.lines.take k)&&(l.shipped==l.qty)) by rw [htk];simp [wholeB])
   obtain⟨x,hx⟩: ∃ x,x=noneB (s.lines.take k):=⟨_,rfl⟩
   obtain⟨y,hy⟩: ∃ y,y=wholeB (s.lines.take k):=⟨_,rfl⟩
   rw [←hx] at HN ⊢
   rw [←hy] at HW ⊢
   clear hl htk hcell hx hy
   cases x<;>cases y
   all_goals
    go_wp2_with (with_reducible refine wpList_load_ln rfl (.tmp 11) rfl b (off+k*4) l rfl HCE.out ?_)
    go_roundw
    case rel=>exact⟨k+1,by omega,by go_num,by rw [HN.out];rfl,by rw [HW.out];rfl,HB.out.alloc HB.out.size _⟩
    case measure=>simp [intOf];omega
  ·obtain rfl:k=s.lines.length:=by omega
   rw [List.take_length]
   go_wp2
   go_ret2
   exact⟨rfl,HB.out⟩
set_option maxRecDepth 100000 in
set_option maxHeartbeats 8000000 in
theorem obounded_any (s:St) (lv:Value) (w:World) (hw:s.who.length≤281474976710656)
  (HLI: ∀ W:World,Below w.heap.size w W→Calls Tryz.prog 131 #[lv] W fun e w'=>e= .returned (.bool (linedB s.lines))∧Below W.heap.size W w'):
  Calls Tryz.prog 121 #[stV s lv] w fun e w'=>e= .returned (.bool (boundedB s))∧Below w.heap.size w w':=by
 obtain⟨b1,hb1⟩: ∃ b,b=btw s.order 1 1099511627776:=⟨_,rfl⟩
 obtain⟨b2,hb2⟩: ∃ b,b=btw s.status 0 5:=⟨_,rfl⟩
 obtain⟨b3,hb3⟩: ∃ b,b=btw s.cur 0 3:=⟨_,rfl⟩
 obtain⟨b4,hb4⟩: ∃ b,b=btw s.tax 0 5000:=⟨_,rfl⟩
 obtain⟨b5,hb5⟩: ∃ b,b=linedB s.lines:=⟨_,rfl⟩
 obtain⟨b6,hb6⟩: ∃ b,b=btw s.refunded 0 s.paid:=⟨_,rfl⟩
 obtain⟨b7,hb7⟩: ∃ b,b=btw s.events 0 1099511627776:=⟨_,rfl⟩
 obtain⟨b8,hb8⟩: ∃ b,b=btw s.refused 0 s.events:=⟨_,rfl⟩
 obtain⟨b9,hb9⟩: ∃ b,b=btw s.stamp 0 1099511627776:=⟨_,rfl⟩
 obtain⟨b10,hb10⟩: ∃ b,b=namedB s.who:=⟨_,rfl⟩
 have HR:=Lib.hid (show boundedB s=(b1&&(b2&&(b3&&(b4&&(b5&&(b6&&(b7&&(b8&&(b9&&b10))))))))) by rw [boundedB,hb1,hb2,hb3,hb4,hb5,hb6,hb7,hb8,hb9,hb10])
 have W1:=Lib.hid (fun W=>hb1▸owithin_any s.order 1 1099511627776 W)
 have W2:=Lib.hid (fun W=>hb2▸owithin_any s.status 0 5 W)
 have W3:=Lib.hid (fun W=>hb3▸owithin_any s.cur 0 3 W)
 have W4:=Lib.hid (fun W=>hb4▸owithin_any s.tax 0 5000 W)
 have W5:=Lib.hid (fun W h=>hb5▸HLI W h)
 have W6:=Lib.hid (fun W=>hb6▸owithin_any s.refunded 0 s.paid W)
 have W7:=Lib.hid (fun W=>hb7▸owithin_any s.events 0 1099511627776 W)
 have W8:=Lib.hid (fun W=>hb8▸owithin_any s.refused 0 s.events W)
 have W9:=Lib.hid (fun W=>hb9▸owithin_any s.stamp 0 1099511627776 W)
 have W10:=Lib.hid (fun W=>hb10▸onamed_any s.who W hw)
 have HE:=Lib.hid (stBlk_alloc w s lv)
 have hB0:=Lib.hid (show Below w.heap.size w (w.alloc (.cells (stCs s lv) 130)) from(Below.refl _ _).alloc (Nat.le_refl _) _)
 clear hb1 hb2 hb3 hb4 hb5 hb6 hb7 hb8 hb9 hb10 HLI hw
 have key: ∀ x,boundedB s=x→Calls Tryz.prog 121 #[stV s lv] w (fun e w'=>e= .returned (.bool x)∧Below w.heap.size w w')→Calls Tryz.prog 121 #[stV s lv] w fun e w'=>e= .returned (.bool (boundedB s))∧Below w.heap.size w w':=fun x h c=>h▸c
 cases b5
 case false=>
  refine key false (by rw [HR.out];cases b1<;>cases b2<;>cases b3<;>cases b4<;>rfl) ?_
  clear HR key W6 W7 W8 W9 W10
  cases b1<;>try cases b2<;>try cases b3<;>try cases b4
  all_goals
   go_enter Tryz.func121,Tryz.ntmps121
   go_wp2_with (first
    | (go_at_call 130;(with_reducible refine(W1.out _).mono ?_);rintro x w' ⟨rfl,rfl⟩)
    | (go_at_call 130;(with_reducible refine(W2.out _).mono ?_);rintro x w' ⟨rfl,rfl⟩)
    | (go_at_call 130;(with_reducible refine(W3.out _).mono ?_);rintro x w' ⟨rfl,rfl⟩)
    | (go_at_call 130;(with_reducible refine(W4.out _).mono ?_);rintro x w' ⟨rfl,rfl⟩)
    | (go_at_call 131;refine(W5.out _ hB0.out).mono ?_;rintro x w5 ⟨rfl,hb5⟩;have HB5:=Lib.hid (Below.next hB0.out hb5);clear hb5))
   go_ret
   first | exact⟨rfl,HB5.out⟩ | exact⟨rfl,hB0.out⟩
 case true=>
  by_cases hall:(b1&&(b2&&(b3&&b4)))=true
  ·simp only [Bool.and_eq_true] at hall
   obtain⟨rfl,rfl,rfl,rfl⟩:=hall
   have key2:boundedB s=(b6&&(b7&&(b8&&(b9&&b10)))):=by rw [HR.out];simp
   refine key _ key2 ?_
   clear HR key key2
   cases b6<;>try cases b7<;>try cases b8<;>try cases b9<;>try cases b10
   all_goals
    go_enter Tryz.func121,Tryz.ntmps121
    go_wp2_with (first
     | (go_at_call 130;(with_reducible refine(W1.out _).mono ?_);rintro x w' ⟨rfl,rfl⟩)
     | (go_at_call 130;(with_reducible refine(W2.out _).mono ?_);rintro x w' ⟨rfl,rfl⟩)
     | (go_at_call 130;(with_reducible refine(W3.out _).mono ?_);rintro x w' ⟨rfl,rfl⟩)
     | (go_at_call 130;(with_reducible refine(W4.out _).mono ?_);rintro x w' ⟨rfl,rfl⟩)
     | (go_at_call 131;refine(W5.out _ hB0.out).mono ?_;rintro x w5 ⟨rfl,hb5⟩;have HB5:=Lib.hid (Below.next hB0.out hb5);have HE5:=Lib.hid (HE.out.below hb5);clear hb5
        have c6:=HE5.out.cell 6;have c7:=HE5.out.cell 7;have c8:=HE5.out.cell 8;have c9:=HE5.out.cell 9;have c10:=HE5.out.cell 10;have c11:=HE5.out.cell 11
        simp only [stCs] at c6 c7 c8 c9 c10 c11)
     | (go_at_call 130;(with_reducible refine(W6.out _).mono ?_);rintro x w' ⟨rfl,rfl⟩)
     | (go_at_call 130;(with_reducible refine(W7.out _).mono ?_);rintro x w' ⟨rfl,rfl⟩)
     | (go_at_call 130;(with_reducible refine(W8.out _).mono ?_);rintro x w' ⟨rfl,rfl⟩)
     | (go_at_call 130;(with_reducible refine(W9.out _).mono ?_);rintro x w' ⟨rfl,rfl⟩)
     | (go_at_call 132;(with_reducible refine(W10.out _).mono ?_);rintro x w6 ⟨rfl,hb6⟩;have HB6:=Lib.hid (Below.next HB5.out hb6);clear hb6))
    go_ret
    first | exact⟨rfl,HB6.out⟩ | exact⟨rfl,HB5.out⟩
  ·have hf:(b1&&(b2&&(b3&&b4)))=false:=by simpa using hall
   refine key false (by rw [HR.out];revert hf;cases b1<;>cases b2<;>cases b3<;>cases b4<;>simp) ?_
   clear HR key W6 W7 W8 W9 W10 hall
   cases b1<;>try cases b2<;>try cases b3<;>try cases b4
   all_goals first
    | (simp at hf;done)
    | (clear hf
       go_enter Tryz.func121,Tryz.ntmps121
       go_wp2_with (first
       | (go_at_call 130;(with_reducible refine(W1.out _).mono ?_);rintro x w' ⟨rfl,rfl⟩)
       | (go_at_call 130;(with_reducible refine(W2.out _).mono ?_);rintro x w' ⟨rfl,rfl⟩)
       | (go_at_call 130;(with_reducible refine(W3.out _).mono ?_);rintro x w' ⟨rfl,rfl⟩)
       | (go_at_call 130;(with_reducible refine(W4.out _).mono ?_);rintro x w' ⟨rfl,rfl⟩))
       go_ret
       exact⟨rfl,hB0.out⟩)
end Go.Proofs.YtcglcphhfmkccaaGreatDoor
namespace Go.Proofs.YtcglcphhfmkccaaGreatDoor
open Go.RowKit
theorem risen_snoc: ∀ (ls:List Ln) (b:Int) (l:Ln),risen b (ls++[l])=(risen b ls&&(decide ((ls.getLast?.map (·.item)).getD b<l.item)&&lnFine l))
 | [],b,l=>by simp [risen]<;>rfl
 | x::ls,b,l=>by
  rw [List.cons_append,risen,risen,risen_snoc ls]
  cases ls with
  | nil=>simp [Bool.and_assoc]<;>rfl
  | cons y ls=>
   rw [List.getLast?_cons_cons]
   cases h:(y::ls).getLast? with
   | none=>simp at h
   | some z=>simp [Bool.and_assoc]
theorem risen_take_false: ∀ (ls:List Ln) (b:Int) (k:Nat),risen b (ls.take k)=false→risen b ls=false
 | [],b,k,h=>by simp [risen] at h
 | x::ls,b,0,h=>by simp [risen] at h
 | x::ls,b,k+1,h=>by
  rw [List.take_succ_cons,risen] at h
  rw [risen]
  cases h1:(decide (b<x.item)&&lnFine x) with
  | false=>simp
  | true=>
   rw [h1] at h
   simp only [Bool.true_and] at h ⊢
   exact risen_take_false ls _ k h
theorem five (b1 b2 b3 b4:Bool):b1=false∨(b1=true∧b2=false)∨(b1=true∧b2=true∧b3=false)∨(b1=true∧b2=true∧b3=true∧b4=false)∨(b1=true∧b2=true∧b3=true∧b4=true):=by
 cases b1<;>cases b2<;>cases b3<;>cases b4<;>decide
set_option maxRecDepth 100000 in
set_option maxHeartbeats 16000000 in
theorem olined_any (ls:List Ln) (lv:Value) (w:World) (hr:LnRow w lv ls):
  Calls Tryz.prog 131 #[lv] w fun e w'=>e= .returned (.bool (linedB ls))∧Below w.heap.size w w':=by
 obtain⟨oa,cap,rfl,hl1,hl2,hcs⟩:=hr.shape
 have HC:=Lib.hid hcs
 clear hr hcs
 by_cases h16:16<ls.length
 ·have hf:=Lib.hid (show linedB ls=false by unfold linedB;rw [decide_eq_false (by omega)];rfl)
  have q1:(16:Int)<(ls.length:Int):=by omega
  go_enter Tryz.func131,Tryz.ntmps131
  go_wp2
  go_ret
  exact⟨by rw [hf.out];rfl,Below.refl _ _⟩
 have HL:=Lib.hid (show linedB ls=risen (-1) ls by unfold linedB;rw [decide_eq_true (by omega)];rfl)
 have q16: ¬ ((16:Int)<(ls.length:Int)):=by omega
 go_enter Tryz.func131,Tryz.ntmps131
 go_wp2
 go_loopw [10] (fun iv wr=> ∃ (k:Nat),k≤ls.length∧iv= .int .i64 k∧Hid (risen (-1) (ls.take k)=true)∧Below w.heap.size w wr) (fun iv _=>ls.length - (intOf iv).toNat)
 case atStart=>exact⟨0,Nat.zero_le _,rfl,Lib.hid (by simp [risen]),Below.refl _ _⟩
 case round=>
  obtain⟨k,hk,rfl,HRI,hb⟩:=hrel
  have HB:=Lib.hid hb
  clear hb
  by_cases hlt:k<ls.length
  ·obtain⟨l,hl,htk,_⟩:=nth ls k hlt
   have q1:(k:Int)<(ls.length:Int):=by omega
   obtain⟨b,off,rfl,hcell⟩:=HC.out k l hl
   have HCE:=Lib.hid (range_later hcell HB.out)
   have HSN:=Lib.hid (show risen (-1) (ls.take (k+1))=(decide ((((ls.take k).getLast?).map (·.item)).getD (-1)<l.item)&&lnFine l) by rw [htk,risen_snoc,HRI.out,Bool.true_and])
   have HFA:=Lib.hid (show risen (-1) (ls.take (k+1))=false→linedB ls=false from fun h=>by rw [HL.out];exact risen_take_false ls _ _ h)
   obtain⟨b1,hb1⟩: ∃ b,b=btw l.item 0 65535:=⟨_,rfl⟩
   obtain⟨b2,hb2⟩: ∃ b,b=btw l.price 0 100000000:=⟨_,rfl⟩
   obtain⟨b3,hb3⟩: ∃ b,b=btw l.qty 1 100000:=⟨_,rfl⟩
   obtain⟨b4,hb4⟩: ∃ b,b=btw l.shipped 0 l.qty:=⟨_,rfl⟩
   have HFI:=Lib.hid (show lnFine l=(b1&&b2&&b3&&b4) by rw [lnFine,hb1,hb2,hb3,hb4])
   have HI0:=Lib.hid (show b1=true→0≤l.item from fun h=>by rw [hb1] at h;simp only [btw,Bool.and_eq_true,decide_eq_true_eq] at h;exact h.1)
   have W1:=Lib.hid (fun W=>hb1▸owithin_any l.item 0 65535 W)
   have W2:=Lib.hid (fun W=>hb2▸owithin_any l.price 0 100000000 W)
   have W3:=Lib.hid (fun W=>hb3▸owithin_any l.qty 1 100000 W)
   have W4:=Lib.hid (fun W=>hb4▸owithin_any l.shipped 0 l.qty W)
   clear hb1 hb2 hb3 hb4 htk
   rcases Nat.eq_zero_or_pos k with rfl | hpos
   ·
    have HZ:=Lib.hid (show risen (-1) (ls.take (0+1))=(b1&&b2&&b3&&b4) by
     rw [HSN.out,HFI.out]
     cases b1 with
     | false=>simp
     | true=>
      have:=HI0.out rfl
      rw [decide_eq_true (by simp;omega),Bool.true_and])
    have q0:decide ((0:Int)<((0:Nat):Int))=false:=by decide
    clear HSN HFI HI0 hl hcell
    have HA:=Lib.hid (show ∀ n,Below w.heap.size w ((wr.alloc (.cells (lnCs l) 177)).drewN n) from fun n=>Below.next (HB.out.alloc HB.out.size _) (below_drewN' _ n))
    rcases five b1 b2 b3 b4 with rfl | ⟨rfl,rfl⟩ | ⟨rfl,rfl,rfl⟩ | ⟨rfl,rfl,rfl,rfl⟩ | ⟨rfl,rfl,rfl,rfl⟩
    case inr.inr.inr.inr=>
     go_wp2_with (with_reducible refine wpList_load_ln rfl (.tmp 13) rfl b (off+0*4) l rfl HCE.out ?_)
     go_quiet (fail)
     go_wp2_with (first
      | (go_at_call 130;(with_reducible refine(W1.out _).mono ?_);rintro x w' ⟨rfl,rfl⟩)
      | (go_at_call 130;(with_reducible refine(W2.out _).mono ?_);rintro x w' ⟨rfl,rfl⟩)
      | (go_at_call 130;(with_reducible refine(W3.out _).mono ?_);rintro x w' ⟨rfl,rfl⟩)
      | (go_at_call 130;(with_reducible refine(W4.out _).mono ?_);rintro x w' ⟨rfl,rfl⟩))
     go_roundw
     case rel=>exact⟨0+1,by omega,by go_num,Lib.hid (by rw [HZ.out];rfl),HA.out _⟩
     case measure=>first | (simp [intOf];done) | (simp [intOf];omega)
    all_goals
     have hfin:=Lib.hid (HFA.out (by rw [HZ.out];rfl))
     go_wp2_with (with_reducible refine wpList_load_ln rfl (.tmp 13) rfl b (off+0*4) l rfl HCE.out ?_)
     go_quiet (fail)
     go_wp2_with (first
      | (go_at_call 130;(with_reducible refine(W1.out _).mono ?_);rintro x w' ⟨rfl,rfl⟩)
      | (go_at_call 130;(with_reducible refine(W2.out _).mono ?_);rintro x w' ⟨rfl,rfl⟩)
      | (go_at_call 130;(with_reducible refine(W3.out _).mono ?_);rintro x w' ⟨rfl,rfl⟩)
      | (go_at_call 130;(with_reducible refine(W4.out _).mono ?_);rintro x w' ⟨rfl,rfl⟩))
     go_ret
     exact⟨by rw [hfin.out];rfl,HA.out _⟩
   ·
    obtain⟨j,rfl⟩: ∃ j,k=j+1:=⟨k - 1,by omega⟩
    obtain⟨p,hp,htp,_⟩:=nth ls j (by omega)
    obtain⟨b',off',hbo,hcp⟩:=HC.out j p hp
    obtain⟨rfl,rfl⟩:b'=b∧off'=off:=by
     simp only [Option.some.injEq,Addr.mk.injEq,and_true] at hbo
     exact⟨hbo.1.symm,hbo.2.symm⟩
    have hlast:(((ls.take (j+1)).getLast?).map (·.item)).getD (-1)=p.item:=by rw [htp];simp
    have c1:wr.cell? ⟨b',off'+j*4,none⟩=some (.int .i64 p.item):=cell_later HB.out (hcp 0 _ rfl)
    have c1':(wr.alloc (.cells #[.int .i64 l.item,.int .i64 l.price,.int .i64 l.qty,.int .i64 l.shipped] 177)).cell? ⟨b',off'+j*4,none⟩=some (.int .i64 p.item):=cell_later ((Below.refl _ _).alloc (Nat.le_refl _) _) c1
    have q0:decide ((0:Int)<((j+1:Nat):Int))=true:=by rw [decide_eq_true_eq];omega
    have q2:(j:Int)<(ls.length:Int):=by omega
    have ej:IntKind.i64.wrap (((j+1:Nat):Int) - 1)=(j:Int):=by rw [IntKind.wrap_i64];omega
    have ej2:IntKind.i64.wrap (j:Int)=(j:Int):=by rw [IntKind.wrap_i64];omega
    have q3:(0:Int)<((j+1:Nat):Int):=by omega
    rw [hlast] at HSN
    by_cases hle:l.item≤p.item
    ·have hfin:=Lib.hid (HFA.out (by rw [HSN.out,decide_eq_false (by omega)];rfl))
     have HA:=Lib.hid (show ∀ n,Below w.heap.size w ((wr.alloc (.cells (lnCs l) 177)).drewN n) from fun n=>Below.next (HB.out.alloc HB.out.size _) (below_drewN' _ n))
     have d1:decide (l.item≤p.item)=true:=decide_eq_true hle
     clear HSN HFI HI0 hl hcell hp htp hbo hcp hlast hpos HFA
     go_wp2_with (with_reducible refine wpList_load_ln rfl (.tmp 13) rfl b' (off'+(j+1)*4) l rfl HCE.out ?_)
     go_quiet (fail)
     go_wp2
     go_ret
     exact⟨by rw [hfin.out];rfl,HA.out _⟩
    ·have HZ:=Lib.hid (show risen (-1) (ls.take (j+1+1))=(b1&&b2&&b3&&b4) by rw [HSN.out,decide_eq_true (by omega),Bool.true_and,HFI.out])
     have HA:=Lib.hid (show ∀ n,Below w.heap.size w ((wr.alloc (.cells (lnCs l) 177)).drewN n) from fun n=>Below.next (HB.out.alloc HB.out.size _) (below_drewN' _ n))
     have d1:decide (l.item≤p.item)=false:=decide_eq_false hle
     clear HSN HFI HI0 hl hcell hp htp hbo hcp hlast hpos
     rcases five b1 b2 b3 b4 with rfl | ⟨rfl,rfl⟩ | ⟨rfl,rfl,rfl⟩ | ⟨rfl,rfl,rfl,rfl⟩ | ⟨rfl,rfl,rfl,rfl⟩
     case inr.inr.inr.inr=>
      go_wp2_with (with_reducible refine wpList_load_ln rfl (.tmp 13) rfl b' (off'+(j+1)*4) l rfl HCE.out ?_)
      go_quiet (fail)
      go_wp2_with (first
       | (go_at_call 130;(with_reducible refine(W1.out _).mono ?_);rintro x w' ⟨rfl,rfl⟩)
       | (go_at_call 130;(with_reducible refine(W2.out _).mono ?_);rintro x w' ⟨rfl,rfl⟩)
       | (go_at_call 130;(with_reducible refine(W3.out _).mono ?_);rintro x w' ⟨rfl,rfl⟩)
       | (go_at_call 130;(with_reducible refine(W4.out _).mono ?_);rintro x w' ⟨rfl,rfl⟩))
      go_roundw
      case rel=>exact⟨j+1+1,by omega,by go_num,Lib.hid (by rw [HZ.out];rfl),HA.out _⟩
      case measure=>first | (simp [intOf];done) | (simp [intOf];omega)
     all_goals
      have hfin:=Lib.hid (HFA.out (by rw [HZ.out];rfl))
      go_wp2_with (with_reducible refine wpList_load_ln rfl (.tmp 13) rfl b' (off'+(j+1)*4) l rfl HCE.out ?_)
      go_quiet (fail)
      go_wp2_with (first
       | (go_at_call 130;(with_reducible refine(W1.out _).mono ?_);rintro x w' ⟨rfl,rfl⟩)
       | (go_at_call 130;(with_reducible refine(W2.out _).mono ?_);rintro x w' ⟨rfl,rfl⟩)
       | (go_at_call 130;(with_reducible refine(W3.out _).mono ?_);rintro x w' ⟨rfl,rfl⟩)
       | (go_at_call 130;(with_reducible refine(W4.out _).mono ?_);rintro x w' ⟨rfl,rfl⟩))
      go_ret
      exact⟨by rw [hfin.out];rfl,HA.out _⟩
  ·obtain rfl:k=ls.length:=by omega
   have hfin:=Lib.hid (show linedB ls=true by rw [HL.out,←HRI.out,List.take_length])
   go_wp2
   go_ret
   exact⟨by rw [hfin.out];rfl,HB.out⟩
end Go.Proofs.YtcglcphhfmkccaaGreatDoor

namespace Go.Proofs.YtcglcphhfmkccaaGreatDoor
open Go.RowKit
theorem obounded (s:St) (lv:Value) (w:World) (hr:LnRow w lv s.lines) (hw:s.who.length≤281474976710656):
  Calls Tryz.prog 121 #[stV s lv] w fun e w'=>e= .returned (.bool (boundedB s))∧Below w.heap.size w w':=
 obounded_any s lv w hw fun W hb=>olined_any s.lines lv W (hr.below hb)
theorem stF {b:Nat} {s:St} {lv:Value} {R:World→Prop}:Hid (∀ w',(StBlk w' b s lv∧R w')→(w'.cell? ⟨b,1,none⟩=some (.int .i64 s.status)∧w'.cell? ⟨b,6,none⟩=some (.int .i64 s.paid))):=Lib.hid fun _ h=>⟨h.1.c1,h.1.c6⟩
theorem tst {ops:Array Oper} {Q:Exit→Act→World→Prop} {md:Region.Mode} {S:World→Prop} {d:Option Tmp} {t:TypeId} {p:String} {af:Array Edge} {g:Option (Nat×Bool)} {fuel:Nat} {listed:Array Bool} {a:Act} {w:World} {s:St} {lv:Value} {b:Nat} (i:Nat)
  (hS2: ∀ w',S w'→StBlk w' b s lv) (h:wpAnyH Tryz.prog md ops Q S fuel (listed.setIfInBounds i true) (a.put d (stV s lv)) w)
  (hi:ops[i]? =some ⟨d,.load 130 (.tmp 1),t,p,af,g⟩:=by rfl) (hx:a.eval (.tmp 1)= .pointer (some ⟨b,0,none⟩):=by rfl)
  (hs:Region.noSelect ops=true:=by kernel_rfl) (hf:Region.free md ops listed i=true:=by kernel_rfl) (hr:(Region.ready md ops listed).contains i=true:=by kernel_rfl)
  (hQ: ∀ c a w,Q (.panic c) (a.put d (stV s lv)) w→Q (.panic c) a w:=by exact fun _ _ _ h=>h) (hw:Region.wanted ⟨d,.load 130 (.tmp 1),t,p,af,g⟩ (yielded ops a.tmps)=true:=by kernel_rfl) (hS:S w:=by assumption):
  wpAnyH Tryz.prog md ops Q S (fuel+1) listed a w:=
 wpAnyH_take hi hs hf hr hQ (yieldsIf_load_mid hw 130 (.tmp 1) rfl b 0 hx (stCs s lv).toList _ (fun w' h j v hv=>by rw [Nat.zero_add,(hS2 w' h).cell];simpa using hv) Tryz.underlying130 rfl (by rw [stInfo];rfl)) hS h
theorem stHH {s:St} {lv:Value} {w:World} (hr:LnRow w lv s.lines):StBlk (w.alloc (.cells (stCs s lv) 130)).drew w.heap.size s lv∧LnRow (w.alloc (.cells (stCs s lv) 130)).drew lv s.lines∧Below w.heap.size w (w.alloc (.cells (stCs s lv) 130)).drew:=by
 have hb:Below w.heap.size w (w.alloc (.cells (stCs s lv) 130)):=(Below.refl _ _).alloc (Nat.le_refl _) _
 exact⟨stBlk_alloc w s lv,hr.below (Below.next hb (below_drewN' _ 1)),Below.next hb (below_drewN' _ 1)⟩
theorem stBO {s:St} {lv:Value} {b:Bool} (hf:boundedB s=b) (hw:s.who.length≤281474976710656): ∀ W:World,LnRow W lv s.lines→Calls Tryz.prog 121 #[stV s lv] W fun e w'=>e= .returned (.bool b)∧Below W.heap.size W w':=fun W h=>hf▸obounded s lv W h hw
theorem stDU {s:St} {lv:Value} {D:Int} (hD:D=dueOf s) (hbp:BoundedP s): ∀ W:World,LnRow W lv s.lines→Calls Tryz.prog 122 #[stV s lv] W fun e w'=>e= .returned (.int .i64 D)∧Below W.heap.size W w':=fun W h=>hD▸odue_any s lv W h hbp.fine hbp.few hbp.tax.1 hbp.tax.2
theorem stSH (s:St) (lv:Value): ∀ W:World,LnRow W lv s.lines→Calls Tryz.prog 123 #[stV s lv] W fun e w'=>e= .returned (.tuple #[.bool (noneB s.lines),.bool (wholeB s.lines)])∧Below W.heap.size W w':=fun W h=>oshipped_any s lv W h
theorem fullWays (a b:Int):((a==b)=false∧(a==b&&decide (0<a))=false)∨((a==b)=true∧decide (0<a)=false∧(a==b&&decide (0<a))=false)∨((a==b)=true∧decide (0<a)=true∧(a==b&&decide (0<a))=true):=by
 cases h1:(a==b)
 ·exact .inl ⟨rfl,rfl⟩
 ·cases h2:decide (0<a)
  ·exact .inr (.inl ⟨rfl,rfl,rfl⟩)
  ·exact .inr (.inr ⟨rfl,rfl,rfl⟩)
set_option maxRecDepth 100000 in
set_option maxHeartbeats 16000000 in
theorem oValid_out (s:St) (lv:Value) (w:World) (hr:LnRow w lv s.lines) (hw:s.who.length≤281474976710656) (hf:boundedB s=false):
  Calls Tryz.prog 99 #[stV s lv] w fun e w'=>e= .returned (.bool (validB s))∧Below w.heap.size w w':=by
 have hv:=Lib.hid (show validB s=false by unfold validB;rw [hf];rfl)
 have HBO:=Lib.hid (stBO (lv:=lv) hf hw)
 have HH:=Lib.hid (stHH hr)
 clear hr hw hf
 go_enter Tryz.func99,Tryz.ntmps99
 go_wp2
 refine wp_region_held_drew (S:=fun w'=>StBlk w' w.heap.size s lv∧LnRow w' lv s.lines∧Below w.heap.size w w') (by kernel_rfl) HH.out (fun hHeld=> ?_)
 refine tst 0 (fun _ h=>h.1) ?_
 simp only [pA,pB,pC,pD]
 refine wpAnyH_ready (rs:=[1]) (by kernel_rfl) (by simp) ?_
 refine AllReadyH.cons rfl (fun K hK=> ?_) AllReadyH.nil
 go_simp
 go_at_call 121
 obtain⟨hSt,hLn,hBe⟩:=hHeld
 refine(HBO.out _ hLn).mono ?_
 rintro x w1 ⟨rfl,hb⟩
 go_wp2_with fail
 refine hK.out _ _ ⟨hSt.below hb,hLn.below hb,Below.next hBe hb⟩ (fun hHeld=> ?_)
 clear hK K hSt hLn hBe hb
 refine tf stF 2 rfl ?_
 refine tf stF 3 rfl ?_
 refine tkn 4 rfl ?_
 simp only [pA,pB,pC,pD]
 refine tkn 5 rfl ?_
 simp only [pA,pB,pC,pD]
 refine tkn 6 rfl ?_
 simp only [pA,pB,pC,pD]
 refine tkn 7 rfl ?_
 simp only [pA,pB,pC,pD]
 refine tkn 8 rfl ?_
 simp only [pA,pB,pC,pD]
 refine tf stF 9 rfl ?_
 refine wpAnyH_done (by kernel_rfl) ?_ _
 have HB:=Lib.hid hHeld.2.2
 clear hHeld
 go_wp2
 go_ret
 exact⟨by rw [hv.out];rfl,HB.out⟩
end Go.Proofs.YtcglcphhfmkccaaGreatDoor
namespace Go.Proofs.YtcglcphhfmkccaaGreatDoor
open Go.RowKit
set_option maxRecDepth 100000 in
set_option maxHeartbeats 16000000 in
theorem oValid_much (s:St) (lv:Value) (w:World) (hr:LnRow w lv s.lines) (hw:s.who.length≤281474976710656) (hf:boundedB s=true) (hm:dueOf s<s.paid):
  Calls Tryz.prog 99 #[stV s lv] w fun e w'=>e= .returned (.bool (validB s))∧Below w.heap.size w w':=by
 have hv:=Lib.hid (show validB s=false by unfold validB;rw [hf,decide_eq_false (by omega)];rfl)
 have hbp:=bounded_p hf
 have HBO:=Lib.hid (stBO (lv:=lv) hf hw)
 obtain⟨D,hD⟩: ∃ D,D=dueOf s:=⟨_,rfl⟩
 have HDU:=Lib.hid (stDU (lv:=lv) hD hbp)
 have HH:=Lib.hid (stHH hr)
 rw [←hD] at hm
 have d1:decide (D<s.paid)=true:=decide_eq_true hm
 clear hr hw hf hbp hD hm
 go_enter Tryz.func99,Tryz.ntmps99
 go_wp2
 refine wp_region_held_drew (S:=fun w'=>StBlk w' w.heap.size s lv∧LnRow w' lv s.lines∧Below w.heap.size w w') (by kernel_rfl) HH.out (fun hHeld=> ?_)
 refine tst 0 (fun _ h=>h.1) ?_
 simp only [pA,pB,pC,pD]
 refine wpAnyH_ready (rs:=[1]) (by kernel_rfl) (by simp) ?_
 refine AllReadyH.cons rfl (fun K hK=> ?_) AllReadyH.nil
 go_simp
 go_at_call 121
 obtain⟨hSt,hLn,hBe⟩:=hHeld
 refine(HBO.out _ hLn).mono ?_
 rintro x w1 ⟨rfl,hb⟩
 go_wp2_with fail
 refine hK.out _ _ ⟨hSt.below hb,hLn.below hb,Below.next hBe hb⟩ (fun hHeld=> ?_)
 clear hK K hSt hLn hBe hb
 refine tf stF 2 rfl ?_
 refine tf stF 3 rfl ?_
 refine tf stF 4 rfl ?_
 refine tf stF 5 rfl ?_
 refine tst 6 (fun _ h=>h.1) ?_
 simp only [pA,pB,pC,pD]
 refine wpAnyH_ready (rs:=[7]) (by kernel_rfl) (by simp) ?_
 refine AllReadyH.cons rfl (fun K hK=> ?_) AllReadyH.nil
 go_simp
 go_at_call 122
 obtain⟨hSt,hLn,hBe⟩:=hHeld
 refine(HDU.out _ hLn).mono ?_
 rintro x w2 ⟨rfl,hb⟩
 go_wp2_with fail
 refine hK.out _ _ ⟨hSt.below hb,hLn.below hb,Below.next hBe hb⟩ (fun hHeld=> ?_)
 clear hK K hSt hLn hBe hb
 refine tf stF 8 rfl ?_
 refine tf stF 9 rfl ?_
 refine wpAnyH_done (by kernel_rfl) ?_ _
 have HB:=Lib.hid hHeld.2.2
 clear hHeld
 go_wp2
 go_ret
 exact⟨by rw [hv.out];rfl,HB.out⟩
set_option maxRecDepth 100000 in
set_option maxHeartbeats 16000000 in
theorem oValid_held (s:St) (lv:Value) (w:World) (hr:LnRow w lv s.lines) (hw:s.who.length≤281474976710656) (hf:boundedB s=true) (hm: ¬ dueOf s<s.paid) (hs:s.status=2) (hp1:s.prior≠1) (hp3:s.prior≠3):
  Calls Tryz.prog 99 #[stV s lv] w fun e w'=>e= .returned (.bool (validB s))∧Below w.heap.size w w':=by
 have hv:=Lib.hid (show validB s=false by unfold validB;rw [hf,if_pos hs];simp [hp1,hp3])
 have hbp:=bounded_p hf
 have HBO:=Lib.hid (stBO (lv:=lv) hf hw)
 obtain⟨D,hD⟩: ∃ D,D=dueOf s:=⟨_,rfl⟩
 have HDU:=Lib.hid (stDU (lv:=lv) hD hbp)
 have HH:=Lib.hid (stHH hr)
 rw [←hD] at hm
 have d1:decide (D<s.paid)=false:=decide_eq_false hm
 have hm2:s.paid≤D:=by omega
 have HS:=Lib.hid hs
 have e1:(s.prior != 1)=true:=by rw [bne_iff_ne];exact hp1
 have e3:(s.prior != 3)=true:=by rw [bne_iff_ne];exact hp3
 clear hr hw hf hbp hD hm hs hp1 hp3
 go_enter Tryz.func99,Tryz.ntmps99
 go_wp2
 refine wp_region_held_drew (S:=fun w'=>StBlk w' w.heap.size s lv∧LnRow w' lv s.lines∧Below w.heap.size w w') (by kernel_rfl) HH.out (fun hHeld=> ?_)
 refine tst 0 (fun _ h=>h.1) ?_
 simp only [pA,pB,pC,pD]
 refine wpAnyH_ready (rs:=[1]) (by kernel_rfl) (by simp) ?_
 refine AllReadyH.cons rfl (fun K hK=> ?_) AllReadyH.nil
 go_simp
 go_at_call 121
 obtain⟨hSt,hLn,hBe⟩:=hHeld
 refine(HBO.out _ hLn).mono ?_
 rintro x w1 ⟨rfl,hb⟩
 go_wp2_with fail
 refine hK.out _ _ ⟨hSt.below hb,hLn.below hb,Below.next hBe hb⟩ (fun hHeld=> ?_)
 clear hK K hSt hLn hBe hb
 refine tf stF 2 rfl ?_
 refine tf stF 3 rfl ?_
 refine tf stF 4 rfl ?_
 refine tf stF 5 rfl ?_
 refine tst 6 (fun _ h=>h.1) ?_
 simp only [pA,pB,pC,pD]
 refine wpAnyH_ready (rs:=[7]) (by kernel_rfl) (by simp) ?_
 refine AllReadyH.cons rfl (fun K hK=> ?_) AllReadyH.nil
 go_simp
 go_at_call 122
 obtain⟨hSt,hLn,hBe⟩:=hHeld
 refine(HDU.out _ hLn).mono ?_
 rintro x w2 ⟨rfl,hb⟩
 go_wp2_with fail
 refine hK.out _ _ ⟨hSt.below hb,hLn.below hb,Below.next hBe hb⟩ (fun hHeld=> ?_)
 clear hK K hSt hLn hBe hb
 refine tf stF 8 rfl ?_
 refine tf stF 9 rfl ?_
 refine wpAnyH_done (by kernel_rfl) ?_ _
 have c1:w2.cell? ⟨w.heap.size,1,none⟩=some (.int .i64 2):=by rw [hHeld.1.cell 1,stCs,HS.out];rfl
 have c2:=hHeld.1.c2
 have HB:=Lib.hid hHeld.2.2
 clear hHeld
 go_wp2
 go_ret
 exact⟨by rw [hv.out];rfl,HB.out⟩
set_option maxRecDepth 100000 in
set_option maxHeartbeats 16000000 in
theorem oValid_prior (s:St) (lv:Value) (w:World) (hr:LnRow w lv s.lines) (hw:s.who.length≤281474976710656) (hf:boundedB s=true) (hm: ¬ dueOf s<s.paid) (hs:s.status≠2) (hp:s.prior≠0):
  Calls Tryz.prog 99 #[stV s lv] w fun e w'=>e= .returned (.bool (validB s))∧Below w.heap.size w w':=by
 have hv:=Lib.hid (show validB s=false by unfold validB;rw [hf,if_neg hs];simp [hp])
 have hbp:=bounded_p hf
 have HBO:=Lib.hid (stBO (lv:=lv) hf hw)
 obtain⟨D,hD⟩: ∃ D,D=dueOf s:=⟨_,rfl⟩
 have HDU:=Lib.hid (stDU (lv:=lv) hD hbp)
 have HH:=Lib.hid (stHH hr)
 rw [←hD] at hm
 have d1:decide (D<s.paid)=false:=decide_eq_false hm
 have hm2:s.paid≤D:=by omega
 have e1:(s.status==2)=false:=by rw [beq_eq_false_iff_ne];exact hs
 have e3:(s.prior != 0)=true:=by rw [bne_iff_ne];exact hp
 clear hr hw hf hbp hD hm hs hp
 go_enter Tryz.func99,Tryz.ntmps99
 go_wp2
 refine wp_region_held_drew (S:=fun w'=>StBlk w' w.heap.size s lv∧LnRow w' lv s.lines∧Below w.heap.size w w') (by kernel_rfl) HH.out (fun hHeld=> ?_)
 refine tst 0 (fun _ h=>h.1) ?_
 simp only [pA,pB,pC,pD]
 refine wpAnyH_ready (rs:=[1]) (by kernel_rfl) (by simp) ?_
 refine AllReadyH.cons rfl (fun K hK=> ?_) AllReadyH.nil
 go_simp
 go_at_call 121
 obtain⟨hSt,hLn,hBe⟩:=hHeld
 refine(HBO.out _ hLn).mono ?_
 rintro x w1 ⟨rfl,hb⟩
 go_wp2_with fail
 refine hK.out _ _ ⟨hSt.below hb,hLn.below hb,Below.next hBe hb⟩ (fun hHeld=> ?_)
 clear hK K hSt hLn hBe hb
 refine tf stF 2 rfl ?_
 refine tf stF 3 rfl ?_
 refine tf stF 4 rfl ?_
 refine tf stF 5 rfl ?_
 refine tst 6 (fun _ h=>h.1) ?_
 simp only [pA,pB,pC,pD]
 refine wpAnyH_ready (rs:=[7]) (by kernel_rfl) (by simp) ?_
 refine AllReadyH.cons rfl (fun K hK=> ?_) AllReadyH.nil
 go_simp
 go_at_call 122
 obtain⟨hSt,hLn,hBe⟩:=hHeld
 refine(HDU.out _ hLn).mono ?_
 rintro x w2 ⟨rfl,hb⟩
 go_wp2_with fail
 refine hK.out _ _ ⟨hSt.below hb,hLn.below hb,Below.next hBe hb⟩ (fun hHeld=> ?_)
 clear hK K hSt hLn hBe hb
 refine tf stF 8 rfl ?_
 refine tf stF 9 rfl ?_
 refine wpAnyH_done (by kernel_rfl) ?_ _
 have c1:=hHeld.1.c1
 have c2:=hHeld.1.c2
 have HB:=Lib.hid hHeld.2.2
 clear hHeld
 go_wp2
 go_ret
 exact⟨by rw [hv.out];rfl,HB.out⟩
end Go.Proofs.YtcglcphhfmkccaaGreatDoor

namespace Go.Proofs.YtcglcphhfmkccaaGreatDoor
open Go.RowKit
set_option maxRecDepth 100000 in
set_option maxHeartbeats 16000000 in
theorem oValid_5_0_0 (s:St) (lv:Value) (w:World) (hr:LnRow w lv s.lines) (hw:s.who.length≤281474976710656) (hf:boundedB s=true) (hm: ¬ dueOf s<s.paid) (hs:s.status=5) (hp:s.prior=0) (g1:(s.paid==dueOf s)=false):
  Calls Tryz.prog 99 #[stV s lv] w fun e w'=>e= .returned (.bool (validB s))∧Below w.heap.size w w':=by
 have HVb:=Lib.hid (show validB s=noneB s.lines by
  have h1:validB s=standB s 5:=by unfold validB;rw [hf,decide_eq_true (by omega),hs,hp];rfl
  have h2:(s.paid==dueOf s&&decide (0<s.paid))=false:=by rw [g1];rfl
  rw [h1];unfold standB;rw [h2];rfl)
 have hbp:=bounded_p hf
 have HBO:=Lib.hid (stBO (lv:=lv) hf hw)
 obtain⟨D,hD⟩: ∃ D,D=dueOf s:=⟨_,rfl⟩
 have HDU:=Lib.hid (stDU (lv:=lv) hD hbp)
 have HH:=Lib.hid (stHH hr)
 have HSH:=Lib.hid (stSH s lv)
 obtain⟨nB,hnB⟩: ∃ x,x=noneB s.lines:=⟨_,rfl⟩
 obtain⟨wB,hwB⟩: ∃ x,x=wholeB s.lines:=⟨_,rfl⟩
 rw [←hnB,←hwB] at HSH
 rw [←hD] at hm g1
 rw [←hnB] at HVb
 have d1:decide (D<s.paid)=false:=decide_eq_false hm
 have hm2:s.paid≤D:=by omega
 have HS:=Lib.hid hs
 have HP:=Lib.hid hp
 obtain⟨oa,cap,hlv,_,_,_⟩:=hr.shape
 have HLV:=Lib.hid hlv
 clear hr hw hf hbp hD hm hs hp hnB hwB hlv
 go_enter Tryz.func99,Tryz.ntmps99
 go_wp2
 refine wp_region_held_drew (S:=fun w'=>StBlk w' w.heap.size s lv∧LnRow w' lv s.lines∧Below w.heap.size w w') (by kernel_rfl) HH.out (fun hHeld=> ?_)
 refine tst 0 (fun _ h=>h.1) ?_
 simp only [pA,pB,pC,pD]
 refine wpAnyH_ready (rs:=[1]) (by kernel_rfl) (by simp) ?_
 refine AllReadyH.cons rfl (fun K hK=> ?_) AllReadyH.nil
 go_simp
 go_at_call 121
 obtain⟨hSt,hLn,hBe⟩:=hHeld
 refine(HBO.out _ hLn).mono ?_
 rintro x w1 ⟨rfl,hb⟩
 go_wp2_with fail
 refine hK.out _ _ ⟨hSt.below hb,hLn.below hb,Below.next hBe hb⟩ (fun hHeld=> ?_)
 clear hK K hSt hLn hBe hb
 refine tf stF 2 rfl ?_
 refine tf stF 3 rfl ?_
 refine tf stF 4 rfl ?_
 refine tf stF 5 rfl ?_
 refine tst 6 (fun _ h=>h.1) ?_
 simp only [pA,pB,pC,pD]
 refine wpAnyH_ready (rs:=[7]) (by kernel_rfl) (by simp) ?_
 refine AllReadyH.cons rfl (fun K hK=> ?_) AllReadyH.nil
 go_simp
 go_at_call 122
 obtain⟨hSt,hLn,hBe⟩:=hHeld
 refine(HDU.out _ hLn).mono ?_
 rintro x w2 ⟨rfl,hb⟩
 go_wp2_with fail
 refine hK.out _ _ ⟨hSt.below hb,hLn.below hb,Below.next hBe hb⟩ (fun hHeld=> ?_)
 clear hK K hSt hLn hBe hb
 refine tf stF 8 rfl ?_
 refine tf stF 9 rfl ?_
 refine wpAnyH_done (by kernel_rfl) ?_ _
 have c1:w2.cell? ⟨w.heap.size,1,none⟩=some (.int .i64 5):=by rw [hHeld.1.cell 1,stCs,HS.out];rfl
 have c2:w2.cell? ⟨w.heap.size,2,none⟩=some (.int .i64 0):=by rw [hHeld.1.cell 2,stCs,HP.out];rfl
 have HE:=Lib.hid hHeld
 clear hHeld HBO HH
 go_wp2_with (first
  | (with_reducible refine wpList_load_st rfl (.tmp 1) rfl w.heap.size s lv rfl HE.out.1 ?_)
  | (go_at_call 123;refine(HSH.out _ HE.out.2.1).mono ?_;rintro x w3 ⟨rfl,hb⟩;have HE3:=Lib.hid (show StBlk w3 w.heap.size s lv∧LnRow w3 lv s.lines∧Below w.heap.size w w3 from⟨HE.out.1.below hb,HE.out.2.1.below hb,Below.next HE.out.2.2 hb⟩);clear hb))
 clear c1 c2 HE HSH
 refine wp_region_held_drew (S:=fun w'=>StBlk w' w.heap.size s lv∧LnRow w' lv s.lines∧Below w.heap.size w w') (by kernel_rfl) ⟨HE3.out.1,HE3.out.2.1,Below.next HE3.out.2.2 (below_drewN' _ 1)⟩ (fun hHeld=> ?_)
 refine tf stF 0 rfl ?_
 refine tf stF 1 rfl ?_
 refine tst 2 (fun _ h=>h.1) ?_
 simp only [pA,pB,pC,pD]
 refine wpAnyH_ready (rs:=[3]) (by kernel_rfl) (by simp) ?_
 refine AllReadyH.cons rfl (fun K hK=> ?_) AllReadyH.nil
 go_simp
 go_at_call 122
 obtain⟨hSt,hLn,hBe⟩:=hHeld
 refine(HDU.out _ hLn).mono ?_
 rintro x w4 ⟨rfl,hb⟩
 go_wp2_with fail
 refine hK.out _ _ ⟨hSt.below hb,hLn.below hb,Below.next hBe hb⟩ (fun hHeld=> ?_)
 clear hK K hSt hLn hBe hb
 refine tf stF 4 rfl ?_
 refine tf stF 5 rfl ?_
 refine tkn 6 rfl ?_
 simp only [pA,pB,pC,pD]
 refine tkn 7 rfl ?_
 simp only [pA,pB,pC,pD]
 refine tkn 8 rfl ?_
 simp only [pA,pB,pC,pD]
 refine tf stF 9 rfl ?_
 refine tf stF 10 rfl ?_
 refine wpAnyH_done (by kernel_rfl) ?_ _
 have HB:=Lib.hid hHeld.2.2
 have d3:w4.cell? ⟨w.heap.size,3,none⟩=some (.int .i64 s.cur):=hHeld.1.cell 3
 have d4:w4.cell? ⟨w.heap.size,4,none⟩=some (.int .i64 s.tax):=hHeld.1.cell 4
 have d5:w4.cell? ⟨w.heap.size,5,none⟩=some (.slice oa s.lines.length cap):=by rw [hHeld.1.cell 5,stCs,HLV.out];rfl
 have d7:w4.cell? ⟨w.heap.size,7,none⟩=some (.int .i64 s.refunded):=hHeld.1.cell 7
 have d8:w4.cell? ⟨w.heap.size,8,none⟩=some (.int .i64 s.events):=hHeld.1.cell 8
 have d9:w4.cell? ⟨w.heap.size,9,none⟩=some (.int .i64 s.refused):=hHeld.1.cell 9
 have d10:w4.cell? ⟨w.heap.size,10,none⟩=some (.int .i64 s.stamp):=hHeld.1.cell 10
 have d11:w4.cell? ⟨w.heap.size,11,none⟩=some (.string ⟨s.who.toArray⟩):=hHeld.1.cell 11
 clear hHeld HE3 HDU
 go_wp2
 go_ret
 exact⟨by rw [HVb.out];rfl,HB.out⟩
set_option maxRecDepth 100000 in
set_option maxHeartbeats 16000000 in
theorem oValid_5_0_1 (s:St) (lv:Value) (w:World) (hr:LnRow w lv s.lines) (hw:s.who.length≤281474976710656) (hf:boundedB s=true) (hm: ¬ dueOf s<s.paid) (hs:s.status=5) (hp:s.prior=0) (g1:(s.paid==dueOf s)=true) (g3:decide (0<s.paid)=false):
  Calls Tryz.prog 99 #[stV s lv] w fun e w'=>e= .returned (.bool (validB s))∧Below w.heap.size w w':=by
 have HVb:=Lib.hid (show validB s=noneB s.lines by
  have h1:validB s=standB s 5:=by unfold validB;rw [hf,decide_eq_true (by omega),hs,hp];rfl
  have h2:(s.paid==dueOf s&&decide (0<s.paid))=false:=by rw [g1,g3];rfl
  rw [h1];unfold standB;rw [h2];rfl)
 have hbp:=bounded_p hf
 have HBO:=Lib.hid (stBO (lv:=lv) hf hw)
 obtain⟨D,hD⟩: ∃ D,D=dueOf s:=⟨_,rfl⟩
 have HDU:=Lib.hid (stDU (lv:=lv) hD hbp)
 have HH:=Lib.hid (stHH hr)
 have HSH:=Lib.hid (stSH s lv)
 obtain⟨nB,hnB⟩: ∃ x,x=noneB s.lines:=⟨_,rfl⟩
 obtain⟨wB,hwB⟩: ∃ x,x=wholeB s.lines:=⟨_,rfl⟩
 rw [←hnB,←hwB] at HSH
 rw [←hD] at hm g1
 rw [←hnB] at HVb
 have d1:decide (D<s.paid)=false:=decide_eq_false hm
 have hm2:s.paid≤D:=by omega
 have HS:=Lib.hid hs
 have HP:=Lib.hid hp
 obtain⟨oa,cap,hlv,_,_,_⟩:=hr.shape
 have HLV:=Lib.hid hlv
 clear hr hw hf hbp hD hm hs hp hnB hwB hlv
 go_enter Tryz.func99,Tryz.ntmps99
 go_wp2
 refine wp_region_held_drew (S:=fun w'=>StBlk w' w.heap.size s lv∧LnRow w' lv s.lines∧Below w.heap.size w w') (by kernel_rfl) HH.out (fun hHeld=> ?_)
 refine tst 0 (fun _ h=>h.1) ?_
 simp only [pA,pB,pC,pD]
 refine wpAnyH_ready (rs:=[1]) (by kernel_rfl) (by simp) ?_
 refine AllReadyH.cons rfl (fun K hK=> ?_) AllReadyH.nil
 go_simp
 go_at_call 121
 obtain⟨hSt,hLn,hBe⟩:=hHeld
 refine(HBO.out _ hLn).mono ?_
 rintro x w1 ⟨rfl,hb⟩
 go_wp2_with fail
 refine hK.out _ _ ⟨hSt.below hb,hLn.below hb,Below.next hBe hb⟩ (fun hHeld=> ?_)
 clear hK K hSt hLn hBe hb
 refine tf stF 2 rfl ?_
 refine tf stF 3 rfl ?_
 refine tf stF 4 rfl ?_
 refine tf stF 5 rfl ?_
 refine tst 6 (fun _ h=>h.1) ?_
 simp only [pA,pB,pC,pD]
 refine wpAnyH_ready (rs:=[7]) (by kernel_rfl) (by simp) ?_
 refine AllReadyH.cons rfl (fun K hK=> ?_) AllReadyH.nil
 go_simp
 go_at_call 122
 obtain⟨hSt,hLn,hBe⟩:=hHeld
 refine(HDU.out _ hLn).mono ?_
 rintro x w2 ⟨rfl,hb⟩
 go_wp2_with fail
 refine hK.out _ _ ⟨hSt.below hb,hLn.below hb,Below.next hBe hb⟩ (fun hHeld=> ?_)
 clear hK K hSt hLn hBe hb
 refine tf stF 8 rfl ?_
 refine tf stF 9 rfl ?_
 refine wpAnyH_done (by kernel_rfl) ?_ _
 have c1:w2.cell? ⟨w.heap.size,1,none⟩=some (.int .i64 5):=by rw [hHeld.1.cell 1,stCs,HS.out];rfl
 have c2:w2.cell? ⟨w.heap.size,2,none⟩=some (.int .i64 0):=by rw [hHeld.1.cell 2,stCs,HP.out];rfl
 have HE:=Lib.hid hHeld
 clear hHeld HBO HH
 go_wp2_with (first
  | (with_reducible refine wpList_load_st rfl (.tmp 1) rfl w.heap.size s lv rfl HE.out.1 ?_)
  | (go_at_call 123;refine(HSH.out _ HE.out.2.1).mono ?_;rintro x w3 ⟨rfl,hb⟩;have HE3:=Lib.hid (show StBlk w3 w.heap.size s lv∧LnRow w3 lv s.lines∧Below w.heap.size w w3 from⟨HE.out.1.below hb,HE.out.2.1.below hb,Below.next HE.out.2.2 hb⟩);clear hb))
 clear c1 c2 HE HSH
 refine wp_region_held_drew (S:=fun w'=>StBlk w' w.heap.size s lv∧LnRow w' lv s.lines∧Below w.heap.size w w') (by kernel_rfl) ⟨HE3.out.1,HE3.out.2.1,Below.next HE3.out.2.2 (below_drewN' _ 1)⟩ (fun hHeld=> ?_)
 refine tf stF 0 rfl ?_
 refine tf stF 1 rfl ?_
 refine tst 2 (fun _ h=>h.1) ?_
 simp only [pA,pB,pC,pD]
 refine wpAnyH_ready (rs:=[3]) (by kernel_rfl) (by simp) ?_
 refine AllReadyH.cons rfl (fun K hK=> ?_) AllReadyH.nil
 go_simp
 go_at_call 122
 obtain⟨hSt,hLn,hBe⟩:=hHeld
 refine(HDU.out _ hLn).mono ?_
 rintro x w4 ⟨rfl,hb⟩
 go_wp2_with fail
 refine hK.out _ _ ⟨hSt.below hb,hLn.below hb,Below.next hBe hb⟩ (fun hHeld=> ?_)
 clear hK K hSt hLn hBe hb
 refine tf stF 4 rfl ?_
 refine tf stF 5 rfl ?_
 refine tf stF 6 rfl ?_
 refine tf stF 7 rfl ?_
 refine tf stF 8 rfl ?_
 refine tf stF 9 rfl ?_
 refine tf stF 10 rfl ?_
 refine wpAnyH_done (by kernel_rfl) ?_ _
 have HB:=Lib.hid hHeld.2.2
 have d3:w4.cell? ⟨w.heap.size,3,none⟩=some (.int .i64 s.cur):=hHeld.1.cell 3
 have d4:w4.cell? ⟨w.heap.size,4,none⟩=some (.int .i64 s.tax):=hHeld.1.cell 4
 have d5:w4.cell? ⟨w.heap.size,5,none⟩=some (.slice oa s.lines.length cap):=by rw [hHeld.1.cell 5,stCs,HLV.out];rfl
 have d7:w4.cell? ⟨w.heap.size,7,none⟩=some (.int .i64 s.refunded):=hHeld.1.cell 7
 have d8:w4.cell? ⟨w.heap.size,8,none⟩=some (.int .i64 s.events):=hHeld.1.cell 8
 have d9:w4.cell? ⟨w.heap.size,9,none⟩=some (.int .i64 s.refused):=hHeld.1.cell 9
 have d10:w4.cell? ⟨w.heap.size,10,none⟩=some (.int .i64 s.stamp):=hHeld.1.cell 10
 have d11:w4.cell? ⟨w.heap.size,11,none⟩=some (.string ⟨s.who.toArray⟩):=hHeld.1.cell 11
 clear hHeld HE3 HDU
 go_wp2
 go_ret
 exact⟨by rw [HVb.out];rfl,HB.out⟩
set_option maxRecDepth 100000 in
set_option maxHeartbeats 16000000 in
theorem oValid_5_0_2 (s:St) (lv:Value) (w:World) (hr:LnRow w lv s.lines) (hw:s.who.length≤281474976710656) (hf:boundedB s=true) (hm: ¬ dueOf s<s.paid) (hs:s.status=5) (hp:s.prior=0) (g1:(s.paid==dueOf s)=true) (g3:decide (0<s.paid)=true):
  Calls Tryz.prog 99 #[stV s lv] w fun e w'=>e= .returned (.bool (validB s))∧Below w.heap.size w w':=by
 have HVb:=Lib.hid (show validB s=noneB s.lines by
  have h1:validB s=standB s 5:=by unfold validB;rw [hf,decide_eq_true (by omega),hs,hp];rfl
  have h2:(s.paid==dueOf s&&decide (0<s.paid))=true:=by rw [g1,g3];rfl
  rw [h1];unfold standB;rw [h2];rfl)
 have hbp:=bounded_p hf
 have HBO:=Lib.hid (stBO (lv:=lv) hf hw)
 obtain⟨D,hD⟩: ∃ D,D=dueOf s:=⟨_,rfl⟩
 have HDU:=Lib.hid (stDU (lv:=lv) hD hbp)
 have HH:=Lib.hid (stHH hr)
 have HSH:=Lib.hid (stSH s lv)
 obtain⟨nB,hnB⟩: ∃ x,x=noneB s.lines:=⟨_,rfl⟩
 obtain⟨wB,hwB⟩: ∃ x,x=wholeB s.lines:=⟨_,rfl⟩
 rw [←hnB,←hwB] at HSH
 rw [←hD] at hm g1
 rw [←hnB] at HVb
 have d1:decide (D<s.paid)=false:=decide_eq_false hm
 have hm2:s.paid≤D:=by omega
 have HS:=Lib.hid hs
 have HP:=Lib.hid hp
 obtain⟨oa,cap,hlv,_,_,_⟩:=hr.shape
 have HLV:=Lib.hid hlv
 clear hr hw hf hbp hD hm hs hp hnB hwB hlv
 go_enter Tryz.func99,Tryz.ntmps99
 go_wp2
 refine wp_region_held_drew (S:=fun w'=>StBlk w' w.heap.size s lv∧LnRow w' lv s.lines∧Below w.heap.size w w') (by kernel_rfl) HH.out (fun hHeld=> ?_)
 refine tst 0 (fun _ h=>h.1) ?_
 simp only [pA,pB,pC,pD]
 refine wpAnyH_ready (rs:=[1]) (by kernel_rfl) (by simp) ?_
 refine AllReadyH.cons rfl (fun K hK=> ?_) AllReadyH.nil
 go_simp
 go_at_call 121
 obtain⟨hSt,hLn,hBe⟩:=hHeld
 refine(HBO.out _ hLn).mono ?_
 rintro x w1 ⟨rfl,hb⟩
 go_wp2_with fail
 refine hK.out _ _ ⟨hSt.below hb,hLn.below hb,Below.next hBe hb⟩ (fun hHeld=> ?_)
 clear hK K hSt hLn hBe hb
 refine tf stF 2 rfl ?_
 refine tf stF 3 rfl ?_
 refine tf stF 4 rfl ?_
 refine tf stF 5 rfl ?_
 refine tst 6 (fun _ h=>h.1) ?_
 simp only [pA,pB,pC,pD]
 refine wpAnyH_ready (rs:=[7]) (by kernel_rfl) (by simp) ?_
 refine AllReadyH.cons rfl (fun K hK=> ?_) AllReadyH.nil
 go_simp
 go_at_call 122
 obtain⟨hSt,hLn,hBe⟩:=hHeld
 refine(HDU.out _ hLn).mono ?_
 rintro x w2 ⟨rfl,hb⟩
 go_wp2_with fail
 refine hK.out _ _ ⟨hSt.below hb,hLn.below hb,Below.next hBe hb⟩ (fun hHeld=> ?_)
 clear hK K hSt hLn hBe hb
 refine tf stF 8 rfl ?_
 refine tf stF 9 rfl ?_
 refine wpAnyH_done (by kernel_rfl) ?_ _
 have c1:w2.cell? ⟨w.heap.size,1,none⟩=some (.int .i64 5):=by rw [hHeld.1.cell 1,stCs,HS.out];rfl
 have c2:w2.cell? ⟨w.heap.size,2,none⟩=some (.int .i64 0):=by rw [hHeld.1.cell 2,stCs,HP.out];rfl
 have HE:=Lib.hid hHeld
 clear hHeld HBO HH
 go_wp2_with (first
  | (with_reducible refine wpList_load_st rfl (.tmp 1) rfl w.heap.size s lv rfl HE.out.1 ?_)
  | (go_at_call 123;refine(HSH.out _ HE.out.2.1).mono ?_;rintro x w3 ⟨rfl,hb⟩;have HE3:=Lib.hid (show StBlk w3 w.heap.size s lv∧LnRow w3 lv s.lines∧Below w.heap.size w w3 from⟨HE.out.1.below hb,HE.out.2.1.below hb,Below.next HE.out.2.2 hb⟩);clear hb))
 clear c1 c2 HE HSH
 refine wp_region_held_drew (S:=fun w'=>StBlk w' w.heap.size s lv∧LnRow w' lv s.lines∧Below w.heap.size w w') (by kernel_rfl) ⟨HE3.out.1,HE3.out.2.1,Below.next HE3.out.2.2 (below_drewN' _ 1)⟩ (fun hHeld=> ?_)
 refine tf stF 0 rfl ?_
 refine tf stF 1 rfl ?_
 refine tst 2 (fun _ h=>h.1) ?_
 simp only [pA,pB,pC,pD]
 refine wpAnyH_ready (rs:=[3]) (by kernel_rfl) (by simp) ?_
 refine AllReadyH.cons rfl (fun K hK=> ?_) AllReadyH.nil
 go_simp
 go_at_call 122
 obtain⟨hSt,hLn,hBe⟩:=hHeld
 refine(HDU.out _ hLn).mono ?_
 rintro x w4 ⟨rfl,hb⟩
 go_wp2_with fail
 refine hK.out _ _ ⟨hSt.below hb,hLn.below hb,Below.next hBe hb⟩ (fun hHeld=> ?_)
 clear hK K hSt hLn hBe hb
 refine tf stF 4 rfl ?_
 refine tf stF 5 rfl ?_
 refine tf stF 6 rfl ?_
 refine tf stF 7 rfl ?_
 refine tf stF 8 rfl ?_
 refine tf stF 9 rfl ?_
 refine tf stF 10 rfl ?_
 refine wpAnyH_done (by kernel_rfl) ?_ _
 have HB:=Lib.hid hHeld.2.2
 have d3:w4.cell? ⟨w.heap.size,3,none⟩=some (.int .i64 s.cur):=hHeld.1.cell 3
 have d4:w4.cell? ⟨w.heap.size,4,none⟩=some (.int .i64 s.tax):=hHeld.1.cell 4
 have d5:w4.cell? ⟨w.heap.size,5,none⟩=some (.slice oa s.lines.length cap):=by rw [hHeld.1.cell 5,stCs,HLV.out];rfl
 have d7:w4.cell? ⟨w.heap.size,7,none⟩=some (.int .i64 s.refunded):=hHeld.1.cell 7
 have d8:w4.cell? ⟨w.heap.size,8,none⟩=some (.int .i64 s.events):=hHeld.1.cell 8
 have d9:w4.cell? ⟨w.heap.size,9,none⟩=some (.int .i64 s.refused):=hHeld.1.cell 9
 have d10:w4.cell? ⟨w.heap.size,10,none⟩=some (.int .i64 s.stamp):=hHeld.1.cell 10
 have d11:w4.cell? ⟨w.heap.size,11,none⟩=some (.string ⟨s.who.toArray⟩):=hHeld.1.cell 11
 clear hHeld HE3 HDU
 go_wp2
 go_ret
 exact⟨by rw [HVb.out];rfl,HB.out⟩
end Go.Proofs.YtcglcphhfmkccaaGreatDoor

namespace Go.Proofs.YtcglcphhfmkccaaGreatDoor
open Go.RowKit
set_option maxRecDepth 100000 in
set_option maxHeartbeats 16000000 in
theorem oValid_3_0_0 (s:St) (lv:Value) (w:World) (hr:LnRow w lv s.lines) (hw:s.who.length≤281474976710656) (hf:boundedB s=true) (hm: ¬ dueOf s<s.paid) (hs:s.status=3) (hp:s.prior=0) (g1:(s.paid==dueOf s)=false):
  Calls Tryz.prog 99 #[stV s lv] w fun e w'=>e= .returned (.bool (validB s))∧Below w.heap.size w w':=by
 have HVb:=Lib.hid (show validB s=(false&& !wholeB s.lines) by
  have h1:validB s=standB s 3:=by unfold validB;rw [hf,decide_eq_true (by omega),hs,hp];rfl
  have h2:(s.paid==dueOf s&&decide (0<s.paid))=false:=by rw [g1];rfl
  rw [h1];unfold standB;rw [h2];rfl)
 have hbp:=bounded_p hf
 have HBO:=Lib.hid (stBO (lv:=lv) hf hw)
 obtain⟨D,hD⟩: ∃ D,D=dueOf s:=⟨_,rfl⟩
 have HDU:=Lib.hid (stDU (lv:=lv) hD hbp)
 have HH:=Lib.hid (stHH hr)
 have HSH:=Lib.hid (stSH s lv)
 obtain⟨nB,hnB⟩: ∃ x,x=noneB s.lines:=⟨_,rfl⟩
 obtain⟨wB,hwB⟩: ∃ x,x=wholeB s.lines:=⟨_,rfl⟩
 rw [←hnB,←hwB] at HSH
 rw [←hD] at hm g1
 rw [←hwB] at HVb
 have d1:decide (D<s.paid)=false:=decide_eq_false hm
 have hm2:s.paid≤D:=by omega
 have HS:=Lib.hid hs
 have HP:=Lib.hid hp
 obtain⟨oa,cap,hlv,_,_,_⟩:=hr.shape
 have HLV:=Lib.hid hlv
 clear hr hw hf hbp hD hm hs hp hnB hwB hlv
 go_enter Tryz.func99,Tryz.ntmps99
 go_wp2
 refine wp_region_held_drew (S:=fun w'=>StBlk w' w.heap.size s lv∧LnRow w' lv s.lines∧Below w.heap.size w w') (by kernel_rfl) HH.out (fun hHeld=> ?_)
 refine tst 0 (fun _ h=>h.1) ?_
 simp only [pA,pB,pC,pD]
 refine wpAnyH_ready (rs:=[1]) (by kernel_rfl) (by simp) ?_
 refine AllReadyH.cons rfl (fun K hK=> ?_) AllReadyH.nil
 go_simp
 go_at_call 121
 obtain⟨hSt,hLn,hBe⟩:=hHeld
 refine(HBO.out _ hLn).mono ?_
 rintro x w1 ⟨rfl,hb⟩
 go_wp2_with fail
 refine hK.out _ _ ⟨hSt.below hb,hLn.below hb,Below.next hBe hb⟩ (fun hHeld=> ?_)
 clear hK K hSt hLn hBe hb
 refine tf stF 2 rfl ?_
 refine tf stF 3 rfl ?_
 refine tf stF 4 rfl ?_
 refine tf stF 5 rfl ?_
 refine tst 6 (fun _ h=>h.1) ?_
 simp only [pA,pB,pC,pD]
 refine wpAnyH_ready (rs:=[7]) (by kernel_rfl) (by simp) ?_
 refine AllReadyH.cons rfl (fun K hK=> ?_) AllReadyH.nil
 go_simp
 go_at_call 122
 obtain⟨hSt,hLn,hBe⟩:=hHeld
 refine(HDU.out _ hLn).mono ?_
 rintro x w2 ⟨rfl,hb⟩
 go_wp2_with fail
 refine hK.out _ _ ⟨hSt.below hb,hLn.below hb,Below.next hBe hb⟩ (fun hHeld=> ?_)
 clear hK K hSt hLn hBe hb
 refine tf stF 8 rfl ?_
 refine tf stF 9 rfl ?_
 refine wpAnyH_done (by kernel_rfl) ?_ _
 have c1:w2.cell? ⟨w.heap.size,1,none⟩=some (.int .i64 3):=by rw [hHeld.1.cell 1,stCs,HS.out];rfl
 have c2:w2.cell? ⟨w.heap.size,2,none⟩=some (.int .i64 0):=by rw [hHeld.1.cell 2,stCs,HP.out];rfl
 have HE:=Lib.hid hHeld
 clear hHeld HBO HH
 go_wp2_with (first
  | (with_reducible refine wpList_load_st rfl (.tmp 1) rfl w.heap.size s lv rfl HE.out.1 ?_)
  | (go_at_call 123;refine(HSH.out _ HE.out.2.1).mono ?_;rintro x w3 ⟨rfl,hb⟩;have HE3:=Lib.hid (show StBlk w3 w.heap.size s lv∧LnRow w3 lv s.lines∧Below w.heap.size w w3 from⟨HE.out.1.below hb,HE.out.2.1.below hb,Below.next HE.out.2.2 hb⟩);clear hb))
 clear c1 c2 HE HSH
 refine wp_region_held_drew (S:=fun w'=>StBlk w' w.heap.size s lv∧LnRow w' lv s.lines∧Below w.heap.size w w') (by kernel_rfl) ⟨HE3.out.1,HE3.out.2.1,Below.next HE3.out.2.2 (below_drewN' _ 1)⟩ (fun hHeld=> ?_)
 refine tf stF 0 rfl ?_
 refine tf stF 1 rfl ?_
 refine tst 2 (fun _ h=>h.1) ?_
 simp only [pA,pB,pC,pD]
 refine wpAnyH_ready (rs:=[3]) (by kernel_rfl) (by simp) ?_
 refine AllReadyH.cons rfl (fun K hK=> ?_) AllReadyH.nil
 go_simp
 go_at_call 122
 obtain⟨hSt,hLn,hBe⟩:=hHeld
 refine(HDU.out _ hLn).mono ?_
 rintro x w4 ⟨rfl,hb⟩
 go_wp2_with fail
 refine hK.out _ _ ⟨hSt.below hb,hLn.below hb,Below.next hBe hb⟩ (fun hHeld=> ?_)
 clear hK K hSt hLn hBe hb
 refine tf stF 4 rfl ?_
 refine tf stF 5 rfl ?_
 refine tkn 6 rfl ?_
 simp only [pA,pB,pC,pD]
 refine tkn 7 rfl ?_
 simp only [pA,pB,pC,pD]
 refine tkn 8 rfl ?_
 simp only [pA,pB,pC,pD]
 refine tf stF 9 rfl ?_
 refine tf stF 10 rfl ?_
 refine wpAnyH_done (by kernel_rfl) ?_ _
 have HB:=Lib.hid hHeld.2.2
 have d3:w4.cell? ⟨w.heap.size,3,none⟩=some (.int .i64 s.cur):=hHeld.1.cell 3
 have d4:w4.cell? ⟨w.heap.size,4,none⟩=some (.int .i64 s.tax):=hHeld.1.cell 4
 have d5:w4.cell? ⟨w.heap.size,5,none⟩=some (.slice oa s.lines.length cap):=by rw [hHeld.1.cell 5,stCs,HLV.out];rfl
 have d7:w4.cell? ⟨w.heap.size,7,none⟩=some (.int .i64 s.refunded):=hHeld.1.cell 7
 have d8:w4.cell? ⟨w.heap.size,8,none⟩=some (.int .i64 s.events):=hHeld.1.cell 8
 have d9:w4.cell? ⟨w.heap.size,9,none⟩=some (.int .i64 s.refused):=hHeld.1.cell 9
 have d10:w4.cell? ⟨w.heap.size,10,none⟩=some (.int .i64 s.stamp):=hHeld.1.cell 10
 have d11:w4.cell? ⟨w.heap.size,11,none⟩=some (.string ⟨s.who.toArray⟩):=hHeld.1.cell 11
 clear hHeld HE3 HDU
 go_wp2
 go_ret
 exact⟨by rw [HVb.out];rfl,HB.out⟩
set_option maxRecDepth 100000 in
set_option maxHeartbeats 16000000 in
theorem oValid_3_0_1 (s:St) (lv:Value) (w:World) (hr:LnRow w lv s.lines) (hw:s.who.length≤281474976710656) (hf:boundedB s=true) (hm: ¬ dueOf s<s.paid) (hs:s.status=3) (hp:s.prior=0) (g1:(s.paid==dueOf s)=true) (g3:decide (0<s.paid)=false):
  Calls Tryz.prog 99 #[stV s lv] w fun e w'=>e= .returned (.bool (validB s))∧Below w.heap.size w w':=by
 have HVb:=Lib.hid (show validB s=(false&& !wholeB s.lines) by
  have h1:validB s=standB s 3:=by unfold validB;rw [hf,decide_eq_true (by omega),hs,hp];rfl
  have h2:(s.paid==dueOf s&&decide (0<s.paid))=false:=by rw [g1,g3];rfl
  rw [h1];unfold standB;rw [h2];rfl)
 have hbp:=bounded_p hf
 have HBO:=Lib.hid (stBO (lv:=lv) hf hw)
 obtain⟨D,hD⟩: ∃ D,D=dueOf s:=⟨_,rfl⟩
 have HDU:=Lib.hid (stDU (lv:=lv) hD hbp)
 have HH:=Lib.hid (stHH hr)
 have HSH:=Lib.hid (stSH s lv)
 obtain⟨nB,hnB⟩: ∃ x,x=noneB s.lines:=⟨_,rfl⟩
 obtain⟨wB,hwB⟩: ∃ x,x=wholeB s.lines:=⟨_,rfl⟩
 rw [←hnB,←hwB] at HSH
 rw [←hD] at hm g1
 rw [←hwB] at HVb
 have d1:decide (D<s.paid)=false:=decide_eq_false hm
 have hm2:s.paid≤D:=by omega
 have HS:=Lib.hid hs
 have HP:=Lib.hid hp
 obtain⟨oa,cap,hlv,_,_,_⟩:=hr.shape
 have HLV:=Lib.hid hlv
 clear hr hw hf hbp hD hm hs hp hnB hwB hlv
 go_enter Tryz.func99,Tryz.ntmps99
 go_wp2
 refine wp_region_held_drew (S:=fun w'=>StBlk w' w.heap.size s lv∧LnRow w' lv s.lines∧Below w.heap.size w w') (by kernel_rfl) HH.out (fun hHeld=> ?_)
 refine tst 0 (fun _ h=>h.1) ?_
 simp only [pA,pB,pC,pD]
 refine wpAnyH_ready (rs:=[1]) (by kernel_rfl) (by simp) ?_
 refine AllReadyH.cons rfl (fun K hK=> ?_) AllReadyH.nil
 go_simp
 go_at_call 121
 obtain⟨hSt,hLn,hBe⟩:=hHeld
 refine(HBO.out _ hLn).mono ?_
 rintro x w1 ⟨rfl,hb⟩
 go_wp2_with fail
 refine hK.out _ _ ⟨hSt.below hb,hLn.below hb,Below.next hBe hb⟩ (fun hHeld=> ?_)
 clear hK K hSt hLn hBe hb
 refine tf stF 2 rfl ?_
 refine tf stF 3 rfl ?_
 refine tf stF 4 rfl ?_
 refine tf stF 5 rfl ?_
 refine tst 6 (fun _ h=>h.1) ?_
 simp only [pA,pB,pC,pD]
 refine wpAnyH_ready (rs:=[7]) (by kernel_rfl) (by simp) ?_
 refine AllReadyH.cons rfl (fun K hK=> ?_) AllReadyH.nil
 go_simp
 go_at_call 122
 obtain⟨hSt,hLn,hBe⟩:=hHeld
 refine(HDU.out _ hLn).mono ?_
 rintro x w2 ⟨rfl,hb⟩
 go_wp2_with fail
 refine hK.out _ _ ⟨hSt.below hb,hLn.below hb,Below.next hBe hb⟩ (fun hHeld=> ?_)
 clear hK K hSt hLn hBe hb
 refine tf stF 8 rfl ?_
 refine tf stF 9 rfl ?_
 refine wpAnyH_done (by kernel_rfl) ?_ _
 have c1:w2.cell? ⟨w.heap.size,1,none⟩=some (.int .i64 3):=by rw [hHeld.1.cell 1,stCs,HS.out];rfl
 have c2:w2.cell? ⟨w.heap.size,2,none⟩=some (.int .i64 0):=by rw [hHeld.1.cell 2,stCs,HP.out];rfl
 have HE:=Lib.hid hHeld
 clear hHeld HBO HH
 go_wp2_with (first
  | (with_reducible refine wpList_load_st rfl (.tmp 1) rfl w.heap.size s lv rfl HE.out.1 ?_)
  | (go_at_call 123;refine(HSH.out _ HE.out.2.1).mono ?_;rintro x w3 ⟨rfl,hb⟩;have HE3:=Lib.hid (show StBlk w3 w.heap.size s lv∧LnRow w3 lv s.lines∧Below w.heap.size w w3 from⟨HE.out.1.below hb,HE.out.2.1.below hb,Below.next HE.out.2.2 hb⟩);clear hb))
 clear c1 c2 HE HSH
 refine wp_region_held_drew (S:=fun w'=>StBlk w' w.heap.size s lv∧LnRow w' lv s.lines∧Below w.heap.size w w') (by kernel_rfl) ⟨HE3.out.1,HE3.out.2.1,Below.next HE3.out.2.2 (below_drewN' _ 1)⟩ (fun hHeld=> ?_)
 refine tf stF 0 rfl ?_
 refine tf stF 1 rfl ?_
 refine tst 2 (fun _ h=>h.1) ?_
 simp only [pA,pB,pC,pD]
 refine wpAnyH_ready (rs:=[3]) (by kernel_rfl) (by simp) ?_
 refine AllReadyH.cons rfl (fun K hK=> ?_) AllReadyH.nil
 go_simp
 go_at_call 122
 obtain⟨hSt,hLn,hBe⟩:=hHeld
 refine(HDU.out _ hLn).mono ?_
 rintro x w4 ⟨rfl,hb⟩
 go_wp2_with fail
 refine hK.out _ _ ⟨hSt.below hb,hLn.below hb,Below.next hBe hb⟩ (fun hHeld=> ?_)
 clear hK K hSt hLn hBe hb
 refine tf stF 4 rfl ?_
 refine tf stF 5 rfl ?_
 refine tf stF 6 rfl ?_
 refine tf stF 7 rfl ?_
 refine tf stF 8 rfl ?_
 refine tf stF 9 rfl ?_
 refine tf stF 10 rfl ?_
 refine wpAnyH_done (by kernel_rfl) ?_ _
 have HB:=Lib.hid hHeld.2.2
 have d3:w4.cell? ⟨w.heap.size,3,none⟩=some (.int .i64 s.cur):=hHeld.1.cell 3
 have d4:w4.cell? ⟨w.heap.size,4,none⟩=some (.int .i64 s.tax):=hHeld.1.cell 4
 have d5:w4.cell? ⟨w.heap.size,5,none⟩=some (.slice oa s.lines.length cap):=by rw [hHeld.1.cell 5,stCs,HLV.out];rfl
 have d7:w4.cell? ⟨w.heap.size,7,none⟩=some (.int .i64 s.refunded):=hHeld.1.cell 7
 have d8:w4.cell? ⟨w.heap.size,8,none⟩=some (.int .i64 s.events):=hHeld.1.cell 8
 have d9:w4.cell? ⟨w.heap.size,9,none⟩=some (.int .i64 s.refused):=hHeld.1.cell 9
 have d10:w4.cell? ⟨w.heap.size,10,none⟩=some (.int .i64 s.stamp):=hHeld.1.cell 10
 have d11:w4.cell? ⟨w.heap.size,11,none⟩=some (.string ⟨s.who.toArray⟩):=hHeld.1.cell 11
 clear hHeld HE3 HDU
 go_wp2
 go_ret
 exact⟨by rw [HVb.out];rfl,HB.out⟩
set_option maxRecDepth 100000 in
set_option maxHeartbeats 16000000 in
theorem oValid_3_0_2 (s:St) (lv:Value) (w:World) (hr:LnRow w lv s.lines) (hw:s.who.length≤281474976710656) (hf:boundedB s=true) (hm: ¬ dueOf s<s.paid) (hs:s.status=3) (hp:s.prior=0) (g1:(s.paid==dueOf s)=true) (g3:decide (0<s.paid)=true):
  Calls Tryz.prog 99 #[stV s lv] w fun e w'=>e= .returned (.bool (validB s))∧Below w.heap.size w w':=by
 have HVb:=Lib.hid (show validB s=(true&& !wholeB s.lines) by
  have h1:validB s=standB s 3:=by unfold validB;rw [hf,decide_eq_true (by omega),hs,hp];rfl
  have h2:(s.paid==dueOf s&&decide (0<s.paid))=true:=by rw [g1,g3];rfl
  rw [h1];unfold standB;rw [h2];rfl)
 have hbp:=bounded_p hf
 have HBO:=Lib.hid (stBO (lv:=lv) hf hw)
 obtain⟨D,hD⟩: ∃ D,D=dueOf s:=⟨_,rfl⟩
 have HDU:=Lib.hid (stDU (lv:=lv) hD hbp)
 have HH:=Lib.hid (stHH hr)
 have HSH:=Lib.hid (stSH s lv)
 obtain⟨nB,hnB⟩: ∃ x,x=noneB s.lines:=⟨_,rfl⟩
 obtain⟨wB,hwB⟩: ∃ x,x=wholeB s.lines:=⟨_,rfl⟩
 rw [←hnB,←hwB] at HSH
 rw [←hD] at hm g1
 rw [←hwB] at HVb
 have d1:decide (D<s.paid)=false:=decide_eq_false hm
 have hm2:s.paid≤D:=by omega
 have HS:=Lib.hid hs
 have HP:=Lib.hid hp
 obtain⟨oa,cap,hlv,_,_,_⟩:=hr.shape
 have HLV:=Lib.hid hlv
 clear hr hw hf hbp hD hm hs hp hnB hwB hlv
 go_enter Tryz.func99,Tryz.ntmps99
 go_wp2
 refine wp_region_held_drew (S:=fun w'=>StBlk w' w.heap.size s lv∧LnRow w' lv s.lines∧Below w.heap.size w w') (by kernel_rfl) HH.out (fun hHeld=> ?_)
 refine tst 0 (fun _ h=>h.1) ?_
 simp only [pA,pB,pC,pD]
 refine wpAnyH_ready (rs:=[1]) (by kernel_rfl) (by simp) ?_
 refine AllReadyH.cons rfl (fun K hK=> ?_) AllReadyH.nil
 go_simp
 go_at_call 121
 obtain⟨hSt,hLn,hBe⟩:=hHeld
 refine(HBO.out _ hLn).mono ?_
 rintro x w1 ⟨rfl,hb⟩
 go_wp2_with fail
 refine hK.out _ _ ⟨hSt.below hb,hLn.below hb,Below.next hBe hb⟩ (fun hHeld=> ?_)
 clear hK K hSt hLn hBe hb
 refine tf stF 2 rfl ?_
 refine tf stF 3 rfl ?_
 refine tf stF 4 rfl ?_
 refine tf stF 5 rfl ?_
 refine tst 6 (fun _ h=>h.1) ?_
 simp only [pA,pB,pC,pD]
 refine wpAnyH_ready (rs:=[7]) (by kernel_rfl) (by simp) ?_
 refine AllReadyH.cons rfl (fun K hK=> ?_) AllReadyH.nil
 go_simp
 go_at_call 122
 obtain⟨hSt,hLn,hBe⟩:=hHeld
 refine(HDU.out _ hLn).mono ?_
 rintro x w2 ⟨rfl,hb⟩
 go_wp2_with fail
 refine hK.out _ _ ⟨hSt.below hb,hLn.below hb,Below.next hBe hb⟩ (fun hHeld=> ?_)
 clear hK K hSt hLn hBe hb
 refine tf stF 8 rfl ?_
 refine tf stF 9 rfl ?_
 refine wpAnyH_done (by kernel_rfl) ?_ _
 have c1:w2.cell? ⟨w.heap.size,1,none⟩=some (.int .i64 3):=by rw [hHeld.1.cell 1,stCs,HS.out];rfl
 have c2:w2.cell? ⟨w.heap.size,2,none⟩=some (.int .i64 0):=by rw [hHeld.1.cell 2,stCs,HP.out];rfl
 have HE:=Lib.hid hHeld
 clear hHeld HBO HH
 go_wp2_with (first
  | (with_reducible refine wpList_load_st rfl (.tmp 1) rfl w.heap.size s lv rfl HE.out.1 ?_)
  | (go_at_call 123;refine(HSH.out _ HE.out.2.1).mono ?_;rintro x w3 ⟨rfl,hb⟩;have HE3:=Lib.hid (show StBlk w3 w.heap.size s lv∧LnRow w3 lv s.lines∧Below w.heap.size w w3 from⟨HE.out.1.below hb,HE.out.2.1.below hb,Below.next HE.out.2.2 hb⟩);clear hb))
 clear c1 c2 HE HSH
 refine wp_region_held_drew (S:=fun w'=>StBlk w' w.heap.size s lv∧LnRow w' lv s.lines∧Below w.heap.size w w') (by kernel_rfl) ⟨HE3.out.1,HE3.out.2.1,Below.next HE3.out.2.2 (below_drewN' _ 1)⟩ (fun hHeld=> ?_)
 refine tf stF 0 rfl ?_
 refine tf stF 1 rfl ?_
 refine tst 2 (fun _ h=>h.1) ?_
 simp only [pA,pB,pC,pD]
 refine wpAnyH_ready (rs:=[3]) (by kernel_rfl) (by simp) ?_
 refine AllReadyH.cons rfl (fun K hK=> ?_) AllReadyH.nil
 go_simp
 go_at_call 122
 obtain⟨hSt,hLn,hBe⟩:=hHeld
 refine(HDU.out _ hLn).mono ?_
 rintro x w4 ⟨rfl,hb⟩
 go_wp2_with fail
 refine hK.out _ _ ⟨hSt.below hb,hLn.below hb,Below.next hBe hb⟩ (fun hHeld=> ?_)
 clear hK K hSt hLn hBe hb
 refine tf stF 4 rfl ?_
 refine tf stF 5 rfl ?_
 refine tf stF 6 rfl ?_
 refine tf stF 7 rfl ?_
 refine tf stF 8 rfl ?_
 refine tf stF 9 rfl ?_
 refine tf stF 10 rfl ?_
 refine wpAnyH_done (by kernel_rfl) ?_ _
 have HB:=Lib.hid hHeld.2.2
 have d3:w4.cell? ⟨w.heap.size,3,none⟩=some (.int .i64 s.cur):=hHeld.1.cell 3
 have d4:w4.cell? ⟨w.heap.size,4,none⟩=some (.int .i64 s.tax):=hHeld.1.cell 4
 have d5:w4.cell? ⟨w.heap.size,5,none⟩=some (.slice oa s.lines.length cap):=by rw [hHeld.1.cell 5,stCs,HLV.out];rfl
 have d7:w4.cell? ⟨w.heap.size,7,none⟩=some (.int .i64 s.refunded):=hHeld.1.cell 7
 have d8:w4.cell? ⟨w.heap.size,8,none⟩=some (.int .i64 s.events):=hHeld.1.cell 8
 have d9:w4.cell? ⟨w.heap.size,9,none⟩=some (.int .i64 s.refused):=hHeld.1.cell 9
 have d10:w4.cell? ⟨w.heap.size,10,none⟩=some (.int .i64 s.stamp):=hHeld.1.cell 10
 have d11:w4.cell? ⟨w.heap.size,11,none⟩=some (.string ⟨s.who.toArray⟩):=hHeld.1.cell 11
 clear hHeld HE3 HDU
 cases wB
 ·skip
  go_wp2
  go_ret
  exact⟨by rw [HVb.out];rfl,HB.out⟩
 ·skip
  go_wp2
  go_ret
  exact⟨by rw [HVb.out];rfl,HB.out⟩
set_option maxRecDepth 100000 in
set_option maxHeartbeats 16000000 in
theorem oValid_4_0_0 (s:St) (lv:Value) (w:World) (hr:LnRow w lv s.lines) (hw:s.who.length≤281474976710656) (hf:boundedB s=true) (hm: ¬ dueOf s<s.paid) (hs:s.status=4) (hp:s.prior=0) (g1:(s.paid==dueOf s)=false):
  Calls Tryz.prog 99 #[stV s lv] w fun e w'=>e= .returned (.bool (validB s))∧Below w.heap.size w w':=by
 have HVb:=Lib.hid (show validB s=(false&&wholeB s.lines) by
  have h1:validB s=standB s 4:=by unfold validB;rw [hf,decide_eq_true (by omega),hs,hp];rfl
  have h2:(s.paid==dueOf s&&decide (0<s.paid))=false:=by rw [g1];rfl
  rw [h1];unfold standB;rw [h2];rfl)
 have hbp:=bounded_p hf
 have HBO:=Lib.hid (stBO (lv:=lv) hf hw)
 obtain⟨D,hD⟩: ∃ D,D=dueOf s:=⟨_,rfl⟩
 have HDU:=Lib.hid (stDU (lv:=lv) hD hbp)
 have HH:=Lib.hid (stHH hr)
 have HSH:=Lib.hid (stSH s lv)
 obtain⟨nB,hnB⟩: ∃ x,x=noneB s.lines:=⟨_,rfl⟩
 obtain⟨wB,hwB⟩: ∃ x,x=wholeB s.lines:=⟨_,rfl⟩
 rw [←hnB,←hwB] at HSH
 rw [←hD] at hm g1
 rw [←hwB] at HVb
 have d1:decide (D<s.paid)=false:=decide_eq_false hm
 have hm2:s.paid≤D:=by omega
 have HS:=Lib.hid hs
 have HP:=Lib.hid hp
 obtain⟨oa,cap,hlv,_,_,_⟩:=hr.shape
 have HLV:=Lib.hid hlv
 clear hr hw hf hbp hD hm hs hp hnB hwB hlv
 go_enter Tryz.func99,Tryz.ntmps99
 go_wp2
 refine wp_region_held_drew (S:=fun w'=>StBlk w' w.heap.size s lv∧LnRow w' lv s.lines∧Below w.heap.size w w') (by kernel_rfl) HH.out (fun hHeld=> ?_)
 refine tst 0 (fun _ h=>h.1) ?_
 simp only [pA,pB,pC,pD]
 refine wpAnyH_ready (rs:=[1]) (by kernel_rfl) (by simp) ?_
 refine AllReadyH.cons rfl (fun K hK=> ?_) AllReadyH.nil
 go_simp
 go_at_call 121
 obtain⟨hSt,hLn,hBe⟩:=hHeld
 refine(HBO.out _ hLn).mono ?_
 rintro x w1 ⟨rfl,hb⟩
 go_wp2_with fail
 refine hK.out _ _ ⟨hSt.below hb,hLn.below hb,Below.next hBe hb⟩ (fun hHeld=> ?_)
 clear hK K hSt hLn hBe hb
 refine tf stF 2 rfl ?_
 refine tf stF 3 rfl ?_
 refine tf stF 4 rfl ?_
 refine tf stF 5 rfl ?_
 refine tst 6 (fun _ h=>h.1) ?_
 simp only [pA,pB,pC,pD]
 refine wpAnyH_ready (rs:=[7]) (by kernel_rfl) (by simp) ?_
 refine AllReadyH.cons rfl (fun K hK=> ?_) AllReadyH.nil
 go_simp
 go_at_call 122
 obtain⟨hSt,hLn,hBe⟩:=hHeld
 refine(HDU.out _ hLn).mono ?_
 rintro x w2 ⟨rfl,hb⟩
 go_wp2_with fail
 refine hK.out _ _ ⟨hSt.below hb,hLn.below hb,Below.next hBe hb⟩ (fun hHeld=> ?_)
 clear hK K hSt hLn hBe hb
 refine tf stF 8 rfl ?_
 refine tf stF 9 rfl ?_
 refine wpAnyH_done (by kernel_rfl) ?_ _
 have c1:w2.cell? ⟨w.heap.size,1,none⟩=some (.int .i64 4):=by rw [hHeld.1.cell 1,stCs,HS.out];rfl
 have c2:w2.cell? ⟨w.heap.size,2,none⟩=some (.int .i64 0):=by rw [hHeld.1.cell 2,stCs,HP.out];rfl
 have HE:=Lib.hid hHeld
 clear hHeld HBO HH
 go_wp2_with (first
  | (with_reducible refine wpList_load_st rfl (.tmp 1) rfl w.heap.size s lv rfl HE.out.1 ?_)
  | (go_at_call 123;refine(HSH.out _ HE.out.2.1).mono ?_;rintro x w3 ⟨rfl,hb⟩;have HE3:=Lib.hid (show StBlk w3 w.heap.size s lv∧LnRow w3 lv s.lines∧Below w.heap.size w w3 from⟨HE.out.1.below hb,HE.out.2.1.below hb,Below.next HE.out.2.2 hb⟩);clear hb))
 clear c1 c2 HE HSH
 refine wp_region_held_drew (S:=fun w'=>StBlk w' w.heap.size s lv∧LnRow w' lv s.lines∧Below w.heap.size w w') (by kernel_rfl) ⟨HE3.out.1,HE3.out.2.1,Below.next HE3.out.2.2 (below_drewN' _ 1)⟩ (fun hHeld=> ?_)
 refine tf stF 0 rfl ?_
 refine tf stF 1 rfl ?_
 refine tst 2 (fun _ h=>h.1) ?_
 simp only [pA,pB,pC,pD]
 refine wpAnyH_ready (rs:=[3]) (by kernel_rfl) (by simp) ?_
 refine AllReadyH.cons rfl (fun K hK=> ?_) AllReadyH.nil
 go_simp
 go_at_call 122
 obtain⟨hSt,hLn,hBe⟩:=hHeld
 refine(HDU.out _ hLn).mono ?_
 rintro x w4 ⟨rfl,hb⟩
 go_wp2_with fail
 refine hK.out _ _ ⟨hSt.below hb,hLn.below hb,Below.next hBe hb⟩ (fun hHeld=> ?_)
 clear hK K hSt hLn hBe hb
 refine tf stF 4 rfl ?_
 refine tf stF 5 rfl ?_
 refine tkn 6 rfl ?_
 simp only [pA,pB,pC,pD]
 refine tkn 7 rfl ?_
 simp only [pA,pB,pC,pD]
 refine tkn 8 rfl ?_
 simp only [pA,pB,pC,pD]
 refine tf stF 9 rfl ?_
 refine tf stF 10 rfl ?_
 refine wpAnyH_done (by kernel_rfl) ?_ _
 have HB:=Lib.hid hHeld.2.2
 have d3:w4.cell? ⟨w.heap.size,3,none⟩=some (.int .i64 s.cur):=hHeld.1.cell 3
 have d4:w4.cell? ⟨w.heap.size,4,none⟩=some (.int .i64 s.tax):=hHeld.1.cell 4
 have d5:w4.cell? ⟨w.heap.size,5,none⟩=some (.slice oa s.lines.length cap):=by rw [hHeld.1.cell 5,stCs,HLV.out];rfl
 have d7:w4.cell? ⟨w.heap.size,7,none⟩=some (.int .i64 s.refunded):=hHeld.1.cell 7
 have d8:w4.cell? ⟨w.heap.size,8,none⟩=some (.int .i64 s.events):=hHeld.1.cell 8
 have d9:w4.cell? ⟨w.heap.size,9,none⟩=some (.int .i64 s.refused):=hHeld.1.cell 9
 have d10:w4.cell? ⟨w.heap.size,10,none⟩=some (.int .i64 s.stamp):=hHeld.1.cell 10
 have d11:w4.cell? ⟨w.heap.size,11,none⟩=some (.string ⟨s.who.toArray⟩):=hHeld.1.cell 11
 clear hHeld HE3 HDU
 go_wp2
 go_ret
 exact⟨by rw [HVb.out];rfl,HB.out⟩
set_option maxRecDepth 100000 in
set_option maxHeartbeats 16000000 in
theorem oValid_4_0_1 (s:St) (lv:Value) (w:World) (hr:LnRow w lv s.lines) (hw:s.who.length≤281474976710656) (hf:boundedB s=true) (hm: ¬ dueOf s<s.paid) (hs:s.status=4) (hp:s.prior=0) (g1:(s.paid==dueOf s)=true) (g3:decide (0<s.paid)=false):
  Calls Tryz.prog 99 #[stV s lv] w fun e w'=>e= .returned (.bool (validB s))∧Below w.heap.size w w':=by
 have HVb:=Lib.hid (show validB s=(false&&wholeB s.lines) by
  have h1:validB s=standB s 4:=by unfold validB;rw [hf,decide_eq_true (by omega),hs,hp];rfl
  have h2:(s.paid==dueOf s&&decide (0<s.paid))=false:=by rw [g1,g3];rfl
  rw [h1];unfold standB;rw [h2];rfl)
 have hbp:=bounded_p hf
 have HBO:=Lib.hid (stBO (lv:=lv) hf hw)
 obtain⟨D,hD⟩: ∃ D,D=dueOf s:=⟨_,rfl⟩
 have HDU:=Lib.hid (stDU (lv:=lv) hD hbp)
 have HH:=Lib.hid (stHH hr)
 have HSH:=Lib.hid (stSH s lv)
 obtain⟨nB,hnB⟩: ∃ x,x=noneB s.lines:=⟨_,rfl⟩
 obtain⟨wB,hwB⟩: ∃ x,x=wholeB s.lines:=⟨_,rfl⟩
 rw [←hnB,←hwB] at HSH
 rw [←hD] at hm g1
 rw [←hwB] at HVb
 have d1:decide (D<s.paid)=false:=decide_eq_false hm
 have hm2:s.paid≤D:=by omega
 have HS:=Lib.hid hs
 have HP:=Lib.hid hp
 obtain⟨oa,cap,hlv,_,_,_⟩:=hr.shape
 have HLV:=Lib.hid hlv
 clear hr hw hf hbp hD hm hs hp hnB hwB hlv
 go_enter Tryz.func99,Tryz.ntmps99
 go_wp2
 refine wp_region_held_drew (S:=fun w'=>StBlk w' w.heap.size s lv∧LnRow w' lv s.lines∧Below w.heap.size w w') (by kernel_rfl) HH.out (fun hHeld=> ?_)
 refine tst 0 (fun _ h=>h.1) ?_
 simp only [pA,pB,pC,pD]
 refine wpAnyH_ready (rs:=[1]) (by kernel_rfl) (by simp) ?_
 refine AllReadyH.cons rfl (fun K hK=> ?_) AllReadyH.nil
 go_simp
 go_at_call 121
 obtain⟨hSt,hLn,hBe⟩:=hHeld
 refine(HBO.out _ hLn).mono ?_
 rintro x w1 ⟨rfl,hb⟩
 go_wp2_with fail
 refine hK.out _ _ ⟨hSt.below hb,hLn.below hb,Below.next hBe hb⟩ (fun hHeld=> ?_)
 clear hK K hSt hLn hBe hb
 refine tf stF 2 rfl ?_
 refine tf stF 3 rfl ?_
 refine tf stF 4 rfl ?_
 refine tf stF 5 rfl ?_
 refine tst 6 (fun _ h=>h.1) ?_
 simp only [pA,pB,pC,pD]
 refine wpAnyH_ready (rs:=[7]) (by kernel_rfl) (by simp) ?_
 refine AllReadyH.cons rfl (fun K hK=> ?_) AllReadyH.nil
 go_simp
 go_at_call 122
 obtain⟨hSt,hLn,hBe⟩:=hHeld
 refine(HDU.out _ hLn).mono ?_
 rintro x w2 ⟨rfl,hb⟩
 go_wp2_with fail
 refine hK.out _ _ ⟨hSt.below hb,hLn.below hb,Below.next hBe hb⟩ (fun hHeld=> ?_)
 clear hK K hSt hLn hBe hb
 refine tf stF 8 rfl ?_
 refine tf stF 9 rfl ?_
 refine wpAnyH_done (by kernel_rfl) ?_ _
 have c1:w2.cell? ⟨w.heap.size,1,none⟩=some (.int .i64 4):=by rw [hHeld.1.cell 1,stCs,HS.out];rfl
 have c2:w2.cell? ⟨w.heap.size,2,none⟩=some (.int .i64 0):=by rw [hHeld.1.cell 2,stCs,HP.out];rfl
 have HE:=Lib.hid hHeld
 clear hHeld HBO HH
 go_wp2_with (first
  | (with_reducible refine wpList_load_st rfl (.tmp 1) rfl w.heap.size s lv rfl HE.out.1 ?_)
  | (go_at_call 123;refine(HSH.out _ HE.out.2.1).mono ?_;rintro x w3 ⟨rfl,hb⟩;have HE3:=Lib.hid (show StBlk w3 w.heap.size s lv∧LnRow w3 lv s.lines∧Below w.heap.size w w3 from⟨HE.out.1.below hb,HE.out.2.1.below hb,Below.next HE.out.2.2 hb⟩);clear hb))
 clear c1 c2 HE HSH
 refine wp_region_held_drew (S:=fun w'=>StBlk w' w.heap.size s lv∧LnRow w' lv s.lines∧Below w.heap.size w w') (by kernel_rfl) ⟨HE3.out.1,HE3.out.2.1,Below.next HE3.out.2.2 (below_drewN' _ 1)⟩ (fun hHeld=> ?_)
 refine tf stF 0 rfl ?_
 refine tf stF 1 rfl ?_
 refine tst 2 (fun _ h=>h.1) ?_
 simp only [pA,pB,pC,pD]
 refine wpAnyH_ready (rs:=[3]) (by kernel_rfl) (by simp) ?_
 refine AllReadyH.cons rfl (fun K hK=> ?_) AllReadyH.nil
 go_simp
 go_at_call 122
 obtain⟨hSt,hLn,hBe⟩:=hHeld
 refine(HDU.out _ hLn).mono ?_
 rintro x w4 ⟨rfl,hb⟩
 go_wp2_with fail
 refine hK.out _ _ ⟨hSt.below hb,hLn.below hb,Below.next hBe hb⟩ (fun hHeld=> ?_)
 clear hK K hSt hLn hBe hb
 refine tf stF 4 rfl ?_
 refine tf stF 5 rfl ?_
 refine tf stF 6 rfl ?_
 refine tf stF 7 rfl ?_
 refine tf stF 8 rfl ?_
 refine tf stF 9 rfl ?_
 refine tf stF 10 rfl ?_
 refine wpAnyH_done (by kernel_rfl) ?_ _
 have HB:=Lib.hid hHeld.2.2
 have d3:w4.cell? ⟨w.heap.size,3,none⟩=some (.int .i64 s.cur):=hHeld.1.cell 3
 have d4:w4.cell? ⟨w.heap.size,4,none⟩=some (.int .i64 s.tax):=hHeld.1.cell 4
 have d5:w4.cell? ⟨w.heap.size,5,none⟩=some (.slice oa s.lines.length cap):=by rw [hHeld.1.cell 5,stCs,HLV.out];rfl
 have d7:w4.cell? ⟨w.heap.size,7,none⟩=some (.int .i64 s.refunded):=hHeld.1.cell 7
 have d8:w4.cell? ⟨w.heap.size,8,none⟩=some (.int .i64 s.events):=hHeld.1.cell 8
 have d9:w4.cell? ⟨w.heap.size,9,none⟩=some (.int .i64 s.refused):=hHeld.1.cell 9
 have d10:w4.cell? ⟨w.heap.size,10,none⟩=some (.int .i64 s.stamp):=hHeld.1.cell 10
 have d11:w4.cell? ⟨w.heap.size,11,none⟩=some (.string ⟨s.who.toArray⟩):=hHeld.1.cell 11
 clear hHeld HE3 HDU
 go_wp2
 go_ret
 exact⟨by rw [HVb.out];rfl,HB.out⟩
set_option maxRecDepth 100000 in
set_option maxHeartbeats 16000000 in
theorem oValid_4_0_2 (s:St) (lv:Value) (w:World) (hr:LnRow w lv s.lines) (hw:s.who.length≤281474976710656) (hf:boundedB s=true) (hm: ¬ dueOf s<s.paid) (hs:s.status=4) (hp:s.prior=0) (g1:(s.paid==dueOf s)=true) (g3:decide (0<s.paid)=true):
  Calls Tryz.prog 99 #[stV s lv] w fun e w'=>e= .returned (.bool (validB s))∧Below w.heap.size w w':=by
 have HVb:=Lib.hid (show validB s=(true&&wholeB s.lines) by
  have h1:validB s=standB s 4:=by unfold validB;rw [hf,decide_eq_true (by omega),hs,hp];rfl
  have h2:(s.paid==dueOf s&&decide (0<s.paid))=true:=by rw [g1,g3];rfl
  rw [h1];unfold standB;rw [h2];rfl)
 have hbp:=bounded_p hf
 have HBO:=Lib.hid (stBO (lv:=lv) hf hw)
 obtain⟨D,hD⟩: ∃ D,D=dueOf s:=⟨_,rfl⟩
 have HDU:=Lib.hid (stDU (lv:=lv) hD hbp)
 have HH:=Lib.hid (stHH hr)
 have HSH:=Lib.hid (stSH s lv)
 obtain⟨nB,hnB⟩: ∃ x,x=noneB s.lines:=⟨_,rfl⟩
 obtain⟨wB,hwB⟩: ∃ x,x=wholeB s.lines:=⟨_,rfl⟩
 rw [←hnB,←hwB] at HSH
 rw [←hD] at hm g1
 rw [←hwB] at HVb
 have d1:decide (D<s.paid)=false:=decide_eq_false hm
 have hm2:s.paid≤D:=by omega
 have HS:=Lib.hid hs
 have HP:=Lib.hid hp
 obtain⟨oa,cap,hlv,_,_,_⟩:=hr.shape
 have HLV:=Lib.hid hlv
 clear hr hw hf hbp hD hm hs hp hnB hwB hlv
 go_enter Tryz.func99,Tryz.ntmps99
 go_wp2
 refine wp_region_held_drew (S:=fun w'=>StBlk w' w.heap.size s lv∧LnRow w' lv s.lines∧Below w.heap.size w w') (by kernel_rfl) HH.out (fun hHeld=> ?_)
 refine tst 0 (fun _ h=>h.1) ?_
 simp only [pA,pB,pC,pD]
 refine wpAnyH_ready (rs:=[1]) (by kernel_rfl) (by simp) ?_
 refine AllReadyH.cons rfl (fun K hK=> ?_) AllReadyH.nil
 go_simp
 go_at_call 121
 obtain⟨hSt,hLn,hBe⟩:=hHeld
 refine(HBO.out _ hLn).mono ?_
 rintro x w1 ⟨rfl,hb⟩
 go_wp2_with fail
 refine hK.out _ _ ⟨hSt.below hb,hLn.below hb,Below.next hBe hb⟩ (fun hHeld=> ?_)
 clear hK K hSt hLn hBe hb
 refine tf stF 2 rfl ?_
 refine tf stF 3 rfl ?_
 refine tf stF 4 rfl ?_
 refine tf stF 5 rfl ?_
 refine tst 6 (fun _ h=>h.1) ?_
 simp only [pA,pB,pC,pD]
 refine wpAnyH_ready (rs:=[7]) (by kernel_rfl) (by simp) ?_
 refine AllReadyH.cons rfl (fun K hK=> ?_) AllReadyH.nil
 go_simp
 go_at_call 122
 obtain⟨hSt,hLn,hBe⟩:=hHeld
 refine(HDU.out _ hLn).mono ?_
 rintro x w2 ⟨rfl,hb⟩
 go_wp2_with fail
 refine hK.out _ _ ⟨hSt.below hb,hLn.below hb,Below.next hBe hb⟩ (fun hHeld=> ?_)
 clear hK K hSt hLn hBe hb
 refine tf stF 8 rfl ?_
 refine tf stF 9 rfl ?_
 refine wpAnyH_done (by kernel_rfl) ?_ _
 have c1:w2.cell? ⟨w.heap.size,1,none⟩=some (.int .i64 4):=by rw [hHeld.1.cell 1,stCs,HS.out];rfl
 have c2:w2.cell? ⟨w.heap.size,2,none⟩=some (.int .i64 0):=by rw [hHeld.1.cell 2,stCs,HP.out];rfl
 have HE:=Lib.hid hHeld
 clear hHeld HBO HH
 go_wp2_with (first
  | (with_reducible refine wpList_load_st rfl (.tmp 1) rfl w.heap.size s lv rfl HE.out.1 ?_)
  | (go_at_call 123;refine(HSH.out _ HE.out.2.1).mono ?_;rintro x w3 ⟨rfl,hb⟩;have HE3:=Lib.hid (show StBlk w3 w.heap.size s lv∧LnRow w3 lv s.lines∧Below w.heap.size w w3 from⟨HE.out.1.below hb,HE.out.2.1.below hb,Below.next HE.out.2.2 hb⟩);clear hb))
 clear c1 c2 HE HSH
 refine wp_region_held_drew (S:=fun w'=>StBlk w' w.heap.size s lv∧LnRow w' lv s.lines∧Below w.heap.size w w') (by kernel_rfl) ⟨HE3.out.1,HE3.out.2.1,Below.next HE3.out.2.2 (below_drewN' _ 1)⟩ (fun hHeld=> ?_)
 refine tf stF 0 rfl ?_
 refine tf stF 1 rfl ?_
 refine tst 2 (fun _ h=>h.1) ?_
 simp only [pA,pB,pC,pD]
 refine wpAnyH_ready (rs:=[3]) (by kernel_rfl) (by simp) ?_
 refine AllReadyH.cons rfl (fun K hK=> ?_) AllReadyH.nil
 go_simp
 go_at_call 122
 obtain⟨hSt,hLn,hBe⟩:=hHeld
 refine(HDU.out _ hLn).mono ?_
 rintro x w4 ⟨rfl,hb⟩
 go_wp2_with fail
 refine hK.out _ _ ⟨hSt.below hb,hLn.below hb,Below.next hBe hb⟩ (fun hHeld=> ?_)
 clear hK K hSt hLn hBe hb
 refine tf stF 4 rfl ?_
 refine tf stF 5 rfl ?_
 refine tf stF 6 rfl ?_
 refine tf stF 7 rfl ?_
 refine tf stF 8 rfl ?_
 refine tf stF 9 rfl ?_
 refine tf stF 10 rfl ?_
 refine wpAnyH_done (by kernel_rfl) ?_ _
 have HB:=Lib.hid hHeld.2.2
 have d3:w4.cell? ⟨w.heap.size,3,none⟩=some (.int .i64 s.cur):=hHeld.1.cell 3
 have d4:w4.cell? ⟨w.heap.size,4,none⟩=some (.int .i64 s.tax):=hHeld.1.cell 4
 have d5:w4.cell? ⟨w.heap.size,5,none⟩=some (.slice oa s.lines.length cap):=by rw [hHeld.1.cell 5,stCs,HLV.out];rfl
 have d7:w4.cell? ⟨w.heap.size,7,none⟩=some (.int .i64 s.refunded):=hHeld.1.cell 7
 have d8:w4.cell? ⟨w.heap.size,8,none⟩=some (.int .i64 s.events):=hHeld.1.cell 8
 have d9:w4.cell? ⟨w.heap.size,9,none⟩=some (.int .i64 s.refused):=hHeld.1.cell 9
 have d10:w4.cell? ⟨w.heap.size,10,none⟩=some (.int .i64 s.stamp):=hHeld.1.cell 10
 have d11:w4.cell? ⟨w.heap.size,11,none⟩=some (.string ⟨s.who.toArray⟩):=hHeld.1.cell 11
 clear hHeld HE3 HDU
 cases wB
 ·skip
  go_wp2
  go_ret
  exact⟨by rw [HVb.out];rfl,HB.out⟩
 ·skip
  go_wp2
  go_ret
  exact⟨by rw [HVb.out];rfl,HB.out⟩
end Go.Proofs.YtcglcphhfmkccaaGreatDoor

namespace Go.Proofs.YtcglcphhfmkccaaGreatDoor
open Go.RowKit
set_option maxRecDepth 100000 in
set_option maxHeartbeats 16000000 in
theorem oValid_2_1_0 (s:St) (lv:Value) (w:World) (hr:LnRow w lv s.lines) (hw:s.who.length≤281474976710656) (hf:boundedB s=true) (hm: ¬ dueOf s<s.paid) (hs:s.status=2) (hp:s.prior=1) (g1:(s.paid==dueOf s)=false):
  Calls Tryz.prog 99 #[stV s lv] w fun e w'=>e= .returned (.bool (validB s))∧Below w.heap.size w w':=by
 have HVb:=Lib.hid (show validB s=(noneB s.lines&& !false&&s.refunded==0) by
  have h1:validB s=standB s 1:=by unfold validB;rw [hf,decide_eq_true (by omega),hs,hp];rfl
  have h2:(s.paid==dueOf s&&decide (0<s.paid))=false:=by rw [g1];rfl
  rw [h1];unfold standB;rw [h2];rfl)
 have hbp:=bounded_p hf
 have HBO:=Lib.hid (stBO (lv:=lv) hf hw)
 obtain⟨D,hD⟩: ∃ D,D=dueOf s:=⟨_,rfl⟩
 have HDU:=Lib.hid (stDU (lv:=lv) hD hbp)
 have HH:=Lib.hid (stHH hr)
 have HSH:=Lib.hid (stSH s lv)
 obtain⟨nB,hnB⟩: ∃ x,x=noneB s.lines:=⟨_,rfl⟩
 obtain⟨wB,hwB⟩: ∃ x,x=wholeB s.lines:=⟨_,rfl⟩
 rw [←hnB,←hwB] at HSH
 rw [←hD] at hm g1
 rw [←hnB] at HVb
 have d1:decide (D<s.paid)=false:=decide_eq_false hm
 have hm2:s.paid≤D:=by omega
 have HS:=Lib.hid hs
 have HP:=Lib.hid hp
 obtain⟨oa,cap,hlv,_,_,_⟩:=hr.shape
 have HLV:=Lib.hid hlv
 clear hr hw hf hbp hD hm hs hp hnB hwB hlv
 go_enter Tryz.func99,Tryz.ntmps99
 go_wp2
 refine wp_region_held_drew (S:=fun w'=>StBlk w' w.heap.size s lv∧LnRow w' lv s.lines∧Below w.heap.size w w') (by kernel_rfl) HH.out (fun hHeld=> ?_)
 refine tst 0 (fun _ h=>h.1) ?_
 simp only [pA,pB,pC,pD]
 refine wpAnyH_ready (rs:=[1]) (by kernel_rfl) (by simp) ?_
 refine AllReadyH.cons rfl (fun K hK=> ?_) AllReadyH.nil
 go_simp
 go_at_call 121
 obtain⟨hSt,hLn,hBe⟩:=hHeld
 refine(HBO.out _ hLn).mono ?_
 rintro x w1 ⟨rfl,hb⟩
 go_wp2_with fail
 refine hK.out _ _ ⟨hSt.below hb,hLn.below hb,Below.next hBe hb⟩ (fun hHeld=> ?_)
 clear hK K hSt hLn hBe hb
 refine tf stF 2 rfl ?_
 refine tf stF 3 rfl ?_
 refine tf stF 4 rfl ?_
 refine tf stF 5 rfl ?_
 refine tst 6 (fun _ h=>h.1) ?_
 simp only [pA,pB,pC,pD]
 refine wpAnyH_ready (rs:=[7]) (by kernel_rfl) (by simp) ?_
 refine AllReadyH.cons rfl (fun K hK=> ?_) AllReadyH.nil
 go_simp
 go_at_call 122
 obtain⟨hSt,hLn,hBe⟩:=hHeld
 refine(HDU.out _ hLn).mono ?_
 rintro x w2 ⟨rfl,hb⟩
 go_wp2_with fail
 refine hK.out _ _ ⟨hSt.below hb,hLn.below hb,Below.next hBe hb⟩ (fun hHeld=> ?_)
 clear hK K hSt hLn hBe hb
 refine tf stF 8 rfl ?_
 refine tf stF 9 rfl ?_
 refine wpAnyH_done (by kernel_rfl) ?_ _
 have c1:w2.cell? ⟨w.heap.size,1,none⟩=some (.int .i64 2):=by rw [hHeld.1.cell 1,stCs,HS.out];rfl
 have c2:w2.cell? ⟨w.heap.size,2,none⟩=some (.int .i64 1):=by rw [hHeld.1.cell 2,stCs,HP.out];rfl
 have HE:=Lib.hid hHeld
 clear hHeld HBO HH
 go_wp2_with (first
  | (with_reducible refine wpList_load_st rfl (.tmp 1) rfl w.heap.size s lv rfl HE.out.1 ?_)
  | (go_at_call 123;refine(HSH.out _ HE.out.2.1).mono ?_;rintro x w3 ⟨rfl,hb⟩;have HE3:=Lib.hid (show StBlk w3 w.heap.size s lv∧LnRow w3 lv s.lines∧Below w.heap.size w w3 from⟨HE.out.1.below hb,HE.out.2.1.below hb,Below.next HE.out.2.2 hb⟩);clear hb))
 clear c1 c2 HE HSH
 refine wp_region_held_drew (S:=fun w'=>StBlk w' w.heap.size s lv∧LnRow w' lv s.lines∧Below w.heap.size w w') (by kernel_rfl) ⟨HE3.out.1,HE3.out.2.1,Below.next HE3.out.2.2 (below_drewN' _ 1)⟩ (fun hHeld=> ?_)
 refine tf stF 0 rfl ?_
 refine tf stF 1 rfl ?_
 refine tst 2 (fun _ h=>h.1) ?_
 simp only [pA,pB,pC,pD]
 refine wpAnyH_ready (rs:=[3]) (by kernel_rfl) (by simp) ?_
 refine AllReadyH.cons rfl (fun K hK=> ?_) AllReadyH.nil
 go_simp
 go_at_call 122
 obtain⟨hSt,hLn,hBe⟩:=hHeld
 refine(HDU.out _ hLn).mono ?_
 rintro x w4 ⟨rfl,hb⟩
 go_wp2_with fail
 refine hK.out _ _ ⟨hSt.below hb,hLn.below hb,Below.next hBe hb⟩ (fun hHeld=> ?_)
 clear hK K hSt hLn hBe hb
 refine tf stF 4 rfl ?_
 refine tf stF 5 rfl ?_
 refine tkn 6 rfl ?_
 simp only [pA,pB,pC,pD]
 refine tkn 7 rfl ?_
 simp only [pA,pB,pC,pD]
 refine tkn 8 rfl ?_
 simp only [pA,pB,pC,pD]
 refine tf stF 9 rfl ?_
 refine tf stF 10 rfl ?_
 refine wpAnyH_done (by kernel_rfl) ?_ _
 have HB:=Lib.hid hHeld.2.2
 have d3:w4.cell? ⟨w.heap.size,3,none⟩=some (.int .i64 s.cur):=hHeld.1.cell 3
 have d4:w4.cell? ⟨w.heap.size,4,none⟩=some (.int .i64 s.tax):=hHeld.1.cell 4
 have d5:w4.cell? ⟨w.heap.size,5,none⟩=some (.slice oa s.lines.length cap):=by rw [hHeld.1.cell 5,stCs,HLV.out];rfl
 have d7:w4.cell? ⟨w.heap.size,7,none⟩=some (.int .i64 s.refunded):=hHeld.1.cell 7
 have d8:w4.cell? ⟨w.heap.size,8,none⟩=some (.int .i64 s.events):=hHeld.1.cell 8
 have d9:w4.cell? ⟨w.heap.size,9,none⟩=some (.int .i64 s.refused):=hHeld.1.cell 9
 have d10:w4.cell? ⟨w.heap.size,10,none⟩=some (.int .i64 s.stamp):=hHeld.1.cell 10
 have d11:w4.cell? ⟨w.heap.size,11,none⟩=some (.string ⟨s.who.toArray⟩):=hHeld.1.cell 11
 clear hHeld HE3 HDU
 cases nB
 ·skip
  go_wp2
  go_ret
  exact⟨by rw [HVb.out];rfl,HB.out⟩
 ·by_cases hrf:s.refunded=0
  ·have r1:(s.refunded==0)=true:=by rw [beq_iff_eq];exact hrf
   clear hrf
   go_wp2
   go_ret
   exact⟨by rw [HVb.out,r1];rfl,HB.out⟩
  ·have r1:(s.refunded==0)=false:=by rw [beq_eq_false_iff_ne];exact hrf
   clear hrf
   go_wp2
   go_ret
   exact⟨by rw [HVb.out,r1];rfl,HB.out⟩
set_option maxRecDepth 100000 in
set_option maxHeartbeats 16000000 in
theorem oValid_2_1_1 (s:St) (lv:Value) (w:World) (hr:LnRow w lv s.lines) (hw:s.who.length≤281474976710656) (hf:boundedB s=true) (hm: ¬ dueOf s<s.paid) (hs:s.status=2) (hp:s.prior=1) (g1:(s.paid==dueOf s)=true) (g3:decide (0<s.paid)=false):
  Calls Tryz.prog 99 #[stV s lv] w fun e w'=>e= .returned (.bool (validB s))∧Below w.heap.size w w':=by
 have HVb:=Lib.hid (show validB s=(noneB s.lines&& !false&&s.refunded==0) by
  have h1:validB s=standB s 1:=by unfold validB;rw [hf,decide_eq_true (by omega),hs,hp];rfl
  have h2:(s.paid==dueOf s&&decide (0<s.paid))=false:=by rw [g1,g3];rfl
  rw [h1];unfold standB;rw [h2];rfl)
 have hbp:=bounded_p hf
 have HBO:=Lib.hid (stBO (lv:=lv) hf hw)
 obtain⟨D,hD⟩: ∃ D,D=dueOf s:=⟨_,rfl⟩
 have HDU:=Lib.hid (stDU (lv:=lv) hD hbp)
 have HH:=Lib.hid (stHH hr)
 have HSH:=Lib.hid (stSH s lv)
 obtain⟨nB,hnB⟩: ∃ x,x=noneB s.lines:=⟨_,rfl⟩
 obtain⟨wB,hwB⟩: ∃ x,x=wholeB s.lines:=⟨_,rfl⟩
 rw [←hnB,←hwB] at HSH
 rw [←hD] at hm g1
 rw [←hnB] at HVb
 have d1:decide (D<s.paid)=false:=decide_eq_false hm
 have hm2:s.paid≤D:=by omega
 have HS:=Lib.hid hs
 have HP:=Lib.hid hp
 obtain⟨oa,cap,hlv,_,_,_⟩:=hr.shape
 have HLV:=Lib.hid hlv
 clear hr hw hf hbp hD hm hs hp hnB hwB hlv
 go_enter Tryz.func99,Tryz.ntmps99
 go_wp2
 refine wp_region_held_drew (S:=fun w'=>StBlk w' w.heap.size s lv∧LnRow w' lv s.lines∧Below w.heap.size w w') (by kernel_rfl) HH.out (fun hHeld=> ?_)
 refine tst 0 (fun _ h=>h.1) ?_
 simp only [pA,pB,pC,pD]
 refine wpAnyH_ready (rs:=[1]) (by kernel_rfl) (by simp) ?_
 refine AllReadyH.cons rfl (fun K hK=> ?_) AllReadyH.nil
 go_simp
 go_at_call 121
 obtain⟨hSt,hLn,hBe⟩:=hHeld
 refine(HBO.out _ hLn).mono ?_
 rintro x w1 ⟨rfl,hb⟩
 go_wp2_with fail
 refine hK.out _ _ ⟨hSt.below hb,hLn.below hb,Below.next hBe hb⟩ (fun hHeld=> ?_)
 clear hK K hSt hLn hBe hb
 refine tf stF 2 rfl ?_
 refine tf stF 3 rfl ?_
 refine tf stF 4 rfl ?_
 refine tf stF 5 rfl ?_
 refine tst 6 (fun _ h=>h.1) ?_
 simp only [pA,pB,pC,pD]
 refine wpAnyH_ready (rs:=[7]) (by kernel_rfl) (by simp) ?_
 refine AllReadyH.cons rfl (fun K hK=> ?_) AllReadyH.nil
 go_simp
 go_at_call 122
 obtain⟨hSt,hLn,hBe⟩:=hHeld
 refine(HDU.out _ hLn).mono ?_
 rintro x w2 ⟨rfl,hb⟩
 go_wp2_with fail
 refine hK.out _ _ ⟨hSt.below hb,hLn.below hb,Below.next hBe hb⟩ (fun hHeld=> ?_)
 clear hK K hSt hLn hBe hb
 refine tf stF 8 rfl ?_
 refine tf stF 9 rfl ?_
 refine wpAnyH_done (by kernel_rfl) ?_ _
 have c1:w2.cell? ⟨w.heap.size,1,none⟩=some (.int .i64 2):=by rw [hHeld.1.cell 1,stCs,HS.out];rfl
 have c2:w2.cell? ⟨w.heap.size,2,none⟩=some (.int .i64 1):=by rw [hHeld.1.cell 2,stCs,HP.out];rfl
 have HE:=Lib.hid hHeld
 clear hHeld HBO HH
 go_wp2_with (first
  | (with_reducible refine wpList_load_st rfl (.tmp 1) rfl w.heap.size s lv rfl HE.out.1 ?_)
  | (go_at_call 123;refine(HSH.out _ HE.out.2.1).mono ?_;rintro x w3 ⟨rfl,hb⟩;have HE3:=Lib.hid (show StBlk w3 w.heap.size s lv∧LnRow w3 lv s.lines∧Below w.heap.size w w3 from⟨HE.out.1.below hb,HE.out.2.1.below hb,Below.next HE.out.2.2 hb⟩);clear hb))
 clear c1 c2 HE HSH
 refine wp_region_held_drew (S:=fun w'=>StBlk w' w.heap.size s lv∧LnRow w' lv s.lines∧Below w.heap.size w w') (by kernel_rfl) ⟨HE3.out.1,HE3.out.2.1,Below.next HE3.out.2.2 (below_drewN' _ 1)⟩ (fun hHeld=> ?_)
 refine tf stF 0 rfl ?_
 refine tf stF 1 rfl ?_
 refine tst 2 (fun _ h=>h.1) ?_
 simp only [pA,pB,pC,pD]
 refine wpAnyH_ready (rs:=[3]) (by kernel_rfl) (by simp) ?_
 refine AllReadyH.cons rfl (fun K hK=> ?_) AllReadyH.nil
 go_simp
 go_at_call 122
 obtain⟨hSt,hLn,hBe⟩:=hHeld
 refine(HDU.out _ hLn).mono ?_
 rintro x w4 ⟨rfl,hb⟩
 go_wp2_with fail
 refine hK.out _ _ ⟨hSt.below hb,hLn.below hb,Below.next hBe hb⟩ (fun hHeld=> ?_)
 clear hK K hSt hLn hBe hb
 refine tf stF 4 rfl ?_
 refine tf stF 5 rfl ?_
 refine tf stF 6 rfl ?_
 refine tf stF 7 rfl ?_
 refine tf stF 8 rfl ?_
 refine tf stF 9 rfl ?_
 refine tf stF 10 rfl ?_
 refine wpAnyH_done (by kernel_rfl) ?_ _
 have HB:=Lib.hid hHeld.2.2
 have d3:w4.cell? ⟨w.heap.size,3,none⟩=some (.int .i64 s.cur):=hHeld.1.cell 3
 have d4:w4.cell? ⟨w.heap.size,4,none⟩=some (.int .i64 s.tax):=hHeld.1.cell 4
 have d5:w4.cell? ⟨w.heap.size,5,none⟩=some (.slice oa s.lines.length cap):=by rw [hHeld.1.cell 5,stCs,HLV.out];rfl
 have d7:w4.cell? ⟨w.heap.size,7,none⟩=some (.int .i64 s.refunded):=hHeld.1.cell 7
 have d8:w4.cell? ⟨w.heap.size,8,none⟩=some (.int .i64 s.events):=hHeld.1.cell 8
 have d9:w4.cell? ⟨w.heap.size,9,none⟩=some (.int .i64 s.refused):=hHeld.1.cell 9
 have d10:w4.cell? ⟨w.heap.size,10,none⟩=some (.int .i64 s.stamp):=hHeld.1.cell 10
 have d11:w4.cell? ⟨w.heap.size,11,none⟩=some (.string ⟨s.who.toArray⟩):=hHeld.1.cell 11
 clear hHeld HE3 HDU
 cases nB
 ·skip
  go_wp2
  go_ret
  exact⟨by rw [HVb.out];rfl,HB.out⟩
 ·by_cases hrf:s.refunded=0
  ·have r1:(s.refunded==0)=true:=by rw [beq_iff_eq];exact hrf
   clear hrf
   go_wp2
   go_ret
   exact⟨by rw [HVb.out,r1];rfl,HB.out⟩
  ·have r1:(s.refunded==0)=false:=by rw [beq_eq_false_iff_ne];exact hrf
   clear hrf
   go_wp2
   go_ret
   exact⟨by rw [HVb.out,r1];rfl,HB.out⟩
set_option maxRecDepth 100000 in
set_option maxHeartbeats 16000000 in
theorem oValid_2_1_2 (s:St) (lv:Value) (w:World) (hr:LnRow w lv s.lines) (hw:s.who.length≤281474976710656) (hf:boundedB s=true) (hm: ¬ dueOf s<s.paid) (hs:s.status=2) (hp:s.prior=1) (g1:(s.paid==dueOf s)=true) (g3:decide (0<s.paid)=true):
  Calls Tryz.prog 99 #[stV s lv] w fun e w'=>e= .returned (.bool (validB s))∧Below w.heap.size w w':=by
 have HVb:=Lib.hid (show validB s=(noneB s.lines&& !true&&s.refunded==0) by
  have h1:validB s=standB s 1:=by unfold validB;rw [hf,decide_eq_true (by omega),hs,hp];rfl
  have h2:(s.paid==dueOf s&&decide (0<s.paid))=true:=by rw [g1,g3];rfl
  rw [h1];unfold standB;rw [h2];rfl)
 have hbp:=bounded_p hf
 have HBO:=Lib.hid (stBO (lv:=lv) hf hw)
 obtain⟨D,hD⟩: ∃ D,D=dueOf s:=⟨_,rfl⟩
 have HDU:=Lib.hid (stDU (lv:=lv) hD hbp)
 have HH:=Lib.hid (stHH hr)
 have HSH:=Lib.hid (stSH s lv)
 obtain⟨nB,hnB⟩: ∃ x,x=noneB s.lines:=⟨_,rfl⟩
 obtain⟨wB,hwB⟩: ∃ x,x=wholeB s.lines:=⟨_,rfl⟩
 rw [←hnB,←hwB] at HSH
 rw [←hD] at hm g1
 rw [←hnB] at HVb
 have d1:decide (D<s.paid)=false:=decide_eq_false hm
 have hm2:s.paid≤D:=by omega
 have HS:=Lib.hid hs
 have HP:=Lib.hid hp
 obtain⟨oa,cap,hlv,_,_,_⟩:=hr.shape
 have HLV:=Lib.hid hlv
 clear hr hw hf hbp hD hm hs hp hnB hwB hlv
 go_enter Tryz.func99,Tryz.ntmps99
 go_wp2
 refine wp_region_held_drew (S:=fun w'=>StBlk w' w.heap.size s lv∧LnRow w' lv s.lines∧Below w.heap.size w w') (by kernel_rfl) HH.out (fun hHeld=> ?_)
 refine tst 0 (fun _ h=>h.1) ?_
 simp only [pA,pB,pC,pD]
 refine wpAnyH_ready (rs:=[1]) (by kernel_rfl) (by simp) ?_
 refine AllReadyH.cons rfl (fun K hK=> ?_) AllReadyH.nil
 go_simp
 go_at_call 121
 obtain⟨hSt,hLn,hBe⟩:=hHeld
 refine(HBO.out _ hLn).mono ?_
 rintro x w1 ⟨rfl,hb⟩
 go_wp2_with fail
 refine hK.out _ _ ⟨hSt.below hb,hLn.below hb,Below.next hBe hb⟩ (fun hHeld=> ?_)
 clear hK K hSt hLn hBe hb
 refine tf stF 2 rfl ?_
 refine tf stF 3 rfl ?_
 refine tf stF 4 rfl ?_
 refine tf stF 5 rfl ?_
 refine tst 6 (fun _ h=>h.1) ?_
 simp only [pA,pB,pC,pD]
 refine wpAnyH_ready (rs:=[7]) (by kernel_rfl) (by simp) ?_
 refine AllReadyH.cons rfl (fun K hK=> ?_) AllReadyH.nil
 go_simp
 go_at_call 122
 obtain⟨hSt,hLn,hBe⟩:=hHeld
 refine(HDU.out _ hLn).mono ?_
 rintro x w2 ⟨rfl,hb⟩
 go_wp2_with fail
 refine hK.out _ _ ⟨hSt.below hb,hLn.below hb,Below.next hBe hb⟩ (fun hHeld=> ?_)
 clear hK K hSt hLn hBe hb
 refine tf stF 8 rfl ?_
 refine tf stF 9 rfl ?_
 refine wpAnyH_done (by kernel_rfl) ?_ _
 have c1:w2.cell? ⟨w.heap.size,1,none⟩=some (.int .i64 2):=by rw [hHeld.1.cell 1,stCs,HS.out];rfl
 have c2:w2.cell? ⟨w.heap.size,2,none⟩=some (.int .i64 1):=by rw [hHeld.1.cell 2,stCs,HP.out];rfl
 have HE:=Lib.hid hHeld
 clear hHeld HBO HH
 go_wp2_with (first
  | (with_reducible refine wpList_load_st rfl (.tmp 1) rfl w.heap.size s lv rfl HE.out.1 ?_)
  | (go_at_call 123;refine(HSH.out _ HE.out.2.1).mono ?_;rintro x w3 ⟨rfl,hb⟩;have HE3:=Lib.hid (show StBlk w3 w.heap.size s lv∧LnRow w3 lv s.lines∧Below w.heap.size w w3 from⟨HE.out.1.below hb,HE.out.2.1.below hb,Below.next HE.out.2.2 hb⟩);clear hb))
 clear c1 c2 HE HSH
 refine wp_region_held_drew (S:=fun w'=>StBlk w' w.heap.size s lv∧LnRow w' lv s.lines∧Below w.heap.size w w') (by kernel_rfl) ⟨HE3.out.1,HE3.out.2.1,Below.next HE3.out.2.2 (below_drewN' _ 1)⟩ (fun hHeld=> ?_)
 refine tf stF 0 rfl ?_
 refine tf stF 1 rfl ?_
 refine tst 2 (fun _ h=>h.1) ?_
 simp only [pA,pB,pC,pD]
 refine wpAnyH_ready (rs:=[3]) (by kernel_rfl) (by simp) ?_
 refine AllReadyH.cons rfl (fun K hK=> ?_) AllReadyH.nil
 go_simp
 go_at_call 122
 obtain⟨hSt,hLn,hBe⟩:=hHeld
 refine(HDU.out _ hLn).mono ?_
 rintro x w4 ⟨rfl,hb⟩
 go_wp2_with fail
 refine hK.out _ _ ⟨hSt.below hb,hLn.below hb,Below.next hBe hb⟩ (fun hHeld=> ?_)
 clear hK K hSt hLn hBe hb
 refine tf stF 4 rfl ?_
 refine tf stF 5 rfl ?_
 refine tf stF 6 rfl ?_
 refine tf stF 7 rfl ?_
 refine tf stF 8 rfl ?_
 refine tf stF 9 rfl ?_
 refine tf stF 10 rfl ?_
 refine wpAnyH_done (by kernel_rfl) ?_ _
 have HB:=Lib.hid hHeld.2.2
 have d3:w4.cell? ⟨w.heap.size,3,none⟩=some (.int .i64 s.cur):=hHeld.1.cell 3
 have d4:w4.cell? ⟨w.heap.size,4,none⟩=some (.int .i64 s.tax):=hHeld.1.cell 4
 have d5:w4.cell? ⟨w.heap.size,5,none⟩=some (.slice oa s.lines.length cap):=by rw [hHeld.1.cell 5,stCs,HLV.out];rfl
 have d7:w4.cell? ⟨w.heap.size,7,none⟩=some (.int .i64 s.refunded):=hHeld.1.cell 7
 have d8:w4.cell? ⟨w.heap.size,8,none⟩=some (.int .i64 s.events):=hHeld.1.cell 8
 have d9:w4.cell? ⟨w.heap.size,9,none⟩=some (.int .i64 s.refused):=hHeld.1.cell 9
 have d10:w4.cell? ⟨w.heap.size,10,none⟩=some (.int .i64 s.stamp):=hHeld.1.cell 10
 have d11:w4.cell? ⟨w.heap.size,11,none⟩=some (.string ⟨s.who.toArray⟩):=hHeld.1.cell 11
 clear hHeld HE3 HDU
 cases nB
 ·skip
  go_wp2
  go_ret
  exact⟨by rw [HVb.out];rfl,HB.out⟩
 ·skip
  go_wp2
  go_ret
  exact⟨by rw [HVb.out];rfl,HB.out⟩
set_option maxRecDepth 100000 in
set_option maxHeartbeats 16000000 in
theorem oValid_1_0_0 (s:St) (lv:Value) (w:World) (hr:LnRow w lv s.lines) (hw:s.who.length≤281474976710656) (hf:boundedB s=true) (hm: ¬ dueOf s<s.paid) (hs:s.status=1) (hp:s.prior=0) (g1:(s.paid==dueOf s)=false):
  Calls Tryz.prog 99 #[stV s lv] w fun e w'=>e= .returned (.bool (validB s))∧Below w.heap.size w w':=by
 have HVb:=Lib.hid (show validB s=(noneB s.lines&& !false&&s.refunded==0) by
  have h1:validB s=standB s 1:=by unfold validB;rw [hf,decide_eq_true (by omega),hs,hp];rfl
  have h2:(s.paid==dueOf s&&decide (0<s.paid))=false:=by rw [g1];rfl
  rw [h1];unfold standB;rw [h2];rfl)
 have hbp:=bounded_p hf
 have HBO:=Lib.hid (stBO (lv:=lv) hf hw)
 obtain⟨D,hD⟩: ∃ D,D=dueOf s:=⟨_,rfl⟩
 have HDU:=Lib.hid (stDU (lv:=lv) hD hbp)
 have HH:=Lib.hid (stHH hr)
 have HSH:=Lib.hid (stSH s lv)
 obtain⟨nB,hnB⟩: ∃ x,x=noneB s.lines:=⟨_,rfl⟩
 obtain⟨wB,hwB⟩: ∃ x,x=wholeB s.lines:=⟨_,rfl⟩
 rw [←hnB,←hwB] at HSH
 rw [←hD] at hm g1
 rw [←hnB] at HVb
 have d1:decide (D<s.paid)=false:=decide_eq_false hm
 have hm2:s.paid≤D:=by omega
 have HS:=Lib.hid hs
 have HP:=Lib.hid hp
 obtain⟨oa,cap,hlv,_,_,_⟩:=hr.shape
 have HLV:=Lib.hid hlv
 clear hr hw hf hbp hD hm hs hp hnB hwB hlv
 go_enter Tryz.func99,Tryz.ntmps99
 go_wp2
 refine wp_region_held_drew (S:=fun w'=>StBlk w' w.heap.size s lv∧LnRow w' lv s.lines∧Below w.heap.size w w') (by kernel_rfl) HH.out (fun hHeld=> ?_)
 refine tst 0 (fun _ h=>h.1) ?_
 simp only [pA,pB,pC,pD]
 refine wpAnyH_ready (rs:=[1]) (by kernel_rfl) (by simp) ?_
 refine AllReadyH.cons rfl (fun K hK=> ?_) AllReadyH.nil
 go_simp
 go_at_call 121
 obtain⟨hSt,hLn,hBe⟩:=hHeld
 refine(HBO.out _ hLn).mono ?_
 rintro x w1 ⟨rfl,hb⟩
 go_wp2_with fail
 refine hK.out _ _ ⟨hSt.below hb,hLn.below hb,Below.next hBe hb⟩ (fun hHeld=> ?_)
 clear hK K hSt hLn hBe hb
 refine tf stF 2 rfl ?_
 refine tf stF 3 rfl ?_
 refine tf stF 4 rfl ?_
 refine tf stF 5 rfl ?_
 refine tst 6 (fun _ h=>h.1) ?_
 simp only [pA,pB,pC,pD]
 refine wpAnyH_ready (rs:=[7]) (by kernel_rfl) (by simp) ?_
 refine AllReadyH.cons rfl (fun K hK=> ?_) AllReadyH.nil
 go_simp
 go_at_call 122
 obtain⟨hSt,hLn,hBe⟩:=hHeld
 refine(HDU.out _ hLn).mono ?_
 rintro x w2 ⟨rfl,hb⟩
 go_wp2_with fail
 refine hK.out _ _ ⟨hSt.below hb,hLn.below hb,Below.next hBe hb⟩ (fun hHeld=> ?_)
 clear hK K hSt hLn hBe hb
 refine tf stF 8 rfl ?_
 refine tf stF 9 rfl ?_
 refine wpAnyH_done (by kernel_rfl) ?_ _
 have c1:w2.cell? ⟨w.heap.size,1,none⟩=some (.int .i64 1):=by rw [hHeld.1.cell 1,stCs,HS.out];rfl
 have c2:w2.cell? ⟨w.heap.size,2,none⟩=some (.int .i64 0):=by rw [hHeld.1.cell 2,stCs,HP.out];rfl
 have HE:=Lib.hid hHeld
 clear hHeld HBO HH
 go_wp2_with (first
  | (with_reducible refine wpList_load_st rfl (.tmp 1) rfl w.heap.size s lv rfl HE.out.1 ?_)
  | (go_at_call 123;refine(HSH.out _ HE.out.2.1).mono ?_;rintro x w3 ⟨rfl,hb⟩;have HE3:=Lib.hid (show StBlk w3 w.heap.size s lv∧LnRow w3 lv s.lines∧Below w.heap.size w w3 from⟨HE.out.1.below hb,HE.out.2.1.below hb,Below.next HE.out.2.2 hb⟩);clear hb))
 clear c1 c2 HE HSH
 refine wp_region_held_drew (S:=fun w'=>StBlk w' w.heap.size s lv∧LnRow w' lv s.lines∧Below w.heap.size w w') (by kernel_rfl) ⟨HE3.out.1,HE3.out.2.1,Below.next HE3.out.2.2 (below_drewN' _ 1)⟩ (fun hHeld=> ?_)
 refine tf stF 0 rfl ?_
 refine tf stF 1 rfl ?_
 refine tst 2 (fun _ h=>h.1) ?_
 simp only [pA,pB,pC,pD]
 refine wpAnyH_ready (rs:=[3]) (by kernel_rfl) (by simp) ?_
 refine AllReadyH.cons rfl (fun K hK=> ?_) AllReadyH.nil
 go_simp
 go_at_call 122
 obtain⟨hSt,hLn,hBe⟩:=hHeld
 refine(HDU.out _ hLn).mono ?_
 rintro x w4 ⟨rfl,hb⟩
 go_wp2_with fail
 refine hK.out _ _ ⟨hSt.below hb,hLn.below hb,Below.next hBe hb⟩ (fun hHeld=> ?_)
 clear hK K hSt hLn hBe hb
 refine tf stF 4 rfl ?_
 refine tf stF 5 rfl ?_
 refine tkn 6 rfl ?_
 simp only [pA,pB,pC,pD]
 refine tkn 7 rfl ?_
 simp only [pA,pB,pC,pD]
 refine tkn 8 rfl ?_
 simp only [pA,pB,pC,pD]
 refine tf stF 9 rfl ?_
 refine tf stF 10 rfl ?_
 refine wpAnyH_done (by kernel_rfl) ?_ _
 have HB:=Lib.hid hHeld.2.2
 have d3:w4.cell? ⟨w.heap.size,3,none⟩=some (.int .i64 s.cur):=hHeld.1.cell 3
 have d4:w4.cell? ⟨w.heap.size,4,none⟩=some (.int .i64 s.tax):=hHeld.1.cell 4
 have d5:w4.cell? ⟨w.heap.size,5,none⟩=some (.slice oa s.lines.length cap):=by rw [hHeld.1.cell 5,stCs,HLV.out];rfl
 have d7:w4.cell? ⟨w.heap.size,7,none⟩=some (.int .i64 s.refunded):=hHeld.1.cell 7
 have d8:w4.cell? ⟨w.heap.size,8,none⟩=some (.int .i64 s.events):=hHeld.1.cell 8
 have d9:w4.cell? ⟨w.heap.size,9,none⟩=some (.int .i64 s.refused):=hHeld.1.cell 9
 have d10:w4.cell? ⟨w.heap.size,10,none⟩=some (.int .i64 s.stamp):=hHeld.1.cell 10
 have d11:w4.cell? ⟨w.heap.size,11,none⟩=some (.string ⟨s.who.toArray⟩):=hHeld.1.cell 11
 clear hHeld HE3 HDU
 cases nB
 ·skip
  go_wp2
  go_ret
  exact⟨by rw [HVb.out];rfl,HB.out⟩
 ·by_cases hrf:s.refunded=0
  ·have r1:(s.refunded==0)=true:=by rw [beq_iff_eq];exact hrf
   clear hrf
   go_wp2
   go_ret
   exact⟨by rw [HVb.out,r1];rfl,HB.out⟩
  ·have r1:(s.refunded==0)=false:=by rw [beq_eq_false_iff_ne];exact hrf
   clear hrf
   go_wp2
   go_ret
   exact⟨by rw [HVb.out,r1];rfl,HB.out⟩
set_option maxRecDepth 100000 in
set_option maxHeartbeats 16000000 in
theorem oValid_1_0_1 (s:St) (lv:Value) (w:World) (hr:LnRow w lv s.lines) (hw:s.who.length≤281474976710656) (hf:boundedB s=true) (hm: ¬ dueOf s<s.paid) (hs:s.status=1) (hp:s.prior=0) (g1:(s.paid==dueOf s)=true) (g3:decide (0<s.paid)=false):
  Calls Tryz.prog 99 #[stV s lv] w fun e w'=>e= .returned (.bool (validB s))∧Below w.heap.size w w':=by
 have HVb:=Lib.hid (show validB s=(noneB s.lines&& !false&&s.refunded==0) by
  have h1:validB s=standB s 1:=by unfold validB;rw [hf,decide_eq_true (by omega),hs,hp];rfl
  have h2:(s.paid==dueOf s&&decide (0<s.paid))=false:=by rw [g1,g3];rfl
  rw [h1];unfold standB;rw [h2];rfl)
 have hbp:=bounded_p hf
 have HBO:=Lib.hid (stBO (lv:=lv) hf hw)
 obtain⟨D,hD⟩: ∃ D,D=dueOf s:=⟨_,rfl⟩
 have HDU:=Lib.hid (stDU (lv:=lv) hD hbp)
 have HH:=Lib.hid (stHH hr)
 have HSH:=Lib.hid (stSH s lv)
 obtain⟨nB,hnB⟩: ∃ x,x=noneB s.lines:=⟨_,rfl⟩
 obtain⟨wB,hwB⟩: ∃ x,x=wholeB s.lines:=⟨_,rfl⟩
 rw [←hnB,←hwB] at HSH
 rw [←hD] at hm g1
 rw [←hnB] at HVb
 have d1:decide (D<s.paid)=false:=decide_eq_false hm
 have hm2:s.paid≤D:=by omega
 have HS:=Lib.hid hs
 have HP:=Lib.hid hp
 obtain⟨oa,cap,hlv,_,_,_⟩:=hr.shape
 have HLV:=Lib.hid hlv
 clear hr hw hf hbp hD hm hs hp hnB hwB hlv
 go_enter Tryz.func99,Tryz.ntmps99
 go_wp2
 refine wp_region_held_drew (S:=fun w'=>StBlk w' w.heap.size s lv∧LnRow w' lv s.lines∧Below w.heap.size w w') (by kernel_rfl) HH.out (fun hHeld=> ?_)
 refine tst 0 (fun _ h=>h.1) ?_
 simp only [pA,pB,pC,pD]
 refine wpAnyH_ready (rs:=[1]) (by kernel_rfl) (by simp) ?_
 refine AllReadyH.cons rfl (fun K hK=> ?_) AllReadyH.nil
 go_simp
 go_at_call 121
 obtain⟨hSt,hLn,hBe⟩:=hHeld
 refine(HBO.out _ hLn).mono ?_
 rintro x w1 ⟨rfl,hb⟩
 go_wp2_with fail
 refine hK.out _ _ ⟨hSt.below hb,hLn.below hb,Below.next hBe hb⟩ (fun hHeld=> ?_)
 clear hK K hSt hLn hBe hb
 refine tf stF 2 rfl ?_
 refine tf stF 3 rfl ?_
 refine tf stF 4 rfl ?_
 refine tf stF 5 rfl ?_
 refine tst 6 (fun _ h=>h.1) ?_
 simp only [pA,pB,pC,pD]
 refine wpAnyH_ready (rs:=[7]) (by kernel_rfl) (by simp) ?_
 refine AllReadyH.cons rfl (fun K hK=> ?_) AllReadyH.nil
 go_simp
 go_at_call 122
 obtain⟨hSt,hLn,hBe⟩:=hHeld
 refine(HDU.out _ hLn).mono ?_
 rintro x w2 ⟨rfl,hb⟩
 go_wp2_with fail
 refine hK.out _ _ ⟨hSt.below hb,hLn.below hb,Below.next hBe hb⟩ (fun hHeld=> ?_)
 clear hK K hSt hLn hBe hb
 refine tf stF 8 rfl ?_
 refine tf stF 9 rfl ?_
 refine wpAnyH_done (by kernel_rfl) ?_ _
 have c1:w2.cell? ⟨w.heap.size,1,none⟩=some (.int .i64 1):=by rw [hHeld.1.cell 1,stCs,HS.out];rfl
 have c2:w2.cell? ⟨w.heap.size,2,none⟩=some (.int .i64 0):=by rw [hHeld.1.cell 2,stCs,HP.out];rfl
 have HE:=Lib.hid hHeld
 clear hHeld HBO HH
 go_wp2_with (first
  | (with_reducible refine wpList_load_st rfl (.tmp 1) rfl w.heap.size s lv rfl HE.out.1 ?_)
  | (go_at_call 123;refine(HSH.out _ HE.out.2.1).mono ?_;rintro x w3 ⟨rfl,hb⟩;have HE3:=Lib.hid (show StBlk w3 w.heap.size s lv∧LnRow w3 lv s.lines∧Below w.heap.size w w3 from⟨HE.out.1.below hb,HE.out.2.1.below hb,Below.next HE.out.2.2 hb⟩);clear hb))
 clear c1 c2 HE HSH
 refine wp_region_held_drew (S:=fun w'=>StBlk w' w.heap.size s lv∧LnRow w' lv s.lines∧Below w.heap.size w w') (by kernel_rfl) ⟨HE3.out.1,HE3.out.2.1,Below.next HE3.out.2.2 (below_drewN' _ 1)⟩ (fun hHeld=> ?_)
 refine tf stF 0 rfl ?_
 refine tf stF 1 rfl ?_
 refine tst 2 (fun _ h=>h.1) ?_
 simp only [pA,pB,pC,pD]
 refine wpAnyH_ready (rs:=[3]) (by kernel_rfl) (by simp) ?_
 refine AllReadyH.cons rfl (fun K hK=> ?_) AllReadyH.nil
 go_simp
 go_at_call 122
 obtain⟨hSt,hLn,hBe⟩:=hHeld
 refine(HDU.out _ hLn).mono ?_
 rintro x w4 ⟨rfl,hb⟩
 go_wp2_with fail
 refine hK.out _ _ ⟨hSt.below hb,hLn.below hb,Below.next hBe hb⟩ (fun hHeld=> ?_)
 clear hK K hSt hLn hBe hb
 refine tf stF 4 rfl ?_
 refine tf stF 5 rfl ?_
 refine tf stF 6 rfl ?_
 refine tf stF 7 rfl ?_
 refine tf stF 8 rfl ?_
 refine tf stF 9 rfl ?_
 refine tf stF 10 rfl ?_
 refine wpAnyH_done (by kernel_rfl) ?_ _
 have HB:=Lib.hid hHeld.2.2
 have d3:w4.cell? ⟨w.heap.size,3,none⟩=some (.int .i64 s.cur):=hHeld.1.cell 3
 have d4:w4.cell? ⟨w.heap.size,4,none⟩=some (.int .i64 s.tax):=hHeld.1.cell 4
 have d5:w4.cell? ⟨w.heap.size,5,none⟩=some (.slice oa s.lines.length cap):=by rw [hHeld.1.cell 5,stCs,HLV.out];rfl
 have d7:w4.cell? ⟨w.heap.size,7,none⟩=some (.int .i64 s.refunded):=hHeld.1.cell 7
 have d8:w4.cell? ⟨w.heap.size,8,none⟩=some (.int .i64 s.events):=hHeld.1.cell 8
 have d9:w4.cell? ⟨w.heap.size,9,none⟩=some (.int .i64 s.refused):=hHeld.1.cell 9
 have d10:w4.cell? ⟨w.heap.size,10,none⟩=some (.int .i64 s.stamp):=hHeld.1.cell 10
 have d11:w4.cell? ⟨w.heap.size,11,none⟩=some (.string ⟨s.who.toArray⟩):=hHeld.1.cell 11
 clear hHeld HE3 HDU
 cases nB
 ·skip
  go_wp2
  go_ret
  exact⟨by rw [HVb.out];rfl,HB.out⟩
 ·by_cases hrf:s.refunded=0
  ·have r1:(s.refunded==0)=true:=by rw [beq_iff_eq];exact hrf
   clear hrf
   go_wp2
   go_ret
   exact⟨by rw [HVb.out,r1];rfl,HB.out⟩
  ·have r1:(s.refunded==0)=false:=by rw [beq_eq_false_iff_ne];exact hrf
   clear hrf
   go_wp2
   go_ret
   exact⟨by rw [HVb.out,r1];rfl,HB.out⟩
set_option maxRecDepth 100000 in
set_option maxHeartbeats 16000000 in
theorem oValid_1_0_2 (s:St) (lv:Value) (w:World) (hr:LnRow w lv s.lines) (hw:s.who.length≤281474976710656) (hf:boundedB s=true) (hm: ¬ dueOf s<s.paid) (hs:s.status=1) (hp:s.prior=0) (g1:(s.paid==dueOf s)=true) (g3:decide (0<s.paid)=true):
  Calls Tryz.prog 99 #[stV s lv] w fun e w'=>e= .returned (.bool (validB s))∧Below w.heap.size w w':=by
 have HVb:=Lib.hid (show validB s=(noneB s.lines&& !true&&s.refunded==0) by
  have h1:validB s=standB s 1:=by unfold validB;rw [hf,decide_eq_true (by omega),hs,hp];rfl
  have h2:(s.paid==dueOf s&&decide (0<s.paid))=true:=by rw [g1,g3];rfl
  rw [h1];unfold standB;rw [h2];rfl)
 have hbp:=bounded_p hf
 have HBO:=Lib.hid (stBO (lv:=lv) hf hw)
 obtain⟨D,hD⟩: ∃ D,D=dueOf s:=⟨_,rfl⟩
 have HDU:=Lib.hid (stDU (lv:=lv) hD hbp)
 have HH:=Lib.hid (stHH hr)
 have HSH:=Lib.hid (stSH s lv)
 obtain⟨nB,hnB⟩: ∃ x,x=noneB s.lines:=⟨_,rfl⟩
 obtain⟨wB,hwB⟩: ∃ x,x=wholeB s.lines:=⟨_,rfl⟩
 rw [←hnB,←hwB] at HSH
 rw [←hD] at hm g1
 rw [←hnB] at HVb
 have d1:decide (D<s.paid)=false:=decide_eq_false hm
 have hm2:s.paid≤D:=by omega
 have HS:=Lib.hid hs
 have HP:=Lib.hid hp
 obtain⟨oa,cap,hlv,_,_,_⟩:=hr.shape
 have HLV:=Lib.hid hlv
 clear hr hw hf hbp hD hm hs hp hnB hwB hlv
 go_enter Tryz.func99,Tryz.ntmps99
 go_wp2
 refine wp_region_held_drew (S:=fun w'=>StBlk w' w.heap.size s lv∧LnRow w' lv s.lines∧Below w.heap.size w w') (by kernel_rfl) HH.out (fun hHeld=> ?_)
 refine tst 0 (fun _ h=>h.1) ?_
 simp only [pA,pB,pC,pD]
 refine wpAnyH_ready (rs:=[1]) (by kernel_rfl) (by simp) ?_
 refine AllReadyH.cons rfl (fun K hK=> ?_) AllReadyH.nil
 go_simp
 go_at_call 121
 obtain⟨hSt,hLn,hBe⟩:=hHeld
 refine(HBO.out _ hLn).mono ?_
 rintro x w1 ⟨rfl,hb⟩
 go_wp2_with fail
 refine hK.out _ _ ⟨hSt.below hb,hLn.below hb,Below.next hBe hb⟩ (fun hHeld=> ?_)
 clear hK K hSt hLn hBe hb
 refine tf stF 2 rfl ?_
 refine tf stF 3 rfl ?_
 refine tf stF 4 rfl ?_
 refine tf stF 5 rfl ?_
 refine tst 6 (fun _ h=>h.1) ?_
 simp only [pA,pB,pC,pD]
 refine wpAnyH_ready (rs:=[7]) (by kernel_rfl) (by simp) ?_
 refine AllReadyH.cons rfl (fun K hK=> ?_) AllReadyH.nil
 go_simp
 go_at_call 122
 obtain⟨hSt,hLn,hBe⟩:=hHeld
 refine(HDU.out _ hLn).mono ?_
 rintro x w2 ⟨rfl,hb⟩
 go_wp2_with fail
 refine hK.out _ _ ⟨hSt.below hb,hLn.below hb,Below.next hBe hb⟩ (fun hHeld=> ?_)
 clear hK K hSt hLn hBe hb
 refine tf stF 8 rfl ?_
 refine tf stF 9 rfl ?_
 refine wpAnyH_done (by kernel_rfl) ?_ _
 have c1:w2.cell? ⟨w.heap.size,1,none⟩=some (.int .i64 1):=by rw [hHeld.1.cell 1,stCs,HS.out];rfl
 have c2:w2.cell? ⟨w.heap.size,2,none⟩=some (.int .i64 0):=by rw [hHeld.1.cell 2,stCs,HP.out];rfl
 have HE:=Lib.hid hHeld
 clear hHeld HBO HH
 go_wp2_with (first
  | (with_reducible refine wpList_load_st rfl (.tmp 1) rfl w.heap.size s lv rfl HE.out.1 ?_)
  | (go_at_call 123;refine(HSH.out _ HE.out.2.1).mono ?_;rintro x w3 ⟨rfl,hb⟩;have HE3:=Lib.hid (show StBlk w3 w.heap.size s lv∧LnRow w3 lv s.lines∧Below w.heap.size w w3 from⟨HE.out.1.below hb,HE.out.2.1.below hb,Below.next HE.out.2.2 hb⟩);clear hb))
 clear c1 c2 HE HSH
 refine wp_region_held_drew (S:=fun w'=>StBlk w' w.heap.size s lv∧LnRow w' lv s.lines∧Below w.heap.size w w') (by kernel_rfl) ⟨HE3.out.1,HE3.out.2.1,Below.next HE3.out.2.2 (below_drewN' _ 1)⟩ (fun hHeld=> ?_)
 refine tf stF 0 rfl ?_
 refine tf stF 1 rfl ?_
 refine tst 2 (fun _ h=>h.1) ?_
 simp only [pA,pB,pC,pD]
 refine wpAnyH_ready (rs:=[3]) (by kernel_rfl) (by simp) ?_
 refine AllReadyH.cons rfl (fun K hK=> ?_) AllReadyH.nil
 go_simp
 go_at_call 122
 obtain⟨hSt,hLn,hBe⟩:=hHeld
 refine(HDU.out _ hLn).mono ?_
 rintro x w4 ⟨rfl,hb⟩
 go_wp2_with fail
 refine hK.out _ _ ⟨hSt.below hb,hLn.below hb,Below.next hBe hb⟩ (fun hHeld=> ?_)
 clear hK K hSt hLn hBe hb
 refine tf stF 4 rfl ?_
 refine tf stF 5 rfl ?_
 refine tf stF 6 rfl ?_
 refine tf stF 7 rfl ?_
 refine tf stF 8 rfl ?_
 refine tf stF 9 rfl ?_
 refine tf stF 10 rfl ?_
 refine wpAnyH_done (by kernel_rfl) ?_ _
 have HB:=Lib.hid hHeld.2.2
 have d3:w4.cell? ⟨w.heap.size,3,none⟩=some (.int .i64 s.cur):=hHeld.1.cell 3
 have d4:w4.cell? ⟨w.heap.size,4,none⟩=some (.int .i64 s.tax):=hHeld.1.cell 4
 have d5:w4.cell? ⟨w.heap.size,5,none⟩=some (.slice oa s.lines.length cap):=by rw [hHeld.1.cell 5,stCs,HLV.out];rfl
 have d7:w4.cell? ⟨w.heap.size,7,none⟩=some (.int .i64 s.refunded):=hHeld.1.cell 7
 have d8:w4.cell? ⟨w.heap.size,8,none⟩=some (.int .i64 s.events):=hHeld.1.cell 8
 have d9:w4.cell? ⟨w.heap.size,9,none⟩=some (.int .i64 s.refused):=hHeld.1.cell 9
 have d10:w4.cell? ⟨w.heap.size,10,none⟩=some (.int .i64 s.stamp):=hHeld.1.cell 10
 have d11:w4.cell? ⟨w.heap.size,11,none⟩=some (.string ⟨s.who.toArray⟩):=hHeld.1.cell 11
 clear hHeld HE3 HDU
 cases nB
 ·skip
  go_wp2
  go_ret
  exact⟨by rw [HVb.out];rfl,HB.out⟩
 ·skip
  go_wp2
  go_ret
  exact⟨by rw [HVb.out];rfl,HB.out⟩
end Go.Proofs.YtcglcphhfmkccaaGreatDoor
