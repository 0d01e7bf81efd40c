import Derived.Test.YtgkdenejkcngnaaGreatDoorPk6
set_option maxRecDepth 100000
set_option maxHeartbeats 8000000
namespace Go.Proofs.YtgkdenejkcngnaaGreatDoor
open Go.RowKit
section
variable {P : Nat → Prop} {w w' : World} {f m b : Nat} {L : List Ad} {d d' : Ab} {s s' : Cb} {mv sv : Value} {E E' : List (List UInt8)} {k k' : Nat}
def AppR (d:Ab) (s:Cb) (E:List (List UInt8)) (raw:List UInt8) (r:Int×Int) (d':Ab) (s':Cb) (E':List (List UInt8)):Prop:=
 Grow d s d' s' 17660 1∧((r.1=0∧r.2≠0∧E'=E∧s'=s∧d'.files=d.files∧(r.2=92∧1099511627776≤lastE s∨r.2=54∧d.room - (usedF d.files:Int)<1060∨r.2=Cv d s (Hg s raw).length∧s.segEv≤s.count))∨
  (r=((E.length:Int)+1,0)∧E'=E++[raw]))
theorem push_res {raw:List UInt8} (h:Lim d s E k) (hb:BodyOk raw): ∃ E',AppR d s E raw (Cy d s raw).1 (Cy d s raw).2.2 (Cy d s raw).2.1 E'∧Lim (Cy d s raw).2.2 (Cy d s raw).2.1 E' (k+1):=by
 obtain⟨h1,h2⟩:=push_ok h.ok h.fuse hb
 have hl:=h.len
 rcases h2 with⟨a1,a2,a3,a4,a5,a6⟩ | ⟨a1,a2⟩
 ·exact⟨E,⟨h1,.inl ⟨a1,a2,rfl,a5,a6,a3⟩⟩,h.grow h1 a4 (by omega)⟩
 ·exact⟨E++[raw],⟨h1,.inr ⟨a1,rfl⟩⟩,h.grow h1 a2 (by simp;omega)⟩
theorem atAppend {v:Int} {e:Ev} (h:Jm P w f m b d s E k) (hk:k<1000) (hok:I3 281474976710656 e):
  Calls Tryz.prog 12 #[.pointer (some ⟨b,0,none⟩),.int .i64 v,Dx e] w fun x w'=> ∃ r d' s' E',x= .returned (.tuple #[.int .i64 r.1,.int .i64 r.2])∧Ft P w w' f m b d' s' E' (k+1)∧
   ((Af v e≠0∧r=(0,Af v e)∧E'=E∧s'=s∧d'=d)∨(Af v e=0∧AppR d s E (J7 v e) r d' s' E')):=by
 obtain⟨L,mv,sv,h1,h2,h3,h4⟩:=h
 refine(stoAppend_any v e hok h1 h4 hk).mono ?_
 rintro x w' ⟨rfl,hp⟩
 by_cases hc:Af v e=0
 ·rw [ζ hc] at hp ⊢
  obtain⟨E',a1,a2⟩:=push_res h4 (pack_body hc)
  exact⟨_,_,_,E',rfl,Jm.out hp h3 h2 a2,.inr ⟨hc,a1⟩⟩
 ·rw [γ hc] at hp ⊢
  exact⟨_,_,_,E,rfl,Jm.out hp h3 h2 (h4.up (Nat.le_succ k)),.inl ⟨hc,rfl,rfl,rfl,rfl⟩⟩
theorem atPut {raw:List UInt8} {rv:Value} (h:Jm P w f m b d s E k) (hk:k<1000) (hr:Ag (fun i=> ¬ P i) w rv raw) (hll:raw.length≤9223372036854775807):
  Calls Tryz.prog 21 #[.pointer (some ⟨b,0,none⟩),rv] w fun x w'=> ∃ r d' s' E',x= .returned (.tuple #[.int .i64 r.1,.int .i64 r.2])∧Ft P w w' f m b d' s' E' (k+1)∧
   (((Ca raw).2.2≠0∧r=(0,(Ca raw).2.2)∧E'=E∧s'=s∧d'=d)∨((Ca raw).2.2=0∧AppR d s E raw r d' s' E')):=by
 obtain⟨L,mv,sv,h1,h2,h3,h4⟩:=h
 refine(stoPut_any raw rv h1 h4 hk (hr.mono fun i hi hc=>hi (h2 i hc)) hll).mono ?_
 rintro x w' ⟨rfl,hp⟩
 by_cases hc:(Ca raw).2.2=0
 ·rw [ζ hc] at hp ⊢
  obtain⟨E',a1,a2⟩:=push_res h4 ⟨hc,unpack_len hc⟩
  exact⟨_,_,_,E',rfl,Jm.out hp h3 h2 a2,.inr ⟨hc,a1⟩⟩
 ·rw [γ hc] at hp ⊢
  exact⟨_,_,_,E,rfl,Jm.out hp h3 h2 (h4.up (Nat.le_succ k)),.inl ⟨hc,rfl,rfl,rfl,rfl⟩⟩
theorem atRotate (h:Jm P w f m b d s E k) (hk:k<1000):
  Calls Tryz.prog 23 #[.pointer (some ⟨b,0,none⟩)] w fun x w'=> ∃ r d' s',x= .returned (.int .i64 r)∧Ft P w w' f m b d' s' E (k+1)∧Grow d s d' s' 16600 1∧
   ((r=Cv d s 0∧r≠0∧s'=s∧d'.files=d.files)∨r=0):=by
 obtain⟨L,mv,sv,h1,h2,h3,h4⟩:=h
 refine(stoRotate_any h1 h4 hk).mono ?_
 rintro x w' ⟨rfl,hp⟩
 obtain⟨t1,t2,t3⟩:=turn_ok h4.ok h4.fuse 0
 refine⟨_,_,_,rfl,Jm.out hp h3 h2 (h4.grow t2 t1 (by have:=h4.len;omega)),t2,?_⟩
 rcases t3 with⟨a1,a2,a3,a4⟩ | ⟨a1,_⟩
 ·exact .inl ⟨a1,by rw [a1];exact a2,a3,a4⟩
 ·exact .inr a1
end
section
variable {P : Nat → Prop} {w w0 w' : World} {f m b : Nat} {L : List Ad} {d d' : Ab} {s s' : Cb} {mv sv : Value} {E E' : List (List UInt8)} {k k' : Nat}
theorem Jm.narrow (h:Jm P w f m b d s E k) (hb:Below w.heap.size w w0):Jm (fun i=>P i∧(i<w.heap.size∨w0.heap.size≤i)) w0 f m b d s E k:=by
 obtain⟨L,mv,sv,h1,h2,h3,h4⟩:=h
 exact⟨L,mv,sv,h1.below hb,fun i hi=>⟨h2 i hi,.inl (h1.lt i hi)⟩,fun i hi=>⟨h3 i (μ hb.size hi),.inr hi⟩,h4⟩
theorem Ft.wide {a c:Nat} (h:Ft (fun i=>P i∧(i<a∨c≤i)) w0 w' f m b d s E k) (hb:Below w.heap.size w w0):Ft P w w' f m b d s E k:=by
 obtain⟨⟨L,mv,sv,h1,h2,h3,h4⟩,h5⟩:=h
 exact⟨⟨L,mv,sv,h1,fun i hi=>(h2 i hi).1,fun i hi=>(h3 i hi).1,h4⟩,(Turned.below hb).trans h5 fun i hi=> .inl hi.1⟩
theorem Ft.up (h:Ft P w w' f m b d s E k) (hk:k≤k'):Ft P w w' f m b d s E k':=by
 obtain⟨⟨L,mv,sv,h1,h2,h3,h4⟩,h5⟩:=h
 exact⟨⟨L,mv,sv,h1,h2,h3,h4.up hk⟩,h5⟩
theorem Jm.up (h:Jm P w f m b d s E k) (hk:k≤k'):Jm P w f m b d s E k':=by
 obtain⟨L,mv,sv,h1,h2,h3,h4⟩:=h
 exact⟨L,mv,sv,h1,h2,h3,h4.up hk⟩
theorem Jm.lim (h:Jm P w f m b d s E k):Lim d s E k:=by
 obtain⟨L,mv,sv,h1,h2,h3,h4⟩:=h
 exact h4
theorem load_new (room:Int):(loadM (Ht room)).1.1.snap≤0:=by
 unfold loadM
 rw [Kn (newD_ok room) rfl,show atF (Ht room).files Am=none from rfl]
 dsimp only
 split<;>exact Int.le_refl _
theorem atNew {room:Int} {stride segEv:Nat} (h:FsAt w f m (Ht room) []) (hP: ∀ i,w.heap.size≤i→P i) (hf:P f∧P m) (hn:NibTab w) (hg:4≤w.heap.size∧ ∀ i,i<4→ ¬ P i) (hr:51≤(Ht room).room) (hc1:1≤stride∧stride≤64) (hc2:1≤segEv∧segEv≤512):
  Calls Tryz.prog 9 #[.pointer (some ⟨f,0,none⟩),.agg #[.int .i64 (stride:Int),.int .i64 (segEv:Int)]] w fun x w'=> ∃ b d',x= .returned (.tuple #[.pointer (some ⟨b,0,none⟩),.int .i64 0])∧Ft P w w' f m b d' ⟨0,22,[],stride,segEv,firstM,false,0⟩ [] 0∧d'.files=Gp []∧d'.room=(Ht room).room:=by
 obtain⟨d1,a1,a2,a3,a4,a5,a6,a7⟩:=new_run hr
 have hl:=new_lim hc1 hc2 a2 a3 a4 a6 a7
 have hft: ∀ i,foot f m [] i→P i:=fun i hi=>by
  rcases hi with rfl | rfl | ⟨x,hx,_⟩
  ·exact hf.1
  ·exact hf.2
  ·exact absurd hx List.not_mem_nil
 refine(open_calls (s:=⟨0,22,[],stride,segEv,firstM,false,0⟩) (E:=[]) h hn ⟨hg.1,fun i hi hc=>hg.2 i hi (hft i hc)⟩ (by show (0:Int)≤_;decide) (load_new room) a1 hl.ok ⟨rfl,rfl⟩ rfl).mono ?_
 rintro x w' ⟨sb,mv,sv,L',n,rfl,b1,b2,b3,b4⟩
 refine⟨sb,_,rfl,⟨⟨L',mv,sv,b1,fun i hi=> ?_,fun i hi=>hP i (μ b2.size hi),hl.rd n⟩,b2.mono hft⟩,a6,a5⟩
 rcases b4 i hi with h | h
 ·exact hft i h
 ·exact hP i h
structure OpS where
 k:Int
 v:Int
 e:Ev
 raw:List UInt8
 n:Int
 st:Int
 se:Int
structure OpOk (o:OpS):Prop where
 ev:I3 281474976710656 o.e
 raw:o.raw.length≤140737488355328
def Du (o:OpS) (rv:Value):Array Value:= #[.int .i64 o.k,.int .i64 o.v,.int .i64 o.e.kind,.int .i64 o.e.order,.int .i64 o.e.item,.int .i64 o.e.qty,.int .i64 o.e.price,.int .i64 o.e.cur,.int .i64 o.e.tax,.string ⟨o.e.who.toArray⟩,.int .i64 o.e.stamp,.string ⟨o.e.note.toArray⟩,rv,.int .i64 o.n,.int .i64 o.st,.int .i64 o.se]
theorem wpList_load_evAt {ops:Array Oper} {rest:List Oper} {o:Oper} {a:Act} {w:World} {Q:Exit→Act→World→Prop} (hgd:o.guard=none) (x:Operand) (ho:o.op= .load 38 x)
  (b off:Nat) (e:Ev) (hx:a.eval x= .pointer (some ⟨b,off,none⟩)) (hE:w.rangeAt b off (evCs e).toList)
  (h:wpList Tryz.prog ops Q rest (a.put o.dst (Dx e)) w):wpList Tryz.prog ops Q (o::rest) a w:=
 wpList_load_mid hgd 38 x ho b off hx (evCs e).toList _ hE Tryz.underlying38 rfl evInfo h
theorem op_ev {w:World} {g:Nat} {o:OpS} {rv:Value} (h:w.heap[g]? =some (.cells (Du o rv) 41 (0,0))):w.rangeAt g 2 (evCs o.e).toList:=fun j u hj=>by
 rw [cell_of_row _ _ _ _ _ _ h]
 match j,hj with
 | 0,hj=>exact hj
 | 1,hj=>exact hj
 | 2,hj=>exact hj
 | 3,hj=>exact hj
 | 4,hj=>exact hj
 | 5,hj=>exact hj
 | 6,hj=>exact hj
 | 7,hj=>exact hj
 | 8,hj=>exact hj
 | 9,hj=>exact hj
structure Wide (d:Ab) (s:Cb) (d':Ab) (s':Cb):Prop where
 room:d'.room=d.room
 used:usedF d'.files≤usedF d.files+17660
 len:d'.files.length≤d.files.length+2
 segs:s'.man.segs.length≤s.man.segs.length+1
 cfg:s'.stride=s.stride∧s'.segEv=s.segEv
theorem Wide.refl (d:Ab) (s:Cb):Wide d s d s:=⟨rfl,by omega,by omega,by omega,rfl,rfl⟩
theorem Wide.grow {u:Nat} (h:Grow d s d' s' u 1) (hu:u≤17660):Wide d s d' s':=⟨h.room,by have:=h.used;omega,by have:=h.len;omega,h.segs,h.cfg⟩
theorem Like.wide (h:Like d d') (n:Nat):Wide d s d' {s with decoded:=n}:=⟨h.room,by have:=h.used;omega,by have:=h.len;omega,by show s.man.segs.length≤_;omega,rfl,rfl⟩
def StepP (P:Nat→Prop) (w:World) (f m:Nat) (d:Ab) (s:Cb) (E:List (List UInt8)) (k:Nat) (o:OpS) (e:Ending) (w':World):Prop:=
 ∃ b' d' s' E',e= .returned (.pointer (some ⟨b',0,none⟩))∧Ft P w w' f m b' d' s' E' (k+2)∧Wide d s d' s'∧(o.k≠0∧o.k≠1→E'=E)
theorem stStep_any (o:OpS) (rv:Value) (ho:OpOk o) (hr:A2 w rv o.raw) (h:Jm P w f m b d s E k) (hk:k+2<1000) (hG: ∀ i,i<4→ ¬ P i) (hn:NibTab w) (ht:Bo w):
  Calls Tryz.prog 14 #[.pointer (some ⟨f,0,none⟩),.pointer (some ⟨b,0,none⟩),.agg (Du o rv),.agg #[.int .i64 (s.stride:Int),.int .i64 (s.segEv:Int)]] w (StepP P w f m d s E k o):=by
 have hb1:=below_alloc w (.cells (Du o rv) 41)
 have hb2:=below_alloc (w.alloc (.cells (Du o rv) 41)) (.cells (Kh s.stride s.segEv) 24)
 have hsz:(w.alloc (.cells (Du o rv) 41)).heap.size=w.heap.size+1:=Ω _ _
 have HC:=Qh (show ((w.alloc (.cells (Du o rv) 41)).alloc (.cells (Kh s.stride s.segEv) 24)).heap[w.heap.size+1]? =some (.cells (Kh s.stride s.segEv) 24 (0,0)) from by rw [←hsz];exact σ _ _)
 have HO:=Qh (show ((w.alloc (.cells (Du o rv) 41)).alloc (.cells (Kh s.stride s.segEv) 24)).heap[w.heap.size]? =some (.cells (Du o rv) 41 (0,0)) from(hb2.block _ (by omega)).trans (σ w _))
 have HB:=Qh (Below.next hb1 hb2)
 have HZ:=Qh (show ((w.alloc (.cells (Du o rv) 41)).alloc (.cells (Kh s.stride s.segEv) 24)).heap.size=w.heap.size+2 from by rw [Ω,hsz])
 have HR:=Qh hr
 have HOK:=Qh ho
 have HN:=Qh hn
 have HT:=Qh ht
 have HG:=Qh hG
 have HA:=Qh (h.narrow HB.out)
 have HA0:=Qh h
 clear hb1 hb2 hsz ho hr h hn ht hG
 simp only [Du,Kh] at HC HO HB HZ HA
 have c0:((w.alloc (.cells #[.int .i64 o.k,.int .i64 o.v,.int .i64 o.e.kind,.int .i64 o.e.order,.int .i64 o.e.item,.int .i64 o.e.qty,.int .i64 o.e.price,.int .i64 o.e.cur,.int .i64 o.e.tax,.string ⟨o.e.who.toArray⟩,.int .i64 o.e.stamp,.string ⟨o.e.note.toArray⟩,rv,.int .i64 o.n,.int .i64 o.st,.int .i64 o.se] 41)).alloc (.cells #[.int .i64 (s.stride:Int),.int .i64 (s.segEv:Int)] 24)).cell? ⟨w.heap.size,0,none⟩=some (.int .i64 o.k):=cell_of_row _ _ 0 _ _ _ HO.out
 have c1:((w.alloc (.cells #[.int .i64 o.k,.int .i64 o.v,.int .i64 o.e.kind,.int .i64 o.e.order,.int .i64 o.e.item,.int .i64 o.e.qty,.int .i64 o.e.price,.int .i64 o.e.cur,.int .i64 o.e.tax,.string ⟨o.e.who.toArray⟩,.int .i64 o.e.stamp,.string ⟨o.e.note.toArray⟩,rv,.int .i64 o.n,.int .i64 o.st,.int .i64 o.se] 41)).alloc (.cells #[.int .i64 (s.stride:Int),.int .i64 (s.segEv:Int)] 24)).cell? ⟨w.heap.size,1,none⟩=some (.int .i64 o.v):=cell_of_row _ _ 1 _ _ _ HO.out
 have c12:((w.alloc (.cells #[.int .i64 o.k,.int .i64 o.v,.int .i64 o.e.kind,.int .i64 o.e.order,.int .i64 o.e.item,.int .i64 o.e.qty,.int .i64 o.e.price,.int .i64 o.e.cur,.int .i64 o.e.tax,.string ⟨o.e.who.toArray⟩,.int .i64 o.e.stamp,.string ⟨o.e.note.toArray⟩,rv,.int .i64 o.n,.int .i64 o.st,.int .i64 o.se] 41)).alloc (.cells #[.int .i64 (s.stride:Int),.int .i64 (s.segEv:Int)] 24)).cell? ⟨w.heap.size,12,none⟩=some rv:=cell_of_row _ _ 12 _ _ _ HO.out
 have c13:((w.alloc (.cells #[.int .i64 o.k,.int .i64 o.v,.int .i64 o.e.kind,.int .i64 o.e.order,.int .i64 o.e.item,.int .i64 o.e.qty,.int .i64 o.e.price,.int .i64 o.e.cur,.int .i64 o.e.tax,.string ⟨o.e.who.toArray⟩,.int .i64 o.e.stamp,.string ⟨o.e.note.toArray⟩,rv,.int .i64 o.n,.int .i64 o.st,.int .i64 o.se] 41)).alloc (.cells #[.int .i64 (s.stride:Int),.int .i64 (s.segEv:Int)] 24)).cell? ⟨w.heap.size,13,none⟩=some (.int .i64 o.n):=cell_of_row _ _ 13 _ _ _ HO.out
 have HE:=Qh (op_ev HO.out)
 have hkk:k<1000:=by omega
 unfold Du
 rcases q0:(o.k==0) with _ | _
 rotate_left
 ·have HCA:=Qh (atAppend (v:=o.v) (e:=o.e) HA.out hkk HOK.out.ev)
  go_enter Tryz.func14,Tryz.ntmps14
  go_wp2_with (with_reducible refine wpList_load_evAt rfl (.tmp 16) rfl w.heap.size 2 o.e rfl HE.out ?_)
  generalize ((w.alloc (.cells #[.int .i64 o.k,.int .i64 o.v,.int .i64 o.e.kind,.int .i64 o.e.order,.int .i64 o.e.item,.int .i64 o.e.qty,.int .i64 o.e.price,.int .i64 o.e.cur,.int .i64 o.e.tax,.string ⟨o.e.who.toArray⟩,.int .i64 o.e.stamp,.string ⟨o.e.note.toArray⟩,rv,.int .i64 o.n,.int .i64 o.st,.int .i64 o.se] 41)).alloc (.cells #[.int .i64 (s.stride:Int),.int .i64 (s.segEv:Int)] 24))=w0 at*
  refine HCA.out.mono ?_
  rintro x w1 ⟨r,d1,s1,E1,rfl,ho1,hc1⟩
  have HO1:=Qh (show Ft P w w1 f m b d1 s1 E1 (k+2) from(ho1.wide HB.out).up (by omega))
  have HCF:=Qh (show Wide d s d1 s1∧(o.k≠0∧o.k≠1→E1=E) from⟨by
   rcases hc1 with⟨_,_,_,rfl,rfl⟩ | ⟨_,ha⟩
   ·exact Wide.refl _ _
   ·exact Wide.grow ha.1 (ξ _),fun h=>absurd (by simpa using q0) h.1⟩)
  clear ho1 hc1
  go_wp2
  go_ret
  exact⟨b,d1,s1,E1,rfl,HO1.out,HCF.out⟩
 rcases q1:(o.k==1) with _ | _
 rotate_left
 ·go_enter Tryz.func14,Tryz.ntmps14
  go_wp2_with fail
  generalize ((w.alloc (.cells #[.int .i64 o.k,.int .i64 o.v,.int .i64 o.e.kind,.int .i64 o.e.order,.int .i64 o.e.item,.int .i64 o.e.qty,.int .i64 o.e.price,.int .i64 o.e.cur,.int .i64 o.e.tax,.string ⟨o.e.who.toArray⟩,.int .i64 o.e.stamp,.string ⟨o.e.note.toArray⟩,rv,.int .i64 o.n,.int .i64 o.st,.int .i64 o.se] 41)).alloc (.cells #[.int .i64 (s.stride:Int),.int .i64 (s.segEv:Int)] 24))=w0 at*
  refine(copyBytes_any o.raw rv w0 (HR.out.below HB.out) HOK.out.raw).mono ?_
  rintro x w1 ⟨v1,rfl,hv1,hb1⟩
  obtain⟨o1,cp1,rfl,_,_⟩:=Ac hv1
  have HB1:=Qh (Below.next HB.out hb1)
  have HA1:=Qh (HA0.out.narrow HB1.out)
  have HCA:=Qh (atPut (raw:=o.raw) HA1.out hkk ((browIn_own (A:=fun i=>w0.heap.size≤i) hv1 fun i hi=>hi).low.mono fun i hi hc=>by have:=hc.2;have:=hi.1;have:=hi.2;have:=HB.out.size;omega) (by have:=HOK.out.raw;omega))
  clear hv1 hb1
  go_wp2_with fail
  refine HCA.out.mono ?_
  rintro x w2 ⟨r,d1,s1,E1,rfl,ho1,hc1⟩
  have HO1:=Qh (show Ft P w w2 f m b d1 s1 E1 (k+2) from(ho1.wide HB1.out).up (by omega))
  have HCF:=Qh (show Wide d s d1 s1∧(o.k≠0∧o.k≠1→E1=E) from⟨by
   rcases hc1 with⟨_,_,_,rfl,rfl⟩ | ⟨_,ha⟩
   ·exact Wide.refl _ _
   ·exact Wide.grow ha.1 (ξ _),fun h=>absurd (by simpa using q1) h.2⟩)
  clear ho1 hc1
  go_wp2
  go_ret
  exact⟨b,d1,s1,E1,rfl,HO1.out,HCF.out⟩
 rcases q2:(o.k==2) with _ | _
 rotate_left
 ·go_enter Tryz.func14,Tryz.ntmps14
  go_wp2_with fail
  generalize ((w.alloc (.cells #[.int .i64 o.k,.int .i64 o.v,.int .i64 o.e.kind,.int .i64 o.e.order,.int .i64 o.e.item,.int .i64 o.e.qty,.int .i64 o.e.price,.int .i64 o.e.cur,.int .i64 o.e.tax,.string ⟨o.e.who.toArray⟩,.int .i64 o.e.stamp,.string ⟨o.e.note.toArray⟩,rv,.int .i64 o.n,.int .i64 o.st,.int .i64 o.se] 41)).alloc (.cells #[.int .i64 (s.stride:Int),.int .i64 (s.segEv:Int)] 24))=w0 at*
  refine(atSync HA.out hkk).mono ?_
  rintro x w1 ⟨d1,rfl,ho1,hlk⟩
  have HLK:=Qh hlk
  have HO1:=Qh (show Ft P w w1 f m b d1 s E (k+2) from(ho1.wide HB.out).up (by omega))
  clear ho1
  go_wp2
  go_ret
  exact⟨b,d1,s,E,rfl,HO1.out,HLK.out.wide s.decoded,fun _=>rfl⟩
 rcases q3:(o.k==3) with _ | _
 rotate_left
 ·go_enter Tryz.func14,Tryz.ntmps14
  go_wp2_with fail
  generalize ((w.alloc (.cells #[.int .i64 o.k,.int .i64 o.v,.int .i64 o.e.kind,.int .i64 o.e.order,.int .i64 o.e.item,.int .i64 o.e.qty,.int .i64 o.e.price,.int .i64 o.e.cur,.int .i64 o.e.tax,.string ⟨o.e.who.toArray⟩,.int .i64 o.e.stamp,.string ⟨o.e.note.toArray⟩,rv,.int .i64 o.n,.int .i64 o.st,.int .i64 o.se] 41)).alloc (.cells #[.int .i64 (s.stride:Int),.int .i64 (s.segEv:Int)] 24))=w0 at*
  refine(atRotate HA.out hkk).mono ?_
  rintro x w1 ⟨r,d1,s1,rfl,ho1,hg1,_⟩
  have HO1:=Qh (show Ft P w w1 f m b d1 s1 E (k+2) from(ho1.wide HB.out).up (by omega))
  have HCF:=Qh (Wide.grow hg1 (by decide))
  clear ho1 hg1
  go_wp2
  go_ret
  exact⟨b,d1,s1,E,rfl,HO1.out,HCF.out,fun _=>rfl⟩
 rcases q7:(o.k==7) with _ | _
 rotate_left
 ·go_enter Tryz.func14,Tryz.ntmps14
  go_wp2_with fail
  generalize ((w.alloc (.cells #[.int .i64 o.k,.int .i64 o.v,.int .i64 o.e.kind,.int .i64 o.e.order,.int .i64 o.e.item,.int .i64 o.e.qty,.int .i64 o.e.price,.int .i64 o.e.cur,.int .i64 o.e.tax,.string ⟨o.e.who.toArray⟩,.int .i64 o.e.stamp,.string ⟨o.e.note.toArray⟩,rv,.int .i64 o.n,.int .i64 o.st,.int .i64 o.se] 41)).alloc (.cells #[.int .i64 (s.stride:Int),.int .i64 (s.segEv:Int)] 24))=w0 at*
  refine(atRead (from_:=o.n) HA.out hkk (HT.out.below HB.out)).mono ?_
  rintro x w1 ⟨v,r,d1,n,rfl,ho1,hfi,hro,_⟩
  have HLK:=Qh (show Like d d1 from⟨hro,by rw [hfi],by rw [hfi],fun k=>by rw [hfi]⟩)
  have HO1:=Qh (show Ft P w w1 f m b d1 {s with decoded:=n} E (k+2) from(ho1.wide HB.out).up (by omega))
  clear ho1
  go_wp2
  go_ret
  exact⟨b,d1,_,E,rfl,HO1.out,HLK.out.wide n,fun _=>rfl⟩
 rcases q8:(o.k==8) with _ | _
 rotate_left
 ·go_enter Tryz.func14,Tryz.ntmps14
  go_wp2_with fail
  generalize ((w.alloc (.cells #[.int .i64 o.k,.int .i64 o.v,.int .i64 o.e.kind,.int .i64 o.e.order,.int .i64 o.e.item,.int .i64 o.e.qty,.int .i64 o.e.price,.int .i64 o.e.cur,.int .i64 o.e.tax,.string ⟨o.e.who.toArray⟩,.int .i64 o.e.stamp,.string ⟨o.e.note.toArray⟩,rv,.int .i64 o.n,.int .i64 o.st,.int .i64 o.se] 41)).alloc (.cells #[.int .i64 (s.stride:Int),.int .i64 (s.segEv:Int)] 24))=w0 at*
  refine(atClose HA.out hkk fun i hi hc=>HG.out i hi hc.1).mono ?_
  rintro x w1 ⟨d1,rfl,hs1,ht1,hlk⟩
  have HC1:=Qh (show w1.heap[w.heap.size+1]? =some (.cells (Kh s.stride s.segEv) 24 (0,0)) from(ht1.block _ (by have:=HZ.out;omega) fun hc=>by have:=hc.2;have:=HZ.out;omega).trans HC.out)
  have HT1:=Qh ht1
  have HOP:=Qh (atOpen hs1 (by omega))
  clear hs1 ht1
  go_wp2_with (with_reducible refine wpList_load_cf rfl (.tmp 7) rfl (w.heap.size+1) s.stride s.segEv rfl HC1.out ?_)
  refine HOP.out.mono ?_
  rintro x w2 ⟨b2,d2,rfl,ho2,hl2⟩
  have HLK:=Qh (show Like d d2 from⟨hl2.room.trans hlk.room,hl2.used.trans hlk.used,hl2.len.trans hlk.len,fun k=>(hl2.dat k).trans (hlk.dat k)⟩)
  have HO1:=Qh (show Ft P w w2 f m b2 d2 {s with decoded:=0} E (k+2) from Ft.wide ⟨ho2.1,HT1.out.trans ho2.2 fun _ h=> .inl h⟩ HB.out)
  clear ho2
  go_wp2
  go_ret
  exact⟨b2,d2,_,E,rfl,HO1.out,HLK.out.wide 0,fun _=>rfl⟩
 go_enter Tryz.func14,Tryz.ntmps14
 have HO1:=Qh (show Ft P w ((w.alloc (.cells #[.int .i64 o.k,.int .i64 o.v,.int .i64 o.e.kind,.int .i64 o.e.order,.int .i64 o.e.item,.int .i64 o.e.qty,.int .i64 o.e.price,.int .i64 o.e.cur,.int .i64 o.e.tax,.string ⟨o.e.who.toArray⟩,.int .i64 o.e.stamp,.string ⟨o.e.note.toArray⟩,rv,.int .i64 o.n,.int .i64 o.st,.int .i64 o.se] 41)).alloc (.cells #[.int .i64 (s.stride:Int),.int .i64 (s.segEv:Int)] 24)) f m b d s E (k+2) from Ft.up (Ft.wide ⟨HA.out,Turned.refl _ _⟩ HB.out) (by omega))
 go_wp2
 go_ret
 exact⟨b,d,s,E,rfl,HO1.out,Wide.refl _ _,fun _=>rfl⟩
end
def evHd (j:Nat):Ev:=⟨1,7+(j:Int),0,0,0,0,0,[],0,[]⟩
def rH (j:Nat):List UInt8:=J7 5 (evHd j)
def EH (j:Nat):List (List UInt8):=(List.range j).map rH
theorem evHd_ok (j:Nat) (h:j<3):Af 5 (evHd j)=0:=by
 rcases (show j=0∨j=1∨j=2 by omega) with rfl | rfl | rfl<;>decide
theorem rH_len (j:Nat) (h:j<3):(rH j).length=5:=by
 have e:rH j=encV 5++(encV 2++encV 1++(encV 4++encV (7+(j:Int)).toNat++[])):=by
  rcases (show j=0∨j=1∨j=2 by omega) with rfl | rfl | rfl<;>rfl
 rw [e]
 simp only [η,Φ]
 rw [B5 (by decide),B5 (by decide),B5 (by decide),B5 (by decide),B5 (by omega)]
structure HdI (j:Nat) (d:Ab) (s:Cb):Prop where
 room:d.room=1000
 cfg:s.stride=2∧s.segEv=2
 low:j<3→usedF d.files=51+25*j∧d.files.length=2∧s.man=firstM∧s.count=j∧s.size=22+25*j∧s.marks=if j=0 then [] else [⟨1,22⟩]
 top:j=3→s.man.segs=[⟨1,1,2,72⟩,⟨2,3,0,0⟩]∧s.count=1
def M2:B3:=⟨2,3,0,0,0,[⟨1,1,2,72⟩,⟨2,3,0,0⟩]⟩
theorem m2_len:(Bs M2).1.length=33:=by
 rw [encMan_ok (by decide)]
 simp only [An]
 show (encV 12++(encV 3++(encV 0++(encV 0++(encV 0++(encV 1++(encV 1++(encV 2++(encV 72++(encV 2++(encV 3++(encV 0++(encV 0++[]))))))))))))).length+20=33
 simp only [η,B5 (show 12<128 by decide),B5 (show 72<128 by decide),B5 (show 3<128 by decide),B5 (show 2<128 by decide),B5 (show 1<128 by decide),B5 (show 0<128 by decide),Φ]
theorem hd_push {j:Nat} {d:Ab} {s:Cb} {E:List (List UInt8)} (hj:j<3) (h:HdI j d s) (hl:Lim d s E j) (hE:E.length=j):(Cy d s (rH j)).1=((j:Int)+1,0)∧HdI (j+1) (Cy d s (rH j)).2.2 (Cy d s (rH j)).2.1:=by
 obtain⟨u1,u2,u3,u4,u5,u6⟩:=h.low hj
 have hlen:=rH_len j hj
 have hbl:(Hg s (rH j)).length=25:=by rw [show (Hg s (rH j)).length=(rH j).length+20 from An _ _ _,hlen]
 have hla:lastE s=(j:Int):=by rw [hl.ok.last,hE]
 have hbo:BodyOk (rH j):=pack_body (evHd_ok j hj)
 have hroom:=h.room
 unfold Cy
 rw [γ (by omega)]
 by_cases h2:j<2
 ·rw [γ (by rw [h.cfg.2,u4];omega),γ (by rw [hbl,hroom,u1];omega)]
  obtain⟨G,g,bs,hs,hE2⟩:=hl.ok.sta
  obtain⟨x,hx,hxd⟩:=Dg hs.act
  obtain⟨a1,a2,a3,a4,a5,a6⟩:=app_ok (b:=Hg s (rH j)) hl.ok.ok hl.ok.up hl.fuse hx (by rw [hbl,u1,hroom];omega)
  obtain⟨b1,b2,b3,b4⟩:=at_app hl.ok.ok.rise hx (b:=Hg s (rH j))
  have e:appS d s (Hg s (rH j))=((lastE s+1,0),addS s (Hg s (rH j)),(Aq d (opAppend (Aa g.num) (Hg s (rH j)))).1):=by unfold appS;rw [hs.name,ζ a1]
  rw [e,hla]
  refine⟨rfl,a3.trans hroom,h.cfg,fun h3=>⟨?_,?_,u3,?_,?_,?_⟩,fun h3=>by omega⟩
  ·simp only
   rw [a2,b3,u1,hbl];omega
  ·simp only
   rw [a2,b4,u2]
  ·show s.count+1=j+1;omega
  ·show s.size+(Hg s (rH j)).length=_;rw [hbl,u5];omega
  ·rw [γ (by omega)]
   show (if s.count % s.stride=0 then s.marks++[⟨lastE s+1,s.size⟩] else s.marks)=_
   rw [u4,h.cfg.1,u6,hla,u5]
   rcases (show j=0∨j=1 by omega) with rfl | rfl
   ·rfl
   ·rfl
 ·obtain rfl:j=2:=by omega
  rw [ζ (by rw [h.cfg.2,u4];exact ξ _),hbl]
  have hM:turnM s=M2:=by
   unfold turnM
   rw [hla,u4,u5,u3]
   rfl
  have hft:(Ei s).length=26:=by
   unfold Ei
   rw [An,u3,u4,h.cfg.1,u6,γ (by decide)]
   show (encV 1++encV 2++encV 2++(encV 2++(encV 1++(encV 22++[])))).length+20=26
   simp only [η,B5 (show 22<128 by decide),B5 (show 2<128 by decide),B5 (show 1<128 by decide),Φ]
  have hhd:(Hi s).length≤40:=head_len hl.ok (by rw [u3];decide) (by omega)
  have h0:Cv d s 25=0:=by
   unfold Cv
   rw [γ (by omega),γ (by rw [u3];decide),γ (by rw [u3];decide),γ (by rw [hM,m2_len,hft,hroom,u1,u2];omega)]
  obtain⟨t1,t2,t3⟩:=turn_ok hl.ok hl.fuse 25
  rcases t3 with⟨_,a2,_⟩ | ⟨a1,a2,a3,a4⟩
  ·exact absurd h0 a2
  ·rw [ζ a1]
   have hlE:lastE (Bn d s 25).2.1=lastE s:=by rw [t1.last,hl.ok.last]
   have hev:Hg (Bn d s 25).2.1 (rH 2)=Hg s (rH 2):=by show frameOf 1 (lastE (Bn d s 25).2.1+1).toNat (rH 2)=frameOf 1 (lastE s+1).toNat (rH 2);rw [hlE]
   have hse:=(show 1≤s.segEv∧s.segEv≤512 by rw [h.cfg.2];decide)
   have hap:=append_ok (raw:=rH 2) t1 t2.fuse hbo (by omega) (by omega) (by rw [hev,t2.room,hbl];exact a4)
   rw [hev,hlE,hla] at hap
   obtain⟨b1,b2,b3⟩:=hap
   have htd:(Bn d s 25).2.1=turned s:=by
    unfold Bn at a1 ⊢
    rw [ζ h0] at a1 ⊢
    split
    ·rfl
    ·rename_i hc
     rw [γ hc] at a1
     exact absurd a1 hc
   refine⟨b1,(b3.room.trans t2.room).trans hroom,⟨b3.cfg.1.trans (t2.cfg.1.trans h.cfg.1),b3.cfg.2.trans (t2.cfg.2.trans h.cfg.2)⟩,fun h3=>by omega,fun _=> ?_⟩
   have hman:(appS (Bn d s 25).2.2 (Bn d s 25).2.1 (Hg s (rH 2))).2.1=addS (turned s) (Hg s (rH 2)):=by
    unfold appS at b1 ⊢
    split
    ·rw [htd]
    ·rename_i hc
     rw [γ hc] at b1
     simp only [Prod.mk.injEq] at b1
     exact absurd b1.2 hc
   rw [hman]
   refine⟨?_,rfl⟩
   show (turnM s).segs=_
   rw [hM]
   rfl
theorem two_of {α:Type}: ∀ {l:List α},l.length=2→ ∃ a b,l=[a,b]
 | [],h=>by simp at h
 | [_],h=>by simp at h
 | [a,b],_=>⟨a,b,rfl⟩
 | _::_::_::_,h=>by simp at h
section
variable {P : Nat → Prop} {w w0 w' : World} {f m b : Nat} {L : List Ad} {d d' : Ab} {s s' : Cb} {mv sv : Value} {E E' : List (List UInt8)} {k k' : Nat}
theorem headGone (h:Dt d s E) (hm:s.man.segs=[⟨1,1,2,72⟩,⟨2,3,0,0⟩]) (hst:s.stride=2) (hc:s.count=1) (hE:E.length=3) {pcs:List (List Plc)} (p1:pcs.length=s.man.segs.length) (p2: ∀ (i:Nat) g ps,s.man.segs[i]? =some g→pcs[i]? =some ps→SegIn d s 2 g ps)
  (p5:goneOk s.stride 2 1 E.length pcs.flatten.length):pcs.flatten.length=3:=by
 obtain⟨G,g,bs,hs,_⟩:=h.sta
 rw [hm] at p1 p2
 obtain⟨q0,q1,rfl⟩:=two_of p1
 have hsg:=hs.segs
 rw [hm] at hsg
 obtain⟨b0,rfl,rfl⟩: ∃ b0,G=[(⟨1,1,2,72⟩,b0)]∧g=⟨2,3,0,0⟩:=by
  match G,hsg with
  | [],h=>simp at h
  | [y],h=>
   simp only [List.map_cons,List.map_nil,List.cons_append,List.nil_append,List.cons.injEq,and_true] at h
   exact⟨y.2,by rw [h.1],h.2.symm⟩
  | y::z::r,h=>
   have:=congrArg List.length h
   simp at this
 have hse:=hs.seals _ (List.mem_singleton.2 rfl)
 have hcl:=(hs.sealed (List.mem_singleton.2 rfl)).2
 have hlen:b0.length=2:=by have:=hse.count;simp only at this;omega
 obtain⟨c1,c2,rfl⟩:=two_of hlen
 have h0:=p2 0 _ q0 rfl rfl
 have h1:=p2 1 _ q1 rfl rfl
 have hsk: ∀ p:Int,seekM [⟨1,p⟩] (max 2 1)=some ⟨1,p⟩:=fun p=>rfl
 have e0:q0.length=2:=by
  rcases h0 with⟨_,h,_⟩ | ⟨_,x,ms,en,cnt,hp,h⟩
  ·simp at h
  ·rcases hp.src with⟨_,a2,a3,st,a4⟩ | ⟨a1,_⟩
   ·obtain⟨y,hy,hyd⟩:=Dg hse.dat
    have hxy:=hp.fil
    rw [hy] at hxy
    obtain rfl:=ψ hxy
    have hen:en=(segB ⟨1,1,2,72⟩ [c1,c2]).length:=by have:=hse.foot;simp only at this a2;omega
    rw [hyd,hen,List.drop_left,hcl] at a4
    simp only [Option.some.injEq,Prod.mk.injEq] at a4
    have hms:ms=[⟨1,((hdB ⟨1,1,2,72⟩).length:Int)⟩]:=by rw [←a4.1,hst];rfl
    have hcnt:cnt=2:=by simp only at a3;omega
    rcases h with⟨h,_⟩ | ⟨ks,kp,lf,h3,_,h5,_,_,_,h9⟩
    ·rw [hms] at h
     exact absurd (h.symm.trans (hsk _)) (by simp)
    ·rw [hms] at h3
     have hks:ks=1:=by
      have:=congrArg Mk.s (ψ ((hsk _).symm.trans h3))
      simp only at this
      omega
     simp only at h5
     omega
   ·simp at a1
 have e1:0<q1.length:=by
  rcases h1 with⟨h,_⟩ | ⟨_,x,ms,en,cnt,hp,h⟩
  ·simp at h
  ·rcases hp.src with⟨a1,_⟩ | ⟨_,_,_,a4⟩
   ·simp at a1
   ·rcases h with⟨_,h,_⟩ | ⟨ks,kp,lf,_,_,_,h6,_,_,h9⟩
    ·omega
    ·omega
 have h3:=p5.2.2 (by decide) (by omega)
 rw [hE,hst] at h3
 simp only [List.flatten_cons,List.flatten_nil,List.append_nil,η] at h3 ⊢
 omega
theorem headRead (h:Jm P w f m b d s E k) (hk:k<1000) (ht:Bo w) (hm:s.man.segs=[⟨1,1,2,72⟩,⟨2,3,0,0⟩]) (hst:s.stride=2) (hc:s.count=1) (hE:E.length=3):
  Calls Tryz.prog 15 #[.pointer (some ⟨b,0,none⟩),.int .i64 2] w fun x w'=> ∃ v d',x= .returned (.tuple #[v,.int .i64 0])∧Ft P w w' f m b d' {s with decoded:=3} E k∧Jy w' w.heap.size v (Hh 2 (numb 1 E)):=by
 obtain⟨L,mv,sv,h1,h2,h3,h4⟩:=h
 have hsb:=h4.sb (by omega)
 have hla:=h4.ok.last
 obtain⟨G,g,bs,hs,_⟩:=h4.ok.sta
 obtain⟨pcs,p1,p2,p3,p4,p5⟩:=read_plain (from_:=2) h4.ok (by omega)
 have hg:=headGone h4.ok hm hst hc hE p1 p2 p5
 refine(stoRead_any 2 pcs h1 ht hsb h4.ok.closed h4.ok.up h4.ok.floor (by omega) (B7 hs.ok).len p1 p2 hs.segBd p3).mono ?_
 rintro x w' ⟨v,n,rfl,a1,a2,a3⟩
 rw [p4] at a1
 rw [hg] at a2
 exact⟨_,_,rfl,⟨⟨L,mv,sv,a2,h2,fun i hi=>h3 i (μ a3.size hi),(h4.dec _).rd n⟩,a3.mono h2⟩,a1⟩
theorem stRight_any (a c:Int) (w:World):Calls Tryz.prog 8 #[.agg #[.int .i64 a,.int .i64 c]] w fun x w'=>x= .returned (.bool (decide (1≤a)&&decide (a≤64)&&decide (1≤c)&&decide (c≤512)))∧Below w.heap.size w w':=by
 have HB:=Qh (below_alloc w (.cells #[.int .i64 a,.int .i64 c] 24))
 rcases q1:decide (1≤a) with _ | _
 all_goals rcases q2:decide (a≤64) with _ | _
 all_goals rcases q3:decide (1≤c) with _ | _
 all_goals rcases q4:decide (c≤512) with _ | _
 all_goals
  go_enter Tryz.func8,Tryz.ntmps8
  go_wp2
  go_ret
  exact⟨rfl,HB.out⟩
theorem stFree_any (stride segEv:Nat) (w:World) (hn:NibTab w) (hg:4≤w.heap.size) (hc1:1≤stride∧stride≤64) (hc2:1≤segEv∧segEv≤512):
  Calls Tryz.prog 11 #[.agg #[.int .i64 (stride:Int),.int .i64 (segEv:Int)]] w fun x w'=> ∃ f m b d,x= .returned (.tuple #[.pointer (some ⟨f,0,none⟩),.pointer (some ⟨b,0,none⟩)])∧Ft (fun i=>w.heap.size≤i) w w' f m b d ⟨0,22,[],stride,segEv,firstM,false,0⟩ [] 0∧d.files=Gp []∧d.room=16777216:=by
 have HB:=Qh (below_alloc w (.cells (Kh stride segEv) 24))
 have HC:=Qh (show (w.alloc (.cells (Kh stride segEv) 24)).heap[w.heap.size]? =some (.cells (Kh stride segEv) 24 (0,0)) from σ w _)
 have HNW:=Qh (fsNew_any 16777216 (w.alloc (.cells (Kh stride segEv) 24)))
 have HN:=Qh hn
 have HG:=Qh hg
 have HC1:=Qh hc1
 have HC2:=Qh hc2
 clear hn hg hc1 hc2
 simp only [Kh] at HB HNW
 go_enter Tryz.func11,Tryz.ntmps11
 go_wp2_with fail
 refine HNW.out.mono ?_
 rintro x w1 ⟨f,m,rfl,hf,h1,h2,hb1⟩
 have HB1:=Qh (Below.next HB.out hb1)
 have HCC:=Qh (show w1.heap[w.heap.size]? =some (.cells (Kh stride segEv) 24 (0,0)) from(hb1.block _ (δ.1 HC.out).1).trans HC.out)
 have HOP:=Qh (atNew (P:=fun i=>w.heap.size≤i) (stride:=stride) (segEv:=segEv) hf (fun i hi=>μ HB1.out.size hi) ⟨μ HB.out.size h1,μ HB.out.size h2⟩ (HN.out.below HB1.out) ⟨μ HG.out HB1.out.size,fun i hi hc=>by have:=HG.out;omega⟩ (by decide) HC1.out HC2.out)
 clear hf h1 h2 hb1 HNW HB HC
 go_wp2_with (with_reducible refine wpList_load_cf rfl (.tmp 1) rfl w.heap.size stride segEv rfl HCC.out ?_)
 refine HOP.out.mono ?_
 rintro x w2 ⟨b,d,rfl,ho,hfi,hro⟩
 have HO:=Qh (show Ft (fun i=>w.heap.size≤i) w w2 f m b d ⟨0,22,[],stride,segEv,firstM,false,0⟩ [] 0 from⟨ho.1,(Turned.below HB1.out).trans ho.2 fun i hi=> .inl hi⟩)
 have HD:=Qh (And.intro hfi hro)
 clear ho hfi hro
 go_wp2
 go_ret2
 exact⟨f,m,b,d,rfl,HO.out,HD.out.1,HD.out.2⟩
end
section
variable {P : Nat → Prop} {w w0 w' : World} {f m b : Nat} {L : List Ad} {d d' : Ab} {s s' : Cb} {mv sv : Value} {E E' : List (List UInt8)} {k k' : Nat}
theorem G8 {n:Nat} (h:Turned (fun i=>n≤i) w w') (hn:n≤w.heap.size):Below n w w':=⟨h.os,h.tape,h.output,h.size,fun k hk=>h.block k (by omega) (by omega)⟩
theorem Ko:usedF (Gp [])=51∧(Gp []).length=2:=by
 unfold Gp
 rw [Dh,Dh,E9,E9]
 exact⟨by rw [show Fr.length=29 from G1.2,show Ep.length=22 from G1.1];rfl,rfl⟩
theorem hdI_zero (h1:d.files=Gp []) (h2:d.room=1000):HdI 0 d ⟨0,22,[],2,2,firstM,false,0⟩:=
 ⟨h2,⟨rfl,rfl⟩,fun _=>⟨by rw [h1,Ko.1],by rw [h1,Ko.2],rfl,rfl,rfl,rfl⟩,fun h=>by cases h⟩
theorem evHd_fit (j:Nat) (h:j<3):I3 281474976710656 (evHd j):=by
 have z: ∀ n:Int,0≤n→n≤100→I64 n:=fun n h1 h2=>⟨by omega,by omega⟩
 rcases (show j=0∨j=1∨j=2 by omega) with rfl | rfl | rfl<;>exact⟨z _ (by decide) (by decide),z _ (by decide) (by decide),z _ (by decide) (by decide),z _ (by decide) (by decide),z _ (by decide) (by decide),z _ (by decide) (by decide),z _ (by decide) (by decide),z _ (by decide) (by decide),by decide,by decide⟩
theorem hdAppend {j:Nat} (hj:j<3) (hI:HdI j d s) (h:Jm P w f m b d s (EH j) j):
  Calls Tryz.prog 12 #[.pointer (some ⟨b,0,none⟩),.int .i64 5,Dx (evHd j)] w fun x w'=> ∃ d' s',x= .returned (.tuple #[.int .i64 ((j:Int)+1),.int .i64 0])∧Ft P w w' f m b d' s' (EH (j+1)) (j+1)∧HdI (j+1) d' s':=by
 obtain⟨L,mv,sv,h1,h2,h3,h4⟩:=h
 obtain⟨p1,p2⟩:=hd_push hj hI h4 (by simp [EH])
 obtain⟨E',a1,a2⟩:=push_res h4 (pack_body (evHd_ok j hj))
 have hE:E'=EH (j+1):=by
  rcases a1.2 with⟨_,hc,_⟩ | ⟨_,hc⟩
  ·exact absurd (congrArg Prod.snd p1) hc
  ·rw [hc];unfold EH;rw [List.range_succ,List.map_append];rfl
 subst hE
 refine(stoAppend_any 5 (evHd j) (evHd_fit j hj) h1 h4 (by omega)).mono ?_
 rintro x w' ⟨rfl,hp⟩
 rw [ζ (evHd_ok j hj)] at hp ⊢
 refine⟨_,_,?_,Jm.out hp h3 h2 a2,p2⟩
 rw [show (Cy d s (J7 5 (evHd j))).1=((j:Int)+1,0) from p1]
theorem hd_recs:Hh 2 (numb 1 (EH 3))=[(2,evHd 1),(3,evHd 2)]:=by
 have hu: ∀ j,j<3→upV (rH j)=evHd j:=fun j hj=>by
  unfold upV rH
  rw [If (evHd_ok j hj)]
  rfl
 show Hh 2 [(1,upV (rH 0)),(2,upV (rH 1)),(3,upV (rH 2))]=_
 rw [hu 0 (by decide),hu 1 (by decide),hu 2 (by decide)]
 rfl
end
theorem head19_any (w:World) (hn:NibTab w) (ht:Bo w) (hg:4≤w.heap.size):Calls Tryz.prog 7 #[] w fun x w'=>x= .returned (.bool true)∧Below w.heap.size w w':=by
 have HN:=Qh hn
 have HT:=Qh ht
 have HG:=Qh hg
 have HNW:=Qh (fsNew_any 1000 w)
 clear hn ht hg
 go_enter Tryz.func7,Tryz.ntmps7
 go_wp2_with fail
 refine HNW.out.mono ?_
 rintro x w1 ⟨f,m,rfl,hf,h1,h2,hb1⟩
 have HB1:=Qh hb1
 have HOP:=Qh (atNew (P:=fun i=>w.heap.size≤i) (stride:=2) (segEv:=2) hf (fun i hi=>μ hb1.size hi) ⟨h1,h2⟩ (HN.out.below hb1) ⟨μ HG.out hb1.size,fun i hi hc=>by have:=HG.out;omega⟩ (by decide) (by decide) (by decide))
 clear hf h1 h2 hb1 HNW
 go_wp2_with fail
 refine HOP.out.mono ?_
 rintro x w2 ⟨b,d0,rfl,ho,hfi,hro⟩
 have HI0:=Qh (show HdI 0 d0 ⟨0,22,[],2,2,firstM,false,0⟩∧Jm (fun i=>w.heap.size≤i) w2 f m b d0 ⟨0,22,[],2,2,firstM,false,0⟩ (EH 0) 0∧Below w.heap.size w w2 from⟨hdI_zero hfi hro,ho.1,HB1.out.trans (G8 ho.2 HB1.out.size)⟩)
 clear ho hfi hro HOP HB1
 go_wp2
 go_loopw [0,4,5,6] (fun _ iv _ _ wr=> ∃ (j:Nat) (dj:Ab) (sj:Cb),j≤3∧iv= .int .i64 ((j:Int)+1)∧Hid (HdI j dj sj∧Jm (fun i=>w.heap.size≤i) wr f m b dj sj (EH j) j∧Below w.heap.size w wr)) (fun _ iv _ _ _=>4 - (intOf iv).toNat)
 case atStart=>exact⟨0,d0,_,by decide,rfl,HI0⟩
 case round=>
  obtain⟨j,dj,sj,hj,rfl,HI⟩:=hrel
  clear HI0
  by_cases hlt:j<3
  ·have q1:(j:Int)+1≤3:=by omega
   have hw1:IntKind.i64.wrap (6+((j:Int)+1))=7+(j:Int):=by rw [κ];omega
   have hw2:IntKind.i64.wrap ((j:Int)+1+1)=(j:Int)+1+1:=by rw [κ];omega
   have HCA:=Qh (hdAppend hlt HI.out.1 HI.out.2.1)
   have HBW:=Qh HI.out.2.2
   simp only [evHd] at HCA
   go_wp2_with fail
   refine HCA.out.mono ?_
   rintro x w3 ⟨d1,s1,rfl,ho,hi⟩
   have HI1:=Qh (show HdI (j+1) d1 s1∧Jm (fun i=>w.heap.size≤i) w3 f m b d1 s1 (EH (j+1)) (j+1)∧Below w.heap.size w w3 from⟨hi,ho.1,HBW.out.trans (G8 ho.2 HBW.out.size)⟩)
   clear ho hi HCA HI
   go_wp2
   go_roundw
   case rel=>exact⟨j+1,d1,s1,by omega,by go_num,HI1⟩
   case measure=>simp [intOf];omega
  ·obtain rfl:j=3:=by omega
   obtain⟨t1,t2⟩:=HI.out.1.top rfl
   have HRE:=Qh (headRead HI.out.2.1 (by decide) (HT.out.below HI.out.2.2) t1 HI.out.1.cfg.1 t2 (by decide))
   have HBW:=Qh HI.out.2.2
   have HSG:=Qh t1
   clear t1 t2 HI
   go_wp2_with fail
   refine HRE.out.mono ?_
   rintro x w3 ⟨rv,d1,rfl,ho,hrs⟩
   have HA3:=Qh ho.1
   have HB3:=Qh (HBW.out.trans (G8 ho.2 HBW.out.size))
   rw [hd_recs] at hrs
   obtain⟨g,cap,rfl,_,_,_,_,hcell⟩:=B8 hrs (by decide)
   have HCE:=Qh (show w3.cell? ⟨g,2,none⟩=some (.int .i64 8) from hcell 2 _ rfl)
   have HMF:=Qh (show Calls Tryz.prog 30 #[.pointer (some ⟨b,0,none⟩)] w3 fun e w'=> ∃ v',e= .returned (mnV sj.man v')∧SgOwn w' w3.heap.size v' sj.man.segs∧Below w3.heap.size w3 w' from by
    obtain⟨L,mv,sv,h1,h2,h3,h4⟩:=ho.1
    have:=stoManifest_any h1 h4.ok.closed h4.ok.seg (by show sj.man.segs.length≤1000;rw [HSG.out];decide)
    exact this)
   clear ho hrs hcell HRE HBW
   go_wp2_with fail
   refine HMF.out.mono ?_
   rintro x w4 ⟨v4,rfl,hsg,hb4⟩
   rw [HSG.out] at hsg
   obtain⟨g4,cap4,rfl,_,_,_,_,hc4⟩:=B8 hsg (by decide)
   have hb5:=below_alloc w4 (.cells #[.int .i64 sj.man.gen,.int .i64 sj.man.next,.int .i64 sj.man.floor,.int .i64 sj.man.snap,.int .i64 sj.man.snapSeq,.slice (some ⟨g4,0,none⟩) 2 cap4] 69)
   have HB5:=Qh (Below.next (Below.next HB3.out (Below.mono hb4 (ξ _))) hb5)
   have HA5:=Qh ((HA3.out.below hb4).below hb5)
   have c2:(w4.alloc (.cells #[.int .i64 sj.man.gen,.int .i64 sj.man.next,.int .i64 sj.man.floor,.int .i64 sj.man.snap,.int .i64 sj.man.snapSeq,.slice (some ⟨g4,0,none⟩) 2 cap4] 69)).cell? ⟨g,2,none⟩=some (.int .i64 8):=cell_later (Below.next hb4 hb5) HCE.out
   have c4:(w4.alloc (.cells #[.int .i64 sj.man.gen,.int .i64 sj.man.next,.int .i64 sj.man.floor,.int .i64 sj.man.snap,.int .i64 sj.man.snapSeq,.slice (some ⟨g4,0,none⟩) 2 cap4] 69)).cell? ⟨g4,3,none⟩=some (.int .i64 72):=cell_later hb5 (hc4 3 _ rfl)
   have c5:(w4.alloc (.cells #[.int .i64 sj.man.gen,.int .i64 sj.man.next,.int .i64 sj.man.floor,.int .i64 sj.man.snap,.int .i64 sj.man.snapSeq,.slice (some ⟨g4,0,none⟩) 2 cap4] 69)).cell? ⟨w4.heap.size,5,none⟩=some (.slice (some ⟨g4,0,none⟩) 2 cap4):=cell_of_row _ _ 5 _ _ _ (σ w4 _)
   clear hb4 hb5 hc4 hsg HCE HMF HA3 HB3
   go_wp2_with fail
   generalize (w4.alloc (.cells #[.int .i64 sj.man.gen,.int .i64 sj.man.next,.int .i64 sj.man.floor,.int .i64 sj.man.snap,.int .i64 sj.man.snapSeq,.slice (some ⟨g4,0,none⟩) 2 cap4] 69))=w5 at*
   refine(atDecoded HA5.out).mono ?_
   rintro x w6 ⟨rfl,rfl⟩
   go_wp2_with fail
   refine(atLast HA5.out (by decide)).mono ?_
   rintro x w6 ⟨rfl,hb6⟩
   have HB6:=Qh (HB5.out.trans (hb6.mono HB5.out.size))
   clear hb6
   go_wp2
   go_ret
   exact⟨rfl,HB6.out⟩
def OpRow (w:World) (v:Value) (ops:List OpS):Prop:=
 ∃ oa cap,v= .slice oa ops.length cap∧ops.length≤9223372036854775807∧ ∀ (i:Nat) o,ops[i]? =some o→OpOk o∧ ∃ b off rv,oa=some ⟨b,off,none⟩∧w.rangeAt b (off+i*16) (Du o rv).toList∧A2 w rv o.raw
theorem oppInfo:(Tryz.prog.info? 41).map (·.size)=some 16:=by kernel_rfl
section
open Go.RowKit Go.ChangeShapes Go.WideShapes
theorem bRow_ofF {w:World} {v:Value} {zs:List Int} (h:Row 1 1 (RInt .u8) w v zs):A2 w v (zs.map fun z=>UInt8.ofNat z.toNat)∧zs.length≤140737488355328:=by
 obtain⟨oa,cap,rfl,h1,h2,hr,h3⟩:=h
 have hw: ∀ z∈zs,(Lit.int .u8 z).wf=true:=fun z hzm=>by
  obtain⟨i,hi,he⟩:=List.getElem_of_mem hzm
  obtain⟨b,off,_,h5⟩:=h3 (by rintro rfl;simp at hi)
  obtain⟨cs,_,_,hR⟩:=h5 i z (by rw [Δ hi,he])
  exact hR.2
 refine⟨⟨oa,cap,by rw [List.length_map],by simpa using h1,fun hn=> ?_⟩,by unfold reachBytes at hr;omega⟩
 obtain⟨b,off,h4,h5⟩:=h3 (by rintro rfl;exact hn rfl)
 refine⟨b,off,h4,fun i x hx=> ?_⟩
 rw [List.getElem?_map] at hx
 obtain⟨z,hz1,rfl⟩:=Option.map_eq_some_iff.1 hx
 obtain⟨cs,_,hcs,hR⟩:=h5 i z hz1
 have:=hcs 0 (.int .u8 z) (by rw [hR.1];rfl)
 rw [u8_of (hw z (List.mem_of_getElem? hz1))]
 simpa using this
end
section
open Go.RowKit Go.ChangeShapes Go.WideShapes
theorem i64_wf {n:Int} (h:(Lit.int .i64 n).wf=true):I64 n:=by
 simp [Lit.wf,show IntKind.i64.max=9223372036854775807 from by decide,show IntKind.i64.min= -9223372036854775808 from by decide] at h
 exact⟨by omega,by omega⟩
def REvF (_:World) (cs:List Value) (e:Ev):Prop:=cs=(evCs e).toList∧I3 281474976710656 e
theorem opensF_Event0:Jw Tryz.prog 38 10 (Fu 1 (RInt .i64) (Fu 1 (RInt .i64) (Fu 1 (RInt .i64) (Fu 1 (RInt .i64) (Fu 1 (RInt .i64) (Fu 1 (RInt .i64) (Fu 1 (RInt .i64) (Fu 1 RStr (Fu 1 (RInt .i64) (Fu 1 RStr RNil)))))))))):=
 Kx Tryz.underlying38 (by kernel_rfl) (Bb rfl (by kernel_rfl) (Cu Tryz.underlying36) (Bb rfl (by kernel_rfl) (Cu Tryz.underlying3) (Bb rfl (by kernel_rfl) (Cu Tryz.underlying3) (Bb rfl (by kernel_rfl) (Cu Tryz.underlying3) (Bb rfl (by kernel_rfl) (Cu Tryz.underlying3) (Bb rfl (by kernel_rfl) (Cu Tryz.underlying3) (Bb rfl (by kernel_rfl) (Cu Tryz.underlying3) (Bb rfl (by kernel_rfl) (opens_str Tryz.underlying9) (Bb rfl (by kernel_rfl) (Cu Tryz.underlying3) (Bb rfl (by kernel_rfl) (opens_str Tryz.underlying9) opens_nil))))))))))
theorem opensF_Event:Jw Tryz.prog 38 10 REvF:=by
 intro H enc W fuel cs x hx hz
 obtain⟨hl,⟨k0,k1,k2,k3,k4,k5,k6,k7,k8,k9,_⟩,h0,h1,h2,h3,h4,h5,h6,h7,h8,h9,_⟩:=opensF_Event0 enc W fuel cs x hx hz
 refine⟨hl,⟨k0,k1,k2,k3,k4,k5,k6,k7,k8,k9⟩,?_,⟨i64_wf h0.2,i64_wf h1.2,i64_wf h2.2,i64_wf h3.2,i64_wf h4.2,i64_wf h5.2,i64_wf h6.2,i64_wf h8.2,μ h7.2 (by decide),μ h9.2 (by decide)⟩⟩
 match cs,hl with
 | [c0,c1,c2,c3,c4,c5,c6,c7,c8,c9],_=>
  have e0:=h0.1
  have e1:=h1.1
  have e2:=h2.1
  have e3:=h3.1
  have e4:=h4.1
  have e5:=h5.1
  have e6:=h6.1
  have e7:=h7.1
  have e8:=h8.1
  have e9:=h9.1
  simp at e0 e1 e2 e3 e4 e5 e6 e7 e8 e9
  simp [evCs,e0,e1,e2,e3,e4,e5,e6,e7,e8,e9]
theorem opensF_Config:Jw Tryz.prog 24 2 (Fu 1 (RInt .i64) (Fu 1 (RInt .i64) RNil)):=
 Kx Tryz.underlying24 (by kernel_rfl) (Bb rfl (by kernel_rfl) (Cu Tryz.underlying3) (Bb rfl (by kernel_rfl) (Cu Tryz.underlying3) opens_nil))
def RdCfg (_:World) (v:Value) (a:Int×Int):Prop:=v= .agg #[.int .i64 a.1,.int .i64 a.2]
theorem open_api_Config {H:Type} {enc:TypeId×Value→H} {W:World} {base:Nat} {v:Value} {d:DataW H} {p:List MemPlace}
  (hok:Value.okWide Tryz.prog W .any base 24 v) (h:DataW.Trod enc Tryz.prog W 0 (fun _=>true) true 24 v d p) (hz:(d.weights Tryz.prog 24).all (· ≤reachBytes)=true):
  ∃ a,RdCfg W v a:=by
 obtain⟨cs,⟨a,c,_⟩,rfl,hl,h1,h2,_⟩:=open_struct_by (P:=Tryz.prog) opensF_Config Tryz.underlying24 hok h hz
 refine⟨(a,c),?_⟩
 obtain⟨l⟩:=cs
 match l,hl with
 | [x,y],_=>
  have e1:=h1.1
  have e2:=h2.1
  simp at e1 e2
  simp [RdCfg,e1,e2]
def ROpF (w:World) (cs:List Value) (o:OpS):Prop:= ∃ rv,cs=(Du o rv).toList∧A2 w rv o.raw∧OpOk o
theorem opensF_Op:Jw Tryz.prog 41 16 ROpF:=by
 intro H enc W fuel cs x hx hz
 have ho:Jw Tryz.prog 41 16 (Fu 1 (RInt .i64) (Fu 1 (RInt .i64) (Fu 10 REvF (Fu 1 (RRow 1 1 (RInt .u8)) (Fu 1 (RInt .i64) (Fu 2 (Fu 1 (RInt .i64) (Fu 1 (RInt .i64) RNil)) RNil)))))):=
  Kx Tryz.underlying41 (by kernel_rfl) (Bb rfl (by kernel_rfl) (Cu Tryz.underlying3) (Bb rfl (by kernel_rfl) (Cu Tryz.underlying3) (Bb rfl (by kernel_rfl) opensF_Event
   (Bb rfl (by kernel_rfl) (opens_slice Tryz.underlying39 (by kernel_rfl) (by kernel_rfl) (by decide) (Cu (k:= .u8) Tryz.underlying5)) (Bb rfl (by kernel_rfl) (Cu Tryz.underlying3) (Bb rfl (by kernel_rfl) opensF_Config opens_nil))))))
 obtain⟨hl,⟨k,v,e,zs,n,⟨st,se,_⟩,_⟩,h0,h1,h2,h3,h4,⟨h5,h6,_⟩,_⟩:=ho enc W fuel cs x hx hz
 obtain⟨rv,e3,r3⟩:=h3
 obtain⟨a1,a2⟩:=bRow_ofF r3
 refine⟨hl,⟨k,v,e,zs.map fun z=>UInt8.ofNat z.toNat,n,st,se⟩,rv,?_,a1,h2.2,by rw [List.length_map];exact a2⟩
 match cs,hl with
 | [c0,c1,c2,c3,c4,c5,c6,c7,c8,c9,c10,c11,c12,c13,c14,c15],_=>
  have e0:=h0.1
  have e1:=h1.1
  have e2:=h2.1
  have e4:=h4.1
  have e5:=h5.1
  have e6:=h6.1
  simp [evCs] at e0 e1 e2 e3 e4 e5 e6
  simp [Du,e0,e1,e2,e3,e4,e5,e6]
structure RdOps (w:World) (v:Value) (ops:List OpS):Prop where
 row:OpRow w v ops
theorem open_sl_daybookref19_Op {H:Type} {enc:TypeId×Value→H} {W:World} {base:Nat} {v:Value} {d:DataW H} {p:List MemPlace}
  (hok:Value.okWide Tryz.prog W .any base 22 v) (h:DataW.Trod enc Tryz.prog W 0 (fun _=>true) true 22 v d p) (hz:(d.weights Tryz.prog 22).all (· ≤reachBytes)=true):
  ∃ a,RdOps W v a:=by
 obtain⟨rs,oa,cap,rfl,h1,h2,hr,h3⟩:=open_slice_by (P:=Tryz.prog) (opens_slice (bytes:=160) Tryz.underlying22 (by kernel_rfl) (by kernel_rfl) (by decide) opensF_Op) Tryz.underlying22 hok h hz
 refine⟨rs,⟨oa,cap,rfl,by unfold maxLen at h2;omega,fun i o hi=> ?_⟩⟩
 obtain⟨b,off,h4,h5⟩:=h3 (by rintro rfl;simp at hi)
 obtain⟨cs,_,hc,rv,hR,hB,hO⟩:=h5 i o hi
 exact⟨hO,b,off,rv,h4,fun j u hj=>hc j u (by rw [hR];exact hj),hB⟩
theorem nib_of2 {w:World} {l:List (String×DataW Unit)} {d2:DataW Unit} (hl:l=[("daybook/crc.nibbles",Rows.laid_daybook_crc_nibbles),("daybook/upcast.taxes",d2)]) (h:laidMet Tryz.prog l w):NibTab w:=by
 subst hl
 exact Lib.tabIs_of_head (g:=1) (t:=308) (e:=181) (by kernel_rfl) (by kernel_rfl) Tryz.underlying308 Tryz.underlying181 (by kernel_rfl) (by kernel_rfl) h
theorem tax_of2 {w:World} {l:List (String×DataW Unit)} {d1:DataW Unit} (hl:l=[("daybook/crc.nibbles",d1),("daybook/upcast.taxes",Rows.laid_daybook_upcast_taxes)]) (h:laidMet Tryz.prog l w):Bo w:=by
 subst hl
 exact Lib.tabIs_of_head (g:=0) (t:=241) (e:=3) (by kernel_rfl) (by kernel_rfl) Tryz.underlying241 Tryz.underlying3 (by kernel_rfl) (by kernel_rfl) h.tail
theorem glob_of {w:World} (h:w.ShapedOpen Tryz.prog):4≤w.heap.size:=by
 obtain⟨⟨z,t⟩,hz⟩:=Option.isSome_iff_exists.1 (show ((((begin Tryz.prog (fun _ _=>0) default).world).heap[4 - 1]?).bind Obj.row?).isSome=true by kernel_rfl)
 obtain⟨cs,hh,_⟩:=h.1 (4 - 1) z t (χ (by kernel_rfl)) hz
 have:=(δ.1 hh).1
 omega
end
structure Big (d:Ab) (s:Cb) (k:Nat):Prop where
 room:d.room=16777216
 used:usedF d.files≤100+k*17660
 len:d.files.length≤2+k*2
 segs:s.man.segs.length≤1+k
section
variable {d d' : Ab} {s s' : Cb} {E E' : List (List UInt8)} {k k' u : Nat}
theorem Big.grow (h:Big d s k) (hg:Grow d s d' s' u 1) (hu:u≤17660):Big d' s' (k+1):=
 ⟨hg.room.trans h.room,by have:=h.used;have:=hg.used;omega,by have:=h.len;have:=hg.len;omega,by have:=h.segs;have:=hg.segs;omega⟩
theorem Big.up (h:Big d s k) (hk:k≤k'):Big d s k':=⟨h.room,by have:=h.used;omega,by have:=h.len;omega,by have:=h.segs;omega⟩
theorem Big.turn (h:Big d s k') (hl:Lim d s E k) (hj:k'≤210) (hk:k≤420) (hc:s.count≠0) {more:Nat} (hm:more≤1060):Cv d s more=0:=by
 have h1:=h.room
 have h2:=h.used
 have h3:=h.len
 have h4:=h.segs
 have h5:=hl.next
 have h6:=hl.gen
 have h7:=hl.ok.last
 have h8:=hl.len
 have f1:=foot_len hl.ok
 have f2:=head_len hl.ok (by omega) (by omega)
 have f3:=man_len (turnM s)
 unfold Cv
 rw [γ hc,γ (by omega),γ (by omega),γ (by omega)]
theorem Big.push (h:Big d s k') (hl:Lim d s E k) (hj:k'≤210) (hk:k≤420) {raw:List UInt8} (hr:raw.length≤1040) {r:Int×Int} (ha:AppR d s E raw r d' s' E'):r=((E.length:Int)+1,0)∧E'=E++[raw]:=by
 rcases ha.2 with⟨_,h2,_,_,_,h3⟩ | h2
 ·exfalso
  have h7:=hl.ok.last
  have h8:=hl.len
  have hu:=h.used
  have hro:=h.room
  rcases h3 with⟨_,h4⟩ | ⟨_,h4⟩ | ⟨h4,h5⟩
  ·omega
  ·omega
  ·have hse:=(hl.sb (by omega)).segEv
   have hb:(Hg s raw).length=raw.length+20:=An _ _ _
   rw [h.turn hl hj hk (by omega) (by omega)] at h4
   exact h2 h4
 ·exact h2
end
def Fq (v:Int) (e:Ev):Ev:=if v=1 then hunV e else if v=2 then Et e else if v=3 then Hx e else Cd e
structure StepOk (v:Int) (e:Ev):Prop where
 ver:1≤v∧v≤5
 price:v=1→0≤e.price∧e.price≤100000000
 qty:v≤2→ -10000≤e.qty∧e.qty≤10000
 cur:v≤2→0≤e.cur∧e.cur≤3
 tax:v≤2→e.tax=0
theorem step_of {v:Int} {e:Ev} (h:Af v e=0):StepOk v e:=by
 have hf:=evFit h
 have h1:=hf.price
 have h2:=hf.cur
 have h3:=hf.qty
 have h4:=hf.tax
 refine⟨hf.ver,fun _=>h1,fun hv=> ?_,fun hv=> ?_,fun hv=> ?_⟩
 ·split at h3<;>omega
 ·split at h2<;>omega
 ·split at h4<;>omega
theorem step_next {v:Int} {e:Ev} (hk:v<5) (h:StepOk v e):StepOk (v+1) (Fq v e):=by
 have h0:=h.ver
 by_cases h1:v=1
 ·subst h1
  exact⟨by decide,fun h=>by omega,fun _=>h.qty (by decide),fun _=>h.cur (by decide),fun _=>h.tax (by decide)⟩
 ·exact⟨by omega,fun h=>by omega,fun h=>by omega,fun h=>by omega,fun h=>by omega⟩
theorem rise_step {v:Int} (e:Ev) (hk:1≤v∧v≤4):Fb (v+1) (Fq v e)=Fb v e:=by
 rcases (show v=1∨v=2∨v=3∨v=4 by omega) with rfl | rfl | rfl | rfl<;>rfl
theorem Dl.but {A X:Nat→Prop} {w:World} {v:Value} {l:List Sg} (h:Dl A w v l) (hX: ∀ k,X k→ ¬ SegB w k):Dl (fun k=>A k∧ ¬ X k) w v l:=by
 obtain⟨oa,cap,h1,h2,h3,h4⟩:=h
 exact⟨oa,cap,h1,h2,h3,fun i g hg=>by obtain⟨b,off,e,⟨ha,hs⟩,hc⟩:=h4 i g hg;exact⟨b,off,e,⟨⟨ha,fun hx=>hX b hx hs⟩,hs⟩,hc⟩⟩
section
variable {P X : Nat → Prop} {w w0 w' : World} {f m b : Nat} {L : List Ad} {d d' : Ab} {s s' : Cb} {mv sv : Value} {E E' : List (List UInt8)} {k k' : Nat}
theorem SJ.off (h:SJ w b f m L d s mv sv) (ht:Turned X w w') (hX: ∀ k,X k→ ¬ SegB w k∧ ¬ A0 b mv f m L k∧4≤k):SJ w' b f m L d s mv sv:=by
 have hno: ∀ k,A0 b mv f m L k→ ¬ X k:=fun k hk hx=>(hX k hx).2.1 hk
 refine⟨h.blk.keep (ht.block b h.blk.lt (hno b (.inl rfl))),h.fs.turned ht (fun k hk=>hno k (.inr (.inr hk))),h.mks.kept' fun k hk=>ht.block k (mk_lt h.mks k hk) (hno k (.inr (.inl hk))),?_,?_,⟨μ h.gl.1 ht.size,h.gl.2⟩,h.sep⟩
 ·exact((h.sg.but fun k hk=>(hX k hk).1).turned ht fun k hk=>hk.2).mono fun k hk=>hk.1
 ·exact h.nib.turned ht (fun hc=>by have:=(hX _ hc).2.2;revert this;decide) h.nib.lt
theorem Jm.off (h:Jm P w f m b d s E k) (ht:Turned X w w') (hX: ∀ k,X k→ ¬ SegB w k∧ ¬ P k∧4≤k):Jm (fun i=>P i∧(i<w.heap.size∨w'.heap.size≤i)) w' f m b d s E k:=by
 obtain⟨L,mv,sv,h1,h2,h3,h4⟩:=h
 exact⟨L,mv,sv,h1.off ht fun k hk=>⟨(hX k hk).1,fun hc=>(hX k hk).2.1 (h2 k hc),(hX k hk).2.2⟩,fun i hi=>⟨h2 i hi,.inl (h1.lt i hi)⟩,fun i hi=>⟨h3 i (μ ht.size hi),.inr hi⟩,h4⟩
theorem Jm.mono {P':Nat→Prop} (h:Jm P w f m b d s E k) (hP: ∀ i,P i→P' i):Jm P' w f m b d s E k:=by
 obtain⟨L,mv,sv,h1,h2,h3,h4⟩:=h
 exact⟨L,mv,sv,h1,fun i hi=>hP i (h2 i hi),fun i hi=>hP i (h3 i hi),h4⟩
end
def evRow (es:List Ev):List Value:=es.flatMap fun e=>(evCs e).toList
def EvOwn (w:World) (B:Nat) (v:Value) (es:List Ev):Prop:=w.ownsRow B 38 10 v es.length (evRow es)
theorem flat_at {α:Type} (f:α→List Value) (n:Nat) (hn: ∀ x,(f x).length=n): ∀ (l:List α) (i:Nat) (x:α),l[i]? =some x→ ∀ (j:Nat) u,(f x)[j]? =some u→(l.flatMap f)[i*n+j]? =some u
 | [],i,x,h=>by simp at h
 | y::l,0,x,h=>fun j u hj=>by
  simp only [List.getElem?_cons_zero,Option.some.injEq] at h
  subst h
  rw [Nat.zero_mul,Nat.zero_add]
  exact(List.getElem?_append_left (getElem?_lt hj)).trans hj
 | y::l,i+1,x,h=>fun j u hj=>by
  have ih:=flat_at f n hn l i x (by simpa using h) j u hj
  rw [List.flatMap_cons,List.getElem?_append_right (by rw [hn,Nat.succ_mul];omega),←ih,hn]
  congr 1
  rw [Nat.succ_mul]
  omega
theorem evOwn_no {w:World} {B:Nat} {v:Value} {es:List Ev} (h:EvOwn w B v es): ∀ k,v.ownBlock=some k→ ¬ SegB w k:=by
 rintro k hk ⟨cs,fr,e⟩
 obtain⟨_,⟨rfl,_⟩ | ⟨g,cap,cur,rfl,_,e2,_⟩⟩:=h
 ·cases hk
 ·obtain rfl:=ψ hk
  rw [e2] at e
  simp only [Option.some.injEq,Obj.cells.injEq] at e
  exact absurd e.2.1 (by decide)
theorem evOwn_keep {w w':World} {B:Nat} {v:Value} {es:List Ev} (h:EvOwn w B v es) {S:Nat→Prop} (ht:Turned S w w') (hS: ∀ k,v.ownBlock=some k→ ¬ S k):EvOwn w' B v es:=by
 refine⟨h.1,?_⟩
 rcases h.2 with hn | ⟨g,cap,cur,rfl,hb1,hg,rest⟩
 ·exact .inl hn
 ·exact .inr ⟨g,cap,cur,rfl,hb1,(ht.block g (δ.1 hg).1 (hS g rfl)).trans hg,rest⟩
def zeroEvA:Value:= .agg #[.int .i64 0,.int .i64 0,.int .i64 0,.int .i64 0,.int .i64 0,.int .i64 0,.int .i64 0,.string ⟨#[]⟩,.int .i64 0,.string ⟨#[]⟩]
theorem infoEvA:(Tryz.prog.info? 38).map (fun i=>(i.zero,i.size,i.bytes))=some (some zeroEvA,10,96):=by kernel_rfl
theorem wpList_appEv {ops:Array Oper} {rest:List Oper} {o:Oper} {a:Act} {Q:Exit→Act→World→Prop} {w:World} (hgd:o.guard=none) (s y:Operand) (ho:o.op= .call {callee:= .builtin .append,args:= #[s,y],argTypes:= #[35,35]}) {B:Nat} {v:Value} {es:List Ev} {e:Ev} {N:Nat}
  (hs:a.eval s=v) (hN:N=w.heap.size) (hy:a.eval y= .slice (some ⟨N,0,none⟩) 1 1) (hown:EvOwn w B v es) (hB:B≤w.heap.size) (hl:es.length≤1000000)
  (h: ∀ v' w',EvOwn w' B v' (es++[e])→Turned (fun k=>v.ownBlock=some k) w w'→(∀ k,v'.ownBlock=some k→v.ownBlock=some k∨w.heap.size≤k)→wpList Tryz.prog ops Q rest (a.put o.dst v') w'):
  wpList Tryz.prog ops Q (o::rest) a (w.alloc (.cells #[.int .i64 e.kind,.int .i64 e.order,.int .i64 e.item,.int .i64 e.qty,.int .i64 e.price,.int .i64 e.cur,.int .i64 e.tax,.string ⟨e.who.toArray⟩,.int .i64 e.stamp,.string ⟨e.note.toArray⟩] 38)):=by
 subst hN
 show wpList Tryz.prog ops Q (o::rest) a (w.alloc (.cells (evCs e) 38))
 obtain⟨i0,hi,hz0,hz1,hz2⟩:=info_parts infoEvA
 have hb:=below_alloc w (.cells (evCs e) 38)
 refine wpList_append_ownB _ hgd s y 35 ho B 38 i0 zeroEvA 10 96 Tryz.underlying35 hi hz0 hz1 hz2 rfl (by decide) v es.length (evRow es) hs (own_later hown hb) ⟨w.heap.size,0,none⟩ 1 1 (evCs e).toList hy rfl (fun j u hj=> ?_) (fun u hu=> ?_) (by unfold maxLen;omega) (by omega) (μ hB hb.size) (by decide) ?_
 ·rw [Bc,Nat.zero_add,World.cell?_alloc_new]
  simpa using hj
 ·simp [evCs] at hu;rcases hu with rfl | rfl | rfl | rfl | rfl | rfl | rfl | rfl | rfl | rfl<;>rfl
 ·intro v' w' hown' hg hnew
  refine h v' w' ?_ ((Turned.below hb).trans (Turned.grown (S:=fun k=>v.ownBlock=some k) hg fun _ hk=>hk) fun _ h=> .inl h) fun k hk=> ?_
  ·unfold EvOwn
   rw [η,show evRow (es++[e])=evRow es++(evCs e).toList by simp [evRow]]
   exact hown'
  ·rcases hnew with h | h
   ·exact .inl (h▸hk)
   ·rw [h] at hk
    have hk2:=ψ hk
    have hsz:=hb.size
    exact .inr (hk2▸hsz)
theorem upV_pack {v:Int} {e:Ev} (hc:Af v e=0):upV (J7 v e)=Fb v e:=by unfold upV;rw [If hc]
theorem numb_at: ∀ (E:List (List UInt8)) (n i:Nat) b,E[i]? =some b→(numb n E)[i]? =some (((n+i:Nat):Int),upV b)
 | [],n,i,b,h=>by simp at h
 | x::E,n,0,b,h=>by
  simp only [List.getElem?_cons_zero,Option.some.injEq] at h
  subst h
  rfl
 | x::E,n,i+1,b,h=>by
  have:=numb_at E (n+1) i b (by simpa using h)
  rw [show n+(i+1)=n+1+i by omega]
  exact this
theorem own_at {α:Type} {w:World} {B n size:Nat} {ty:TypeId} {v:Value} (f:α→List Value) (l:List α) (hn: ∀ x,(f x).length=size) (h:w.ownsRow B ty size v n (l.flatMap f)) {g l2 c2:Nat} (hv:v= .slice (some ⟨g,0,none⟩) l2 c2) {i:Nat} {x:α} (hx:l[i]? =some x):w.rangeAt g (i*size) (f x):=by
 have hll:(l.flatMap f).length=l.length*size:=by
  clear h hx
  induction l with
  | nil=>simp
  | cons y l ih=>rw [List.flatMap_cons,η,ih,hn,φ,Nat.succ_mul];omega
 intro j u hj
 have hk:=flat_at f size hn l i x hx j u hj
 have hlt:=getElem?_lt hk
 have hpos:0<n:=by
  have:=h.1
  rcases Nat.eq_zero_or_pos n with h0 | h0
  ·rw [h0,Nat.zero_mul] at this;omega
  ·exact h0
 obtain⟨g2,cap,rfl,_,_,_,_,h3⟩:=B8 h hpos
 simp only [Value.slice.injEq,Option.some.injEq,Addr.mk.injEq] at hv
 obtain⟨⟨rfl,_⟩,_⟩:=hv
 exact h3 _ u hk
theorem Big.wide {d d':Ab} {s s':Cb} {k:Nat} (h:Big d s k) (hg:Wide d s d' s'):Big d' s' (k+1):=
 ⟨hg.room.trans h.room,by have:=h.used;have:=hg.used;omega,by have:=h.len;have:=hg.len;omega,by have:=h.segs;have:=hg.segs;omega⟩
theorem refCheck_rest (v:Int) (e:Ev) (w:World) (h0:1≤v) (h1:v≤5) (h2:1≤e.kind) (h3:e.kind≤Bz v) (hw:e.who.length≤16) (hn:e.note.length≤120):
  Calls Tryz.prog 20 #[.int .i64 v,Dx e] w (Fe (Af v e) w):=by
 have hf:=Qh (chkRest (e:=e) (show ¬ (v<1∨5<v) by omega) (show ¬ (e.kind<1∨Bz v<e.kind) by omega) (show ¬ (16<e.who.length∨120<e.note.length) by omega))
 have hfit:=Qh (fits_iff v e h0 h1 h2 h3)
 unfold Dx
 have d1:decide (e.kind<1)=false:=by simpa using h2
 have d2:decide (Bz v<e.kind)=false:=by simpa using h3
 have HL:=Qh (fun W=>refLast_any v W h0 h1)
 have HH:=Qh (fun W=>refHas_any v W h0 h1)
 have HNm:=Qh (refNums_any e)
 go_enter Tryz.func20,Tryz.ntmps20
 go_wp2
 have hE:=Iv w e 38
 have hb1:Below w.heap.size w (w.alloc (.cells #[.int .i64 e.kind,.int .i64 e.order,.int .i64 e.item,.int .i64 e.qty,.int .i64 e.price,.int .i64 e.cur,.int .i64 e.tax,.string ⟨e.who.toArray⟩,.int .i64 e.stamp,.string ⟨e.note.toArray⟩] 38)):=(τ _ _).alloc (ξ _) _
 have hsz0:w.heap.size<(w.alloc (.cells #[.int .i64 e.kind,.int .i64 e.order,.int .i64 e.item,.int .i64 e.qty,.int .i64 e.price,.int .i64 e.cur,.int .i64 e.tax,.string ⟨e.who.toArray⟩,.int .i64 e.stamp,.string ⟨e.note.toArray⟩] 38)).heap.size:=by simp
 generalize w.alloc (.cells #[.int .i64 e.kind,.int .i64 e.order,.int .i64 e.item,.int .i64 e.qty,.int .i64 e.price,.int .i64 e.cur,.int .i64 e.tax,.string ⟨e.who.toArray⟩,.int .i64 e.stamp,.string ⟨e.note.toArray⟩] 38)=w1 at*
 have HE:=Qh hE
 have HB1:=Qh hb1
 have c0:=hE.c0
 clear hE hb1
 go_region_held3 (fun w'=>w'.cell? ⟨w.heap.size,0,none⟩=some (.int .i64 e.kind)) (first | assumption | exact cell_later hb2 c0 | go_keep)
  (first | (go_at_call 48;refine(HL.out _).mono ?_;rintro x w2 ⟨rfl,hb2⟩))
 rename_i hHeld
 have HB2:=Qh (show Below w.heap.size w w2 from Below.next HB1.out (Below.next ((τ _ _).drew) hb2))
 have HE2:=Qh (HE.out.below (Below.next ((τ _ _).drew) hb2))
 have hsz2:w.heap.size<w2.heap.size:=by have:=(Below.next ((τ _ w1).drew) hb2).size;omega
 clear hb2 c0 HB1 HE hsz0
 obtain⟨c0,c1,c2,c3,c4,c5,c6,c7,c8,c9⟩:=HE2.out
 by_cases hv3:v<3
 by_cases hv1:v=1
 focus
  have dv1:(v==1)=true:=by simpa using hv1
  have hlw:=Qh (show I4 v=[0,1,1,0,-10000,0,0,0,0,0,0] by unfold I4;rw [ζ hv3])
  have hhg:=Qh (show Fp v=[0,10,1099511627776,65535,10000,1000000,3,5000,0,1099511627776,0] by unfold Fp;rw [ζ hv1])
  clear hv1
  go_wp2_with fail
  refine(HNm.out _).mono ?_
  rintro x w3 ⟨bn,rfl,hbn,hNums,hb3⟩
  have hbA:=Below.next ((τ _ w2).alloc (ξ _) (.cells #[.int .i64 0,.int .i64 1,.int .i64 1,.int .i64 0,.int .i64 (-10000),.int .i64 0,.int .i64 0,.int .i64 0,.int .i64 0,.int .i64 0,.int .i64 0] 3)) (Below.next (((τ _ _).alloc (ξ _) (.cells #[.int .i64 0,.int .i64 10,.int .i64 1099511627776,.int .i64 65535,.int .i64 10000,.int .i64 1000000,.int .i64 3,.int .i64 5000,.int .i64 0,.int .i64 1099511627776,.int .i64 0] 3))) hb3)
  have HLow:=Qh (show Dr w3 w2.heap.size (I4 v) from(Dr.below (Dr.below (G2 rfl (by rw [hlw.out];rfl)) (((τ _ _).alloc (ξ _) _))) hb3))
  have HHigh:=Qh (show Dr w3 (w2.heap.size+1) (Fp v) from Dr.below (G2 (by simp) (by rw [hhg.out];rfl)) hb3)
  have HNums:=Qh hNums
  have HE3:=Qh (HE2.out.below hbA)
  have HB3:=Qh (Below.next HB2.out hbA)
  clear hbA hb3 hNums hbn hHeld HE2 HB2 HNm HL hlw hhg c0 c1 c2 c3 c4 c5 c6 c7 c8 c9
  obtain⟨bl,hbl⟩: ∃ bl,bl=w2.heap.size:=⟨_,rfl⟩
  rw [←hbl] at HLow HHigh ⊢
  clear hbl hsz2
  go_wp2_with fail
 rotate_left
 focus
  have dv1:(v==1)=false:=by simpa using hv1
  have hlw:=Qh (show I4 v=[0,1,1,0,-10000,0,0,0,0,0,0] by unfold I4;rw [ζ hv3])
  have hhg:=Qh (show Fp v=[0,10,1099511627776,65535,10000,100000000,3,5000,0,1099511627776,0] by unfold Fp;rw [γ hv1])
  clear hv1
  go_wp2_with fail
  refine(HNm.out _).mono ?_
  rintro x w3 ⟨bn,rfl,hbn,hNums,hb3⟩
  have hbA:=Below.next ((τ _ w2).alloc (ξ _) (.cells #[.int .i64 0,.int .i64 1,.int .i64 1,.int .i64 0,.int .i64 (-10000),.int .i64 0,.int .i64 0,.int .i64 0,.int .i64 0,.int .i64 0,.int .i64 0] 3)) (Below.next (((τ _ _).alloc (ξ _) (.cells #[.int .i64 0,.int .i64 10,.int .i64 1099511627776,.int .i64 65535,.int .i64 10000,.int .i64 100000000,.int .i64 3,.int .i64 5000,.int .i64 0,.int .i64 1099511627776,.int .i64 0] 3))) hb3)
  have HLow:=Qh (show Dr w3 w2.heap.size (I4 v) from(Dr.below (Dr.below (G2 rfl (by rw [hlw.out];rfl)) (((τ _ _).alloc (ξ _) _))) hb3))
  have HHigh:=Qh (show Dr w3 (w2.heap.size+1) (Fp v) from Dr.below (G2 (by simp) (by rw [hhg.out];rfl)) hb3)
  have HNums:=Qh hNums
  have HE3:=Qh (HE2.out.below hbA)
  have HB3:=Qh (Below.next HB2.out hbA)
  clear hbA hb3 hNums hbn hHeld HE2 HB2 HNm HL hlw hhg c0 c1 c2 c3 c4 c5 c6 c7 c8 c9
  obtain⟨bl,hbl⟩: ∃ bl,bl=w2.heap.size:=⟨_,rfl⟩
  rw [←hbl] at HLow HHigh ⊢
  clear hbl hsz2
  go_wp2_with fail
 rotate_left
 focus
  have dv1:(v==1)=false:=by simp;omega
  have hlw:=Qh (show I4 v=[0,1,1,0,0,0,0,0,0,0,0] by unfold I4;rw [γ hv3])
  have hhg:=Qh (show Fp v=[0,10,1099511627776,65535,10000,100000000,3,5000,0,1099511627776,0] by unfold Fp;rw [γ (by omega)])
  go_wp2_with fail
  refine(HNm.out _).mono ?_
  rintro x w3 ⟨bn,rfl,hbn,hNums,hb3⟩
  have hbA:=Below.next ((τ _ w2).alloc (ξ _) (.cells #[.int .i64 0,.int .i64 1,.int .i64 1,.int .i64 0,.int .i64 0,.int .i64 0,.int .i64 0,.int .i64 0,.int .i64 0,.int .i64 0,.int .i64 0] 3)) (Below.next (((τ _ _).alloc (ξ _) (.cells #[.int .i64 0,.int .i64 10,.int .i64 1099511627776,.int .i64 65535,.int .i64 10000,.int .i64 100000000,.int .i64 3,.int .i64 5000,.int .i64 0,.int .i64 1099511627776,.int .i64 0] 3))) hb3)
  have HLow:=Qh (show Dr w3 w2.heap.size (I4 v) from(Dr.below (Dr.below (G2 rfl (by rw [hlw.out];rfl)) (((τ _ _).alloc (ξ _) _))) hb3))
  have HHigh:=Qh (show Dr w3 (w2.heap.size+1) (Fp v) from Dr.below (G2 (by simp) (by rw [hhg.out];rfl)) hb3)
  have HNums:=Qh hNums
  have HE3:=Qh (HE2.out.below hbA)
  have HB3:=Qh (Below.next HB2.out hbA)
  clear hbA hb3 hNums hbn hHeld HE2 HB2 HNm HL hlw hhg c0 c1 c2 c3 c4 c5 c6 c7 c8 c9
  obtain⟨bl,hbl⟩: ∃ bl,bl=w2.heap.size:=⟨_,rfl⟩
  rw [←hbl] at HLow HHigh ⊢
  clear hbl hsz2
  go_wp2_with fail
 rotate_left
 all_goals
  go_loopw [8] (fun t wr=> ∃ k:Nat,1≤k∧k≤11∧t= .int .i64 k∧Hid (∀ j,1≤j→j<k→ ¬ Jt v e j)∧Below w3.heap.size w3 wr) (fun t _=>11 - (intOf t).toNat)
  case atStart=>exact⟨1,by omega,by omega,rfl,Qh (fun j h1 h2=>by omega),τ _ _⟩
  case round=>
   obtain⟨k,hk1,hk2,rfl,HT,hb⟩:=hrel
   have HB:=Qh hb
   clear hb
   by_cases hk:k≤10
   ·obtain⟨N,hN⟩: ∃ N,N=(Hv e).getD k 0:=⟨_,rfl⟩
    obtain⟨L,hL⟩: ∃ L,L=(I4 v).getD k 0:=⟨_,rfl⟩
    obtain⟨H,hH⟩: ∃ H,H=(Fp v).getD k 0:=⟨_,rfl⟩
    have hbad:Hid (Jt v e k↔hasOf v<k∧N≠0∨N<L∨H<N):=Qh (by rw [Jt,←hN,←hL,←hH])
    have gN:Hid (∀ W,Below w3.heap.size w3 W→W.cell? ⟨bn,k,none⟩=some (.int .i64 N)):=Qh fun W h=>cell_later h (HNums.out k N (by rw [hN,List.getD_eq_getElem?_getD,Δ (by show k<11;omega)];rfl))
    have gL:Hid (∀ W,Below w3.heap.size w3 W→W.cell? ⟨bl,k,none⟩=some (.int .i64 L)):=Qh fun W h=>cell_later h (HLow.out k L (by rw [hL,List.getD_eq_getElem?_getD,Δ (by show k<11;omega)];rfl))
    have gH:Hid (∀ W,Below w3.heap.size w3 W→W.cell? ⟨bl+1,k,none⟩=some (.int .i64 H)):=Qh fun W h=>cell_later h (HHigh.out k H (by rw [hH,List.getD_eq_getElem?_getD,Δ (by show k<11;omega)];rfl))
    have q1:(0:Int)≤(k:Int):=by omega
    have q2:(k:Int)<11:=by omega
    have hok:Hid (¬ Jt v e k→ ∀ j,1≤j→j<k+1→ ¬ Jt v e j):=Qh fun hb j h1 h2=>by
     by_cases hj:j=k
     ·subst hj;exact hb
     ·exact HT.out j h1 (by omega)
    have h32:Hid (Jt v e k→Af v e=32):=Qh fun hb=>by
     rw [hf.out,γ];intro hfit2;exact(hfit.out.1 hfit2).1 k hk1 hk hb
    clear hN hL hH
    go_wp2_with fail
    refine(HH.out _).mono ?_
    rintro x w4 ⟨rfl,hb4⟩
    have HB4:=Qh (Below.next HB.out hb4)
    have cN:=gN.out w4 HB4.out
    have cL:=gL.out w4 HB4.out
    have cH:=gH.out w4 HB4.out
    clear hb4
    by_cases hA:hasOf v<k∧N≠0
    ·have dA:=ν hA.1
     have dN:(N != 0)=true:=by rw [bne_iff_ne];exact hA.2
     have hfin:=Qh (h32.out (hbad.out.2 (.inl hA)))
     clear hA
     go_wp2
     go_ret
     exact⟨by rw [hfin.out];rfl,Below.next HB3.out HB4.out⟩
    ·have HA:=Qh hA
     by_cases hLt:N<L
     ·have dL:=ν hLt
      have hfin:=Qh (h32.out (hbad.out.2 (.inr (.inl hLt))))
      clear hA hLt
      by_cases hB:hasOf v<k
      ·have dB:=ν hB
       have dN:(N != 0)=false:=by
        rw [bne_eq_false_iff_eq];exact Classical.byContradiction fun h=>HA.out ⟨hB,h⟩
       clear hB
       go_wp2
       go_quiet (fail)
       go_wp2
       go_ret
       exact⟨by rw [hfin.out];rfl,Below.next HB3.out (Below.next HB4.out (below_drewN' _ _))⟩
      ·have dB:=ρ hB
       clear hB
       go_wp2
       go_quiet (fail)
       go_wp2
       go_ret
       exact⟨by rw [hfin.out];rfl,Below.next HB3.out (Below.next HB4.out (below_drewN' _ _))⟩
     ·have dL:=ρ hLt
      by_cases hHt:H<N
      ·have dH:=ν hHt
       have hfin:=Qh (h32.out (hbad.out.2 (.inr (.inr hHt))))
       clear hA hLt hHt
       by_cases hB:hasOf v<k
       ·have dB:=ν hB
        have dN:(N != 0)=false:=by
         rw [bne_eq_false_iff_eq];exact Classical.byContradiction fun h=>HA.out ⟨hB,h⟩
        clear hB
        go_wp2
        go_quiet (fail)
        go_wp2
        go_ret
        exact⟨by rw [hfin.out];rfl,Below.next HB3.out (Below.next HB4.out (below_drewN' _ _))⟩
       ·have dB:=ρ hB
        clear hB
        go_wp2
        go_quiet (fail)
        go_wp2
        go_ret
        exact⟨by rw [hfin.out];rfl,Below.next HB3.out (Below.next HB4.out (below_drewN' _ _))⟩
      ·have dH:=ρ hHt
       have hgo:=Qh (hok.out (fun h=>by
        rcases hbad.out.1 h with h | h | h
        ·exact hA h
        ·exact hLt h
        ·exact hHt h))
       clear hA hLt hHt
       by_cases hB:hasOf v<k
       ·have dB:=ν hB
        have dN:(N != 0)=false:=by
         rw [bne_eq_false_iff_eq];exact Classical.byContradiction fun h=>HA.out ⟨hB,h⟩
        clear hB
        go_wp2
        go_quiet (fail)
        go_wp2
        go_roundw
        case rel=>exact⟨k+1,by omega,by omega,by go_num,hgo,Below.next HB4.out (below_drewN' _ _)⟩
        case measure=>simp [intOf];omega
       ·have dB:=ρ hB
        clear hB
        go_wp2
        go_quiet (fail)
        go_wp2
        go_roundw
        case rel=>exact⟨k+1,by omega,by omega,by go_num,hgo,Below.next HB4.out (below_drewN' _ _)⟩
        case measure=>simp [intOf];omega
   ·obtain rfl:k=11:=by omega
    have hAll:=Qh (show ∀ j,1≤j→j≤10→ ¬ Jt v e j from fun j h1 h2=>HT.out j h1 (by omega))
    have HBw:=Qh (Below.next HB3.out HB.out)
    have HEw:=Qh (HE3.out.below HB.out)
    clear HE3 HB3 HLow HHigh HNums HH HT HB
    by_cases hv4:v<4
    ·have c7:=HEw.out.c7
     have c9:=HEw.out.c9
     have dv4:decide (v<4)=true:=by simp;omega
     have dv5:decide (v<5)=true:=by simp;omega
     by_cases hwho:e.who=[]
     ·by_cases hnote:e.note=[]
      ·have hfin:=Qh (show Af v e=0 by
        rw [hf.out,ζ]
        exact hfit.out.2 ⟨hAll.out,by rintro(⟨_,h⟩ | ⟨_,h⟩);exact h hwho;exact h hnote,by rw [hwho];rfl⟩)
       have kn:(!e.note.isEmpty)=false:=by rw [hnote];rfl
       have kl:e.who.length≤0:=by rw [hwho];exact ξ _
       have kn2:e.note.isEmpty=true:=by rw [hnote];rfl
       have kw2:e.who.isEmpty=true:=by rw [hwho];rfl
       clear hnote
       go_wp2
       refine wp_loop_rounds 1 ?_
       rw [rounds_succ]
       go_wp2
       go_ret
       exact⟨by rw [hfin.out];rfl,HBw.out⟩
      ·have hfin:=Qh (show Af v e=32 by
        rw [hf.out,γ];intro h;exact(hfit.out.1 h).2.1 (.inr ⟨by omega,hnote⟩))
       have kn:(!e.note.isEmpty)=true:=by simpa using hnote
       have kn2:e.note.isEmpty=false:=by simpa using hnote
       clear hnote
       go_wp2
       go_ret
       exact⟨by rw [hfin.out];rfl,HBw.out⟩
     ·have hfin:=Qh (show Af v e=32 by
       rw [hf.out,γ];intro h;exact(hfit.out.1 h).2.1 (.inl ⟨by omega,hwho⟩))
      go_wp2
      go_ret
      exact⟨by rw [hfin.out];rfl,HBw.out⟩
    ·first
     | exfalso;omega
     |have c7:=HEw.out.c7
      have c9:=HEw.out.c9
      have dv4:decide (v<4)=false:=by simp;omega
      by_cases hbad:v<5∧e.note≠ []
      ·have hfin:=Qh (show Af v e=32 by
        rw [hf.out,γ];intro h;exact(hfit.out.1 h).2.1 (.inr hbad))
       have dv5:=ν hbad.1
       have kn:(!e.note.isEmpty)=true:=by simpa using hbad.2
       have kn2:e.note.isEmpty=false:=by simpa using hbad.2
       clear hbad
       go_wp2
       go_ret
       exact⟨by rw [hfin.out];rfl,HBw.out⟩
      ·have hplain:Hid (Af v e=if Er e.who=true then 0 else 32):=Qh (by
        rw [hf.out]
        by_cases hp:Er e.who=true
        ·rw [ζ hp,ζ];exact hfit.out.2 ⟨hAll.out,by rintro(⟨h,_⟩ | h);omega;exact hbad h,hp⟩
        ·rw [γ hp,γ];intro h;exact hp (hfit.out.1 h).2.2)
       by_cases hv5:v<5
       focus
        have dv5:=ν hv5
        have hnote:e.note=[]:=Classical.byContradiction fun h=>hbad ⟨hv5,h⟩
        have kn:(!e.note.isEmpty)=false:=by rw [hnote];rfl
        have kn2:e.note.isEmpty=true:=by rw [hnote];rfl
        clear hnote hbad
        go_wp2
       rotate_left
       focus
        have dv5:=ρ hv5
        clear hbad
        go_wp2
       rotate_left
       all_goals
        go_loopw [9] (fun i w5=> ∃ k:Nat,k≤e.who.length∧i= .int .i64 k∧Hid (Er (e.who.take k)=true)∧Below wr.heap.size wr w5) (fun i _=>e.who.length - (intOf i).toNat)
        case atStart=>exact⟨0,by omega,rfl,Qh rfl,τ _ _⟩
        case round=>
         clear c7 c9
         obtain⟨k,hk,rfl,HP,hb⟩:=hrel
         have HB5:=Qh hb
         have c7:=(HEw.out.below hb).c7
         clear hb
         by_cases hlt:k<e.who.length
         ·obtain⟨x,hx,ht,hmem⟩:=Kc e.who k hlt
          have gx: ∀ hh,(⟨e.who.toArray⟩:ByteArray)[k]'hh=x:=ba_get hx
          have HX:=Qh (show Er (e.who.take (k+1))=I0 x by
           rw [ht];unfold Er;rw [List.all_append];have:=HP.out;unfold Er at this;rw [this];simp)
          have hxl:=x.toNat_lt
          have hno:Hid (I0 x=false→Af v e=32):=Qh fun h=>by
           rw [hplain.out,γ];intro h2
           have:=List.all_eq_true.1 h2 x hmem
           rw [h] at this;cases this
          clear hx ht hmem
          have hpc:Hid (I0 x=true↔x.toNat=45∨(48≤x.toNat∧x.toNat≤57)∨(97≤x.toNat∧x.toNat≤122)):=Qh (by
           simp only [I0,Bool.or_eq_true,Bool.and_eq_true,beq_iff_eq,decide_eq_true_eq];omega)
          by_cases hp:I0 x=true
          ·have hpa:=hpc.out.1 hp
           have HP2:=Qh (HX.out.trans hp)
           clear hp
           by_cases h45:x.toNat=45
           ·have k45:((x.toNat:Int)==45)=true:=by rw [beq_iff_eq];omega
            clear hpa h45
            go_wp2
            go_roundw
            case rel=>exact⟨k+1,by omega,by go_num,HP2,HB5.out⟩
            case measure=>simp [intOf];omega
           ·have k45:((x.toNat:Int)==45)=false:=by rw [beq_eq_false_iff_ne];omega
            by_cases h57:x.toNat≤57
            ·have hr:48≤x.toNat:=by omega
             have t48:decide ((48:Int)≤x.toNat)=true:=by simp;omega
             have t57:decide ((x.toNat:Int)≤57)=true:=by simp;omega
             have t97:decide ((97:Int)≤x.toNat)=false:=by simp;omega
             have t122:decide ((x.toNat:Int)≤122)=true:=by simp;omega
             clear hpa h45 h57 hr
             go_wp2
             go_roundw
             case rel=>exact⟨k+1,by omega,by go_num,HP2,HB5.out⟩
             case measure=>simp [intOf];omega
            ·have hr:97≤x.toNat∧x.toNat≤122:=by omega
             have t48:decide ((48:Int)≤x.toNat)=true:=by simp;omega
             have t57:decide ((x.toNat:Int)≤57)=false:=by simp;omega
             have t97:decide ((97:Int)≤x.toNat)=true:=by simp;omega
             have t122:decide ((x.toNat:Int)≤122)=true:=by simp;omega
             clear hpa h45 h57 hr
             go_wp2
             go_roundw
             case rel=>exact⟨k+1,by omega,by go_num,HP2,HB5.out⟩
             case measure=>simp [intOf];omega
          ·have hpa: ¬ (x.toNat=45∨(48≤x.toNat∧x.toNat≤57)∨(97≤x.toNat∧x.toNat≤122)):=fun h=>hp (hpc.out.2 h)
           have hfin:=Qh (hno.out (by simpa using hp))
           have k45:((x.toNat:Int)==45)=false:=by rw [beq_eq_false_iff_ne];omega
           clear hp
           by_cases h48:x.toNat<48
           ·have hr:x.toNat<48:=h48
            have t48:decide ((48:Int)≤x.toNat)=false:=by simp;omega
            have t57:decide ((x.toNat:Int)≤57)=true:=by simp;omega
            have t97:decide ((97:Int)≤x.toNat)=false:=by simp;omega
            have t122:decide ((x.toNat:Int)≤122)=true:=by simp;omega
            clear hpa h48 hr
            go_wp2
            go_ret
            exact⟨by rw [hfin.out];rfl,Below.next HBw.out HB5.out⟩
           ·by_cases h97:x.toNat<97
            ·have hr:57<x.toNat:=by omega
             have t48:decide ((48:Int)≤x.toNat)=true:=by simp;omega
             have t57:decide ((x.toNat:Int)≤57)=false:=by simp;omega
             have t97:decide ((97:Int)≤x.toNat)=false:=by simp;omega
             have t122:decide ((x.toNat:Int)≤122)=true:=by simp;omega
             clear hpa h48 h97 hr
             go_wp2
             go_ret
             exact⟨by rw [hfin.out];rfl,Below.next HBw.out HB5.out⟩
            ·have hr:122<x.toNat:=by omega
             have t48:decide ((48:Int)≤x.toNat)=true:=by simp;omega
             have t57:decide ((x.toNat:Int)≤57)=false:=by simp;omega
             have t97:decide ((97:Int)≤x.toNat)=true:=by simp;omega
             have t122:decide ((x.toNat:Int)≤122)=false:=by simp;omega
             clear hpa h48 h97 hr
             go_wp2
             go_ret
             exact⟨by rw [hfin.out];rfl,Below.next HBw.out HB5.out⟩
         ·obtain rfl:k=e.who.length:=by omega
          have hfin:=Qh (show Af v e=0 by rw [hplain.out,ζ];simpa using HP.out)
          go_wp2
          go_ret
          exact⟨by rw [hfin.out];rfl,Below.next HBw.out HB5.out⟩
theorem refCheckB_any (v:Int) (e:Ev) (w:World) (hok:I3 281474976710656 e):Calls Tryz.prog 20 #[.int .i64 v,Dx e] w (Fe (Af v e) w):=by
 by_cases h1:v<1∨5<v
 ·exact refCheck_version v e w h1
 ·by_cases h2:e.kind<1∨Bz v<e.kind
  ·exact refCheck_kind v e w (by omega) (by omega) h2
  ·by_cases h3:16<e.who.length∨120<e.note.length
   ·exact refCheck_long v e w ⟨hok.who,hok.note⟩ (by omega) (by omega) (by omega) (by omega) h3
   ·exact refCheck_rest v e w (by omega) (by omega) (by omega) (by omega) (by omega) (by omega)
def StpI (w:World) (e e':Ev) (W:World):Prop:=Ai W w.heap.size e∧Ai W (w.heap.size+1) evNone∧Ai W (w.heap.size+1+1) e'∧Below w.heap.size w W
theorem drop_eq {e:Ev} {c t:Int} (hc:e.cur=c) (ht:taxL.getD c.toNat 0=t):Et e=if e.qty<0 then (if e.kind=2 then {e with kind:=6,qty:= -e.qty,tax:=t} else {e with qty:=0,tax:=t}) else {e with tax:=t}:=by
 unfold Et
 rw [hc,ht]
 by_cases q:e.qty<0
 ·by_cases k:e.kind=2
  ·rw [ζ ⟨q,k⟩,ζ q,ζ k]
  ·rw [γ (fun h=>k h.2),ζ q,γ k,show max 0 e.qty=0 by omega]
 ·rw [γ (fun h=>q h.1),γ q,show max 0 e.qty=e.qty by omega]
section
variable {w W W' : World} {e e' e2 : Ev}
theorem StpI.set (h:StpI w e e' W) (j:Nat) (v:Value) (he:(evCs e').setIfInBounds j v=evCs e2):StpI w e e2 (W.setCell ⟨w.heap.size+1+1,j,none⟩ v):=by
 obtain⟨h1,h2⟩:=h.2.2.1.put j v he
 exact⟨(h2.block _ h.1.lt (by omega)).trans h.1,(h2.block _ h.2.1.lt (by omega)).trans h.2.1,h1,turned_blw h.2.2.2 h2 (fun k hk=>by omega) h.2.2.2.size⟩
theorem StpI.start (w:World) (e:Ev) (W:World) (h:Ai W (w.heap.size+1+1) e∧Turned (fun k=>k=w.heap.size+1+1) (((w.alloc (.cells (evCs e) 38)).alloc (.cells (evCs evNone) 38)).alloc (.cells (evCs evNone) 38)) W):StpI w e e W:=by
 have hb1:=below_alloc w (.cells (evCs e) 38)
 have hb2:=below_alloc (w.alloc (.cells (evCs e) 38)) (.cells (evCs evNone) 38)
 have hb3:=below_alloc ((w.alloc (.cells (evCs e) 38)).alloc (.cells (evCs evNone) 38)) (.cells (evCs evNone) 38)
 have z1:(w.alloc (.cells (evCs e) 38)).heap.size=w.heap.size+1:=Ω _ _
 have x1:Ai (((w.alloc (.cells (evCs e) 38)).alloc (.cells (evCs evNone) 38)).alloc (.cells (evCs evNone) 38)) w.heap.size e:=Ai.below (Ai.below (σ w _) hb2) hb3
 have x2:Ai (((w.alloc (.cells (evCs e) 38)).alloc (.cells (evCs evNone) 38)).alloc (.cells (evCs evNone) 38)) (w.heap.size+1) evNone:=Ai.below (by rw [←z1];exact σ _ _) hb3
 have x3:=Below.next (Below.next hb1 hb2) hb3
 exact⟨(h.2.block _ x1.lt (by omega)).trans x1,(h.2.block _ x2.lt (by omega)).trans x2,h.1,turned_blw x3 h.2 (fun k hk=>by omega) x3.size⟩
end
theorem ref7Step_any (v:Int) (e:Ev) (w:World) (hv:v<5) (h:StepOk v e):Calls Tryz.prog 41 #[.int .i64 v,Dx e] w (RiseQ w (Fq v e)):=by
 have z1:(w.alloc (.cells (evCs e) 38)).heap.size=w.heap.size+1:=Ω _ _
 have z2:((w.alloc (.cells (evCs e) 38)).alloc (.cells (evCs evNone) 38)).heap.size=w.heap.size+1+1:=by rw [Ω,z1]
 have HE0:=Qh (show Ai ((w.alloc (.cells (evCs e) 38)).alloc (.cells (evCs evNone) 38)) w.heap.size e from Ai.below (σ w _) (below_alloc _ _))
 have HZ:=Qh (show Ai (((w.alloc (.cells (evCs e) 38)).alloc (.cells (evCs evNone) 38)).alloc (.cells (evCs evNone) 38)) (w.heap.size+1+1) evNone from by rw [←z2];exact σ _ _)
 have HS:=Qh (StpI.start w e)
 have HOK:=Qh h
 clear z1 z2 h
 simp only [evCs,evNone] at HE0 HZ HS
 have HZ1:=Qh (show Ai _ (w.heap.size+1+1) evNone from HZ.out)
 go_enter Tryz.func41,Tryz.ntmps41
 go_wp2_with (first | (with_reducible refine wpList_load_ev rfl (.tmp 3) rfl w.heap.size e rfl HE0.out ?_) | (with_reducible refine wpList_store_ev rfl (.tmp 5) (.tmp 6) rfl (w.heap.size+1+1) evNone e rfl rfl HZ1.out ?_))
 intro W hz
 have HW:=Qh (HS.out W hz.out)
 clear hz HS HE0 HZ HZ1
 obtain⟨hv1,_⟩:=HOK.out.ver
 have C:=fun j=>HW.out.1.cell j
 have D:=fun j=>HW.out.2.2.1.cell j
 have F:=fun j=>HW.out.2.2.1.free j
 rcases (show v=1∨v=2∨v=3∨v=4 by omega) with rfl | rfl | rfl | rfl
 focus
  have hp:=HOK.out.price rfl
  have c4:W.cell? ⟨w.heap.size,4,none⟩=some (.int .i64 e.price):=C 4
  have d4:W.cell? ⟨w.heap.size+1+1,4,none⟩=some (.int .i64 e.price):=D 4
  have f4:=F 4
  have hw:IntKind.i64.wrap (100*e.price)=100*e.price:=by rw [κ];omega
  have HX:=Qh (HW.out.set (e2:={e with price:=100*e.price}) 4 (.int .i64 (100*e.price)) rfl)
  have HR:=Qh (show Fq 1 e={e with price:=100*e.price} by rw [Int.mul_comm];rfl)
  clear C D F HOK hp
 rotate_left
 focus
  have c0:W.cell? ⟨w.heap.size,0,none⟩=some (.int .i64 e.kind):=C 0
  have c3:W.cell? ⟨w.heap.size,3,none⟩=some (.int .i64 e.qty):=C 3
  have c5:W.cell? ⟨w.heap.size,5,none⟩=some (.int .i64 e.cur):=C 5
  have d0:W.cell? ⟨w.heap.size+1+1,0,none⟩=some (.int .i64 e.kind):=D 0
  have d3:W.cell? ⟨w.heap.size+1+1,3,none⟩=some (.int .i64 e.qty):=D 3
  have d6:W.cell? ⟨w.heap.size+1+1,6,none⟩=some (.int .i64 e.tax):=D 6
  have f0:=F 0
  have f3:=F 3
  have f6:=F 6
  have hq:=HOK.out.qty (by decide)
  have hc:=HOK.out.cur (by decide)
  have hw:IntKind.i64.wrap (0 - e.qty)= -e.qty:=by rw [κ];omega
  have hw':IntKind.i64.wrap (-e.qty)= -e.qty:=by rw [κ];omega
  have h0:=HOK.out.tax (by decide)
  have HDR:=Qh (fun c t (h:e.cur=c) (ht:taxL.getD c.toNat 0=t)=>show Fq 2 e=_ from drop_eq h ht)
  have h1:=HW.out.set (e2:={e with qty:=0}) 3 (.int .i64 0) rfl
  have h2:=h1.set (e2:={e with qty:=0,kind:=6}) 0 (.int .i64 6) rfl
  have h3:=h2.set (e2:={e with kind:=6,qty:= -e.qty}) 3 (.int .i64 (-e.qty)) rfl
  clear C D F HOK
  rcases q:decide (e.qty<0) with _ | _
  all_goals rcases kk:(e.kind==2) with _ | _
  all_goals rcases (show e.cur=0∨e.cur=1∨e.cur=2∨e.cur=3 by omega) with hcu | hcu | hcu | hcu
  all_goals first
  | (have HX:=Qh (HW.out);have HR:=Qh (show Fq 2 e=e from by rw [HDR.out 0 0 hcu rfl,γ (ε q)];exact congrArg (fun t=>{e with tax:=t}) h0.symm))
  | (have HX:=Qh (HW.out.set (e2:={e with tax:=1900}) 6 (.int .i64 1900) rfl);have HR:=Qh (show Fq 2 e={e with tax:=1900} from by rw [HDR.out 1 1900 hcu rfl,γ (ε q)]))
  | (have HX:=Qh (HW.out.set (e2:={e with tax:=2000}) 6 (.int .i64 2000) rfl);have HR:=Qh (show Fq 2 e={e with tax:=2000} from by rw [HDR.out 2 2000 hcu rfl,γ (ε q)]))
  | (have HX:=Qh (HW.out.set (e2:={e with tax:=700}) 6 (.int .i64 700) rfl);have HR:=Qh (show Fq 2 e={e with tax:=700} from by rw [HDR.out 3 700 hcu rfl,γ (ε q)]))
  | (have HX:=Qh (h1);have HR:=Qh (show Fq 2 e={e with qty:=0} from by rw [HDR.out 0 0 hcu rfl,ζ (χ q),γ (show ¬ e.kind=2 by simpa using kk)];exact congrArg (fun t=>{e with qty:=0,tax:=t}) h0.symm))
  | (have HX:=Qh (h1.set (e2:={e with qty:=0,tax:=1900}) 6 (.int .i64 1900) rfl);have HR:=Qh (show Fq 2 e={e with qty:=0,tax:=1900} from by rw [HDR.out 1 1900 hcu rfl,ζ (χ q),γ (show ¬ e.kind=2 by simpa using kk)]))
  | (have HX:=Qh (h1.set (e2:={e with qty:=0,tax:=2000}) 6 (.int .i64 2000) rfl);have HR:=Qh (show Fq 2 e={e with qty:=0,tax:=2000} from by rw [HDR.out 2 2000 hcu rfl,ζ (χ q),γ (show ¬ e.kind=2 by simpa using kk)]))
  | (have HX:=Qh (h1.set (e2:={e with qty:=0,tax:=700}) 6 (.int .i64 700) rfl);have HR:=Qh (show Fq 2 e={e with qty:=0,tax:=700} from by rw [HDR.out 3 700 hcu rfl,ζ (χ q),γ (show ¬ e.kind=2 by simpa using kk)]))
  | (have HX:=Qh (h3);have HR:=Qh (show Fq 2 e={e with kind:=6,qty:= -e.qty} from by rw [HDR.out 0 0 hcu rfl,ζ (χ q),ζ (show e.kind=2 by simpa using kk)];exact congrArg (fun t=>{e with kind:=6,qty:= -e.qty,tax:=t}) h0.symm))
  | (have HX:=Qh (h3.set (e2:={e with kind:=6,qty:= -e.qty,tax:=1900}) 6 (.int .i64 1900) rfl);have HR:=Qh (show Fq 2 e={e with kind:=6,qty:= -e.qty,tax:=1900} from by rw [HDR.out 1 1900 hcu rfl,ζ (χ q),ζ (show e.kind=2 by simpa using kk)]))
  | (have HX:=Qh (h3.set (e2:={e with kind:=6,qty:= -e.qty,tax:=2000}) 6 (.int .i64 2000) rfl);have HR:=Qh (show Fq 2 e={e with kind:=6,qty:= -e.qty,tax:=2000} from by rw [HDR.out 2 2000 hcu rfl,ζ (χ q),ζ (show e.kind=2 by simpa using kk)]))
  | (have HX:=Qh (h3.set (e2:={e with kind:=6,qty:= -e.qty,tax:=700}) 6 (.int .i64 700) rfl);have HR:=Qh (show Fq 2 e={e with kind:=6,qty:= -e.qty,tax:=700} from by rw [HDR.out 3 700 hcu rfl,ζ (χ q),ζ (show e.kind=2 by simpa using kk)]))
  all_goals
   clear h1 h2 h3 HDR h0 hq hc
   rw [hcu] at c5
   clear hcu
 iterate 16 rotate_left
 focus
  have d7:W.cell? ⟨w.heap.size+1+1,7,none⟩=some (.string ⟨e.who.toArray⟩):=D 7
  have f7:=F 7
  have HX:=Qh (HW.out.set (e2:={e with who:=[111,108,100]}) 7 (.string ⟨#[111,108,100]⟩) rfl)
  have HR:=Qh (show Fq 3 e={e with who:=[111,108,100]} from rfl)
  clear C D F HOK
 rotate_left
 focus
  have c0:W.cell? ⟨w.heap.size,0,none⟩=some (.int .i64 e.kind):=C 0
  have c3:W.cell? ⟨w.heap.size,3,none⟩=some (.int .i64 e.qty):=C 3
  have d0:W.cell? ⟨w.heap.size+1+1,0,none⟩=some (.int .i64 e.kind):=D 0
  have d2:W.cell? ⟨w.heap.size+1+1,2,none⟩=some (.int .i64 e.item):=D 2
  have f0:=F 0
  have f2:=F 2
  have h1:=(HW.out.set (e2:={e with kind:=10}) 0 (.int .i64 10) rfl).set (e2:={e with kind:=10,item:=0}) 2 (.int .i64 0) rfl
  clear C D F HOK
  rcases kk:(e.kind==4) with _ | _
  all_goals rcases qq:(e.qty==0) with _ | _
  all_goals first
  | (have HX:=Qh HW.out;clear d0 d2 f0 f2;have HR:=Qh (show Fq 4 e=e by show Cd e=e;unfold Cd;rw [γ (fun h=>(show ¬ e.kind=4 by simpa using kk) h.1)]))
  | (have HX:=Qh HW.out;clear d0 d2 f0 f2;have HR:=Qh (show Fq 4 e=e by show Cd e=e;unfold Cd;rw [γ (fun h=>(show ¬ e.qty=0 by simpa using qq) h.2)]))
  | (have HX:=Qh h1;have HR:=Qh (show Fq 4 e={e with kind:=10,item:=0} by show Cd e=_;unfold Cd;rw [ζ ⟨by simpa using kk,by simpa using qq⟩]))
  all_goals clear h1
 all_goals
  have HY1:=Qh HX.out.2.2.1
  have HY2:=Qh HX.out.2.1
  go_wp2_with (first | (with_reducible refine wpList_load_ev rfl (.tmp 5) rfl (w.heap.size+1+1) _ rfl HY1.out ?_) | (with_reducible refine wpList_store_ev rfl (.tmp 4) (.tmp 61) rfl (w.heap.size+1) evNone _ rfl rfl HY2.out ?_))
  intro W2 hz
  have HZ:=Qh (And.intro hz.out.1 (turned_blw HX.out.2.2.2 hz.out.2 (fun k hk=>by omega) HX.out.2.2.2.size))
  clear hz
  go_wp2
  exact π (Gi rfl _ _ (w.heap.size+1) _ rfl HZ.out.1) rfl ⟨by rw [HR.out],HZ.out.2⟩
def toV (v:Int) (e:Ev):Ev:=if Af v e=0 then Fb v e else evNone
def TopI (w:World) (e:Ev) (W:World):Prop:=Ai W w.heap.size e∧Ai W (w.heap.size+1) evNone∧Below w.heap.size w W
theorem TopI.start (w:World) (e:Ev):TopI w e ((w.alloc (.cells (evCs e) 38)).alloc (.cells (evCs evNone) 38)):=by
 have hb1:=below_alloc w (.cells (evCs e) 38)
 have hb2:=below_alloc (w.alloc (.cells (evCs e) 38)) (.cells (evCs evNone) 38)
 have z1:(w.alloc (.cells (evCs e) 38)).heap.size=w.heap.size+1:=Ω _ _
 exact⟨Ai.below (σ w _) hb2,by rw [←z1];exact σ _ _,Below.next hb1 hb2⟩
theorem TopI.below {w W W':World} {e:Ev} (h:TopI w e W) (hb:Below W.heap.size W W'):TopI w e W':=⟨h.1.below hb,h.2.1.below hb,Below.next h.2.2 hb⟩
theorem ref7To_any (v:Int) (e:Ev) (w:World) (hok:I3 281474976710656 e):Calls Tryz.prog 13 #[.int .i64 v,.int .i64 5,Dx e] w fun x w'=>x= .returned (.tuple #[Dx (toV v e),.int .i64 (Af v e)])∧Below w.heap.size w w':=by
 have HI:=Qh (TopI.start w e)
 have HCK:=Qh (fun W=>refCheckB_any v e W hok)
 simp only [evCs,evNone] at HI
 have HI2:=Qh HI.out.2.1
 have HI3:=Qh HI.out.1
 clear hok
 rcases q1:decide (v<1) with _ | _
 rotate_left
 focus
  have HC:=Qh (show Af v e=30 from chk30 (.inl (χ q1)))
 rotate_left
 rcases q2:decide (5<v) with _ | _
 rotate_left
 focus
  have HC:=Qh (show Af v e=30 from chk30 (.inr (χ q2)))
 iterate 2
  focus
   go_enter Tryz.func13,Tryz.ntmps13
   go_upto_region 2 with fail
   generalize (w.alloc (.cells #[.int .i64 e.kind,.int .i64 e.order,.int .i64 e.item,.int .i64 e.qty,.int .i64 e.price,.int .i64 e.cur,.int .i64 e.tax,.string ⟨e.who.toArray⟩,.int .i64 e.stamp,.string ⟨e.note.toArray⟩] 38)).alloc (.cells #[.int .i64 0,.int .i64 0,.int .i64 0,.int .i64 0,.int .i64 0,.int .i64 0,.int .i64 0,.string ⟨#[]⟩,.int .i64 0,.string ⟨#[]⟩] 38)=w0 at*
   go_wp2_with (with_reducible refine wpList_store_ev rfl (.tmp 6) (.tmp 25) rfl (w.heap.size+1) evNone evNone rfl rfl HI2.out ?_)
   intro W2 hz
   have HZ:=Qh (And.intro hz.out.1 (turned_blw HI.out.2.2 hz.out.2 (fun k hk=>by omega) HI.out.2.2.size))
   clear hz
   go_wp2
   exact π (C9 rfl _ _ (w.heap.size+1) _ _ rfl rfl HZ.out.1) rfl ⟨by unfold toV;rw [HC.out,γ (by decide)];rfl,HZ.out.2⟩
 go_enter Tryz.func13,Tryz.ntmps13
 go_wp2_with (with_reducible refine wpList_load_ev rfl (.tmp 5) rfl w.heap.size e rfl HI3.out ?_)
 generalize (w.alloc (.cells #[.int .i64 e.kind,.int .i64 e.order,.int .i64 e.item,.int .i64 e.qty,.int .i64 e.price,.int .i64 e.cur,.int .i64 e.tax,.string ⟨e.who.toArray⟩,.int .i64 e.stamp,.string ⟨e.note.toArray⟩] 38)).alloc (.cells #[.int .i64 0,.int .i64 0,.int .i64 0,.int .i64 0,.int .i64 0,.int .i64 0,.int .i64 0,.string ⟨#[]⟩,.int .i64 0,.string ⟨#[]⟩] 38)=w0 at*
 refine(HCK.out w0).mono ?_
 rintro x w1 ⟨rfl,hb1⟩
 have HI1:=Qh (HI.out.below hb1)
 have HI4:=Qh HI1.out.2.1
 clear hb1 HI HI2 HI3 HCK
 obtain⟨c,hc⟩: ∃ c,c=Af v e:=⟨_,rfl⟩
 have HCE:=Qh hc
 have HTV:=Qh (show toV v e=if c=0 then Fb v e else evNone by rw [hc];rfl)
 rw [←hc]
 rcases q0:(c==0) with _ | _
 ·have HN:=Qh (show ¬ c=0 by simpa using q0)
  clear hc
  go_wp2_with (with_reducible refine wpList_store_ev rfl (.tmp 6) (.tmp 31) rfl (w.heap.size+1) evNone evNone rfl rfl HI4.out ?_)
  intro W2 hz
  have HZ:=Qh (And.intro hz.out.1 (turned_blw HI1.out.2.2 hz.out.2 (fun k hk=>by omega) HI1.out.2.2.size))
  clear hz
  go_wp2
  exact π (C9 rfl _ _ (w.heap.size+1) _ _ rfl rfl HZ.out.1) rfl ⟨by rw [HTV.out,γ HN.out,←HCE.out];rfl,HZ.out.2⟩
 obtain rfl:c=0:=by simpa using q0
 have HST:=Qh (step_of hc.symm)
 clear hc q0
 go_wp2
 go_loopw [9] (fun iv wr=> ∃ (u:Int) (e':Ev),iv= .int .i64 u∧Hid (TopI w e' wr∧StepOk u e'∧Fb u e'=Fb v e)) (fun iv _=>5 - (intOf iv).toNat)
 case atStart=>exact⟨v,e,rfl,Qh ⟨HI1.out,HST.out,rfl⟩⟩
 case round=>
  obtain⟨u,e',rfl,HR⟩:=hrel
  have hu:=HR.out.2.1.ver
  have HR1:=Qh HR.out.1.1
  have HR2:=Qh HR.out.1.2.1
  clear HI1 HST HI4
  by_cases h5:u<5
  ·have hw:IntKind.i64.wrap (u+1)=u+1:=by rw [κ];omega
   go_wp2_with (with_reducible refine wpList_load_ev rfl (.tmp 5) rfl w.heap.size e' rfl HR1.out ?_)
   refine(ref7Step_any u e' wr h5 HR.out.2.1).mono ?_
   rintro x w2 ⟨rfl,hb2⟩
   have HI2:=Qh (HR.out.1.below hb2)
   have HI5:=Qh HI2.out.1
   clear hb2
   obtain⟨E,hE⟩: ∃ E,E=Fq u e':=⟨_,rfl⟩
   have HN:=Qh (show StepOk (u+1) E∧Fb (u+1) E=Fb v e from by rw [hE];exact⟨step_next h5 HR.out.2.1,(rise_step e' ⟨hu.1,by omega⟩).trans HR.out.2.2⟩)
   rw [←hE]
   clear hE HR
   go_wp2_with (with_reducible refine wpList_store_ev rfl (.tmp 5) (.tmp 41) rfl w.heap.size e' E rfl rfl HI5.out ?_)
   intro W2 hz
   have HZ:=Qh (show TopI w E W2 from⟨hz.out.1,(hz.out.2.block _ HI2.out.2.1.lt (by omega)).trans HI2.out.2.1,turned_blw HI2.out.2.2 hz.out.2 (fun k hk=>by omega) HI2.out.2.2.size⟩)
   clear hz
   go_wp2
   go_roundw
   case rel=>exact⟨u+1,E,by go_num,Qh ⟨HZ.out,HN.out⟩⟩
   case measure=>simp [intOf];omega
  ·obtain rfl:u=5:=by omega
   have HE:=Qh (show e'=Fb v e from HR.out.2.2)
   go_wp2_with (first | (with_reducible refine wpList_load_ev rfl (.tmp 5) rfl w.heap.size e' rfl HR1.out ?_) | (with_reducible refine wpList_store_ev rfl (.tmp 6) (.tmp 42) rfl (w.heap.size+1) evNone e' rfl rfl HR2.out ?_))
   intro W2 hz
   have HZ:=Qh (And.intro hz.out.1 (turned_blw HR.out.1.2.2 hz.out.2 (fun k hk=>by omega) HR.out.1.2.2.size))
   clear hz
   go_wp2
   exact π (C9 rfl _ _ (w.heap.size+1) _ _ rfl rfl HZ.out.1) rfl ⟨by rw [HTV.out,ζ True.intro,HE.out,←HCE.out];rfl,HZ.out.2⟩
theorem brow_one {w:World} {v:Value} {l:List UInt8} (h:A2 w v l):v.oneCell'=true:=by
 obtain⟨oa,cap,rfl,_⟩:=h
 rfl
theorem oppCs_all (o:OpS) {rv:Value} (h:rv.oneCell'=true):(Du o rv).all (·.oneCell')=true:=
 Array.all_eq_true_iff_forall_mem.2 (by
  intro u hu
  simp only [Du,List.mem_toArray,Γ,List.not_mem_nil,or_false] at hu
  rcases hu with rfl | rfl | rfl | rfl | rfl | rfl | rfl | rfl | rfl | rfl | rfl | rfl | rfl | rfl | rfl | rfl
  all_goals first
  | rfl
  | exact h)
def oppNone:OpS:=⟨0,0,evNone,[],0,0,0⟩
def OppBlk (w:World) (g:Nat) (o:OpS) (rv:Value):Prop:=w.heap[g]? =some (.cells (Du o rv) 41 (0,0))
theorem wpList_load_opp {ops:Array Oper} {rest:List Oper} {q:Oper} {a:Act} {w:World} {Q:Exit→Act→World→Prop} (hgd:q.guard=none) (x:Operand) (ho:q.op= .load 41 x)
  (b off:Nat) (o:OpS) (rv:Value) (hx:a.eval x= .pointer (some ⟨b,off,none⟩)) (hE:w.rangeAt b off (Du o rv).toList)
  (h:wpList Tryz.prog ops Q rest (a.put q.dst (.agg (Du o rv))) w):wpList Tryz.prog ops Q (q::rest) a w:=
 wpList_load_mid hgd 41 x ho b off hx (Du o rv).toList _ hE Tryz.underlying41 rfl (by rw [oppInfo];rfl) h
theorem wpList_store_opp {ops:Array Oper} {rest:List Oper} {q:Oper} {a:Act} {w:World} {Q:Exit→Act→World→Prop} (hgd:q.guard=none) (x y:Operand) (ho:q.op= .store 41 x y)
  (g:Nat) (o o':OpS) (rv rv':Value) (hr:rv'.oneCell'=true) (hx:a.eval x= .pointer (some ⟨g,0,none⟩)) (hy:a.eval y= .agg (Du o' rv')) (hE:OppBlk w g o rv)
  (h: ∀ W,Hid (OppBlk W g o' rv'∧Turned (fun k=>k=g) w W)→wpList Tryz.prog ops Q rest (a.put q.dst undef) W):wpList Tryz.prog ops Q (q::rest) a w:=
 wpList_store_row hgd 41 x y ho g (Du o' rv') hx hy 41 (Du o rv) hE (by rw [oppInfo];rfl) rfl (oppCs_all o' hr) (h _ (Qh ⟨setRow_heap w g _ _ _ _ hE,setRow_trn _ _ _⟩))
structure KpI (w2:World) (n0 f m p q b i:Nat) (d:Ab) (s:Cb) (E:List (List UInt8)) (kv:Value) (wr:World):Prop where
 at':Jm (fun j=>n0≤j∧kv.ownBlock≠some j) wr f m b d s E (2*i)
 bl:Below n0 w2 wr
 cfg:s.stride=p∧s.segEv=q
 big:Big d s i
 row:EvOwn wr n0 kv (E.map upV)
theorem storeKeeps_walk0 (ops:List OpS) (sv:Value) (a c:Int) (w:World) (hs:OpRow w sv ops) (hn:NibTab w) (ht:Bo w) (hg:4≤w.heap.size):
  Calls Tryz.prog 3 #[sv,.agg #[.int .i64 a,.int .i64 c]] w fun x w'=>x= .returned (.bool true)∧Below w.heap.size w w':=by
 obtain⟨oa,cap,rfl,hln,hrow⟩:=hs
 have HB0:=Qh (below_alloc w (.cells #[.int .i64 a,.int .i64 c] 24))
 have HC0:=Qh (show (w.alloc (.cells #[.int .i64 a,.int .i64 c] 24)).heap[w.heap.size]? =some (.cells #[.int .i64 a,.int .i64 c] 24 (0,0)) from σ w _)
 have HN:=Qh hn
 have HT:=Qh ht
 have HG:=Qh hg
 have HLN:=Qh hln
 have HROW:=Qh hrow
 clear hn ht hg hln hrow
 go_enter Tryz.func3,Tryz.ntmps3
 go_wp2_with fail
 generalize w.alloc (.cells #[.int .i64 a,.int .i64 c] 24)=w0 at*
 refine(head19_any w0 (HN.out.below HB0.out) (HT.out.below HB0.out) (μ HG.out HB0.out.size)).mono ?_
 rintro x w1 ⟨rfl,hb1⟩
 have HB1:=Qh (Below.next HB0.out hb1)
 have HC1:=Qh (show w1.heap[w.heap.size]? =some (.cells #[.int .i64 a,.int .i64 c] 24 (0,0)) from(hb1.block _ (δ.1 HC0.out).1).trans HC0.out)
 have a0:w1.cell? ⟨w.heap.size,0,none⟩=some (.int .i64 a):=cell_of_row _ _ 0 _ _ _ HC1.out
 have a1:w1.cell? ⟨w.heap.size,1,none⟩=some (.int .i64 c):=cell_of_row _ _ 1 _ _ _ HC1.out
 clear hb1 HB0 HC0
 go_wp2_with fail
 clear a0 a1
 refine(stRight_any a c w1).mono ?_
 rintro x w2 ⟨rfl,hb2⟩
 have HB2:=Qh (Below.next HB1.out hb2)
 have HC2:=Qh (show w2.heap[w.heap.size]? =some (.cells #[.int .i64 a,.int .i64 c] 24 (0,0)) from(hb2.block _ (δ.1 HC1.out).1).trans HC1.out)
 clear hb2 HB1 HC1
 rcases hr:(decide (1≤a)&&decide (a≤64)&&decide (1≤c)&&decide (c≤512)) with _ | _
 ·have HBAD:=Qh (show a<1∨64<a∨c<1∨512<c from by
   simp only [Bool.and_eq_false_iff,decide_eq_false_iff_not] at hr
   omega)
  go_wp2_with fail
  have hbd:Below w2.heap.size w2 (World.drew w2):=below_drewN' w2 1
  refine ω (S:=fun w'=>w'.heap[w.heap.size]? =some (.cells #[.int .i64 a,.int .i64 c] 24 (0,0))) (by kernel_rfl) ((hbd.block _ (δ.1 HC2.out).1).trans HC2.out) (fun hHeld=> ?_)
  have HB3:=Qh (Below.next HB2.out hbd)
  clear hbd hr
  generalize World.drew w2=wd at*
  refine tkl 1 w.heap.size 0 [.int .i64 a,.int .i64 c] rfl rfl (fun w' h j u hj=>by rw [Nat.zero_add,cell_of_row w' w.heap.size j _ _ _ h];simpa using hj) Tryz.underlying24 rfl (by rw [cfInfo];rfl) ?_
  simp only [pA,pB,pC,pD]
  refine Rd 0 rfl fun K hK=> ?_
  go_simp
  refine(fsNew_any 1000 wd).mono ?_
  rintro x w3 ⟨f,m,rfl,_,_,_,hb3⟩
  have HB4:=Qh (Below.next HB3.out hb3)
  go_wp2_with fail
  refine hK.out _ _ ((hb3.block _ (δ.1 hHeld).1).trans hHeld) (fun hHeld=> ?_)
  clear hK K hb3
  refine Rd 2 rfl fun K hK=> ?_
  go_simp
  refine(stoOpen_bad a c w3 f HBAD.out).mono ?_
  rintro x w4 ⟨rfl,hb4⟩
  have HB5:=Qh (Below.next HB4.out hb4)
  go_wp2_with fail
  refine hK.out _ _ ((hb4.block _ (δ.1 hHeld).1).trans hHeld) (fun hHeld=> ?_)
  clear hK K hb4
  refine tq 3 rfl ?_
  refine tq 4 rfl ?_
  refine tq 5 rfl ?_
  refine tq 6 rfl ?_
  refine tq 7 rfl ?_
  refine Λ (by kernel_rfl) ?_ _
  clear hHeld
  go_wp2
  go_ret
  exact⟨rfl,HB5.out⟩
 have hrr:=hr
 simp only [Bool.and_eq_true,decide_eq_true_eq] at hrr
 obtain⟨p,rfl⟩: ∃ p:Nat,a=(p:Int):=⟨a.toNat,by omega⟩
 obtain⟨q,rfl⟩: ∃ q:Nat,c=(q:Int):=⟨c.toNat,by omega⟩
 have HP:=Qh (show 1≤p∧p≤64 by omega)
 have HQ:=Qh (show 1≤q∧q≤512 by omega)
 clear hrr
 have a0:w2.cell? ⟨w.heap.size,0,none⟩=some (.int .i64 (p:Int)):=cell_of_row _ _ 0 _ _ _ HC2.out
 have a1:w2.cell? ⟨w.heap.size,1,none⟩=some (.int .i64 (q:Int)):=cell_of_row _ _ 1 _ _ _ HC2.out
 go_wp2_with fail
 clear a0 a1 hr
 refine(stFree_any p q w2 (HN.out.below HB2.out) (μ HG.out HB2.out.size) HP.out HQ.out).mono ?_
 rintro x w3 ⟨f,m,b,d,rfl,ho,hfi,hro⟩
 have hbn:=below_alloc w3 (.cells #[] 38)
 have hlo:=G8 ho.2 (ξ _)
 have HI0:=Qh (show KpI w2 w2.heap.size f m p q b 0 d ⟨0,22,[],p,q,firstM,false,0⟩ [] (.slice (some ⟨w3.heap.size,0,none⟩) 0 0) (w3.alloc (.cells #[] 38)) from
  ⟨(ho.1.narrow hbn).mono fun j hj=>⟨hj.1,fun hc=>by
   have h1:=ψ hc
   have h2:=hj.2
   rw [Ω] at h2
   simp only at h1
   omega⟩,hlo.trans (hbn.mono hlo.size),⟨rfl,rfl⟩,⟨hro,by rw [hfi,Ko.1];omega,by rw [hfi,Ko.2];omega,ξ _⟩,own_fresh w3 _ 10 _ hlo.size⟩)
 clear ho hfi hro hbn hlo
 go_wp2
 go_loopw [4,8,9,10,12,13,15] (fun _ sp kv iv _ _ _ wr=> ∃ (i b:Nat) (d:Ab) (s:Cb) (E:List (List UInt8)) (ku:Value),i≤ops.length∧i≤200∧iv= .int .i64 (i:Int)∧sp= .pointer (some ⟨b,0,none⟩)∧ku=kv∧Hid (KpI w2 w2.heap.size f m p q b i d s E ku wr)) (fun _ _ _ iv _ _ _ _=>201 - (intOf iv).toNat)
 case atStart=>exact⟨0,b,d,_,_,_,θ _,by decide,rfl,rfl,rfl,HI0⟩
 case round=>
  obtain⟨i,b,d,s,E,ku,hi1,hi2,rfl,rfl,rfl,HI⟩:=hrel
  clear HI0
  have HBR:=Qh (HB2.out.trans (HI.out.bl.mono HB2.out.size))
  have HCR:=Qh (show wr.heap[w.heap.size]? =some (.cells #[.int .i64 (p:Int),.int .i64 (q:Int)] 24 (0,0)) from(HI.out.bl.block _ (δ.1 HC2.out).1).trans HC2.out)
  by_cases hgo:i<ops.length∧i<200
  ·have q1:(i:Int)<(ops.length:Int):=by omega
   have q2:(i:Int)<200:=by omega
   have hw1:IntKind.i64.wrap ((i:Int)+1)=(i:Int)+1:=by rw [κ];omega
   obtain⟨o,ho⟩: ∃ o,ops[i]? =some o:=⟨_,Δ hgo.1⟩
   obtain⟨hok,ob,off,rv,rfl,hrg,hrv⟩:=HROW.out i o ho
   have HOK:=Qh hok
   have HRW:=Qh (Ax hrg HBR.out)
   have HRV:=Qh (hrv.below HBR.out)
   have HONE:=Qh (brow_one hrv)
   have hbz:=below_alloc wr (.cells (Du oppNone (.slice none 0 0)) 41)
   have HZ:=Qh (show OppBlk (wr.alloc (.cells (Du oppNone (.slice none 0 0)) 41)) wr.heap.size oppNone (.slice none 0 0)∧Below wr.heap.size wr (wr.alloc (.cells (Du oppNone (.slice none 0 0)) 41)) from⟨σ wr _,hbz⟩)
   simp only [Du,oppNone,evNone] at HZ
   have HZ1:=Qh (show OppBlk _ wr.heap.size oppNone (.slice none 0 0) from HZ.out.1)
   clear ho hok hrg hrv hbz
   go_wp2_with (first | (with_reducible refine wpList_load_opp rfl (.tmp 52) rfl ob (off+i*16) o rv rfl HRW.out ?_) | (with_reducible refine wpList_store_opp rfl (.tmp 11) (.tmp 53) rfl wr.heap.size oppNone o (.slice none 0 0) rv HONE.out rfl rfl HZ1.out ?_))
   intro W1 hz
   have HW1:=Qh (show OppBlk W1 wr.heap.size o rv∧Below wr.heap.size wr W1 from⟨hz.out.1,turned_blw HZ.out.2 hz.out.2 (fun k hk=>by omega) HZ.out.2.size⟩)
   clear hz HZ HZ1 HRW HONE
   have HA1:=Qh (HI.out.at'.narrow HW1.out.2)
   have HKB:=Qh (HI.out.big.up (Nat.le_succ i))
   have c0:W1.cell? ⟨wr.heap.size,0,none⟩=some (.int .i64 o.k):=cell_of_row _ _ 0 _ _ _ HW1.out.1
   rcases q0:(o.k==0) with _ | _
   rotate_left
   ·have HE:=Qh (op_ev HW1.out.1)
    have c1:W1.cell? ⟨wr.heap.size,1,none⟩=some (.int .i64 o.v):=cell_of_row _ _ 1 _ _ _ HW1.out.1
    have HCA:=Qh (atAppend (v:=o.v) (e:=o.e) HA1.out (by omega) HOK.out.ev)
    go_wp2_with (with_reducible refine wpList_load_evAt rfl (.tmp 61) rfl wr.heap.size 2 o.e rfl HE.out ?_)
    clear c0 c1
    refine HCA.out.mono ?_
    rintro x w5 ⟨⟨r1,r2⟩,d1,s1,E1,rfl,ho1,hc1⟩
    have HO5:=Qh (ho1.wide HW1.out.2)
    have HOB:=Qh (show OppBlk w5 wr.heap.size o rv from(ho1.2.block _ (δ.1 HW1.out.1).1 fun hc=>by
     have h1:=hc.2
     have h2:=(δ.1 HW1.out.1).1
     omega).trans HW1.out.1)
    obtain⟨cE,hcE⟩: ∃ cE,cE=Af o.v o.e:=⟨_,rfl⟩
    obtain⟨T,hT⟩: ∃ T,T=toV o.v o.e:=⟨_,rfl⟩
    have HAP:=Qh (show r2=cE∧(cE≠0→E1=E∧s1=s∧d1=d)∧(cE=0→r1=(E.length:Int)+1∧E1.map upV=E.map upV++[T]∧E1.length=E.length+1∧Big d1 s1 (i+1)∧s1.stride=p∧s1.segEv=q) from by
     rcases hc1 with⟨h1,h2,h3,h4,h5⟩ | ⟨h1,h2⟩
     ·simp only [Prod.mk.injEq] at h2
      rw [←hcE] at h1 h2
      exact⟨h2.2,fun _=>⟨h3,h4,h5⟩,fun h=>absurd h h1⟩
     ·rw [←hcE] at h1
      obtain⟨h3,h4⟩:=HI.out.big.push HI.out.at'.lim (by omega) (by omega) (pack_body (by rw [←hcE];exact h1)).2 h2
      simp only [Prod.mk.injEq] at h3
      refine⟨h3.2.trans h1.symm,fun h=>absurd h1 h,fun _=>⟨h3.1,?_,by rw [h4];simp,HI.out.big.grow h2.1 (ξ _),h2.1.cfg.1.trans HI.out.cfg.1,h2.1.cfg.2.trans HI.out.cfg.2⟩⟩
      rw [h4,List.map_append,hT]
      unfold toV
      rw [←hcE,ζ h1]
      show _++[upV (J7 o.v o.e)]=_
      rw [upV_pack (by rw [←hcE];exact h1)])
    obtain rfl:=HAP.out.1
    have HE5:=Qh (op_ev HOB.out)
    have c1:w5.cell? ⟨wr.heap.size,1,none⟩=some (.int .i64 o.v):=cell_of_row _ _ 1 _ _ _ HOB.out
    have HTO:=Qh (ref7To_any o.v o.e w5 HOK.out.ev)
    rw [←hcE,←hT] at HTO
    clear ho1 hc1 HCA HE HA1 hcE hT
    go_wp2_with (with_reducible refine wpList_load_evAt rfl (.tmp 69) rfl wr.heap.size 2 o.e rfl HE5.out ?_)
    clear c1
    refine HTO.out.mono ?_
    rintro x w6 ⟨rfl,hb6⟩
    have HZ6:=Qh (show Ai (w6.alloc (.cells (evCs evNone) 38)) w6.heap.size evNone∧Below w6.heap.size w6 (w6.alloc (.cells (evCs evNone) 38)) from⟨σ w6 _,below_alloc _ _⟩)
    simp only [evCs,evNone] at HZ6
    have HZ7:=Qh (show Ai _ w6.heap.size evNone from HZ6.out.1)
    have HB6:=Qh hb6
    clear hb6 HTO HE5 HOB
    go_wp2_with (with_reducible refine wpList_store_ev rfl (.tmp 14) (.tmp 72) rfl w6.heap.size evNone T rfl rfl HZ7.out ?_)
    intro W7 hz7
    have HE7:=Qh (show Ai W7 w6.heap.size T from hz7.out.1)
    have HB7:=Qh (show Below w5.heap.size w5 W7 from Below.next HB6.out (turned_blw HZ6.out.2 hz7.out.2 (fun k hk=>by omega) HZ6.out.2.size))
    clear hz7 HZ6 HZ7 HB6
    have HA7:=Qh (HO5.out.1.below HB7.out)
    have HR7:=Qh (show EvOwn W7 w2.heap.size ku (E.map upV) from own_later (evOwn_keep HI.out.row HO5.out.2 fun k hk hc=>hc.2 hk) HB7.out)
    have HL7:=Qh (show Below w2.heap.size w2 W7 from HI.out.bl.trans (((G8 (HO5.out.2.mono fun k hk=>hk.1) HI.out.bl.size).trans (HB7.out.mono (μ HI.out.bl.size HO5.out.2.size)))))
    rcases q5:(r2==0) with _ | _
    ·obtain⟨rfl,rfl,rfl⟩:=HAP.out.2.1 (by simpa using q5)
     go_wp2
     go_roundw
     case rel=>exact⟨i+1,b,d1,s1,E1,ku,by omega,by omega,by go_num,rfl,rfl,Qh ⟨HA7.out.up (by omega),HL7.out,HI.out.cfg,HKB.out,HR7.out⟩⟩
     case measure=>simp [intOf];omega
    ·obtain rfl:r2=0:=by simpa using q5
     obtain⟨rfl,h2,h3,h4,h5,h6⟩:=HAP.out.2.2 rfl
     have HN7:=Qh (And.intro h2 (And.intro h3 (And.intro h4 (And.intro h5 h6))))
     have hlE:=HI.out.at'.lim.len
     have hkl:(E.map upV).length≤1000000:=by rw [List.length_map];omega
     clear h2 h3 h4 h5 h6 HAP q5
     go_wp2_with (first | (with_reducible refine wpList_load_ev rfl (.tmp 14) rfl w6.heap.size T rfl HE7.out ?_) | (with_reducible refine wpList_appEv (v:=ku) (e:=T) rfl (.tmp 79) (.tmp 81) rfl rfl rfl rfl HR7.out HL7.out.size hkl ?_))
     intro kn wn hkn htn hnn
     have HKN:=Qh (show EvOwn wn w2.heap.size kn (E1.map upV) by rw [HN7.out.1];exact hkn)
     have HAN:=Qh (show Jm (fun j=>w2.heap.size≤j∧kn.ownBlock≠some j) wn f m b d1 s1 E1 (2*(i+1)) from
      ((HA7.out.off htn fun k hk=>⟨evOwn_no HR7.out k hk,fun hc=>hc.2 hk,by have:=(World.ownsRow.lt HR7.out k hk).1;have:=HG.out;have:=HB2.out.size;omega⟩).mono fun j hj=>⟨hj.1.1,fun hc=>by
       rcases hnn j hc with h | h
       ·exact hj.1.2 h
       ·have h1:=(World.ownsRow.lt hkn j hc).2
        have h2:=hj.2
        omega⟩).up (by omega))
     have HLN7:=Qh (show Below w2.heap.size w2 wn from turned_blw HL7.out htn (fun k hk=>(World.ownsRow.lt HR7.out k hk).1) HL7.out.size)
     obtain⟨ko,kc,hsh,_,_⟩:=Ac HKN.out
     rw [List.length_map,HN7.out.2.1] at hsh
     subst hsh
     clear hkn htn hnn
     go_wp2
     go_roundw
     case rel=>exact⟨i+1,b,d1,s1,E1,_,by omega,by omega,by go_num,rfl,rfl,Qh ⟨HAN.out,HLN7.out,HN7.out.2.2.2,HN7.out.2.2.1,HKN.out⟩⟩
     case measure=>simp [intOf];omega
   rcases q3:(o.k==1) with _ | _
   rotate_left
   ·go_wp2
    go_roundw
    case rel=>exact⟨i+1,b,d,s,E,ku,by omega,by omega,by go_num,rfl,rfl,Qh ⟨(HI.out.at'.below HW1.out.2).up (by omega),HI.out.bl.trans (HW1.out.2.mono HI.out.bl.size),HI.out.cfg,HKB.out,own_later HI.out.row HW1.out.2⟩⟩
    case measure=>simp [intOf];omega
   ·have HST:=Qh (by have:=stStep_any o rv HOK.out (HRV.out.below HW1.out.2) HA1.out (by omega) (fun j hj hc=>by have:=HG.out;have:=HB2.out.size;have:=hc.1.1;omega) (HN.out.below (Below.next HBR.out HW1.out.2)) (HT.out.below (Below.next HBR.out HW1.out.2));rw [HI.out.cfg.1,HI.out.cfg.2] at this;exact this)
    have HCF:=Qh (show W1.heap[w.heap.size]? =some (.cells (Kh p q) 24 (0,0)) from(HW1.out.2.block _ (δ.1 HCR.out).1).trans HCR.out)
    have HRO:=Qh (show W1.rangeAt wr.heap.size 0 (Du o rv).toList from fun j u hj=>by rw [Nat.zero_add,cell_of_row _ _ j _ _ _ HW1.out.1];simpa using hj)
    go_wp2_with (first | (with_reducible refine wpList_load_opp rfl (.tmp 11) rfl wr.heap.size 0 o rv rfl HRO.out ?_) | (with_reducible refine wpList_load_cf rfl (.tmp 3) rfl w.heap.size p q rfl HCF.out ?_))
    clear c0
    refine HST.out.mono ?_
    rintro x w5 ⟨b',d',s',E',rfl,ho,hw,he⟩
    have hne:o.k≠0∧o.k≠1:=⟨by simpa using q0,by simpa using q3⟩
    obtain rfl:=he hne
    have HO5:=Qh (ho.wide HW1.out.2)
    have HWI:=Qh hw
    clear ho hw he hne HST HRO HCF
    go_wp2
    go_roundw
    case rel=>exact⟨i+1,b',d',s',E',ku,by omega,by omega,by go_num,rfl,rfl,Qh ⟨HO5.out.1,HI.out.bl.trans (G8 (HO5.out.2.mono fun k hk=>hk.1) HI.out.bl.size),⟨HWI.out.cfg.1.trans HI.out.cfg.1,HWI.out.cfg.2.trans HI.out.cfg.2⟩,HI.out.big.wide HWI.out,evOwn_keep HI.out.row HO5.out.2 fun k hk hc=>hc.2 hk⟩⟩
    case measure=>simp [intOf];omega
  ·have HAT:=Qh (HI.out.at'.up (show 2*i≤400 by omega))
   have HBW:=Qh HI.out.bl
   have HRE:=Qh (atRead (from_:=1) HAT.out (by decide) (HT.out.below HBR.out))
   have HKR:=Qh HI.out.row
   have hlE:=HI.out.at'.lim.len
   obtain⟨wo,rfl⟩: ∃ wo:World,wo=wr:=⟨_,rfl⟩
   clear HI
   obtain⟨ko,kc,hsh,_,_⟩:=Ac HKR.out
   rw [List.length_map] at hsh
   subst hsh
   rcases hq1:decide (i<ops.length) with _ | _
   rotate_left
   focus
    have hq2:decide ((i:Int)<200)=false:=ρ (by have:=χ hq1;omega)
   all_goals
    go_wp2_with fail
    refine HRE.out.mono ?_
    rintro x w4 ⟨v,r,d1,n,rfl,ho,_,_,hres⟩
    rcases hres with⟨_,hbad,_,_⟩ | ⟨rfl,_,hrs,_⟩
    ·omega
    rw [fromN_all (by decide)] at hrs
    have HA4:=Qh ho.1
    have HB4:=Qh (show Below w.heap.size w w4 from HBR.out.trans ((G8 (ho.2.mono fun k hk=>hk.1) HBW.out.size).mono HB2.out.size))
    have HK4:=Qh (show EvOwn w4 w2.heap.size (.slice ko E.length kc) (E.map upV) from evOwn_keep HKR.out ho.2 fun k hk hc=>hc.2 hk)
    have HR4:=Qh hrs
    obtain⟨ro,rc,hsh,_,_⟩:=Ac hrs
    rw [numb_length] at hsh
    subst hsh
    clear ho hrs HRE HKR HAT
    go_wp2_with fail
    refine(atLast HA4.out (by decide)).mono ?_
    rintro x w5 ⟨rfl,hb5⟩
    have HI5:=Qh (show EvOwn w5 w2.heap.size (.slice ko E.length kc) (E.map upV)∧Jy w5 wo.heap.size (.slice ro E.length rc) (numb 1 E)∧Below w.heap.size w w5 from⟨own_later HK4.out hb5,own_later HR4.out hb5,Below.next HB4.out hb5⟩)
    clear hb5 HK4 HR4 HA4 HB4 HBR HCR HBW
    go_wp2
    go_loopw [4,18,118] (fun _ _ jv wr=> ∃ j:Nat,j≤E.length∧jv= .int .i64 (j:Int)∧Hid (EvOwn wr w2.heap.size (.slice ko E.length kc) (E.map upV)∧Jy wr wo.heap.size (.slice ro E.length rc) (numb 1 E)∧Below w.heap.size w wr)) (fun _ _ jv _=>E.length - (intOf jv).toNat)
    case atStart=>exact⟨0,θ _,rfl,HI5⟩
    case round=>
     obtain⟨j,hj1,rfl,HJ⟩:=hrel
     clear HI5
     by_cases hj:j<E.length
     ·have k1:(j:Int)<(E.length:Int):=by omega
      have hw2:IntKind.i64.wrap ((j:Int)+1)=(j:Int)+1:=by rw [κ];omega
      obtain⟨b5,hb5⟩: ∃ b5,E[j]? =some b5:=⟨_,Δ hj⟩
      obtain⟨kg,kc',hks,_⟩:=B8 HJ.out.1 (by rw [List.length_map];omega)
      simp only [Value.slice.injEq] at hks
      obtain⟨rfl,hz,rfl⟩:=hks
      clear hz
      obtain⟨rg,rc',hks,_⟩:=B8 HJ.out.2.1 (by rw [numb_length];omega)
      simp only [Value.slice.injEq] at hks
      obtain⟨rfl,hz,rfl⟩:=hks
      clear hz
      obtain⟨e5,he5⟩: ∃ e5,e5=upV b5:=⟨_,rfl⟩
      have HKA:=Qh (show wr.rangeAt kg (j*10) (evCs e5).toList from own_at (fun e=>(evCs e).toList) (E.map upV) (fun _=>rfl) HJ.out.1 rfl (by rw [List.getElem?_map,hb5,he5];rfl))
      have HRA:=Qh (show wr.rangeAt rg (j*11) (rsCs ((j:Int)+1,e5)).toList from own_at (fun r=>(rsCs r).toList) (numb 1 E) (fun _=>rfl) HJ.out.2.1 rfl (by rw [numb_at E 1 j b5 hb5,he5];congr 2;omega))
      have HNE:=Qh (fun W=>show (binOp .neq 38 (.agg #[.int .i64 e5.kind,.int .i64 e5.order,.int .i64 e5.item,.int .i64 e5.qty,.int .i64 e5.price,.int .i64 e5.cur,.int .i64 e5.tax,.string ⟨e5.who.toArray⟩,.int .i64 e5.stamp,.string ⟨e5.note.toArray⟩]) (.agg #[.int .i64 e5.kind,.int .i64 e5.order,.int .i64 e5.item,.int .i64 e5.qty,.int .i64 e5.price,.int .i64 e5.cur,.int .i64 e5.tax,.string ⟨e5.who.toArray⟩,.int .i64 e5.stamp,.string ⟨e5.note.toArray⟩])).run Tryz.prog W= .ok (.bool false) W from by have:=Im e5 e5 W;rw [(evSame_iff _ _).2 rfl] at this;exact this)
      clear hb5 he5
      go_wp2_with fail
      have hbd:Below wr.heap.size wr (World.drew wr):=below_drewN' wr 1
      refine ω (S:=fun w'=>w'.rangeAt kg (j*10) (evCs e5).toList∧w'.rangeAt rg (j*11) (rsCs ((j:Int)+1,e5)).toList) (by kernel_rfl) ⟨Ax HKA.out hbd,Ax HRA.out hbd⟩ (fun hHeld=> ?_)
      have HJ2:=Qh (show EvOwn (World.drew wr) w2.heap.size (.slice (some ⟨kg,0,none⟩) E.length kc) (E.map upV)∧Jy (World.drew wr) wo.heap.size (.slice (some ⟨rg,0,none⟩) E.length rc) (numb 1 E)∧Below w.heap.size w (World.drew wr) from⟨own_later HJ.out.1 hbd,own_later HJ.out.2.1 hbd,Below.next HJ.out.2.2 hbd⟩)
      clear hbd HJ HKA HRA
      generalize World.drew wr=wd at*
      refine tq 0 rfl ?_
      refine tq 1 rfl ?_
      refine tq 2 rfl ?_
      refine tq 3 rfl ?_
      have FX1:=Qh (fun(wF:World) (hSw:(fun w'=>w'.rangeAt kg (j*10) (evCs e5).toList∧w'.rangeAt rg (j*11) (rsCs ((j:Int)+1,e5)).toList) wF)=>((show wF.cell? ⟨rg,j*11,none⟩=some (.int .i64 ((j:Int)+1)) from hSw.2 0 _ rfl)))
      refine tf FX1 4 rfl ?_
      clear FX1
      have FX2:=Qh (fun(wF:World) (hSw:(fun w'=>w'.rangeAt kg (j*10) (evCs e5).toList∧w'.rangeAt rg (j*11) (rsCs ((j:Int)+1,e5)).toList) wF)=>(hw2))
      refine tf FX2 5 rfl ?_
      refine tf FX2 6 rfl ?_
      clear FX2
      refine tq 7 rfl ?_
      refine tq 8 rfl ?_
      refine tq 9 rfl ?_
      refine tq 10 rfl ?_
      refine tq 11 rfl ?_
      refine tq 12 rfl ?_
      refine tkl 13 rg (j*11+1) [.int .i64 e5.kind,.int .i64 e5.order,.int .i64 e5.item,.int .i64 e5.qty,.int .i64 e5.price,.int .i64 e5.cur,.int .i64 e5.tax,.string ⟨e5.who.toArray⟩,.int .i64 e5.stamp,.string ⟨e5.note.toArray⟩] rfl rfl (fun w' h i u hi=>by have:=h.2 (i+1) u (by simpa [rsCs] using hi);rwa [Nat.add_assoc,Nat.add_comm 1]) Tryz.underlying38 rfl (by rw [evInfo];rfl) ?_
      simp only [pA,pB,pC,pD]
      refine tq 14 rfl ?_
      refine tq 15 rfl ?_
      refine tq 16 rfl ?_
      refine tkl 17 kg (j*10) [.int .i64 e5.kind,.int .i64 e5.order,.int .i64 e5.item,.int .i64 e5.qty,.int .i64 e5.price,.int .i64 e5.cur,.int .i64 e5.tax,.string ⟨e5.who.toArray⟩,.int .i64 e5.stamp,.string ⟨e5.note.toArray⟩] rfl rfl (fun w' h i u hi=>h.1 i u hi) Tryz.underlying38 rfl (by rw [evInfo];rfl) ?_
      simp only [pA,pB,pC,pD]
      have FX3:=Qh (fun(wF:World) (hSw:(fun w'=>w'.rangeAt kg (j*10) (evCs e5).toList∧w'.rangeAt rg (j*11) (rsCs ((j:Int)+1,e5)).toList) wF)=>(HNE.out wF))
      refine tf FX3 18 rfl ?_
      clear FX3
      refine tq 19 rfl ?_
      refine Λ (by kernel_rfl) ?_ _
      clear hHeld
      go_wp2
      go_roundw
      case rel=>exact⟨j+1,by omega,by go_num,HJ2⟩
      case measure=>simp [intOf];omega
     ·have k1: ¬ ((j:Int)<(E.length:Int)):=by omega
      go_wp2
      go_ret
      exact⟨rfl,HJ.out.2.2⟩
theorem storeKeeps_walk (v0:Value) (a0:List OpS) (v1:Value) (a1:Int×Int) (w:World) (h0:RdOps w v0 a0) (h1:RdCfg w v1 a1) (hL:laidMetH Tryz.prog Rows.storeKeepsRow.laid w) (hS:w.ShapedOpen Tryz.prog):
  Calls Tryz.prog 3 #[v0,v1] w fun e w'=>e= .returned (.bool true)∧Below w.heap.size w w':=by
 have hL0:laidMet Tryz.prog Rows.storeKeepsRow.laid w:=hL
 have hn:=nib_of2 rfl hL0
 unfold RdCfg at h1
 subst h1
 exact storeKeeps_walk0 a0 v0 a1.1 a1.2 w h0.row hn (tax_of2 rfl hL0) (glob_of hS)
end Go.Proofs.YtgkdenejkcngnaaGreatDoor
