import Derived.Test.YtnbnoccdnoidlaaGreatDoorPn6
set_option maxRecDepth 100000
set_option maxHeartbeats 8000000
namespace Go.Proofs.YtnbnoccdnoidlaaGreatDoor
section
open Go.RowKit
def AtS (P:Nat→Prop) (w:World) (f m b:Nat) (d:Ab) (s:Ce) (E:List (List UInt8)) (k:Nat):Prop:=
 ∃ L mv sv,SJ w b f m L d s mv sv∧(∀ i,A3 b mv f m L i→P i)∧(∀ i,w.heap.size≤i→P i)∧Lim d s E k
def Fr (P:Nat→Prop) (w w':World) (f m b:Nat) (d':Ab) (s':Ce) (E':List (List UInt8)) (k:Nat):Prop:=AtS P w' f m b d' s' E' k∧Turned P w w'
section
variable {P : Nat → Prop} {w w' : World} {f m b : Nat} {L : List Ad} {d d' : Ab} {s s' : Ce} {mv sv : Value} {E E' : List (List UInt8)} {k k' : Nat}
theorem AtS.below (h:AtS P w f m b d s E k) (hb:Below w.heap.size w w'):AtS P w' f m b d s E k:=by
 obtain⟨L,mv,sv,h1,h2,h3,h4⟩:=h
 exact⟨L,mv,sv,h1.below hb,h2,fun i hi=>h3 i (Nat.le_trans hb.size hi),h4⟩
theorem AtS.out (h1:Db w b f m L mv d' s' w') (hB: ∀ i,w.heap.size≤i→P i) (h2: ∀ i,A3 b mv f m L i→P i) (h4:Lim d' s' E' k'):Fr P w w' f m b d' s' E' k':=by
 obtain⟨L',mv',sv',a1,a2,a3⟩:=h1
 refine⟨⟨L',mv',sv',a1,fun i hi=> ?_,fun i hi=>hB i (Nat.le_trans a2.size hi),h4⟩,a2.mono h2⟩
 rcases a3 i hi with h | h
 ·exact h2 i h
 ·exact hB i h
theorem Fr.still (h:AtS P w f m b d s E k) (hb:Below w.heap.size w w'):Fr P w w' f m b d s E k:=⟨h.below hb,Turned.below hb⟩
theorem atSync (h:AtS P w f m b d s E k) (hk:k<1000):
  Calls Tryz.prog 17 #[.pointer (some ⟨b,0,none⟩)] w fun x w'=> ∃ d',x= .returned (.int .i64 0)∧Fr P w w' f m b d' s E (k+1)∧Like d d':=by
 obtain⟨L,mv,sv,h1,h2,h3,h4⟩:=h
 obtain⟨a1,a2,a3,a4,a5⟩:=sync_ok h4.ok h4.fuse
 have hst:=h4.steps
 refine(stoSync_any h1 h4.ok.seg (by omega) h4.ok.closed h4.ok.up).mono ?_
 rintro x w' hq
 unfold SyncQ at hq
 rw [a1] at hq
 obtain⟨rfl,hp⟩:=hq
 rw [show shutS s 0=s from by unfold shutS;rw [if_neg (by decide)]] at hp
 exact⟨_,rfl,AtS.out hp h3 h2 h4.sync.2,a5⟩
theorem Lim.rd (h:Lim d s E k) (n:Nat):Lim (rdD d n) s E k:=⟨h.ok.rd n,h.fuse,h.next,h.gen,h.steps,h.len⟩
theorem Lim.dec (h:Lim d s E k) (n:Nat):Lim d {s with decoded:=n} E k:=⟨h.ok.dec n,h.fuse,h.next,h.gen,h.steps,h.len⟩
def ShutS (P:Nat→Prop) (w:World) (f m:Nat) (d:Ab) (s:Ce) (E:List (List UInt8)) (k:Nat):Prop:=
 ∃ L,FsAt w f m d L∧(∀ i,foot f m L i→P i)∧NibTab w∧(4≤w.heap.size∧ ∀ i,i<4→ ¬ P i)∧(∀ i,w.heap.size≤i→P i)∧Lim d s E k
theorem atClose (h:AtS P w f m b d s E k) (hk:k<1000) (hB: ∀ i,i<4→ ¬ P i):
  Calls Tryz.prog 19 #[.pointer (some ⟨b,0,none⟩)] w fun x w'=> ∃ d',x= .returned (.int .i64 0)∧ShutS P w' f m d' s E (k+1)∧Turned P w w'∧Like d d':=by
 obtain⟨L,mv,sv,h1,h2,h3,h4⟩:=h
 obtain⟨a1,a2,a3,a4,a5⟩:=sync_ok h4.ok h4.fuse
 have hst:=h4.steps
 refine(stoClose_any h1 h4.ok.seg (by omega) h4.ok.closed h4.ok.up).mono ?_
 rintro x w' hq
 unfold CloseQ at hq
 rw [a1] at hq
 obtain⟨rfl,L',mv',sv',b1,b2,b3⟩:=hq
 refine⟨_,rfl,⟨L',b1.fs,fun i hi=> ?_,b1.nib,⟨b1.gl.1,hB⟩,fun i hi=>h3 i (Nat.le_trans b2.size hi),h4.sync.2⟩,b2.mono h2,a5⟩
 rcases b3 i (.inr (.inr hi)) with h | h
 ·exact h2 i h
 ·exact h3 i h
theorem atOpen (h:ShutS P w f m d s E k) (hk:k<1000):
  Calls Tryz.prog 12 #[.pointer (some ⟨f,0,none⟩),.agg #[.int .i64 (s.stride:Int),.int .i64 (s.segEv:Int)]] w fun x w'=> ∃ b d',x= .returned (.tuple #[.pointer (some ⟨b,0,none⟩),.int .i64 0])∧Fr P w w' f m b d' {s with decoded:=0} E (k+1)∧Like d d':=by
 obtain⟨L,h1,h2,h3,h4,h5,h6⟩:=h
 obtain⟨d1,hr,hl,hlk⟩:=reopen h6
 have hst:=h6.steps
 refine(open_calls (s:={s with decoded:=0}) (E:=E) h1 h3 ⟨h4.1,fun i hi hc=>h4.2 i hi (h2 i hc)⟩ (by omega) (load_snap h6.ok) hr (hl.ok.dec 0) ⟨rfl,rfl⟩ rfl).mono ?_
 rintro x w' ⟨sb,mv,sv,L',n,rfl,b1,b2,b3,b4⟩
 refine⟨sb,_,rfl,⟨⟨L',mv,sv,b1,fun i hi=> ?_,fun i hi=>h5 i (Nat.le_trans b2.size hi),(hl.dec 0).rd n⟩,b2.mono h2⟩,⟨hlk.room,hlk.used,hlk.len,hlk.dat⟩⟩
 rcases b4 i hi with h | h
 ·exact h2 i h
 ·exact h5 i h
theorem Sta.segBd {fs:List A9} {G:List Grp} {g:Sg} {bs:List (List UInt8)} (h:Sta fs s G g bs): ∀ x∈s.man.segs,0≤x.first∧x.first≤1099511627777∧0≤x.count∧x.count≤512:=by
 intro x hx
 have hf:=(B9 h.ok).seg x hx
 have hg:=h.seg
 rw [h.segs] at hx
 rcases List.mem_append.1 hx with hx | hx
 ·obtain⟨y,hy,rfl⟩:=List.mem_map.1 hx
  have:=h.sealTop hy
  omega
 ·simp only [List.mem_singleton] at hx
  subst hx
  omega
theorem atRead {from_:Int} (h:AtS P w f m b d s E k) (hk:k<1000) (ht:Br w):
  Calls Tryz.prog 8 #[.pointer (some ⟨b,0,none⟩),.int .i64 from_] w fun x w'=> ∃ v r d' n,x= .returned (.tuple #[v,.int .i64 r])∧Fr P w w' f m b d' {s with decoded:=n} E k∧d'.files=d.files∧d'.room=d.room∧
   ((r=1∧(from_<1∨(E.length:Int)+1<from_)∧v= .slice none 0 0∧n=s.decoded)∨(r=0∧(1≤from_∧from_≤(E.length:Int)+1)∧RsOwn w' w.heap.size v (fromN from_ (numb 1 E))∧goneOk s.stride from_ 1 E.length n)):=by
 have hbk:=h
 obtain⟨L,mv,sv,h1,h2,h3,h4⟩:=h
 have hsb:=h4.sb (by omega)
 have hla:=h4.ok.last
 by_cases hf:from_<1∨lastE s+1<from_
 ·refine(stoRead_none from_ h1 hsb h4.ok.closed h4.ok.up hf).mono ?_
  rintro x w' ⟨rfl,hb⟩
  exact⟨_,_,d,s.decoded,rfl,Fr.still hbk hb,rfl,rfl,.inl ⟨rfl,by omega,rfl,rfl⟩⟩
 ·by_cases he:from_=lastE s+1
  ·subst he
   refine(stoRead_end h1 hsb h4.ok.closed h4.ok.up h4.ok.floor).mono ?_
   rintro x w' ⟨v,n,rfl,a1,a2,a3⟩
   refine⟨_,_,_,0,rfl,⟨⟨L,mv,sv,a2,h2,fun i hi=>h3 i (Nat.le_trans a3.size hi),(h4.dec 0).rd n⟩,a3.mono h2⟩,rfl,rfl,.inr ⟨rfl,by omega,?_,⟨fun h=>by omega,fun _=>rfl,fun h h'=>by omega⟩⟩⟩
   rw [fromN_none (by omega)]
   exact a1
  ·obtain⟨G,g,bs,hs,hE⟩:=h4.ok.sta
   obtain⟨pcs,p1,p2,p3,p4,p5⟩:=read_plain (from_:=from_) h4.ok (by omega)
   refine(stoRead_any from_ pcs h1 ht hsb h4.ok.closed h4.ok.up h4.ok.floor (by omega) (B9 hs.ok).len p1 p2 hs.segBd p3).mono ?_
   rintro x w' ⟨v,n,rfl,a1,a2,a3⟩
   rw [p4] at a1
   exact⟨_,_,_,_,rfl,⟨⟨L,mv,sv,a2,h2,fun i hi=>h3 i (Nat.le_trans a3.size hi),(h4.dec _).rd n⟩,a3.mono h2⟩,rfl,rfl,.inr ⟨rfl,by omega,a1,p5⟩⟩
theorem atLast (h:AtS P w f m b d s E k) (hk:k<1000):Calls Tryz.prog 9 #[.pointer (some ⟨b,0,none⟩)] w fun x w'=>x= .returned (.int .i64 (E.length:Int))∧Below w.heap.size w w':=by
 obtain⟨L,mv,sv,h1,h2,h3,h4⟩:=h
 have:=stoLastP_any h1 h4.ok.closed (h4.sb (by omega))
 rw [h4.ok.last] at this
 exact this
theorem atDecoded (h:AtS P w f m b d s E k):Calls Tryz.prog 10 #[.pointer (some ⟨b,0,none⟩)] w fun x w'=>x= .returned (.int .i64 (s.decoded:Int))∧w=w':=by
 obtain⟨L,mv,sv,h1,h2,h3,h4⟩:=h
 exact stoDecoded_any h1 h4.ok.closed
end
end
section
open Go.RowKit
section
variable {P : Nat → Prop} {w w' : World} {f m b : Nat} {L : List Ad} {d d' : Ab} {s s' : Ce} {mv sv : Value} {E E' : List (List UInt8)} {k k' : Nat}
def AppR (d:Ab) (s:Ce) (E:List (List UInt8)) (raw:List UInt8) (r:Int×Int) (d':Ab) (s':Ce) (E':List (List UInt8)):Prop:=
 Grow d s d' s' 17660 1∧((r.1=0∧r.2≠0∧E'=E∧s'=s∧d'.files=d.files∧(r.2=92∧1099511627776≤lastE s∨r.2=54∧d.room - (usedF d.files:Int)<1060∨r.2=C9 d s (Hi s raw).length∧s.segEv≤s.count))∨
  (r=((E.length:Int)+1,0)∧E'=E++[raw]))
theorem push_res {raw:List UInt8} (h:Lim d s E k) (hb:BodyOk raw): ∃ E',AppR d s E raw (Cw d s raw).1 (Cw d s raw).2.2 (Cw d s raw).2.1 E'∧Lim (Cw d s raw).2.2 (Cw d s raw).2.1 E' (k+1):=by
 obtain⟨h1,h2⟩:=push_ok h.ok h.fuse hb
 have hl:=h.len
 rcases h2 with⟨a1,a2,a3,a4,a5,a6⟩ | ⟨a1,a2⟩
 ·exact⟨E,⟨h1,.inl ⟨a1,a2,rfl,a5,a6,a3⟩⟩,h.grow h1 a4 (by omega)⟩
 ·exact⟨E++[raw],⟨h1,.inr ⟨a1,rfl⟩⟩,h.grow h1 a2 (by simp;omega)⟩
theorem atAppend {v:Int} {e:Ev} (h:AtS P w f m b d s E k) (hk:k<1000) (hok:Jr 281474976710656 e):
  Calls Tryz.prog 13 #[.pointer (some ⟨b,0,none⟩),.int .i64 v,Ep e] w fun x w'=> ∃ r d' s' E',x= .returned (.tuple #[.int .i64 r.1,.int .i64 r.2])∧Fr P w w' f m b d' s' E' (k+1)∧
   ((Ao v e≠0∧r=(0,Ao v e)∧E'=E∧s'=s∧d'=d)∨(Ao v e=0∧AppR d s E (packV v e) r d' s' E')):=by
 obtain⟨L,mv,sv,h1,h2,h3,h4⟩:=h
 refine(stoAppend_any v e hok h1 h4 hk).mono ?_
 rintro x w' ⟨rfl,hp⟩
 by_cases hc:Ao v e=0
 ·rw [if_pos hc] at hp ⊢
  obtain⟨E',a1,a2⟩:=push_res h4 (pack_body hc)
  exact⟨_,_,_,E',rfl,AtS.out hp h3 h2 a2,.inr ⟨hc,a1⟩⟩
 ·rw [if_neg hc] at hp ⊢
  exact⟨_,_,_,E,rfl,AtS.out hp h3 h2 (h4.up (Nat.le_succ k)),.inl ⟨hc,rfl,rfl,rfl,rfl⟩⟩
theorem atPut {raw:List UInt8} {rv:Value} (h:AtS P w f m b d s E k) (hk:k<1000) (hr:Af (fun i=> ¬ P i) w rv raw) (hll:raw.length≤9223372036854775807):
  Calls Tryz.prog 15 #[.pointer (some ⟨b,0,none⟩),rv] w fun x w'=> ∃ r d' s' E',x= .returned (.tuple #[.int .i64 r.1,.int .i64 r.2])∧Fr P w w' f m b d' s' E' (k+1)∧
   (((B8 raw).2.2≠0∧r=(0,(B8 raw).2.2)∧E'=E∧s'=s∧d'=d)∨((B8 raw).2.2=0∧AppR d s E raw r d' s' E')):=by
 obtain⟨L,mv,sv,h1,h2,h3,h4⟩:=h
 refine(stoPut_any raw rv h1 h4 hk (hr.mono fun i hi hc=>hi (h2 i hc)) hll).mono ?_
 rintro x w' ⟨rfl,hp⟩
 by_cases hc:(B8 raw).2.2=0
 ·rw [if_pos hc] at hp ⊢
  obtain⟨E',a1,a2⟩:=push_res h4 ⟨hc,unpack_len hc⟩
  exact⟨_,_,_,E',rfl,AtS.out hp h3 h2 a2,.inr ⟨hc,a1⟩⟩
 ·rw [if_neg hc] at hp ⊢
  exact⟨_,_,_,E,rfl,AtS.out hp h3 h2 (h4.up (Nat.le_succ k)),.inl ⟨hc,rfl,rfl,rfl,rfl⟩⟩
theorem atRotate (h:AtS P w f m b d s E k) (hk:k<1000):
  Calls Tryz.prog 18 #[.pointer (some ⟨b,0,none⟩)] w fun x w'=> ∃ r d' s',x= .returned (.int .i64 r)∧Fr P w w' f m b d' s' E (k+1)∧Grow d s d' s' 16600 1∧
   ((r=C9 d s 0∧r≠0∧s'=s∧d'.files=d.files)∨r=0):=by
 obtain⟨L,mv,sv,h1,h2,h3,h4⟩:=h
 refine(stoRotate_any h1 h4 hk).mono ?_
 rintro x w' ⟨rfl,hp⟩
 obtain⟨t1,t2,t3⟩:=turn_ok h4.ok h4.fuse 0
 refine⟨_,_,_,rfl,AtS.out hp h3 h2 (h4.grow t2 t1 (by have:=h4.len;omega)),t2,?_⟩
 rcases t3 with⟨a1,a2,a3,a4⟩ | ⟨a1,_⟩
 ·exact .inl ⟨a1,by rw [a1];exact a2,a3,a4⟩
 ·exact .inr a1
end
end
section
open Go.RowKit
section
variable {P : Nat → Prop} {w w0 w' : World} {f m b : Nat} {L : List Ad} {d d' : Ab} {s s' : Ce} {mv sv : Value} {E E' : List (List UInt8)} {k k' : Nat}
theorem AtS.narrow (h:AtS P w f m b d s E k) (hb:Below w.heap.size w w0):AtS (fun i=>P i∧(i<w.heap.size∨w0.heap.size≤i)) w0 f m b d s E k:=by
 obtain⟨L,mv,sv,h1,h2,h3,h4⟩:=h
 exact⟨L,mv,sv,h1.below hb,fun i hi=>⟨h2 i hi,.inl (h1.lt i hi)⟩,fun i hi=>⟨h3 i (Nat.le_trans hb.size hi),.inr hi⟩,h4⟩
theorem Fr.wide {a c:Nat} (h:Fr (fun i=>P i∧(i<a∨c≤i)) w0 w' f m b d s E k) (hb:Below w.heap.size w w0):Fr P w w' f m b d s E k:=by
 obtain⟨⟨L,mv,sv,h1,h2,h3,h4⟩,h5⟩:=h
 exact⟨⟨L,mv,sv,h1,fun i hi=>(h2 i hi).1,fun i hi=>(h3 i hi).1,h4⟩,(Turned.below hb).trans h5 fun i hi=> .inl hi.1⟩
theorem Fr.up (h:Fr P w w' f m b d s E k) (hk:k≤k'):Fr P w w' f m b d s E k':=by
 obtain⟨⟨L,mv,sv,h1,h2,h3,h4⟩,h5⟩:=h
 exact⟨⟨L,mv,sv,h1,h2,h3,h4.up hk⟩,h5⟩
theorem AtS.up (h:AtS P w f m b d s E k) (hk:k≤k'):AtS P w f m b d s E k':=by
 obtain⟨L,mv,sv,h1,h2,h3,h4⟩:=h
 exact⟨L,mv,sv,h1,h2,h3,h4.up hk⟩
theorem AtS.lim (h:AtS P w f m b d s E k):Lim d s E k:=by
 obtain⟨L,mv,sv,h1,h2,h3,h4⟩:=h
 exact h4
theorem load_new (room:Int):(loadM (Hk room)).1.1.snap≤0:=by
 unfold loadM
 rw [J6 (newD_ok room) rfl,show atF (Hk room).files Am=none from rfl]
 dsimp only
 split<;>exact Int.le_refl _
theorem atNew {room:Int} {stride segEv:Nat} (h:FsAt w f m (Hk room) []) (hP: ∀ i,w.heap.size≤i→P i) (hf:P f∧P m) (hn:NibTab w) (hg:4≤w.heap.size∧ ∀ i,i<4→ ¬ P i) (hr:51≤(Hk room).room) (hc1:1≤stride∧stride≤64) (hc2:1≤segEv∧segEv≤512):
  Calls Tryz.prog 12 #[.pointer (some ⟨f,0,none⟩),.agg #[.int .i64 (stride:Int),.int .i64 (segEv:Int)]] w fun x w'=> ∃ b d',x= .returned (.tuple #[.pointer (some ⟨b,0,none⟩),.int .i64 0])∧Fr P w w' f m b d' ⟨0,22,[],stride,segEv,firstM,false,0⟩ [] 0∧d'.files=Gg []∧d'.room=(Hk room).room:=by
 obtain⟨d1,a1,a2,a3,a4,a5,a6,a7⟩:=new_run hr
 have hl:=new_lim hc1 hc2 a2 a3 a4 a6 a7
 have hft: ∀ i,foot f m [] i→P i:=fun i hi=>by
  rcases hi with rfl | rfl | ⟨x,hx,_⟩
  ·exact hf.1
  ·exact hf.2
  ·exact absurd hx List.not_mem_nil
 refine(open_calls (s:=⟨0,22,[],stride,segEv,firstM,false,0⟩) (E:=[]) h hn ⟨hg.1,fun i hi hc=>hg.2 i hi (hft i hc)⟩ (by show (0:Int)≤_;decide) (load_new room) a1 hl.ok ⟨rfl,rfl⟩ rfl).mono ?_
 rintro x w' ⟨sb,mv,sv,L',n,rfl,b1,b2,b3,b4⟩
 refine⟨sb,_,rfl,⟨⟨L',mv,sv,b1,fun i hi=> ?_,fun i hi=>hP i (Nat.le_trans b2.size hi),hl.rd n⟩,b2.mono hft⟩,a6,a5⟩
 rcases b4 i hi with h | h
 ·exact hft i h
 ·exact hP i h
structure OpS where
 k:Int
 v:Int
 e:Ev
 raw:List UInt8
 n:Int
 st:Int
 se:Int
structure OpOk (o:OpS):Prop where
 ev:Jr 281474976710656 o.e
 raw:o.raw.length≤140737488355328
def Ie (o:OpS) (rv:Value):Array Value:= #[.int .i64 o.k,.int .i64 o.v,.int .i64 o.e.kind,.int .i64 o.e.order,.int .i64 o.e.item,.int .i64 o.e.qty,.int .i64 o.e.price,.int .i64 o.e.cur,.int .i64 o.e.tax,.string ⟨o.e.who.toArray⟩,.int .i64 o.e.stamp,.string ⟨o.e.note.toArray⟩,rv,.int .i64 o.n,.int .i64 o.st,.int .i64 o.se]
theorem wpList_load_evAt {ops:Array Oper} {rest:List Oper} {o:Oper} {a:Act} {w:World} {Q:Exit→Act→World→Prop} (hgd:o.guard=none) (x:Operand) (ho:o.op= .load 34 x)
  (b off:Nat) (e:Ev) (hx:a.eval x= .pointer (some ⟨b,off,none⟩)) (hE:w.rangeAt b off (evCs e).toList)
  (h:wpList Tryz.prog ops Q rest (a.put o.dst (Ep e)) w):wpList Tryz.prog ops Q (o::rest) a w:=
 wpList_load_mid hgd 34 x ho b off hx (evCs e).toList _ hE Tryz.underlying34 rfl evInfo h
theorem op_ev {w:World} {g:Nat} {o:OpS} {rv:Value} (h:w.heap[g]? =some (.cells (Ie o rv) 37 (0,0))):w.rangeAt g 2 (evCs o.e).toList:=fun j u hj=>by
 rw [cell_of_row _ _ _ _ _ _ h]
 match j,hj with
 | 0,hj=>exact hj
 | 1,hj=>exact hj
 | 2,hj=>exact hj
 | 3,hj=>exact hj
 | 4,hj=>exact hj
 | 5,hj=>exact hj
 | 6,hj=>exact hj
 | 7,hj=>exact hj
 | 8,hj=>exact hj
 | 9,hj=>exact hj
structure Wide (d:Ab) (s:Ce) (d':Ab) (s':Ce):Prop where
 room:d'.room=d.room
 used:usedF d'.files≤usedF d.files+17660
 len:d'.files.length≤d.files.length+2
 segs:s'.man.segs.length≤s.man.segs.length+1
 cfg:s'.stride=s.stride∧s'.segEv=s.segEv
theorem Wide.refl (d:Ab) (s:Ce):Wide d s d s:=⟨rfl,by omega,by omega,by omega,rfl,rfl⟩
theorem Wide.grow {u:Nat} (h:Grow d s d' s' u 1) (hu:u≤17660):Wide d s d' s':=⟨h.room,by have:=h.used;omega,by have:=h.len;omega,h.segs,h.cfg⟩
theorem Like.wide (h:Like d d') (n:Nat):Wide d s d' {s with decoded:=n}:=⟨h.room,by have:=h.used;omega,by have:=h.len;omega,by show s.man.segs.length≤_;omega,rfl,rfl⟩
def StepP (P:Nat→Prop) (w:World) (f m:Nat) (d:Ab) (s:Ce) (E:List (List UInt8)) (k:Nat) (o:OpS) (e:Ending) (w':World):Prop:=
 ∃ b' d' s' E',e= .returned (.pointer (some ⟨b',0,none⟩))∧Fr P w w' f m b' d' s' E' (k+2)∧Wide d s d' s'∧(o.k≠0∧o.k≠1→E'=E)
theorem stStep_any (o:OpS) (rv:Value) (ho:OpOk o) (hr:A5 w rv o.raw) (h:AtS P w f m b d s E k) (hk:k+2<1000) (hG: ∀ i,i<4→ ¬ P i) (hn:NibTab w) (ht:Br w):
  Calls Tryz.prog 7 #[.pointer (some ⟨f,0,none⟩),.pointer (some ⟨b,0,none⟩),.agg (Ie o rv),.agg #[.int .i64 (s.stride:Int),.int .i64 (s.segEv:Int)]] w (StepP P w f m d s E k o):=by
 have hb1:=below_alloc w (.cells (Ie o rv) 37)
 have hb2:=below_alloc (w.alloc (.cells (Ie o rv) 37)) (.cells (cfCs s.stride s.segEv) 24)
 have hsz:(w.alloc (.cells (Ie o rv) 37)).heap.size=w.heap.size+1:=World.size_alloc _ _
 have HC:=Qh (show ((w.alloc (.cells (Ie o rv) 37)).alloc (.cells (cfCs s.stride s.segEv) 24)).heap[w.heap.size+1]? =some (.cells (cfCs s.stride s.segEv) 24 (0,0)) from by rw [←hsz];exact heap_alloc_new _ _)
 have HO:=Qh (show ((w.alloc (.cells (Ie o rv) 37)).alloc (.cells (cfCs s.stride s.segEv) 24)).heap[w.heap.size]? =some (.cells (Ie o rv) 37 (0,0)) from(hb2.block _ (by omega)).trans (heap_alloc_new w _))
 have HB:=Qh (Below.next hb1 hb2)
 have HZ:=Qh (show ((w.alloc (.cells (Ie o rv) 37)).alloc (.cells (cfCs s.stride s.segEv) 24)).heap.size=w.heap.size+2 from by rw [World.size_alloc,hsz])
 have HR:=Qh hr
 have HOK:=Qh ho
 have HN:=Qh hn
 have HT:=Qh ht
 have HG:=Qh hG
 have HA:=Qh (h.narrow HB.out)
 have HA0:=Qh h
 clear hb1 hb2 hsz ho hr h hn ht hG
 simp only [Ie,cfCs] at HC HO HB HZ HA
 have c0:((w.alloc (.cells #[.int .i64 o.k,.int .i64 o.v,.int .i64 o.e.kind,.int .i64 o.e.order,.int .i64 o.e.item,.int .i64 o.e.qty,.int .i64 o.e.price,.int .i64 o.e.cur,.int .i64 o.e.tax,.string ⟨o.e.who.toArray⟩,.int .i64 o.e.stamp,.string ⟨o.e.note.toArray⟩,rv,.int .i64 o.n,.int .i64 o.st,.int .i64 o.se] 37)).alloc (.cells #[.int .i64 (s.stride:Int),.int .i64 (s.segEv:Int)] 24)).cell? ⟨w.heap.size,0,none⟩=some (.int .i64 o.k):=cell_of_row _ _ 0 _ _ _ HO.out
 have c1:((w.alloc (.cells #[.int .i64 o.k,.int .i64 o.v,.int .i64 o.e.kind,.int .i64 o.e.order,.int .i64 o.e.item,.int .i64 o.e.qty,.int .i64 o.e.price,.int .i64 o.e.cur,.int .i64 o.e.tax,.string ⟨o.e.who.toArray⟩,.int .i64 o.e.stamp,.string ⟨o.e.note.toArray⟩,rv,.int .i64 o.n,.int .i64 o.st,.int .i64 o.se] 37)).alloc (.cells #[.int .i64 (s.stride:Int),.int .i64 (s.segEv:Int)] 24)).cell? ⟨w.heap.size,1,none⟩=some (.int .i64 o.v):=cell_of_row _ _ 1 _ _ _ HO.out
 have c12:((w.alloc (.cells #[.int .i64 o.k,.int .i64 o.v,.int .i64 o.e.kind,.int .i64 o.e.order,.int .i64 o.e.item,.int .i64 o.e.qty,.int .i64 o.e.price,.int .i64 o.e.cur,.int .i64 o.e.tax,.string ⟨o.e.who.toArray⟩,.int .i64 o.e.stamp,.string ⟨o.e.note.toArray⟩,rv,.int .i64 o.n,.int .i64 o.st,.int .i64 o.se] 37)).alloc (.cells #[.int .i64 (s.stride:Int),.int .i64 (s.segEv:Int)] 24)).cell? ⟨w.heap.size,12,none⟩=some rv:=cell_of_row _ _ 12 _ _ _ HO.out
 have c13:((w.alloc (.cells #[.int .i64 o.k,.int .i64 o.v,.int .i64 o.e.kind,.int .i64 o.e.order,.int .i64 o.e.item,.int .i64 o.e.qty,.int .i64 o.e.price,.int .i64 o.e.cur,.int .i64 o.e.tax,.string ⟨o.e.who.toArray⟩,.int .i64 o.e.stamp,.string ⟨o.e.note.toArray⟩,rv,.int .i64 o.n,.int .i64 o.st,.int .i64 o.se] 37)).alloc (.cells #[.int .i64 (s.stride:Int),.int .i64 (s.segEv:Int)] 24)).cell? ⟨w.heap.size,13,none⟩=some (.int .i64 o.n):=cell_of_row _ _ 13 _ _ _ HO.out
 have HE:=Qh (op_ev HO.out)
 have hkk:k<1000:=by omega
 unfold Ie
 rcases q0:(o.k==0) with _ | _
 rotate_left
 ·have HCA:=Qh (atAppend (v:=o.v) (e:=o.e) HA.out hkk HOK.out.ev)
  go_enter Tryz.func7,Tryz.ntmps7
  go_wp2_with (with_reducible refine wpList_load_evAt rfl (.tmp 16) rfl w.heap.size 2 o.e rfl HE.out ?_)
  generalize ((w.alloc (.cells #[.int .i64 o.k,.int .i64 o.v,.int .i64 o.e.kind,.int .i64 o.e.order,.int .i64 o.e.item,.int .i64 o.e.qty,.int .i64 o.e.price,.int .i64 o.e.cur,.int .i64 o.e.tax,.string ⟨o.e.who.toArray⟩,.int .i64 o.e.stamp,.string ⟨o.e.note.toArray⟩,rv,.int .i64 o.n,.int .i64 o.st,.int .i64 o.se] 37)).alloc (.cells #[.int .i64 (s.stride:Int),.int .i64 (s.segEv:Int)] 24))=w0 at*
  refine HCA.out.mono ?_
  rintro x w1 ⟨r,d1,s1,E1,rfl,ho1,hc1⟩
  have HO1:=Qh (show Fr P w w1 f m b d1 s1 E1 (k+2) from(ho1.wide HB.out).up (by omega))
  have HCF:=Qh (show Wide d s d1 s1∧(o.k≠0∧o.k≠1→E1=E) from⟨by
   rcases hc1 with⟨_,_,_,rfl,rfl⟩ | ⟨_,ha⟩
   ·exact Wide.refl _ _
   ·exact Wide.grow ha.1 (Nat.le_refl _),fun h=>absurd (by simpa using q0) h.1⟩)
  clear ho1 hc1
  go_wp2
  go_ret
  exact⟨b,d1,s1,E1,rfl,HO1.out,HCF.out⟩
 rcases q1:(o.k==1) with _ | _
 rotate_left
 ·go_enter Tryz.func7,Tryz.ntmps7
  go_wp2_with fail
  generalize ((w.alloc (.cells #[.int .i64 o.k,.int .i64 o.v,.int .i64 o.e.kind,.int .i64 o.e.order,.int .i64 o.e.item,.int .i64 o.e.qty,.int .i64 o.e.price,.int .i64 o.e.cur,.int .i64 o.e.tax,.string ⟨o.e.who.toArray⟩,.int .i64 o.e.stamp,.string ⟨o.e.note.toArray⟩,rv,.int .i64 o.n,.int .i64 o.st,.int .i64 o.se] 37)).alloc (.cells #[.int .i64 (s.stride:Int),.int .i64 (s.segEv:Int)] 24))=w0 at*
  refine(copyBytes_any o.raw rv w0 (HR.out.below HB.out) HOK.out.raw).mono ?_
  rintro x w1 ⟨v1,rfl,hv1,hb1⟩
  obtain⟨o1,cp1,rfl,_,_⟩:=Ac hv1
  have HB1:=Qh (Below.next HB.out hb1)
  have HA1:=Qh (HA0.out.narrow HB1.out)
  have HCA:=Qh (atPut (raw:=o.raw) HA1.out hkk ((browIn_own (A:=fun i=>w0.heap.size≤i) hv1 fun i hi=>hi).low.mono fun i hi hc=>by have:=hc.2;have:=hi.1;have:=hi.2;have:=HB.out.size;omega) (by have:=HOK.out.raw;omega))
  clear hv1 hb1
  go_wp2_with fail
  refine HCA.out.mono ?_
  rintro x w2 ⟨r,d1,s1,E1,rfl,ho1,hc1⟩
  have HO1:=Qh (show Fr P w w2 f m b d1 s1 E1 (k+2) from(ho1.wide HB1.out).up (by omega))
  have HCF:=Qh (show Wide d s d1 s1∧(o.k≠0∧o.k≠1→E1=E) from⟨by
   rcases hc1 with⟨_,_,_,rfl,rfl⟩ | ⟨_,ha⟩
   ·exact Wide.refl _ _
   ·exact Wide.grow ha.1 (Nat.le_refl _),fun h=>absurd (by simpa using q1) h.2⟩)
  clear ho1 hc1
  go_wp2
  go_ret
  exact⟨b,d1,s1,E1,rfl,HO1.out,HCF.out⟩
 rcases q2:(o.k==2) with _ | _
 rotate_left
 ·go_enter Tryz.func7,Tryz.ntmps7
  go_wp2_with fail
  generalize ((w.alloc (.cells #[.int .i64 o.k,.int .i64 o.v,.int .i64 o.e.kind,.int .i64 o.e.order,.int .i64 o.e.item,.int .i64 o.e.qty,.int .i64 o.e.price,.int .i64 o.e.cur,.int .i64 o.e.tax,.string ⟨o.e.who.toArray⟩,.int .i64 o.e.stamp,.string ⟨o.e.note.toArray⟩,rv,.int .i64 o.n,.int .i64 o.st,.int .i64 o.se] 37)).alloc (.cells #[.int .i64 (s.stride:Int),.int .i64 (s.segEv:Int)] 24))=w0 at*
  refine(atSync HA.out hkk).mono ?_
  rintro x w1 ⟨d1,rfl,ho1,hlk⟩
  have HLK:=Qh hlk
  have HO1:=Qh (show Fr P w w1 f m b d1 s E (k+2) from(ho1.wide HB.out).up (by omega))
  clear ho1
  go_wp2
  go_ret
  exact⟨b,d1,s,E,rfl,HO1.out,HLK.out.wide s.decoded,fun _=>rfl⟩
 rcases q3:(o.k==3) with _ | _
 rotate_left
 ·go_enter Tryz.func7,Tryz.ntmps7
  go_wp2_with fail
  generalize ((w.alloc (.cells #[.int .i64 o.k,.int .i64 o.v,.int .i64 o.e.kind,.int .i64 o.e.order,.int .i64 o.e.item,.int .i64 o.e.qty,.int .i64 o.e.price,.int .i64 o.e.cur,.int .i64 o.e.tax,.string ⟨o.e.who.toArray⟩,.int .i64 o.e.stamp,.string ⟨o.e.note.toArray⟩,rv,.int .i64 o.n,.int .i64 o.st,.int .i64 o.se] 37)).alloc (.cells #[.int .i64 (s.stride:Int),.int .i64 (s.segEv:Int)] 24))=w0 at*
  refine(atRotate HA.out hkk).mono ?_
  rintro x w1 ⟨r,d1,s1,rfl,ho1,hg1,_⟩
  have HO1:=Qh (show Fr P w w1 f m b d1 s1 E (k+2) from(ho1.wide HB.out).up (by omega))
  have HCF:=Qh (Wide.grow hg1 (by decide))
  clear ho1 hg1
  go_wp2
  go_ret
  exact⟨b,d1,s1,E,rfl,HO1.out,HCF.out,fun _=>rfl⟩
 rcases q7:(o.k==7) with _ | _
 rotate_left
 ·go_enter Tryz.func7,Tryz.ntmps7
  go_wp2_with fail
  generalize ((w.alloc (.cells #[.int .i64 o.k,.int .i64 o.v,.int .i64 o.e.kind,.int .i64 o.e.order,.int .i64 o.e.item,.int .i64 o.e.qty,.int .i64 o.e.price,.int .i64 o.e.cur,.int .i64 o.e.tax,.string ⟨o.e.who.toArray⟩,.int .i64 o.e.stamp,.string ⟨o.e.note.toArray⟩,rv,.int .i64 o.n,.int .i64 o.st,.int .i64 o.se] 37)).alloc (.cells #[.int .i64 (s.stride:Int),.int .i64 (s.segEv:Int)] 24))=w0 at*
  refine(atRead (from_:=o.n) HA.out hkk (HT.out.below HB.out)).mono ?_
  rintro x w1 ⟨v,r,d1,n,rfl,ho1,hfi,hro,_⟩
  have HLK:=Qh (show Like d d1 from⟨hro,by rw [hfi],by rw [hfi],fun k=>by rw [hfi]⟩)
  have HO1:=Qh (show Fr P w w1 f m b d1 {s with decoded:=n} E (k+2) from(ho1.wide HB.out).up (by omega))
  clear ho1
  go_wp2
  go_ret
  exact⟨b,d1,_,E,rfl,HO1.out,HLK.out.wide n,fun _=>rfl⟩
 rcases q8:(o.k==8) with _ | _
 rotate_left
 ·go_enter Tryz.func7,Tryz.ntmps7
  go_wp2_with fail
  generalize ((w.alloc (.cells #[.int .i64 o.k,.int .i64 o.v,.int .i64 o.e.kind,.int .i64 o.e.order,.int .i64 o.e.item,.int .i64 o.e.qty,.int .i64 o.e.price,.int .i64 o.e.cur,.int .i64 o.e.tax,.string ⟨o.e.who.toArray⟩,.int .i64 o.e.stamp,.string ⟨o.e.note.toArray⟩,rv,.int .i64 o.n,.int .i64 o.st,.int .i64 o.se] 37)).alloc (.cells #[.int .i64 (s.stride:Int),.int .i64 (s.segEv:Int)] 24))=w0 at*
  refine(atClose HA.out hkk fun i hi hc=>HG.out i hi hc.1).mono ?_
  rintro x w1 ⟨d1,rfl,hs1,ht1,hlk⟩
  have HC1:=Qh (show w1.heap[w.heap.size+1]? =some (.cells (cfCs s.stride s.segEv) 24 (0,0)) from(ht1.block _ (by have:=HZ.out;omega) fun hc=>by have:=hc.2;have:=HZ.out;omega).trans HC.out)
  have HT1:=Qh ht1
  have HOP:=Qh (atOpen hs1 (by omega))
  clear hs1 ht1
  go_wp2_with (with_reducible refine wpList_load_cf rfl (.tmp 7) rfl (w.heap.size+1) s.stride s.segEv rfl HC1.out ?_)
  refine HOP.out.mono ?_
  rintro x w2 ⟨b2,d2,rfl,ho2,hl2⟩
  have HLK:=Qh (show Like d d2 from⟨hl2.room.trans hlk.room,hl2.used.trans hlk.used,hl2.len.trans hlk.len,fun k=>(hl2.dat k).trans (hlk.dat k)⟩)
  have HO1:=Qh (show Fr P w w2 f m b2 d2 {s with decoded:=0} E (k+2) from Fr.wide ⟨ho2.1,HT1.out.trans ho2.2 fun _ h=> .inl h⟩ HB.out)
  clear ho2
  go_wp2
  go_ret
  exact⟨b2,d2,_,E,rfl,HO1.out,HLK.out.wide 0,fun _=>rfl⟩
 go_enter Tryz.func7,Tryz.ntmps7
 have HO1:=Qh (show Fr P w ((w.alloc (.cells #[.int .i64 o.k,.int .i64 o.v,.int .i64 o.e.kind,.int .i64 o.e.order,.int .i64 o.e.item,.int .i64 o.e.qty,.int .i64 o.e.price,.int .i64 o.e.cur,.int .i64 o.e.tax,.string ⟨o.e.who.toArray⟩,.int .i64 o.e.stamp,.string ⟨o.e.note.toArray⟩,rv,.int .i64 o.n,.int .i64 o.st,.int .i64 o.se] 37)).alloc (.cells #[.int .i64 (s.stride:Int),.int .i64 (s.segEv:Int)] 24)) f m b d s E (k+2) from Fr.up (Fr.wide ⟨HA.out,Turned.refl _ _⟩ HB.out) (by omega))
 go_wp2
 go_ret
 exact⟨b,d,s,E,rfl,HO1.out,Wide.refl _ _,fun _=>rfl⟩
end
end
section
open Go.RowKit
def evHd (j:Nat):Ev:=⟨1,7+(j:Int),0,0,0,0,0,[],0,[]⟩
def rH (j:Nat):List UInt8:=packV 5 (evHd j)
def EH (j:Nat):List (List UInt8):=(List.range j).map rH
theorem evHd_ok (j:Nat) (h:j<3):Ao 5 (evHd j)=0:=by
 rcases (show j=0∨j=1∨j=2 by omega) with rfl | rfl | rfl<;>decide
theorem rH_len (j:Nat) (h:j<3):(rH j).length=5:=by
 have e:rH j=encV 5++(encV 2++encV 1++(encV 4++encV (7+(j:Int)).toNat++[])):=by
  rcases (show j=0∨j=1∨j=2 by omega) with rfl | rfl | rfl<;>rfl
 rw [e]
 simp only [List.length_append,List.length_nil]
 rw [B6 (by decide),B6 (by decide),B6 (by decide),B6 (by decide),B6 (by omega)]
structure HdI (j:Nat) (d:Ab) (s:Ce):Prop where
 room:d.room=1000
 cfg:s.stride=2∧s.segEv=2
 low:j<3→usedF d.files=51+25*j∧d.files.length=2∧s.man=firstM∧s.count=j∧s.size=22+25*j∧s.marks=if j=0 then [] else [⟨1,22⟩]
 top:j=3→s.man.segs=[⟨1,1,2,72⟩,⟨2,3,0,0⟩]∧s.count=1
def M2:B4:=⟨2,3,0,0,0,[⟨1,1,2,72⟩,⟨2,3,0,0⟩]⟩
theorem m2_len:(Bu M2).1.length=33:=by
 rw [encMan_ok (by decide)]
 simp only [Aq]
 show (encV 12++(encV 3++(encV 0++(encV 0++(encV 0++(encV 1++(encV 1++(encV 2++(encV 72++(encV 2++(encV 3++(encV 0++(encV 0++[]))))))))))))).length+20=33
 simp only [List.length_append,B6 (show 12<128 by decide),B6 (show 72<128 by decide),B6 (show 3<128 by decide),B6 (show 2<128 by decide),B6 (show 1<128 by decide),B6 (show 0<128 by decide),List.length_nil]
theorem hd_push {j:Nat} {d:Ab} {s:Ce} {E:List (List UInt8)} (hj:j<3) (h:HdI j d s) (hl:Lim d s E j) (hE:E.length=j):(Cw d s (rH j)).1=((j:Int)+1,0)∧HdI (j+1) (Cw d s (rH j)).2.2 (Cw d s (rH j)).2.1:=by
 obtain⟨u1,u2,u3,u4,u5,u6⟩:=h.low hj
 have hlen:=rH_len j hj
 have hbl:(Hi s (rH j)).length=25:=by rw [show (Hi s (rH j)).length=(rH j).length+20 from Aq _ _ _,hlen]
 have hla:lastE s=(j:Int):=by rw [hl.ok.last,hE]
 have hbo:BodyOk (rH j):=pack_body (evHd_ok j hj)
 have hroom:=h.room
 unfold Cw
 rw [if_neg (by omega)]
 by_cases h2:j<2
 ·rw [if_neg (by rw [h.cfg.2,u4];omega),if_neg (by rw [hbl,hroom,u1];omega)]
  obtain⟨G,g,bs,hs,hE2⟩:=hl.ok.sta
  obtain⟨x,hx,hxd⟩:=Df hs.act
  obtain⟨a1,a2,a3,a4,a5,a6⟩:=app_ok (b:=Hi s (rH j)) hl.ok.ok hl.ok.up hl.fuse hx (by rw [hbl,u1,hroom];omega)
  obtain⟨b1,b2,b3,b4⟩:=at_app hl.ok.ok.rise hx (b:=Hi s (rH j))
  have e:appS d s (Hi s (rH j))=((lastE s+1,0),addS s (Hi s (rH j)),(As d (opAppend (Aa g.num) (Hi s (rH j)))).1):=by unfold appS;rw [hs.name,if_pos a1]
  rw [e,hla]
  refine⟨rfl,a3.trans hroom,h.cfg,fun h3=>⟨?_,?_,u3,?_,?_,?_⟩,fun h3=>by omega⟩
  ·simp only
   rw [a2,b3,u1,hbl];omega
  ·simp only
   rw [a2,b4,u2]
  ·show s.count+1=j+1;omega
  ·show s.size+(Hi s (rH j)).length=_;rw [hbl,u5];omega
  ·rw [if_neg (by omega)]
   show (if s.count % s.stride=0 then s.marks++[⟨lastE s+1,s.size⟩] else s.marks)=_
   rw [u4,h.cfg.1,u6,hla,u5]
   rcases (show j=0∨j=1 by omega) with rfl | rfl
   ·rfl
   ·rfl
 ·obtain rfl:j=2:=by omega
  rw [if_pos (by rw [h.cfg.2,u4];exact Nat.le_refl _),hbl]
  have hM:turnM s=M2:=by
   unfold turnM
   rw [hla,u4,u5,u3]
   rfl
  have hft:(Ed s).length=26:=by
   unfold Ed
   rw [Aq,u3,u4,h.cfg.1,u6,if_neg (by decide)]
   show (encV 1++encV 2++encV 2++(encV 2++(encV 1++(encV 22++[])))).length+20=26
   simp only [List.length_append,B6 (show 22<128 by decide),B6 (show 2<128 by decide),B6 (show 1<128 by decide),List.length_nil]
  have hhd:(G4 s).length≤40:=head_len hl.ok (by rw [u3];decide) (by omega)
  have h0:C9 d s 25=0:=by
   unfold C9
   rw [if_neg (by omega),if_neg (by rw [u3];decide),if_neg (by rw [u3];decide),if_neg (by rw [hM,m2_len,hft,hroom,u1,u2];omega)]
  obtain⟨t1,t2,t3⟩:=turn_ok hl.ok hl.fuse 25
  rcases t3 with⟨_,a2,_⟩ | ⟨a1,a2,a3,a4⟩
  ·exact absurd h0 a2
  ·rw [if_pos a1]
   have hlE:lastE (Bp d s 25).2.1=lastE s:=by rw [t1.last,hl.ok.last]
   have hev:Hi (Bp d s 25).2.1 (rH 2)=Hi s (rH 2):=by show frameOf 1 (lastE (Bp d s 25).2.1+1).toNat (rH 2)=frameOf 1 (lastE s+1).toNat (rH 2);rw [hlE]
   have hse:=(show 1≤s.segEv∧s.segEv≤512 by rw [h.cfg.2];decide)
   have hap:=append_ok (raw:=rH 2) t1 t2.fuse hbo (by omega) (by omega) (by rw [hev,t2.room,hbl];exact a4)
   rw [hev,hlE,hla] at hap
   obtain⟨b1,b2,b3⟩:=hap
   have htd:(Bp d s 25).2.1=turned s:=by
    unfold Bp at a1 ⊢
    rw [if_pos h0] at a1 ⊢
    split
    ·rfl
    ·rename_i hc
     rw [if_neg hc] at a1
     exact absurd a1 hc
   refine⟨b1,(b3.room.trans t2.room).trans hroom,⟨b3.cfg.1.trans (t2.cfg.1.trans h.cfg.1),b3.cfg.2.trans (t2.cfg.2.trans h.cfg.2)⟩,fun h3=>by omega,fun _=> ?_⟩
   have hman:(appS (Bp d s 25).2.2 (Bp d s 25).2.1 (Hi s (rH 2))).2.1=addS (turned s) (Hi s (rH 2)):=by
    unfold appS at b1 ⊢
    split
    ·rw [htd]
    ·rename_i hc
     rw [if_neg hc] at b1
     simp only [Prod.mk.injEq] at b1
     exact absurd b1.2 hc
   rw [hman]
   refine⟨?_,rfl⟩
   show (turnM s).segs=_
   rw [hM]
   rfl
end
section
open Go.RowKit
theorem two_of {α:Type}: ∀ {l:List α},l.length=2→ ∃ a b,l=[a,b]
 | [],h=>by simp at h
 | [_],h=>by simp at h
 | [a,b],_=>⟨a,b,rfl⟩
 | _::_::_::_,h=>by simp at h
section
variable {P : Nat → Prop} {w w0 w' : World} {f m b : Nat} {L : List Ad} {d d' : Ab} {s s' : Ce} {mv sv : Value} {E E' : List (List UInt8)} {k k' : Nat}
theorem headGone (h:Dr d s E) (hm:s.man.segs=[⟨1,1,2,72⟩,⟨2,3,0,0⟩]) (hst:s.stride=2) (hc:s.count=1) (hE:E.length=3) {pcs:List (List Plc)} (p1:pcs.length=s.man.segs.length) (p2: ∀ (i:Nat) g ps,s.man.segs[i]? =some g→pcs[i]? =some ps→SegIn d s 2 g ps)
  (p5:goneOk s.stride 2 1 E.length pcs.flatten.length):pcs.flatten.length=3:=by
 obtain⟨G,g,bs,hs,_⟩:=h.sta
 rw [hm] at p1 p2
 obtain⟨q0,q1,rfl⟩:=two_of p1
 have hsg:=hs.segs
 rw [hm] at hsg
 obtain⟨b0,rfl,rfl⟩: ∃ b0,G=[(⟨1,1,2,72⟩,b0)]∧g=⟨2,3,0,0⟩:=by
  match G,hsg with
  | [],h=>simp at h
  | [y],h=>
   simp only [List.map_cons,List.map_nil,List.cons_append,List.nil_append,List.cons.injEq,and_true] at h
   exact⟨y.2,by rw [h.1],h.2.symm⟩
  | y::z::r,h=>
   have:=congrArg List.length h
   simp at this
 have hse:=hs.seals _ (List.mem_singleton.2 rfl)
 have hcl:=(hs.sealed (List.mem_singleton.2 rfl)).2
 have hlen:b0.length=2:=by have:=hse.count;simp only at this;omega
 obtain⟨c1,c2,rfl⟩:=two_of hlen
 have h0:=p2 0 _ q0 rfl rfl
 have h1:=p2 1 _ q1 rfl rfl
 have hsk: ∀ p:Int,seekM [⟨1,p⟩] (max 2 1)=some ⟨1,p⟩:=fun p=>rfl
 have e0:q0.length=2:=by
  rcases h0 with⟨_,h,_⟩ | ⟨_,x,ms,en,cnt,hp,h⟩
  ·simp at h
  ·rcases hp.src with⟨_,a2,a3,st,a4⟩ | ⟨a1,_⟩
   ·obtain⟨y,hy,hyd⟩:=Df hse.dat
    have hxy:=hp.fil
    rw [hy] at hxy
    obtain rfl:=Option.some.inj hxy
    have hen:en=(segB ⟨1,1,2,72⟩ [c1,c2]).length:=by have:=hse.foot;simp only at this a2;omega
    rw [hyd,hen,List.drop_left,hcl] at a4
    simp only [Option.some.injEq,Prod.mk.injEq] at a4
    have hms:ms=[⟨1,((hdB ⟨1,1,2,72⟩).length:Int)⟩]:=by rw [←a4.1,hst];rfl
    have hcnt:cnt=2:=by simp only at a3;omega
    rcases h with⟨h,_⟩ | ⟨ks,kp,lf,h3,_,h5,_,_,_,h9⟩
    ·rw [hms] at h
     exact absurd (h.symm.trans (hsk _)) (by simp)
    ·rw [hms] at h3
     have hks:ks=1:=by
      have:=congrArg Mk.s (Option.some.inj ((hsk _).symm.trans h3))
      simp only at this
      omega
     simp only at h5
     omega
   ·simp at a1
 have e1:0<q1.length:=by
  rcases h1 with⟨h,_⟩ | ⟨_,x,ms,en,cnt,hp,h⟩
  ·simp at h
  ·rcases hp.src with⟨a1,_⟩ | ⟨_,_,_,a4⟩
   ·simp at a1
   ·rcases h with⟨_,h,_⟩ | ⟨ks,kp,lf,_,_,_,h6,_,_,h9⟩
    ·omega
    ·omega
 have h3:=p5.2.2 (by decide) (by omega)
 rw [hE,hst] at h3
 simp only [List.flatten_cons,List.flatten_nil,List.append_nil,List.length_append] at h3 ⊢
 omega
theorem headRead (h:AtS P w f m b d s E k) (hk:k<1000) (ht:Br w) (hm:s.man.segs=[⟨1,1,2,72⟩,⟨2,3,0,0⟩]) (hst:s.stride=2) (hc:s.count=1) (hE:E.length=3):
  Calls Tryz.prog 8 #[.pointer (some ⟨b,0,none⟩),.int .i64 2] w fun x w'=> ∃ v d',x= .returned (.tuple #[v,.int .i64 0])∧Fr P w w' f m b d' {s with decoded:=3} E k∧RsOwn w' w.heap.size v (fromN 2 (numb 1 E)):=by
 obtain⟨L,mv,sv,h1,h2,h3,h4⟩:=h
 have hsb:=h4.sb (by omega)
 have hla:=h4.ok.last
 obtain⟨G,g,bs,hs,_⟩:=h4.ok.sta
 obtain⟨pcs,p1,p2,p3,p4,p5⟩:=read_plain (from_:=2) h4.ok (by omega)
 have hg:=headGone h4.ok hm hst hc hE p1 p2 p5
 refine(stoRead_any 2 pcs h1 ht hsb h4.ok.closed h4.ok.up h4.ok.floor (by omega) (B9 hs.ok).len p1 p2 hs.segBd p3).mono ?_
 rintro x w' ⟨v,n,rfl,a1,a2,a3⟩
 rw [p4] at a1
 rw [hg] at a2
 exact⟨_,_,rfl,⟨⟨L,mv,sv,a2,h2,fun i hi=>h3 i (Nat.le_trans a3.size hi),(h4.dec _).rd n⟩,a3.mono h2⟩,a1⟩
theorem stRight_any (a c:Int) (w:World):Calls Tryz.prog 5 #[.agg #[.int .i64 a,.int .i64 c]] w fun x w'=>x= .returned (.bool (decide (1≤a)&&decide (a≤64)&&decide (1≤c)&&decide (c≤512)))∧Below w.heap.size w w':=by
 have HB:=Qh (below_alloc w (.cells #[.int .i64 a,.int .i64 c] 24))
 rcases q1:decide (1≤a) with _ | _
 all_goals rcases q2:decide (a≤64) with _ | _
 all_goals rcases q3:decide (1≤c) with _ | _
 all_goals rcases q4:decide (c≤512) with _ | _
 all_goals
  go_enter Tryz.func5,Tryz.ntmps5
  go_wp2
  go_ret
  exact⟨rfl,HB.out⟩
theorem stFree_any (stride segEv:Nat) (w:World) (hn:NibTab w) (hg:4≤w.heap.size) (hc1:1≤stride∧stride≤64) (hc2:1≤segEv∧segEv≤512):
  Calls Tryz.prog 6 #[.agg #[.int .i64 (stride:Int),.int .i64 (segEv:Int)]] w fun x w'=> ∃ f m b d,x= .returned (.tuple #[.pointer (some ⟨f,0,none⟩),.pointer (some ⟨b,0,none⟩)])∧Fr (fun i=>w.heap.size≤i) w w' f m b d ⟨0,22,[],stride,segEv,firstM,false,0⟩ [] 0∧d.files=Gg []∧d.room=16777216:=by
 have HB:=Qh (below_alloc w (.cells (cfCs stride segEv) 24))
 have HC:=Qh (show (w.alloc (.cells (cfCs stride segEv) 24)).heap[w.heap.size]? =some (.cells (cfCs stride segEv) 24 (0,0)) from heap_alloc_new w _)
 have HNW:=Qh (fsNew_any 16777216 (w.alloc (.cells (cfCs stride segEv) 24)))
 have HN:=Qh hn
 have HG:=Qh hg
 have HC1:=Qh hc1
 have HC2:=Qh hc2
 clear hn hg hc1 hc2
 simp only [cfCs] at HB HNW
 go_enter Tryz.func6,Tryz.ntmps6
 go_wp2_with fail
 refine HNW.out.mono ?_
 rintro x w1 ⟨f,m,rfl,hf,h1,h2,hb1⟩
 have HB1:=Qh (Below.next HB.out hb1)
 have HCC:=Qh (show w1.heap[w.heap.size]? =some (.cells (cfCs stride segEv) 24 (0,0)) from(hb1.block _ (Array.getElem?_eq_some_iff.1 HC.out).1).trans HC.out)
 have HOP:=Qh (atNew (P:=fun i=>w.heap.size≤i) (stride:=stride) (segEv:=segEv) hf (fun i hi=>Nat.le_trans HB1.out.size hi) ⟨Nat.le_trans HB.out.size h1,Nat.le_trans HB.out.size h2⟩ (HN.out.below HB1.out) ⟨Nat.le_trans HG.out HB1.out.size,fun i hi hc=>by have:=HG.out;omega⟩ (by decide) HC1.out HC2.out)
 clear hf h1 h2 hb1 HNW HB HC
 go_wp2_with (with_reducible refine wpList_load_cf rfl (.tmp 1) rfl w.heap.size stride segEv rfl HCC.out ?_)
 refine HOP.out.mono ?_
 rintro x w2 ⟨b,d,rfl,ho,hfi,hro⟩
 have HO:=Qh (show Fr (fun i=>w.heap.size≤i) w w2 f m b d ⟨0,22,[],stride,segEv,firstM,false,0⟩ [] 0 from⟨ho.1,(Turned.below HB1.out).trans ho.2 fun i hi=> .inl hi⟩)
 have HD:=Qh (And.intro hfi hro)
 clear ho hfi hro
 go_wp2
 go_ret2
 exact⟨f,m,b,d,rfl,HO.out,HD.out.1,HD.out.2⟩
end
end
section
open Go.RowKit
section
variable {P : Nat → Prop} {w w0 w' : World} {f m b : Nat} {L : List Ad} {d d' : Ab} {s s' : Ce} {mv sv : Value} {E E' : List (List UInt8)} {k k' : Nat}
theorem Gy {n:Nat} (h:Turned (fun i=>n≤i) w w') (hn:n≤w.heap.size):Below n w w':=⟨h.os,h.tape,h.output,h.size,fun k hk=>h.block k (by omega) (by omega)⟩
theorem first_used:usedF (Gg [])=51∧(Gg []).length=2:=by
 unfold Gg
 rw [Dg,Dg,Ez,Ez]
 exact⟨by rw [show Fk.length=29 from Gw.2,show Em.length=22 from Gw.1];rfl,rfl⟩
theorem hdI_zero (h1:d.files=Gg []) (h2:d.room=1000):HdI 0 d ⟨0,22,[],2,2,firstM,false,0⟩:=
 ⟨h2,⟨rfl,rfl⟩,fun _=>⟨by rw [h1,first_used.1],by rw [h1,first_used.2],rfl,rfl,rfl,rfl⟩,fun h=>by cases h⟩
theorem evHd_fit (j:Nat) (h:j<3):Jr 281474976710656 (evHd j):=by
 have z: ∀ n:Int,0≤n→n≤100→I64 n:=fun n h1 h2=>⟨by omega,by omega⟩
 rcases (show j=0∨j=1∨j=2 by omega) with rfl | rfl | rfl<;>exact⟨z _ (by decide) (by decide),z _ (by decide) (by decide),z _ (by decide) (by decide),z _ (by decide) (by decide),z _ (by decide) (by decide),z _ (by decide) (by decide),z _ (by decide) (by decide),z _ (by decide) (by decide),by decide,by decide⟩
theorem hdAppend {j:Nat} (hj:j<3) (hI:HdI j d s) (h:AtS P w f m b d s (EH j) j):
  Calls Tryz.prog 13 #[.pointer (some ⟨b,0,none⟩),.int .i64 5,Ep (evHd j)] w fun x w'=> ∃ d' s',x= .returned (.tuple #[.int .i64 ((j:Int)+1),.int .i64 0])∧Fr P w w' f m b d' s' (EH (j+1)) (j+1)∧HdI (j+1) d' s':=by
 obtain⟨L,mv,sv,h1,h2,h3,h4⟩:=h
 obtain⟨p1,p2⟩:=hd_push hj hI h4 (by simp [EH])
 obtain⟨E',a1,a2⟩:=push_res h4 (pack_body (evHd_ok j hj))
 have hE:E'=EH (j+1):=by
  rcases a1.2 with⟨_,hc,_⟩ | ⟨_,hc⟩
  ·exact absurd (congrArg Prod.snd p1) hc
  ·rw [hc];unfold EH;rw [List.range_succ,List.map_append];rfl
 subst hE
 refine(stoAppend_any 5 (evHd j) (evHd_fit j hj) h1 h4 (by omega)).mono ?_
 rintro x w' ⟨rfl,hp⟩
 rw [if_pos (evHd_ok j hj)] at hp ⊢
 refine⟨_,_,?_,AtS.out hp h3 h2 a2,p2⟩
 rw [show (Cw d s (packV 5 (evHd j))).1=((j:Int)+1,0) from p1]
theorem hd_recs:fromN 2 (numb 1 (EH 3))=[(2,evHd 1),(3,evHd 2)]:=by
 have hu: ∀ j,j<3→upV (rH j)=evHd j:=fun j hj=>by
  unfold upV rH
  rw [Ko (evHd_ok j hj)]
  rfl
 show fromN 2 [(1,upV (rH 0)),(2,upV (rH 1)),(3,upV (rH 2))]=_
 rw [hu 0 (by decide),hu 1 (by decide),hu 2 (by decide)]
 rfl
end
theorem head19_any (w:World) (hn:NibTab w) (ht:Br w) (hg:4≤w.heap.size):Calls Tryz.prog 4 #[] w fun x w'=>x= .returned (.bool true)∧Below w.heap.size w w':=by
 have HN:=Qh hn
 have HT:=Qh ht
 have HG:=Qh hg
 have HNW:=Qh (fsNew_any 1000 w)
 clear hn ht hg
 go_enter Tryz.func4,Tryz.ntmps4
 go_wp2_with fail
 refine HNW.out.mono ?_
 rintro x w1 ⟨f,m,rfl,hf,h1,h2,hb1⟩
 have HB1:=Qh hb1
 have HOP:=Qh (atNew (P:=fun i=>w.heap.size≤i) (stride:=2) (segEv:=2) hf (fun i hi=>Nat.le_trans hb1.size hi) ⟨h1,h2⟩ (HN.out.below hb1) ⟨Nat.le_trans HG.out hb1.size,fun i hi hc=>by have:=HG.out;omega⟩ (by decide) (by decide) (by decide))
 clear hf h1 h2 hb1 HNW
 go_wp2_with fail
 refine HOP.out.mono ?_
 rintro x w2 ⟨b,d0,rfl,ho,hfi,hro⟩
 have HI0:=Qh (show HdI 0 d0 ⟨0,22,[],2,2,firstM,false,0⟩∧AtS (fun i=>w.heap.size≤i) w2 f m b d0 ⟨0,22,[],2,2,firstM,false,0⟩ (EH 0) 0∧Below w.heap.size w w2 from⟨hdI_zero hfi hro,ho.1,HB1.out.trans (Gy ho.2 HB1.out.size)⟩)
 clear ho hfi hro HOP HB1
 go_wp2
 go_loopw [0,4,5,6] (fun _ iv _ _ wr=> ∃ (j:Nat) (dj:Ab) (sj:Ce),j≤3∧iv= .int .i64 ((j:Int)+1)∧Hid (HdI j dj sj∧AtS (fun i=>w.heap.size≤i) wr f m b dj sj (EH j) j∧Below w.heap.size w wr)) (fun _ iv _ _ _=>4 - (intOf iv).toNat)
 case atStart=>exact⟨0,d0,_,by decide,rfl,HI0⟩
 case round=>
  obtain⟨j,dj,sj,hj,rfl,HI⟩:=hrel
  clear HI0
  by_cases hlt:j<3
  ·have q1:(j:Int)+1≤3:=by omega
   have hw1:IntKind.i64.wrap (6+((j:Int)+1))=7+(j:Int):=by rw [IntKind.wrap_i64];omega
   have hw2:IntKind.i64.wrap ((j:Int)+1+1)=(j:Int)+1+1:=by rw [IntKind.wrap_i64];omega
   have HCA:=Qh (hdAppend hlt HI.out.1 HI.out.2.1)
   have HBW:=Qh HI.out.2.2
   simp only [evHd] at HCA
   go_wp2_with fail
   refine HCA.out.mono ?_
   rintro x w3 ⟨d1,s1,rfl,ho,hi⟩
   have HI1:=Qh (show HdI (j+1) d1 s1∧AtS (fun i=>w.heap.size≤i) w3 f m b d1 s1 (EH (j+1)) (j+1)∧Below w.heap.size w w3 from⟨hi,ho.1,HBW.out.trans (Gy ho.2 HBW.out.size)⟩)
   clear ho hi HCA HI
   go_wp2
   go_roundw
   case rel=>exact⟨j+1,d1,s1,by omega,by go_num,HI1⟩
   case measure=>simp [intOf];omega
  ·obtain rfl:j=3:=by omega
   obtain⟨t1,t2⟩:=HI.out.1.top rfl
   have HRE:=Qh (headRead HI.out.2.1 (by decide) (HT.out.below HI.out.2.2) t1 HI.out.1.cfg.1 t2 (by decide))
   have HBW:=Qh HI.out.2.2
   have HSG:=Qh t1
   clear t1 t2 HI
   go_wp2_with fail
   refine HRE.out.mono ?_
   rintro x w3 ⟨rv,d1,rfl,ho,hrs⟩
   have HA3:=Qh ho.1
   have HB3:=Qh (HBW.out.trans (Gy ho.2 HBW.out.size))
   rw [hd_recs] at hrs
   obtain⟨g,cap,rfl,_,_,_,_,hcell⟩:=Ct hrs (by decide)
   have HCE:=Qh (show w3.cell? ⟨g,2,none⟩=some (.int .i64 8) from hcell 2 _ rfl)
   have HMF:=Qh (show Calls Tryz.prog 14 #[.pointer (some ⟨b,0,none⟩)] w3 fun e w'=> ∃ v',e= .returned (mnV sj.man v')∧SgOwn w' w3.heap.size v' sj.man.segs∧Below w3.heap.size w3 w' from by
    obtain⟨L,mv,sv,h1,h2,h3,h4⟩:=ho.1
    have:=stoManifest_any h1 h4.ok.closed h4.ok.seg (by show sj.man.segs.length≤1000;rw [HSG.out];decide)
    exact this)
   clear ho hrs hcell HRE HBW
   go_wp2_with fail
   refine HMF.out.mono ?_
   rintro x w4 ⟨v4,rfl,hsg,hb4⟩
   rw [HSG.out] at hsg
   obtain⟨g4,cap4,rfl,_,_,_,_,hc4⟩:=Ct hsg (by decide)
   have hb5:=below_alloc w4 (.cells #[.int .i64 sj.man.gen,.int .i64 sj.man.next,.int .i64 sj.man.floor,.int .i64 sj.man.snap,.int .i64 sj.man.snapSeq,.slice (some ⟨g4,0,none⟩) 2 cap4] 51)
   have HB5:=Qh (Below.next (Below.next HB3.out (Below.mono hb4 (Nat.le_refl _))) hb5)
   have HA5:=Qh ((HA3.out.below hb4).below hb5)
   have c2:(w4.alloc (.cells #[.int .i64 sj.man.gen,.int .i64 sj.man.next,.int .i64 sj.man.floor,.int .i64 sj.man.snap,.int .i64 sj.man.snapSeq,.slice (some ⟨g4,0,none⟩) 2 cap4] 51)).cell? ⟨g,2,none⟩=some (.int .i64 8):=cell_later (Below.next hb4 hb5) HCE.out
   have c4:(w4.alloc (.cells #[.int .i64 sj.man.gen,.int .i64 sj.man.next,.int .i64 sj.man.floor,.int .i64 sj.man.snap,.int .i64 sj.man.snapSeq,.slice (some ⟨g4,0,none⟩) 2 cap4] 51)).cell? ⟨g4,3,none⟩=some (.int .i64 72):=cell_later hb5 (hc4 3 _ rfl)
   have c5:(w4.alloc (.cells #[.int .i64 sj.man.gen,.int .i64 sj.man.next,.int .i64 sj.man.floor,.int .i64 sj.man.snap,.int .i64 sj.man.snapSeq,.slice (some ⟨g4,0,none⟩) 2 cap4] 51)).cell? ⟨w4.heap.size,5,none⟩=some (.slice (some ⟨g4,0,none⟩) 2 cap4):=cell_of_row _ _ 5 _ _ _ (heap_alloc_new w4 _)
   clear hb4 hb5 hc4 hsg HCE HMF HA3 HB3
   go_wp2_with fail
   generalize (w4.alloc (.cells #[.int .i64 sj.man.gen,.int .i64 sj.man.next,.int .i64 sj.man.floor,.int .i64 sj.man.snap,.int .i64 sj.man.snapSeq,.slice (some ⟨g4,0,none⟩) 2 cap4] 51))=w5 at*
   refine(atDecoded HA5.out).mono ?_
   rintro x w6 ⟨rfl,rfl⟩
   go_wp2_with fail
   refine(atLast HA5.out (by decide)).mono ?_
   rintro x w6 ⟨rfl,hb6⟩
   have HB6:=Qh (HB5.out.trans (hb6.mono HB5.out.size))
   clear hb6
   go_wp2
   go_ret
   exact⟨rfl,HB6.out⟩
end
section
open Go.RowKit
theorem fromN_len: ∀ (E:List (List UInt8)) (n:Nat) (from_:Int),(n:Int)≤from_→from_≤(n:Int)+(E.length:Int)→((fromN from_ (numb n E)).length:Int)=(n:Int)+(E.length:Int) - from_
 | [],n,from_,h1,h2=>by simp only [List.length_nil] at h2 ⊢;simp [numb,fromN];omega
 | b::r,n,from_,h1,h2=>by
  by_cases h:from_=(n:Int)
  ·rw [fromN_all (by omega),numb_length];omega
  ·have ih:=fromN_len r (n+1) from_ (by omega) (by simp only [List.length_cons] at h2;omega)
   have e:fromN from_ (numb n (b::r))=fromN from_ (numb (n+1) r):=by
    rw [numb]
    unfold fromN
    rw [List.filter_cons_of_neg (by simp;omega)]
   rw [e,ih,List.length_cons]
   omega
def OpRow (w:World) (v:Value) (ops:List OpS):Prop:=
 ∃ oa cap,v= .slice oa ops.length cap∧ops.length≤9223372036854775807∧ ∀ (i:Nat) o,ops[i]? =some o→OpOk o∧ ∃ b off rv,oa=some ⟨b,off,none⟩∧w.rangeAt b (off+i*16) (Ie o rv).toList∧A5 w rv o.raw
theorem oppInfo:(Tryz.prog.info? 37).map (·.size)=some 16:=by kernel_rfl
theorem storeNear_walk0 (ops:List OpS) (sv:Value) (a c from_:Int) (w:World) (hs:OpRow w sv ops) (hf: -9223372036854775808≤from_∧from_≤9223372036854775807) (hn:NibTab w) (ht:Br w) (hg:4≤w.heap.size):
  Calls Tryz.prog 3 #[sv,.agg #[.int .i64 a,.int .i64 c],.int .i64 from_] w fun x w'=>x= .returned (.bool true)∧Below w.heap.size w w':=by
 obtain⟨oa,cap,rfl,hln,hrow⟩:=hs
 have HB0:=Qh (below_alloc w (.cells #[.int .i64 a,.int .i64 c] 24))
 have HC0:=Qh (show (w.alloc (.cells #[.int .i64 a,.int .i64 c] 24)).heap[w.heap.size]? =some (.cells #[.int .i64 a,.int .i64 c] 24 (0,0)) from heap_alloc_new w _)
 have HN:=Qh hn
 have HT:=Qh ht
 have HG:=Qh hg
 have HF:=Qh hf
 have HLN:=Qh hln
 have HROW:=Qh hrow
 clear hn ht hg hf hln hrow
 go_enter Tryz.func3,Tryz.ntmps3
 go_wp2_with fail
 generalize w.alloc (.cells #[.int .i64 a,.int .i64 c] 24)=w0 at*
 refine(head19_any w0 (HN.out.below HB0.out) (HT.out.below HB0.out) (Nat.le_trans HG.out HB0.out.size)).mono ?_
 rintro x w1 ⟨rfl,hb1⟩
 have HB1:=Qh (Below.next HB0.out hb1)
 have HC1:=Qh (show w1.heap[w.heap.size]? =some (.cells #[.int .i64 a,.int .i64 c] 24 (0,0)) from(hb1.block _ (Array.getElem?_eq_some_iff.1 HC0.out).1).trans HC0.out)
 have a0:w1.cell? ⟨w.heap.size,0,none⟩=some (.int .i64 a):=cell_of_row _ _ 0 _ _ _ HC1.out
 have a1:w1.cell? ⟨w.heap.size,1,none⟩=some (.int .i64 c):=cell_of_row _ _ 1 _ _ _ HC1.out
 clear hb1 HB0 HC0
 go_wp2_with fail
 clear a0 a1
 refine(stRight_any a c w1).mono ?_
 rintro x w2 ⟨rfl,hb2⟩
 have HB2:=Qh (Below.next HB1.out hb2)
 have HC2:=Qh (show w2.heap[w.heap.size]? =some (.cells #[.int .i64 a,.int .i64 c] 24 (0,0)) from(hb2.block _ (Array.getElem?_eq_some_iff.1 HC1.out).1).trans HC1.out)
 clear hb2 HB1 HC1
 rcases hr:(decide (1≤a)&&decide (a≤64)&&decide (1≤c)&&decide (c≤512)) with _ | _
 ·go_wp2_with fail
  refine(head19_any w2 (HN.out.below HB2.out) (HT.out.below HB2.out) (Nat.le_trans HG.out HB2.out.size)).mono ?_
  rintro x w3 ⟨rfl,hb3⟩
  have HB3:=Qh (Below.next HB2.out hb3)
  clear hb3
  go_wp2
  go_ret
  exact⟨rfl,HB3.out⟩
 have hrr:=hr
 simp only [Bool.and_eq_true,decide_eq_true_eq] at hrr
 obtain⟨p,rfl⟩: ∃ p:Nat,a=(p:Int):=⟨a.toNat,by omega⟩
 obtain⟨q,rfl⟩: ∃ q:Nat,c=(q:Int):=⟨c.toNat,by omega⟩
 have HP:=Qh (show 1≤p∧p≤64 by omega)
 have HQ:=Qh (show 1≤q∧q≤512 by omega)
 clear hrr
 have a0:w2.cell? ⟨w.heap.size,0,none⟩=some (.int .i64 (p:Int)):=cell_of_row _ _ 0 _ _ _ HC2.out
 have a1:w2.cell? ⟨w.heap.size,1,none⟩=some (.int .i64 (q:Int)):=cell_of_row _ _ 1 _ _ _ HC2.out
 go_wp2_with fail
 clear a0 a1 hr
 have HFR:=Qh (stFree_any p q w2 (HN.out.below HB2.out) (Nat.le_trans HG.out HB2.out.size) HP.out HQ.out)
 refine HFR.out.mono ?_
 rintro x w3 ⟨f,m,b,d,rfl,ho,_,_⟩
 have HI0:=Qh (show AtS (fun i=>w2.heap.size≤i) w3 f m b d ⟨0,22,[],p,q,firstM,false,0⟩ [] 0∧Below w2.heap.size w2 w3 from⟨ho.1,Gy ho.2 (Nat.le_refl _)⟩)
 clear ho HFR
 go_wp2
 go_loopw [8,9] (fun sp iv wr=> ∃ (i b:Nat) (d:Ab) (s:Ce) (E:List (List UInt8)),i≤ops.length∧i≤100∧iv= .int .i64 (i:Int)∧sp= .pointer (some ⟨b,0,none⟩)∧Hid (AtS (fun i=>w2.heap.size≤i) wr f m b d s E (2*i)∧Below w2.heap.size w2 wr∧s.stride=p∧s.segEv=q)) (fun _ iv _=>101 - (intOf iv).toNat)
 case atStart=>exact⟨0,b,d,_,_,Nat.zero_le _,by decide,rfl,rfl,Qh ⟨HI0.out.1,HI0.out.2,rfl,rfl⟩⟩
 case round=>
  obtain⟨i,b,d,s,E,hi1,hi2,rfl,rfl,HI⟩:=hrel
  clear HI0
  have HBR:=Qh (HB2.out.trans (HI.out.2.1.mono HB2.out.size))
  have HCR:=Qh (show wr.heap[w.heap.size]? =some (.cells #[.int .i64 (p:Int),.int .i64 (q:Int)] 24 (0,0)) from(HI.out.2.1.block _ (Array.getElem?_eq_some_iff.1 HC2.out).1).trans HC2.out)
  by_cases hgo:i<ops.length∧i<100
  ·have q1:(i:Int)<(ops.length:Int):=by omega
   have q2:(i:Int)<100:=by omega
   have hw1:IntKind.i64.wrap ((i:Int)+1)=(i:Int)+1:=by rw [IntKind.wrap_i64];omega
   obtain⟨o,ho⟩: ∃ o,ops[i]? =some o:=⟨_,List.getElem?_eq_getElem hgo.1⟩
   obtain⟨hok,ob,off,rv,rfl,hrg,hrv⟩:=HROW.out i o ho
   have HOK:=Qh hok
   have HRG:=Qh hrg
   have HRV:=Qh (hrv.below HBR.out)
   clear ho hok hrg hrv
   go_wp2_with fail
   have hbd:Below wr.heap.size wr (World.drew wr):=below_drewN' wr 1
   refine wp_region_held_drew (S:=fun w'=>w'.rangeAt ob (off+i*16) (Ie o rv).toList∧w'.heap[w.heap.size]? =some (.cells #[.int .i64 (p:Int),.int .i64 (q:Int)] 24 (0,0))) (by kernel_rfl) ⟨A1 HRG.out (Below.next HBR.out hbd),(hbd.block _ (Array.getElem?_eq_some_iff.1 HCR.out).1).trans HCR.out⟩ (fun hHeld=> ?_)
   refine tq 0 rfl ?_
   refine tq 1 rfl ?_
   refine tq 2 rfl ?_
   refine tq 3 rfl ?_
   refine tq 4 rfl ?_
   refine tkl 5 ob (off+i*16) [.int .i64 o.k,.int .i64 o.v,.int .i64 o.e.kind,.int .i64 o.e.order,.int .i64 o.e.item,.int .i64 o.e.qty,.int .i64 o.e.price,.int .i64 o.e.cur,.int .i64 o.e.tax,.string ⟨o.e.who.toArray⟩,.int .i64 o.e.stamp,.string ⟨o.e.note.toArray⟩,rv,.int .i64 o.n,.int .i64 o.st,.int .i64 o.se] rfl rfl (fun w' h j u hj=>h.1 j u hj) Tryz.underlying37 rfl (by rw [oppInfo];rfl) ?_
   simp only [pA,pB,pC,pD]
   refine tkl 6 w.heap.size 0 [.int .i64 (p:Int),.int .i64 (q:Int)] rfl rfl (fun w' h j u hj=>by rw [Nat.zero_add,cell_of_row w' w.heap.size j _ _ _ h.2];simpa using hj) Tryz.underlying24 rfl (by rw [cfInfo];rfl) ?_
   simp only [pA,pB,pC,pD]
   refine wpAnyH_ready (rs:=[7]) (by kernel_rfl) (by simp) ?_
   refine AllReadyH.cons rfl (fun K hK=> ?_) AllReadyH.nil
   go_simp
   have HST:=Qh (by have:=stStep_any o rv HOK.out (HRV.out.below hbd) (HI.out.1.below hbd) (by omega) (fun j hj hc=>by have:=HG.out;have:=HB2.out.size;omega) (HN.out.below (Below.next HBR.out hbd)) (HT.out.below (Below.next HBR.out hbd));rw [HI.out.2.2.1,HI.out.2.2.2] at this;exact this)
   have HBD:=Qh (show Below w2.heap.size w2 (World.drew wr) from HI.out.2.1.trans (hbd.mono HI.out.2.1.size))
   have HPQ:=Qh HI.out.2.2
   clear hbd HI HRV
   generalize World.drew wr=wd at*
   refine HST.out.mono ?_
   rintro x w5 ⟨b',d',s',E',rfl,ho,hw,_⟩
   have HO:=Qh (show AtS (fun i=>w2.heap.size≤i) w5 f m b' d' s' E' (2*(i+1))∧Below w2.heap.size w2 w5∧s'.stride=p∧s'.segEv=q from⟨ho.1,HBD.out.trans (Gy ho.2 HBD.out.size),hw.cfg.1.trans HPQ.out.1,hw.cfg.2.trans HPQ.out.2⟩)
   clear ho hw HST
   go_wp2_with fail
   refine hK.out _ _ ⟨A1 HRG.out (HB2.out.trans (HO.out.2.1.mono HB2.out.size)),(HO.out.2.1.block _ (Array.getElem?_eq_some_iff.1 HC2.out).1).trans HC2.out⟩ (fun hHeld=> ?_)
   clear hK K
   refine tq 8 rfl ?_
   refine wpAnyH_done (by kernel_rfl) ?_ _
   clear hHeld
   go_wp2
   go_roundw
   case rel=>exact⟨i+1,b',d',s',E',by omega,by omega,by go_num,rfl,HO⟩
   case measure=>simp [intOf];omega
  ·have HAT:=Qh (HI.out.1.up (show 2*i≤200 by omega))
   have HIR:=Qh HI.out.2.2
   have HBW:=Qh HI.out.2.1
   have HRE:=Qh (atRead (from_:=from_) HAT.out (by decide) (HT.out.below HBR.out))
   clear HI
   rcases hq1:decide (i<ops.length) with _ | _
   rotate_left
   focus
    have hq2:decide ((i:Int)<100)=false:=decide_eq_false (by have:=of_decide_eq_true hq1;omega)
   all_goals
    go_wp2_with fail
    refine HRE.out.mono ?_
    rintro x w4 ⟨v,r,d1,n,rfl,ho,_,_,hres⟩
    have HA4:=Qh ho.1
    have HB4:=Qh (show Below w.heap.size w w4 from HBR.out.trans ((Gy ho.2 HBW.out.size).mono HB2.out.size))
    have HC4:=Qh (show w4.heap[w.heap.size]? =some (.cells #[.int .i64 (p:Int),.int .i64 (q:Int)] 24 (0,0)) from((Gy ho.2 HBW.out.size).block _ (Array.getElem?_eq_some_iff.1 HC2.out).1).trans HCR.out)
    have hel:=ho.1.lim.len
    have hw1:IntKind.i64.wrap ((E.length:Int)+1)=(E.length:Int)+1:=by rw [IntKind.wrap_i64];omega
    rcases hres with⟨rfl,hbad,rfl,_⟩ | ⟨rfl,hfr,hrs,hgo2⟩
    ·clear ho hel
     rcases hq3:decide (from_<1) with _ | _
     ·have hq4:decide ((E.length:Int)+1<from_)=true:=decide_eq_true (by have:=of_decide_eq_false hq3;omega)
      go_wp2_with fail
      refine(atLast HA4.out (by decide)).mono ?_
      rintro x w5 ⟨rfl,hb5⟩
      have HB5:=Qh (Below.next HB4.out hb5)
      clear hb5
      go_wp2
      go_ret
      exact⟨rfl,HB5.out⟩
     ·go_wp2
      go_ret
      exact⟨rfl,HB4.out⟩
    ·have hle:=fromN_len E 1 from_ (by omega) (by omega)
     have hst:=HIR.out.1
     have hgn:=hgo2
     unfold goneOk at hgn
     rw [hst] at hgn
     obtain⟨ln,hln⟩: ∃ ln,(fromN from_ (numb 1 E)).length=ln:=⟨_,rfl⟩
     unfold RsOwn at hrs
     rw [hln] at hrs hle
     obtain⟨vo,vc,rfl,_,_⟩:=Ac hrs
     have hp:=HP.out
     have k1:decide (ln≤n)=true:=decide_eq_true (by omega)
     have hw2:IntKind.i64.wrap ((ln:Int)+(p:Int))=(ln:Int)+(p:Int):=by rw [IntKind.wrap_i64];omega
     have hw3:IntKind.i64.wrap ((ln:Int)+(p:Int) - 1)=(ln:Int)+(p:Int) - 1:=by rw [IntKind.wrap_i64];omega
     have k2:decide ((n:Int)≤(ln:Int)+(p:Int) - 1)=true:=decide_eq_true (by omega)
     have hw4:IntKind.i64.wrap ((E.length:Int) - from_)=(E.length:Int) - from_:=by rw [IntKind.wrap_i64];omega
     have hw5:IntKind.i64.wrap ((E.length:Int) - from_+1)=(ln:Int):=by rw [IntKind.wrap_i64];omega
     have K1:=Qh k1
     have K2:=Qh k2
     have W2:=Qh (And.intro hw2 hw3)
     have W4:=Qh (And.intro hw4 hw5)
     clear ho hel hle hgn hgo2 hrs hln hst hp k1 k2 hw1 hw2 hw3 hw4 hw5 hfr
     go_wp2_with fail
     have hbd:Below w4.heap.size w4 (World.drew w4):=below_drewN' w4 1
     refine wp_region_held_drew (S:=fun w'=>w'.cell? ⟨w.heap.size,0,none⟩=some (.int .i64 (p:Int))) (by kernel_rfl) (cell_later hbd (cell_of_row _ _ 0 _ _ _ HC4.out)) (fun hHeld=> ?_)
     refine tq 0 rfl ?_
     refine tq 2 rfl ?_
     refine tq 3 rfl ?_
     have HA5:=Qh (HA4.out.below hbd)
     have HB5:=Qh (Below.next HB4.out hbd)
     clear hbd HA4 HB4 HC4
     generalize World.drew w4=wd at*
     refine wpAnyH_ready (rs:=[1]) (by kernel_rfl) (by simp) ?_
     refine AllReadyH.cons rfl (fun K hK=> ?_) AllReadyH.nil
     go_simp
     refine(atDecoded HA5.out).mono ?_
     rintro x w5 ⟨rfl,rfl⟩
     go_wp2_with fail
     refine hK.out _ _ hHeld (fun hHeld=> ?_)
     clear hK K
     have FX1:=Qh (fun(wF:World) (hSw:(fun w'=>w'.cell? ⟨w.heap.size,0,none⟩=some (.int .i64 (p:Int))) wF)=>(K1.out))
     refine tf FX1 4 rfl ?_
     clear FX1
     refine tq 5 rfl ?_
     have FX2:=Qh (fun(wF:World) (hSw:(fun w'=>w'.cell? ⟨w.heap.size,0,none⟩=some (.int .i64 (p:Int))) wF)=>(hSw))
     refine tf FX2 6 rfl ?_
     refine tf FX2 8 rfl ?_
     refine tf FX2 9 rfl ?_
     refine tf FX2 10 rfl ?_
     refine tf FX2 11 rfl ?_
     clear FX2
     have FX3:=Qh (fun(wF:World) (hSw:(fun w'=>w'.cell? ⟨w.heap.size,0,none⟩=some (.int .i64 (p:Int))) wF)=>And.intro ((W2.out.1)) ((W2.out.2)))
     refine tf FX3 12 rfl ?_
     refine tf FX3 13 rfl ?_
     clear FX3
     refine wpAnyH_ready (rs:=[7]) (by kernel_rfl) (by simp) ?_
     refine AllReadyH.cons rfl (fun K hK=> ?_) AllReadyH.nil
     go_simp
     refine(atDecoded HA5.out).mono ?_
     rintro x w5 ⟨rfl,rfl⟩
     go_wp2_with fail
     refine hK.out _ _ hHeld (fun hHeld=> ?_)
     clear hK K
     have FX4:=Qh (fun(wF:World) (hSw:(fun w'=>w'.cell? ⟨w.heap.size,0,none⟩=some (.int .i64 (p:Int))) wF)=>(K2.out))
     refine tf FX4 14 rfl ?_
     clear FX4
     refine tq 15 rfl ?_
     refine tq 16 rfl ?_
     refine tq 17 rfl ?_
     refine tq 18 rfl ?_
     refine tq 19 rfl ?_
     refine tq 21 rfl ?_
     refine wpAnyH_ready (rs:=[20]) (by kernel_rfl) (by simp) ?_
     refine AllReadyH.cons rfl (fun K hK=> ?_) AllReadyH.nil
     go_simp
     refine(atLast HA5.out (by decide)).mono ?_
     rintro x w5 ⟨rfl,hb5⟩
     have HB6:=Qh (Below.next HB5.out hb5)
     go_wp2_with fail
     refine hK.out _ _ (cell_later hb5 hHeld) (fun hHeld=> ?_)
     clear hK K hb5
     have FX5:=Qh (fun(wF:World) (hSw:(fun w'=>w'.cell? ⟨w.heap.size,0,none⟩=some (.int .i64 (p:Int))) wF)=>And.intro ((W4.out.1)) ((W4.out.2)))
     refine tf FX5 22 rfl ?_
     refine tf FX5 23 rfl ?_
     clear FX5
     refine tq 24 rfl ?_
     refine tq 25 rfl ?_
     refine tq 26 rfl ?_
     refine wpAnyH_done (by kernel_rfl) ?_ _
     clear hHeld
     go_wp2
     go_ret
     exact⟨rfl,HB6.out⟩
end
section
open Go.RowKit Go.ChangeShapes Go.WideShapes
theorem bRow_ofF {w:World} {v:Value} {zs:List Int} (h:Row 1 1 (RInt .u8) w v zs):A5 w v (zs.map fun z=>UInt8.ofNat z.toNat)∧zs.length≤140737488355328:=by
 obtain⟨oa,cap,rfl,h1,h2,hr,h3⟩:=h
 have hw: ∀ z∈zs,(Lit.int .u8 z).wf=true:=fun z hzm=>by
  obtain⟨i,hi,he⟩:=List.getElem_of_mem hzm
  obtain⟨b,off,_,h5⟩:=h3 (by rintro rfl;simp at hi)
  obtain⟨cs,_,_,hR⟩:=h5 i z (by rw [List.getElem?_eq_getElem hi,he])
  exact hR.2
 refine⟨⟨oa,cap,by rw [List.length_map],by simpa using h1,fun hn=> ?_⟩,by unfold reachBytes at hr;omega⟩
 obtain⟨b,off,h4,h5⟩:=h3 (by rintro rfl;exact hn rfl)
 refine⟨b,off,h4,fun i x hx=> ?_⟩
 rw [List.getElem?_map] at hx
 obtain⟨z,hz1,rfl⟩:=Option.map_eq_some_iff.1 hx
 obtain⟨cs,_,hcs,hR⟩:=h5 i z hz1
 have:=hcs 0 (.int .u8 z) (by rw [hR.1];rfl)
 rw [u8_of (hw z (List.mem_of_getElem? hz1))]
 simpa using this
end
section
open Go.RowKit Go.ChangeShapes Go.WideShapes
theorem J8 {n:Int} (h:(Lit.int .i64 n).wf=true):I64 n:=by
 simp [Lit.wf,show IntKind.i64.max=9223372036854775807 from by decide,show IntKind.i64.min= -9223372036854775808 from by decide] at h
 exact⟨by omega,by omega⟩
def REvF (_:World) (cs:List Value) (e:Ev):Prop:=cs=(evCs e).toList∧Jr 281474976710656 e
theorem opensF_Event0:Jz Tryz.prog 34 10 (Fv 1 (RInt .i64) (Fv 1 (RInt .i64) (Fv 1 (RInt .i64) (Fv 1 (RInt .i64) (Fv 1 (RInt .i64) (Fv 1 (RInt .i64) (Fv 1 (RInt .i64) (Fv 1 RStr (Fv 1 (RInt .i64) (Fv 1 RStr RNil)))))))))):=
 Kt Tryz.underlying34 (by kernel_rfl) (Bd rfl (by kernel_rfl) (Cs Tryz.underlying32) (Bd rfl (by kernel_rfl) (Cs Tryz.underlying3) (Bd rfl (by kernel_rfl) (Cs Tryz.underlying3) (Bd rfl (by kernel_rfl) (Cs Tryz.underlying3) (Bd rfl (by kernel_rfl) (Cs Tryz.underlying3) (Bd rfl (by kernel_rfl) (Cs Tryz.underlying3) (Bd rfl (by kernel_rfl) (Cs Tryz.underlying3) (Bd rfl (by kernel_rfl) (opens_str Tryz.underlying9) (Bd rfl (by kernel_rfl) (Cs Tryz.underlying3) (Bd rfl (by kernel_rfl) (opens_str Tryz.underlying9) opens_nil))))))))))
theorem opensF_Event:Jz Tryz.prog 34 10 REvF:=by
 intro H enc W fuel cs x hx hz
 obtain⟨hl,⟨k0,k1,k2,k3,k4,k5,k6,k7,k8,k9,_⟩,h0,h1,h2,h3,h4,h5,h6,h7,h8,h9,_⟩:=opensF_Event0 enc W fuel cs x hx hz
 refine⟨hl,⟨k0,k1,k2,k3,k4,k5,k6,k7,k8,k9⟩,?_,⟨J8 h0.2,J8 h1.2,J8 h2.2,J8 h3.2,J8 h4.2,J8 h5.2,J8 h6.2,J8 h8.2,Nat.le_trans h7.2 (by decide),Nat.le_trans h9.2 (by decide)⟩⟩
 match cs,hl with
 | [c0,c1,c2,c3,c4,c5,c6,c7,c8,c9],_=>
  have e0:=h0.1
  have e1:=h1.1
  have e2:=h2.1
  have e3:=h3.1
  have e4:=h4.1
  have e5:=h5.1
  have e6:=h6.1
  have e7:=h7.1
  have e8:=h8.1
  have e9:=h9.1
  simp at e0 e1 e2 e3 e4 e5 e6 e7 e8 e9
  simp [evCs,e0,e1,e2,e3,e4,e5,e6,e7,e8,e9]
theorem opensF_Config:Jz Tryz.prog 24 2 (Fv 1 (RInt .i64) (Fv 1 (RInt .i64) RNil)):=
 Kt Tryz.underlying24 (by kernel_rfl) (Bd rfl (by kernel_rfl) (Cs Tryz.underlying3) (Bd rfl (by kernel_rfl) (Cs Tryz.underlying3) opens_nil))
def RdCfg (_:World) (v:Value) (a:Int×Int):Prop:=v= .agg #[.int .i64 a.1,.int .i64 a.2]
theorem open_api_Config {H:Type} {enc:TypeId×Value→H} {W:World} {base:Nat} {v:Value} {d:DataW H} {p:List MemPlace}
  (hok:Value.okWide Tryz.prog W .any base 24 v) (h:DataW.Trod enc Tryz.prog W 0 (fun _=>true) true 24 v d p) (hz:(d.weights Tryz.prog 24).all (· ≤reachBytes)=true):
  ∃ a,RdCfg W v a:=by
 obtain⟨cs,⟨a,c,_⟩,rfl,hl,h1,h2,_⟩:=open_struct_by (P:=Tryz.prog) opensF_Config Tryz.underlying24 hok h hz
 refine⟨(a,c),?_⟩
 obtain⟨l⟩:=cs
 match l,hl with
 | [x,y],_=>
  have e1:=h1.1
  have e2:=h2.1
  simp at e1 e2
  simp [RdCfg,e1,e2]
def ROpF (w:World) (cs:List Value) (o:OpS):Prop:= ∃ rv,cs=(Ie o rv).toList∧A5 w rv o.raw∧OpOk o
theorem opensF_Op:Jz Tryz.prog 37 16 ROpF:=by
 intro H enc W fuel cs x hx hz
 have ho:Jz Tryz.prog 37 16 (Fv 1 (RInt .i64) (Fv 1 (RInt .i64) (Fv 10 REvF (Fv 1 (RRow 1 1 (RInt .u8)) (Fv 1 (RInt .i64) (Fv 2 (Fv 1 (RInt .i64) (Fv 1 (RInt .i64) RNil)) RNil)))))):=
  Kt Tryz.underlying37 (by kernel_rfl) (Bd rfl (by kernel_rfl) (Cs Tryz.underlying3) (Bd rfl (by kernel_rfl) (Cs Tryz.underlying3) (Bd rfl (by kernel_rfl) opensF_Event
   (Bd rfl (by kernel_rfl) (opens_slice Tryz.underlying35 (by kernel_rfl) (by kernel_rfl) (by decide) (Cs (k:= .u8) Tryz.underlying5)) (Bd rfl (by kernel_rfl) (Cs Tryz.underlying3) (Bd rfl (by kernel_rfl) opensF_Config opens_nil))))))
 obtain⟨hl,⟨k,v,e,zs,n,⟨st,se,_⟩,_⟩,h0,h1,h2,h3,h4,⟨h5,h6,_⟩,_⟩:=ho enc W fuel cs x hx hz
 obtain⟨rv,e3,r3⟩:=h3
 obtain⟨a1,a2⟩:=bRow_ofF r3
 refine⟨hl,⟨k,v,e,zs.map fun z=>UInt8.ofNat z.toNat,n,st,se⟩,rv,?_,a1,h2.2,by rw [List.length_map];exact a2⟩
 match cs,hl with
 | [c0,c1,c2,c3,c4,c5,c6,c7,c8,c9,c10,c11,c12,c13,c14,c15],_=>
  have e0:=h0.1
  have e1:=h1.1
  have e2:=h2.1
  have e4:=h4.1
  have e5:=h5.1
  have e6:=h6.1
  simp [evCs] at e0 e1 e2 e3 e4 e5 e6
  simp [Ie,e0,e1,e2,e3,e4,e5,e6]
structure RdOps (w:World) (v:Value) (ops:List OpS):Prop where
 row:OpRow w v ops
theorem open_sl_daybookref19_Op {H:Type} {enc:TypeId×Value→H} {W:World} {base:Nat} {v:Value} {d:DataW H} {p:List MemPlace}
  (hok:Value.okWide Tryz.prog W .any base 22 v) (h:DataW.Trod enc Tryz.prog W 0 (fun _=>true) true 22 v d p) (hz:(d.weights Tryz.prog 22).all (· ≤reachBytes)=true):
  ∃ a,RdOps W v a:=by
 obtain⟨rs,oa,cap,rfl,h1,h2,hr,h3⟩:=open_slice_by (P:=Tryz.prog) (opens_slice (bytes:=160) Tryz.underlying22 (by kernel_rfl) (by kernel_rfl) (by decide) opensF_Op) Tryz.underlying22 hok h hz
 refine⟨rs,⟨oa,cap,rfl,by unfold maxLen at h2;omega,fun i o hi=> ?_⟩⟩
 obtain⟨b,off,h4,h5⟩:=h3 (by rintro rfl;simp at hi)
 obtain⟨cs,_,hc,rv,hR,hB,hO⟩:=h5 i o hi
 exact⟨hO,b,off,rv,h4,fun j u hj=>hc j u (by rw [hR];exact hj),hB⟩
theorem nib_of2 {w:World} {l:List (String×DataW Unit)} {d2:DataW Unit} (hl:l=[("daybook/crc.nibbles",Rows.laid_daybook_crc_nibbles),("daybook/upcast.taxes",d2)]) (h:laidMet Tryz.prog l w):NibTab w:=by
 subst hl
 exact Lib.tabIs_of_head (g:=1) (t:=277) (e:=174) (by kernel_rfl) (by kernel_rfl) Tryz.underlying277 Tryz.underlying174 (by kernel_rfl) (by kernel_rfl) h
theorem tax_of2 {w:World} {l:List (String×DataW Unit)} {d1:DataW Unit} (hl:l=[("daybook/crc.nibbles",d1),("daybook/upcast.taxes",Rows.laid_daybook_upcast_taxes)]) (h:laidMet Tryz.prog l w):Br w:=by
 subst hl
 exact Lib.tabIs_of_head (g:=0) (t:=192) (e:=3) (by kernel_rfl) (by kernel_rfl) Tryz.underlying192 Tryz.underlying3 (by kernel_rfl) (by kernel_rfl) h.tail
theorem glob_of {w:World} (h:w.ShapedOpen Tryz.prog):4≤w.heap.size:=by
 obtain⟨⟨z,t⟩,hz⟩:=Option.isSome_iff_exists.1 (show ((((begin Tryz.prog (fun _ _=>0) default).world).heap[4 - 1]?).bind Obj.row?).isSome=true by kernel_rfl)
 obtain⟨cs,hh,_⟩:=h.1 (4 - 1) z t (of_decide_eq_true (by kernel_rfl)) hz
 have:=(Array.getElem?_eq_some_iff.1 hh).1
 omega
end
section
open Go.RowKit
theorem storeNear_walk (v0:Value) (a0:List OpS) (v1:Value) (a1:Int×Int) (a2:Int) (w:World) (h0:RdOps w v0 a0) (h1:RdCfg w v1 a1) (h2:(Lit.int .i64 a2).wf=true) (hL:laidMetH Tryz.prog Rows.storeNearRow.laid w) (hS:w.ShapedOpen Tryz.prog):
  Calls Tryz.prog 3 #[v0,v1,.int .i64 a2] w fun e w'=>e= .returned (.bool true)∧Below w.heap.size w w':=by
 have hL0:laidMet Tryz.prog Rows.storeNearRow.laid w:=hL
 have hn:=nib_of2 rfl hL0
 unfold RdCfg at h1
 subst h1
 have hi:=J8 h2
 exact storeNear_walk0 a0 v0 a1.1 a1.2 a2 w h0.row ⟨hi.1,hi.2⟩ hn (tax_of2 rfl hL0) (glob_of hS)
end
end Go.Proofs.YtnbnoccdnoidlaaGreatDoor
