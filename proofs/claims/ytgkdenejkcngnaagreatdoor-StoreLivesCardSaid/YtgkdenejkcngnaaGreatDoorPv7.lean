import Derived.StillTailTactics
import Derived.Test.YtgkdenejkcngnaaGreatDoorPv6
set_option maxRecDepth 100000
set_option maxHeartbeats 8000000
namespace Go.Proofs.YtgkdenejkcngnaaGreatDoor
open Go.RowKit
open Value renaming int→Vi
open IntKind renaming i64→Vk
open Go.Proofs.Tryz
variable {a:Act}{K:Act→World→Prop}{d d':Af}{listed:Array Bool}{af:Array Edge}{ops:Array Oper}{x:Bl}{D:DataW Value}{e:Ev}{Q:Exit→Act→World→Prop}{fn:Func}{h:Hd}{bad from_ num:Int}{xs:List (Ce×Value)}{E bs:List (List UInt8)}{L:List Aq}{fs fs':List Bl}{ps:List I3}{zs:List Int}{ms:List Mk}{us vs:List Nat}{rest:List Oper}{b body l n raw t:List UInt8}{cs:List Value}{B N base c f first g i j k m more most p r segEv size stride u:Nat}{A A' S:Nat→Prop}{o:Oper}{P:Program}{q:Tmp}{bv mv rv sv v v' v1:Value}{W W' X w w' w0 w1 w2:World}
def NewP (A:List Bl) (fs:List Bl):Prop:=Dh fs Aw=none∧Hn fs=A
theorem Oh {A:List Bl} {f:Bl} (h:NewP A fs) (ha:alien f.name=false) (hn:f.name≠Aw):NewP A (Dp f fs):=by
 refine⟨?_,by rw [aliens_put ha];exact h.2⟩;have:=h.1;unfold Dh at this ⊢;rw [Gu hn];exact this
def Gk:List UInt8:=(Hs 1 1).1
def Gw:List UInt8:=(Ct Ap).1
def Gx (A:List Bl):List Bl:=Dp ⟨Aw,Gw,29⟩ (Dp ⟨Ad 1,Gk,22⟩ A)
theorem seg1:Ad 1=[115,101,103,45,48,48,48,48,48,49]:=by decide
theorem begin_went (hok:A0 d) (hd:d.down=false) (hm:Dh d.files Aw=none) (ha:Hn d.files=d.files) (hr:51≤d.room - (usedF d.files:Int)) (hl:d.files.length≤698):
  Ox (NewP d.files) (fun fs=>fs=Gx d.files) d (Bk d (Et (A9 Ap) (Ah Ap) Ap)):=by
 obtain⟨A,hA⟩: ∃ A,A=d.files:=⟨_,rfl⟩;rw [←hA] at hm ha hr hl ⊢;have hH:Gk.length=22:=G3.1;have hB:Gw.length=29:=G3.2;have ha1:alien (Ad 1)=false:=by rw [seg1];decide
 have ha2:alien Bm=false:=by decide
 have hn1:Ad 1≠Aw:=by rw [seg1];decide
 have hn2:Bm≠Aw:=by decide
 have hn3:Ad 1≠Bm:=by rw [seg1];decide
 have hr1:Ao (Ad 1)=true:=by rw [seg1];decide
 have hr2:Ao Bm=true:=by decide
 have hr3:Ao Ic=true:=by decide
 have hal: ∀ x∈A,alien x.name=true:=fun x hx=>by rw [←ha] at hx;exact(List.mem_filter.1 hx).2
 have hx1: ∀ x∈A,x.name≠Ad 1:=fun x hx e=>by have:=hal x hx;rw [e,ha1] at this;cases this
 have hx2: ∀ x∈A,x.name≠Bm:=fun x hx e=>by have:=hal x hx;rw [e,ha2] at this;cases this
 have hx3: ∀ x∈A,x.name≠Aw:=by
  rcases h:Bf A Aw with _|y
  ·exact ne_of_none h
  ·rw [D5 h] at hm;cases hm
 have P0:NewP A A:=⟨hm,ha⟩;rw [show Et (A9 Ap) (Ah Ap) Ap=[Ak (Ad 1),Ae (Ad 1) Gk,Ag (Ad 1),Ak Bm,Ae Bm Gw,Ag Bm,An Bm Ic] from rfl];refine E6 hok (by simp [Ak]) (by simp [Ak]) ?_ (by rw [γ (by simp [Ak]),←hA];exact P0) fun d1 e1 r1 n1 o1 f1=> ?_
 ·rw [Jb,openE_off hd hr1 (none_of (by rw [←hA];exact hx1))];rw [γ (by decide),γ (by decide),←hA,show decide (700≤A.length)=false by simp;omega];rfl
 rw [chg_create,←hA] at e1;have P1:=Oh (f:=⟨Ad 1,[],0⟩) P0 ha1 hn1;have P2:=Oh (f:=⟨Ad 1,Gk,0⟩) P0 ha1 hn1;have P3:=Oh (f:=⟨Ad 1,Gk,22⟩) P0 ha1 hn1;have c2:Ec d1.files (Ae (Ad 1) Gk)=Dp ⟨Ad 1,Gk,0⟩ A:=by
  rw [e1,chg_put (f:=⟨Ad 1,[],0⟩) hx1 rfl (.inl rfl)];simp [Ll,Ae]
 refine E6 o1 (by simp [Ae]) (by simp [Ae]) ?_ (by rw [κ (by simp [Ae]),c2];exact P2) fun d2 e2 r2 n2 o2 f2=> ?_
 ·rw [Ja,Ey o1 n1 (x:=⟨Ad 1,[],0⟩) (by rw [e1];exact Ee hx1),γ (by decide),e1,Fp,r1,hH];rw [show decide (d.room - (((([]:List UInt8)).length+usedF A:Nat):Int)<((22:Nat):Int))=false by simp;omega];rfl
 rw [c2] at e2;have c3:Ec d2.files (Ag (Ad 1))=Dp ⟨Ad 1,Gk,22⟩ A:=by
  rw [e2,chg_put (f:=⟨Ad 1,Gk,0⟩) hx1 rfl (.inr (.inl rfl))];simp [Ll,Ag,hH]
 refine E6 o2 (by simp [Ag]) (by simp [Ag]) ?_ (by rw [γ (by simp [Ag]),e2];exact P2) fun d3 e3 r3 n3 o3 f3=> ?_
 ·rw [Mr];exact Ey o2 n2 (x:=⟨Ad 1,Gk,0⟩) (by rw [e2];exact Ee hx1)
 rw [c3] at e3;obtain⟨S,hS⟩: ∃ S,S=Dp ⟨Ad 1,Gk,22⟩ A:=⟨_,rfl⟩;rw [←hS] at e3 P3;have hu:usedF S=22+usedF A:=by rw [hS,Fp];simp only [hH]
 have hln:S.length=A.length+1:=by rw [hS,Hw]
 have hs2: ∀ x∈S,x.name≠Bm:=fun x hx=>by
  rw [hS] at hx;rcases Og.1 hx with rfl|hx
  ·exact hn3
  ·exact hx2 x hx
 have hs3: ∀ x∈S,x.name≠Ic:=fun x hx=>by
  rw [hS] at hx;rcases Og.1 hx with rfl|hx
  ·exact hn1
  ·exact hx3 x hx
 refine E6 o3 (by simp [Ak]) (by simp [Ak]) ?_ (by rw [γ (by simp [Ak]),e3];exact P3) fun d4 e4 r4 n4 o4 f4=> ?_
 ·rw [Jb,openE_off n3 hr2 (by rw [e3];exact none_of hs2)];rw [γ (by decide),γ (by decide),e3,hln,show decide (700≤A.length+1)=false by simp;omega];rfl
 rw [chg_create,e3] at e4;have P4:=Oh (f:=⟨Bm,[],0⟩) P3 ha2 hn2;have P5:=Oh (f:=⟨Bm,Gw,0⟩) P3 ha2 hn2;have P6:=Oh (f:=⟨Bm,Gw,29⟩) P3 ha2 hn2;have c5:Ec d4.files (Ae Bm Gw)=Dp ⟨Bm,Gw,0⟩ S:=by
  rw [e4,chg_put (f:=⟨Bm,[],0⟩) hs2 rfl (.inl rfl)];simp [Ll,Ae]
 refine E6 o4 (by simp [Ae]) (by simp [Ae]) ?_ (by rw [κ (by simp [Ae]),c5];exact P5) fun d5 e5 r5 n5 o5 f5=> ?_
 ·rw [Ja,Ey o4 n4 (x:=⟨Bm,[],0⟩) (by rw [e4];exact Ee hs2),γ (by decide),e4,Fp,r4,r3,r2,r1,hu,hB];rw [show decide (d.room - (((([]:List UInt8)).length+(22+usedF A):Nat):Int)<((29:Nat):Int))=false by simp;omega];rfl
 rw [c5] at e5;have c6:Ec d5.files (Ag Bm)=Dp ⟨Bm,Gw,29⟩ S:=by
  rw [e5,chg_put (f:=⟨Bm,Gw,0⟩) hs2 rfl (.inr (.inl rfl))];simp [Ll,Ag,hB]
 refine E6 o5 (by simp [Ag]) (by simp [Ag]) ?_ (by rw [γ (by simp [Ag]),e5];exact P5) fun d6 e6 r6 n6 o6 f6=> ?_
 ·rw [Mr];exact Ey o5 n5 (x:=⟨Bm,Gw,0⟩) (by rw [e5];exact Ee hs2)
 rw [c6] at e6;have c7:Ec d6.files (An Bm Ic)=Gx A:=by
  rw [e6,chg_rename (f:=⟨Bm,Gw,29⟩) hs2 hs3,hS];rfl
 refine E6 o6 (by simp [An]) (by simp [An]) ?_ (by rw [γ (by simp [An]),e6];exact P6) fun d7 e7 r7 n7 o7 f7=> ?_
 ·rw [Kf,Ey o6 n6 (x:=⟨Bm,Gw,29⟩) (by rw [e6];exact Ee hs2),hr3];simp
 rw [c7] at e7;exact Oo o7 n7 e7
theorem seg_ne_book {m:Da} (hf:I2 m) (h0:0<m.snap) {g:Sg} (_:g∈m.segs):Cs m.snap≠Ad g.num:=fun e=>by
 have h1:=hf.snap
 have h2:=hf.next
 have:=seg_book m.snap g.num (by omega)
 rw [e] at this
 simp at this
theorem seg_ne_last {m:Da} (hf:I2 m) {g:Sg} (hg:g∈m.segs.dropLast):Ad g.num≠A9 m:=fun e=>by
 have hp:=(Oy _ _ _ _ hf.chain).1
 rw [(last_segs hf).1,List.pairwise_append] at hp
 have hlt:=hp.2.2 g hg (Ah m) (by simp)
 have h1:=hf.seg g ((List.dropLast_subset _) hg)
 have h2:=hf.next
 have h3:=hf.seg (Ah m) (last_mem hf)
 have:=seg_same (Ah m).num g.num (by omega)
 rw [show Ad (Ah m).num=A9 m from rfl,e] at this
 simp at this
 omega
theorem manB_cut {m:Da} (hf:I2 m) (h: ∀ n,A5 true m n=false→n≠A9 m→Dh fs' n=Dh fs n) (ha:I9 (Dh fs' (A9 m)) (Ah m)=I9 (Dh fs (A9 m)) (Ah m)):
  (Pe fs' m).2=(Pe fs m).2∧(Pe fs' m).1.man=(Pe fs m).1.man∧(Pe fs' m).1.cut=(Pe fs m).1.cut∧(Pe fs' m).1.last=(Pe fs m).1.last:=by
 have h1:snapB (Dh fs' (Cs m.snap)) m=snapB (Dh fs (Cs m.snap)) m:=by
  by_cases h0:0<m.snap
  ·rw [h _ (ns_book hf h0) (seg_ne_book hf h0 (last_mem hf))]
  ·unfold snapB;rw [γ h0,γ h0]
 have h2:sealsB fs' m.segs.dropLast=sealsB fs m.segs.dropLast:=by
  unfold sealsB;rw [Bool.eq_iff_iff,List.all_eq_true,List.all_eq_true];refine forall_congr' fun g=>forall_congr' fun hg=> ?_;rw [h _ (Pi hf ((List.dropLast_subset _) hg)) (seg_ne_last hf hg)]
 unfold Pe;rw [h1,h2,ha];split
 ·exact⟨rfl,rfl,rfl,rfl⟩
 ·split
  ·exact⟨rfl,rfl,rfl,rfl⟩
  ·exact⟨rfl,rfl,rfl,rfl⟩
theorem manB_inv {m:Da} {p:Pl} (h:Pe fs m=(p,0)):p=⟨false,m,(fs.map (·.name)).filter (A5 true m),((I9 (Dh fs (A9 m)) (Ah m)).1:Int),p.last⟩∧(I9 (Dh fs (A9 m)) (Ah m)).2.2=true:=by
 unfold Pe at h;split at h
 ·simp at h
 ·split at h
  ·simp at h
  ·rename_i h2;simp only [Prod.mk.injEq,and_true] at h;rw [←h];refine⟨rfl,?_⟩;rcases hx:(I9 (Dh fs (A9 m)) (Ah m)).2.2
   ·exact absurd (.inl hx) h2
   ·rfl
theorem chgL_set {o:Ls}  (hr:Fs fs) (ha:Bf fs o.name=some x) (h0:o.k≠0) (h3:o.k≠3) (h4:o.k≠4):Ec fs o=Fd o.name (fun _=>Ll o x) fs:=by
 unfold Ec;rw [chg_set (d:=stand 0 fs) (x:=x) hr ha h0 h3 h4];rfl
theorem Kz {n:List UInt8} {x y:Bl} {fs:List Bl} (ha:Bf fs n=some x) (hy:y.name=n):Bf (Fd n (fun _=>y) fs) n=some y:=by
 induction fs with
 |nil=>cases ha
 |cons z r ih=>
  unfold Bf Fd at*;rw [List.find?_cons] at ha;rw [List.map_cons,List.find?_cons];by_cases hz:z.name=n
  ·rw [κ (by simpa using hz),show (y.name==n)=true by simpa using hy]
  ·rw [γ (by simpa using hz),show (z.name==n)=false by simpa using hz];rw [show (z.name==n)=false by simpa using hz] at ha;exact ih ha
theorem Gv {n k:List UInt8} {y:Bl} (hy:y.name=n) (hk:k≠n): ∀ {fs:List Bl},Bf (Fd n (fun _=>y) fs) k=Bf fs k
 | []=>rfl
 |z::r=>by
  have ih:=Gv hy hk (fs:=r)
  unfold Bf Fd at*
  rw [List.map_cons,List.find?_cons,List.find?_cons,ih]
  by_cases hz:z.name=n
  ·rw [κ (by simpa using hz),show (y.name==k)=false by rw [hy];simpa using hk.symm,show (z.name==k)=false by rw [hz];simpa using hk.symm]
  ·rw [γ (by simpa using hz)]
structure Nx (fs0:List Bl) (m:Da) (cut:Nat) (x y:Bl) (fs:List Bl):Prop where
 rise:Fs fs
 at_:Bf fs (A9 m)=some y
 oth: ∀ k,A5 true m k=false→k≠A9 m→Bf fs k=Bf fs0 k
 all: ∀ f∈fs,f=y∨f∈fs0
 ns: ∀ f∈fs,A5 true m f.name=false
 dat:I9 (some y.data) (Ah m)=I9 (some x.data) (Ah m)
 len:cut≤y.data.length
 saf:SafeIn fs0→y.safe=(y.data.length:Int)
theorem Nx.name {fs0:List Bl} {m:Da} {cut:Nat} {y:Bl} (h:Nx fs0 m cut x y fs):y.name=A9 m:=(B8 h.at_).1
theorem Nx.set {fs0:List Bl} {m:Da} {cut:Nat} {y z:Bl} (hf:I2 m) (h:Nx fs0 m cut x y fs) (hz:z.name=A9 m) (hd:I9 (some z.data) (Ah m)=I9 (some x.data) (Ah m)) (hl:cut≤z.data.length) (hs:SafeIn fs0→z.safe=(z.data.length:Int)):
  Nx fs0 m cut x z (Fd (A9 m) (fun _=>z) fs):=by
 refine⟨rise_set' h.rise fun f _ e=>by rw [hz,e],Kz h.at_ hz,fun k h1 h2=>(Gv hz h2).trans (h.oth k h1 h2),fun f hfm=> ?_,fun f hfm=> ?_,hd,hl,hs⟩
 ·obtain⟨u,hu,e⟩:=List.mem_map.1 hfm;by_cases hn:u.name=A9 m
  ·rw [κ (by simpa using hn)] at e;exact .inl e.symm
  ·rw [γ (by simpa using hn)] at e;subst e;rcases h.all u hu with rfl|h1
   ·exact absurd h.name hn
   ·exact .inr h1
 ·rcases mem_setF hfm with rfl|h1
  ·rw [hz];exact Pi hf (last_mem hf)
  ·exact h.ns f h1
structure C6 where
 count:Nat
 size:Nat
 marks:List Mk
 stride:Nat
 segEv:Nat
 man:Da
 closed:Bool
 decoded:Nat
def lastE (s:C6):Int:=(Ah s.man).first+(s.count:Int) - 1
def F7 (stride:Nat):Nat→List I3→List Mk
 |_,[]=>[]
 |i,p::r=>if i % stride=0 then ⟨(p.f.s:Int),(p.pos:Int)⟩::F7 stride (i+1) r else F7 stride (i+1) r
def idxNums:Int→Int→List Mk→List Nat
 |_,_,[]=>[]
 |s,p,m::r=>(m.s - s).toNat::(m.p - p).toNat::idxNums m.s m.p r
def Fa (first count stride:Nat) (ms:List Mk):List UInt8:=A7 first++A7 count++A7 stride++Ej (idxNums 0 0 ms)
def Fo (s:C6):List UInt8:=By 3 (Ah s.man).num.toNat (Fa (Ah s.man).first.toNat s.count s.stride s.marks)
def Bu (s:C6):Da:={s.man with gen:=s.man.gen+1,next:=s.man.next+1,segs:=s.man.segs.dropLast++[⟨(Ah s.man).num,(Ah s.man).first,s.count,s.size⟩,⟨s.man.next,lastE s+1,0,0⟩]}
def Jy (s:C6):List UInt8:=(Hs s.man.next (lastE s+1)).1
def turnE (d:Af) (s:C6) (more:Nat):Int:=
 if s.count=0 then 93 else if 256≤s.man.segs.length then 90 else if 999999<s.man.next∨1099511627776≤s.man.gen then 91
 else if d.room - (usedF d.files:Int)<((Fo s).length:Int)+((Jy s).length:Int)+((Ct (Bu s)).1.length:Int)+(more:Int)∨700<d.files.length+2 then 54 else 0
def Ds (s:C6):List Ls:=[Ae (A9 s.man) (Fo s),Ag (A9 s.man),Ak (Ad s.man.next),Ae (Ad s.man.next) (Jy s),Ag (Ad s.man.next)]++Ei (Bu s)
def turned (s:C6):C6:={s with count:=0,size:=(Jy s).length,marks:=[],man:=Bu s}
def shutS (s:C6) (e:Int):C6:=if e=3 then {s with closed:=true} else s
def Bj (d:Af) (s:C6) (more:Nat):Int×C6×Af:=
 if turnE d s more=0 then
  (if (Bk (Df d s.size) (Ds s)).2=0 then (0,turned s,(Bk (Df d s.size) (Ds s)).1)
  else ((Bk (Df d s.size) (Ds s)).2,shutS s (Bk (Df d s.size) (Ds s)).2,(Bk (Df d s.size) (Ds s)).1))
 else (turnE d s more,s,if turnE d s more=54 then Df d s.size else d)
def Fl (s:C6) (raw:List UInt8):List UInt8:=By 1 (lastE s+1).toNat raw
def addS (s:C6) (b:List UInt8):C6:={s with marks:=if s.count % s.stride=0 then s.marks++[⟨lastE s+1,s.size⟩] else s.marks,count:=s.count+1,size:=s.size+b.length}
def Ik (d:Af) (s:C6) (b:List UInt8):(Int×Int)×C6×Af:=
 if (Bi d (Ae (A9 s.man) b)).2.2.2=0 then ((lastE s+1,0),addS s b,(Bi d (Ae (A9 s.man) b)).1)
 else ((0,(Bi d (Ae (A9 s.man) b)).2.2.2),shutS s (Bi d (Ae (A9 s.man) b)).2.2.2,(Bi d (Ae (A9 s.man) b)).1)
def Dg (d:Af) (s:C6) (raw:List UInt8):(Int×Int)×C6×Af:=
 if 1099511627776≤lastE s then ((0,92),s,d)
 else if s.segEv≤s.count then
  (if (Bj d s (Fl s raw).length).1=0 then Ik (Bj d s (Fl s raw).length).2.2 (Bj d s (Fl s raw).length).2.1 (Fl s raw)
  else ((0,(Bj d s (Fl s raw).length).1),(Bj d s (Fl s raw).length).2))
 else if d.room - (usedF d.files:Int)<((Fl s raw).length:Int) then ((0,54),s,d) else Ik d s (Fl s raw)
def Kb (ms:List Mk) (from_:Int):Option Mk:=(ms.takeWhile fun m=>decide (m.s≤from_)).getLast?
def evFr:Nat→List (List UInt8)→List J6
 |_,[]=>[]
 |n,b::r=>⟨1,n,b⟩::evFr (n+1) r
theorem Dj: ∀ (bs:List (List UInt8)) (n:Nat),(evFr n bs).length=bs.length
 | [],_=>rfl
 |b::r,n=>by rw [evFr,τ,Dj r,τ]
theorem evFr_append: ∀ (a b:List (List UInt8)) (n:Nat),evFr n (a++b)=evFr n a++evFr (n+a.length) b
 | [],b,n=>by simp [evFr]
 |x::a,b,n=>by rw [List.cons_append,evFr,evFr_append a b,evFr,τ,List.cons_append,Nat.add_assoc,Nat.add_comm 1]
theorem evFr_get: ∀ (bs:List (List UInt8)) (n i:Nat) (f:J6),(evFr n bs)[i]? =some f→ ∃ b,bs[i]? =some b∧f=⟨1,n+i,b⟩
 | [],_,_,_,h=>by simp [evFr] at h
 |b::r,n,0,f,h=>by
  simp only [evFr,List.getElem?_cons_zero,Option.some.injEq] at h
  exact⟨b,rfl,h.symm⟩
 |b::r,n,i+1,f,h=>by
  rw [evFr,List.getElem?_cons_succ] at h
  obtain⟨x,h1,h2⟩:=evFr_get r (n+1) i f h
  exact⟨x,by simpa using h1,by rw [h2,Nat.add_assoc,Nat.add_comm 1]⟩
def Du (b:List UInt8):Prop:=(Gy b).2.2=0∧b.length≤1040
theorem evFr_ok {n:Nat} (h: ∀ b∈bs,Du b) (hn:n+bs.length≤1099511627777): ∀ f∈evFr n bs,FrmOk f:=fun f hf=>by
 obtain⟨i,hi⟩:=List.mem_iff_getElem?.1 hf
 obtain⟨b,h1,rfl⟩:=evFr_get bs n i f hi
 have h2:=(List.getElem?_eq_some_iff.1 h1).1
 have h3:=(h b (List.mem_of_getElem? h1)).2
 exact⟨⟨μ _,by show 1≤7;omega⟩,by show n+i≤_;omega,by show b.length≤_;omega⟩
def Hk (g:Sg):List UInt8:=(Hs g.num g.first).1
def Cl (g:Sg) (bs:List (List UInt8)):List UInt8:=Hk g++Hl (evFr g.first.toNat bs)
def Fv (stride:Nat):Nat→Nat→Nat→List (List UInt8)→List Mk
 |_,_,_,[]=>[]
 |i,s,p,b::r=>if i % stride=0 then ⟨(s:Int),(p:Int)⟩::Fv stride (i+1) (s+1) (p+b.length+20) r else Fv stride (i+1) (s+1) (p+b.length+20) r
theorem bldM_lay (stride p0:Nat): ∀ (bs:List (List UInt8)) (i s q:Nat),F7 stride i (Jt p0 (Fc q (evFr s bs)))=Fv stride i s (p0+q) bs
 | [],i,s,q=>rfl
 |b::r,i,s,q=>by
  have ih:=bldM_lay stride p0 r (i+1) (s+1) (q+b.length+20)
  have e:p0+(q+b.length+20)=p0+q+b.length+20:=by omega
  rw [e] at ih
  rw [evFr,Fc]
  show F7 stride i (⟨p0+q,b.length+20,⟨1,s,b⟩⟩::Jt p0 (Fc (q+b.length+20) (evFr (s+1) r)))=_
  rw [F7,Fv,ih]
theorem K7 (n:Nat) (b:List UInt8) (r:List (List UInt8)):(Hl (evFr n (b::r))).length=b.length+20+(Hl (evFr (n+1) r)).length:=by
 rw [evFr,Iu,ζ,Az]
theorem mksG_snoc (stride:Nat) (b:List UInt8): ∀ (bs:List (List UInt8)) (i s p:Nat),Fv stride i s p (bs++[b])=Fv stride i s p bs++if (i+bs.length) % stride=0 then [⟨((s+bs.length:Nat):Int),((p+(Hl (evFr s bs)).length:Nat):Int)⟩] else []
 | [],i,s,p=>by
  rw [List.nil_append,Fv,Fv,Fv,Φ,Nat.add_zero,Nat.add_zero,show Hl (evFr s [])=[] from rfl]
  simp
 |x::bs,i,s,p=>by
  have ih:=mksG_snoc stride b bs (i+1) (s+1) (p+x.length+20)
  rw [show i+1+bs.length=i+(bs.length+1) by omega,show s+1+bs.length=s+(bs.length+1) by omega,
   show p+x.length+20+(Hl (evFr (s+1) bs)).length=p+(Hl (evFr s (x::bs))).length by rw [K7];omega] at ih
  rw [List.cons_append,Fv,Fv,ih,τ]
  split<;>simp
theorem mksG_ok (stride:Nat): ∀ (bs:List (List UInt8)) (i s p:Nat) (s0 p0:Int),s0<(s:Int)→p0<(p:Int)→s+bs.length≤1099511627777→p+(Hl (evFr s bs)).length≤1099511627776→E5 s0 p0 (Fv stride i s p bs)=true
 | [],_,_,_,_,_,_,_,_,_=>rfl
 |b::r,i,s,p,s0,p0,h1,h2,h3,h4=>by
  rw [K7] at h4
  rw [τ] at h3
  rw [Fv]
  split
  ·rw [E5,γ (by simp only;omega)]
   exact mksG_ok stride r (i+1) (s+1) _ _ _ (by simp only;omega) (by simp only;omega) (by omega) (by omega)
  ·exact mksG_ok stride r (i+1) (s+1) _ _ _ (by omega) (by omega) (by omega) (by omega)
theorem K9 (stride:Nat): ∀ (bs:List (List UInt8)) (i s p:Nat),(Fv stride i s p bs).length≤bs.length
 | [],_,_,_=>μ _
 |b::r,i,s,p=>by
  have:=K9 stride r (i+1) (s+1) (p+b.length+20)
  rw [Fv]
  split<;>simp only [τ]<;>omega
theorem idxGo_nums: ∀ (ms:List Mk) (s p:Int) (acc:List Mk),E5 s p ms=true→0≤s→ -1≤p→(p= -1→s=0)→Nn (idxNums s (if p= -1 then 0 else p) ms) s (if p= -1 then 0 else p) acc=some (acc++ms)
 | [],s,p,acc,_,_,_,_=>by simp [idxNums,Nn]
 |m::r,s,p,acc,h,hs,hp,hz=>by
  rw [E5] at h
  split at h
  ·cases h
  ·rename_i hn
   have ih:=idxGo_nums r m.s m.p (acc++[m]) h (by omega) (by omega) (by omega)
   rw [γ (by omega)] at ih
   have e1:s+((m.s - s).toNat:Int)=m.s:=by omega
   have e2:(if p= -1 then 0 else p)+((m.p - (if p= -1 then 0 else p)).toNat:Int)=m.p:=by split<;>omega
   rw [idxNums,Nn,γ (by split<;>omega),e1,e2,ih]
   simp
theorem Pa: ∀ (ms:List Mk) (s p:Int),E5 s p ms=true→0≤s→ -1≤p→ ∀ u∈idxNums s (if p= -1 then 0 else p) ms,u≤1099511627776
 | [],_,_,_,_,_,u,hu=>by simp [idxNums] at hu
 |m::r,s,p,h,hs,hp,u,hu=>by
  rw [E5] at h
  split at h
  ·cases h
  ·rename_i hn
   have ih:=Pa r m.s m.p h (by omega) (by omega) u
   rw [γ (by omega)] at ih
   rw [idxNums] at hu
   rcases Δ.1 hu with rfl|hu
   ·omega
   ·rcases Δ.1 hu with rfl|hu
    ·split<;>omega
    ·exact ih hu
theorem Ht: ∀ (ms:List Mk) (s p:Int),(idxNums s p ms).length=2*ms.length
 | [],_,_=>rfl
 |m::r,s,p=>by rw [idxNums,τ,τ,Ht r,τ];omega
theorem idxDec_enc (h:Dv ms=true):Hb (Ej (idxNums 0 0 ms))=(ms,0):=by
 have hm:=h;unfold Dv at h;simp only [Bool.and_eq_true,decide_eq_true_eq] at h;have h1:=Pa ms 0 (-1) h.2 (by omega) (by omega);have h2:=idxGo_nums ms 0 (-1) [] h.2 (by omega) (by omega) (fun _=>rfl);rw [κ rfl] at h1 h2;have h3:=Ht ms 0 0;have hd:=decAll_enc (us:=idxNums 0 0 ms) (most:=1024) (fun u hu=>by have:=h1 u hu;omega) (by omega) (by omega) [];rw [List.append_nil] at hd;unfold Hb;rw [hd,γ (by simp),γ (by simp only;omega),h2];simp only [List.nil_append];rw [κ hm]
theorem flat_len: ∀ (us:List Nat),(∀ u∈us,u≤1099511627776)→(us.flatMap A7).length≤6*us.length
 | [],_=>by simp
 |u::r,h=>by
  have h1:=encV_len 5 u (Nat.lt_of_le_of_lt (h u (by simp)) (by decide))
  have h2:=flat_len r fun x hx=>h x (by simp [hx])
  rw [List.flatMap_cons,ζ,τ]
  omega
theorem Lz {count:Nat} (h1:first≤1099511627777) (h2:count≤512) (h3:stride≤64) (h:Dv ms=true):(Fa first count stride ms).length≤6200:=by
 have hm:=h;unfold Dv at h;simp only [Bool.and_eq_true,decide_eq_true_eq] at h;have a:=flat_len _ (by have:=Pa ms 0 (-1) h.2 (by omega) (by omega);rw [κ rfl] at this;exact this);have b:=Ht ms 0 0;have c:=De (show first<18446744073709551616 by omega);have d:=De (show count<18446744073709551616 by omega);have e:=De (show stride<18446744073709551616 by omega);have f:=De (show (idxNums 0 0 ms).length<18446744073709551616 by omega);unfold Fa Ej;simp only [ζ];omega
theorem unclose_foot {count:Nat} (h1:first≤1099511627777) (h2:1≤count∧count≤512) (h3:1≤stride∧stride≤64) (h:Dv ms=true):Fb (Fa first count stride ms)=some ⟨first,count,stride,ms⟩:=by
 have e1:=G0 (show first<18446744073709551616 by omega) (A7 count++(A7 stride++Ej (idxNums 0 0 ms)));have e2:=G0 (show count<18446744073709551616 by omega) (A7 stride++Ej (idxNums 0 0 ms));have e3:=G0 (show stride<18446744073709551616 by omega) (Ej (idxNums 0 0 ms));have hu:Ck 3 (Fa first count stride ms) []=some ([first,count,stride],Ej (idxNums 0 0 ms)):=by
  unfold Fa;rw [List.append_assoc,List.append_assoc,Jr (by rw [e1];simp only;omega),e1];simp only [List.drop_left];rw [Jr (by rw [e2];simp only;omega),e2];simp only [List.drop_left];rw [Jr (by rw [e3];simp only;omega),e3];simp [Ck]
 unfold Fb;rw [hu];simp only;unfold clsIn;simp only;rw [γ (by omega),idxDec_enc h];rfl
def Ceil (stride i q:Nat):Prop:=i≤q*stride∧q*stride<i+stride
theorem ceil_one {q:Nat} (h:Ceil stride i q) (h2:Ceil stride i k):q=k:=by
 have a:q*stride<(k+1)*stride:=by rw [Nat.add_mul];have:=h.2;have:=h2.1;omega
 have b:k*stride<(q+1)*stride:=by rw [Nat.add_mul];have:=h.1;have:=h2.2;omega
 have:=Nat.lt_of_mul_lt_mul_right a;have:=Nat.lt_of_mul_lt_mul_right b;omega
theorem ceil_zero {q:Nat} (h:Ceil stride i q) (h0:i % stride=0) (hp:0<stride):q*stride=i:=by
 have e:i / stride*stride=i:=Nat.div_mul_cancel (Nat.dvd_of_mod_eq_zero h0);have:Ceil stride i (i / stride):=⟨by omega,by omega⟩;rw [ceil_one h this,e]
theorem ceil_next {q:Nat} (h:Ceil stride i q) (hp:0<stride):Ceil stride (i+1) (if i % stride=0 then q+1 else q):=by
 split
 ·rename_i h0;have e:=ceil_zero h h0 hp;unfold Ceil;rw [Nat.add_mul];omega
 ·rename_i h0;have h1:=h.1;have:q*stride≠i:=fun e=>h0 (by rw [←e];exact Nat.mul_mod_left q stride);have h2:=h.2;exact⟨by omega,by omega⟩
theorem ceil_div {n:Nat} (hp:0<stride):Ceil stride n ((n+stride - 1) / stride):=by
 have h1:=Nat.div_mul_le_self (n+stride - 1) stride;have h2:=Nat.lt_div_mul_add hp (a:=n+stride - 1);exact⟨by omega,by omega⟩
theorem mksG_close (stride first:Nat) (foot:Int) (hp:0<stride): ∀ (bs:List (List UInt8)) (i q p:Nat),Ceil stride i q→((p+(Hl (evFr (first+i) bs)).length:Nat):Int)≤foot→H9 first stride foot q (Fv stride i (first+i) p bs)=true
 | [],_,_,_,_,_=>rfl
 |b::r,i,q,p,h,hf=>by
  rw [K7,Nat.add_assoc first i 1] at hf
  have hn:=ceil_next h hp
  rw [Fv,Nat.add_assoc first i 1]
  split
  ·rename_i h0
   rw [κ h0] at hn
   rw [H9,γ (by simp only;rw [ceil_zero h h0 hp];omega)]
   exact mksG_close stride first foot hp r (i+1) (q+1) _ hn (by omega)
  ·rename_i h0
   rw [γ h0] at hn
   exact mksG_close stride first foot hp r (i+1) q _ hn (by omega)
theorem mksG_count (stride:Nat) (hp:0<stride): ∀ (bs:List (List UInt8)) (i s p q Q:Nat),Ceil stride i q→Ceil stride (i+bs.length) Q→(Fv stride i s p bs).length+q=Q
 | [],i,s,p,q,Q,h,h2=>by
  rw [Fv,Φ,Nat.zero_add]
  exact ceil_one h h2
 |b::r,i,s,p,q,Q,h,h2=>by
  have hn:=ceil_next h hp
  have ih:=fun q' (hq:Ceil stride (i+1) q')=>mksG_count stride hp r (i+1) (s+1) (p+b.length+20) q' Q hq (by rw [τ] at h2;rw [show i+1+r.length=i+(r.length+1) by omega];exact h2)
  rw [Fv]
  split
  ·rename_i h0
   rw [κ h0] at hn
   have:=ih _ hn
   rw [τ]
   omega
  ·rename_i h0
   rw [γ h0] at hn
   exact ih _ hn
theorem seek_go (stride:Nat): ∀ (bs:List (List UInt8)) (i s p k:Nat),k<bs.length→
  (∃ j,j≤k∧(∀ t,j<t→t≤k→(i+t) % stride≠0)∧Kb (Fv stride i s p bs) ((s+k:Nat):Int)=some ⟨((s+j:Nat):Int),((p+(Hl (evFr s (bs.take j))).length:Nat):Int)⟩)∨
  ((∀ t,t≤k→(i+t) % stride≠0)∧Kb (Fv stride i s p bs) ((s+k:Nat):Int)=none)
 | [],_,_,_,_,h=>by simp at h
 |b::r,i,s,p,0,h=>by
  have hz:Kb (Fv stride (i+1) (s+1) (p+b.length+20) r) ((s+0:Nat):Int)=none:=by
   have: ∀ (r:List (List UInt8)) (i q p:Nat),s<q→Kb (Fv stride i q p r) ((s+0:Nat):Int)=none:=fun r=>by
    induction r with
    |nil=>intros;rfl
    |cons x r ih=>
     intro i q p hq;rw [Fv];split
     ·unfold Kb;rw [List.takeWhile_cons,γ (by simp;omega)];rfl
     ·exact ih _ _ _ (by omega)
   exact this r _ _ _ (by omega)
  rw [Fv];by_cases h0:i % stride=0
  ·left;refine⟨0,μ _,fun t h1 h2=>by omega,?_⟩;rw [κ h0];unfold Kb at hz ⊢;rw [List.takeWhile_cons,κ (by simp),List.getLast?_cons,hz];rfl
  ·right;rw [γ h0];exact⟨fun t ht=>by obtain rfl:t=0:=Nat.le_zero.1 ht;exact h0,hz⟩
 |b::r,i,s,p,k+1,h=>by
  have e:((s+(k+1):Nat):Int)=((s+1+k:Nat):Int):=by omega
  rcases seek_go stride r (i+1) (s+1) (p+b.length+20) k (by simpa using h) with⟨j,h1,h2,h3⟩|⟨h2,h3⟩
  ·left;refine⟨j+1,by omega,fun t a c=> ?_,?_⟩
   ·have:=h2 (t - 1) (by omega) (by omega);rwa [show i+1+(t - 1)=i+t by omega] at this
   ·have e2:(⟨((s+1+j:Nat):Int),((p+b.length+20+(Hl (evFr (s+1) (r.take j))).length:Nat):Int)⟩:Mk)=⟨((s+(j+1):Nat):Int),((p+(Hl (evFr s ((b::r).take (j+1)))).length:Nat):Int)⟩:=by
     rw [List.take_succ_cons,K7];simp only [Mk.mk.injEq];omega
    rw [e2] at h3;rw [e,Fv];split
    ·unfold Kb at h3 ⊢;rw [List.takeWhile_cons,κ (by simp;omega),List.getLast?_cons,h3];rfl
    ·exact h3
  ·have hall: ∀ t,1≤t→t≤k+1→(i+t) % stride≠0:=fun t a c=>by
    have:=h2 (t - 1) (by omega);rwa [show i+1+(t - 1)=i+t by omega] at this
   rw [e,Fv];by_cases h0:i % stride=0
   ·left;refine⟨0,θ _,fun t a c=>hall t (by omega) c,?_⟩;rw [κ h0];unfold Kb at h3 ⊢;rw [List.takeWhile_cons,κ (by simp;omega),List.getLast?_cons,h3];rfl
   ·right;rw [γ h0];exact⟨fun t ht=>by
     rcases Nat.eq_zero_or_pos t with rfl|ht0
     ·exact h0
     ·exact hall t ht0 ht,h3⟩
theorem seek_ok {s:Nat} (hp:0<stride) (hk:k<bs.length): ∃ j,j≤k∧k<j+stride∧
  Kb (Fv stride 0 s p bs) ((s+k:Nat):Int)=some ⟨((s+j:Nat):Int),((p+(Hl (evFr s (bs.take j))).length:Nat):Int)⟩:=by
 rcases seek_go stride bs 0 s p k hk with⟨j,h1,h2,h3⟩|⟨h2,_⟩
 ·refine⟨j,h1,?_,h3⟩;have hc:Ceil stride (j+1) ((j+1+stride - 1) / stride):=ceil_div hp;rcases Nat.lt_or_ge k (j+stride) with h|h
  ·exact h
  ·have h4:=hc.1;have h5:=hc.2;exact absurd (by rw [Nat.zero_add];exact Nat.mul_mod_left _ _) (h2 ((j+1+stride - 1) / stride*stride) (by omega) (by omega))
 ·exact absurd (by simp) (h2 0 (θ _))
theorem O9 {g:Sg} (h1:1≤g.num∧g.num≤999999) (h2:1≤g.first∧g.first≤1099511627777):20≤(Hk g).length∧(Hk g).length≤40:=by
 unfold Hk;rw [hdrEnc_ok h1.1 h1.2 h2.1 h2.2,Az,ζ];have:=De (show g.num.toNat<18446744073709551616 by omega);have:=De (show g.first.toNat<18446744073709551616 by omega);omega
theorem hdrOf_seg {g:Sg} (h1:1≤g.num∧g.num≤999999) (h2:1≤g.first∧g.first≤1099511627777) (r:List UInt8):B5 (Hk g++r)=(g.num.toNat,g.first.toNat,(Hk g).length,0):=by
 have:=hdrOf_enc (num:=g.num.toNat) (first:=g.first.toNat) (by omega) (by omega) r;rw [show ((g.num.toNat:Nat):Int)=g.num by omega,show ((g.first.toNat:Nat):Int)=g.first by omega] at this;exact this
theorem begV_seg {g:Sg} (h1:1≤g.num∧g.num≤999999) (h2:1≤g.first∧g.first≤1099511627777) (r:List UInt8):D4 (Hk g++r) g=((Hk g).length,true):=by
 unfold D4;rw [hdrOf_seg h1 h2];simp;omega
theorem scan_lay {n:Nat} (hb: ∀ b∈bs,Du b) (hn:n+bs.length≤1099511627777) (hm:bs.length≤most) (h:List UInt8):
  Bt (h++Hl (evFr n bs)) h.length n most=(Jt h.length (Fc 0 (evFr n bs)),(h++Hl (evFr n bs)).length):=by
 have hf:=frs_lay (fl:=evFr n bs) (rest:=[]) (evFr_ok hb hn) (.inl rfl);rw [List.append_nil] at hf;have ht:=takeRun_all (first:=n) (most:=most) (evFr n bs) 0 0 (fun i f hi=>by
  obtain⟨b,_,rfl⟩:=evFr_get bs n i f hi;exact⟨rfl,rfl⟩) (by rw [Dj];omega)
 unfold Bt;rw [List.drop_left,hf,ht,lastEnd_lay,Nat.zero_add,ζ]
theorem Gq (p:Nat) (xs:List (Nat×J6)):(Jt p xs).length=xs.length:=by simp [Jt]
theorem closing_foot {g:Sg}  (h1:1≤g.num∧g.num≤999999) (h2:1≤g.first∧g.first+(bs.length:Int)≤1099511627777) (h3:1≤bs.length∧bs.length≤512) (h4:1≤stride∧stride≤64)
  (hc:g.count=(bs.length:Int)) (hf:g.foot=((p+(Hl (evFr g.first.toNat bs)).length:Nat):Int)) (hf2:g.foot≤1099511627776) (hp:0<p):
  Cn (By 3 g.num.toNat (Fa g.first.toNat bs.length stride (Fv stride 0 g.first.toNat p bs))) g=some (Fv stride 0 g.first.toNat p bs,stride):=by
 have hm:Dv (Fv stride 0 g.first.toNat p bs)=true:=by
  unfold Dv;rw [mksG_ok stride bs 0 _ p 0 (-1) (by omega) (by omega) (by omega) (by omega),ξ (η (K9 stride bs 0 _ p) h3.2)];rfl
 have hw:=wholeF_enc (k:=3) (s:=g.num.toNat) (by decide) (by omega) (η (Lz (first:=g.first.toNat) (count:=bs.length) (stride:=stride) (by omega) h3.2 h4.2 hm) (by decide));unfold Cn;rw [hw];simp only;rw [γ (by omega),unclose_foot (by omega) h3 h4 hm];simp only;unfold closeIn;simp only;have hn:=mksG_count stride h4.1 bs 0 g.first.toNat p 0 ((bs.length+stride - 1) / stride) ⟨by omega,by omega⟩ (by rw [Nat.zero_add];exact ceil_div h4.1);have hcl:=mksG_close stride g.first.toNat g.foot h4.1 bs 0 0 p ⟨by omega,by omega⟩ (by rw [Nat.add_zero];omega);rw [Nat.add_zero] at hcl;rw [γ (by rw [←hn];omega),hcl];rfl
theorem at_take_same (n:List UInt8) (fs:List Bl):Bf (takeF n fs) n=none:=by
 unfold Bf takeF;rw [List.find?_filter,List.find?_eq_none];intro x _;simp
theorem at_app (hr:Fs fs)  (ha:Bf fs n=some x):
  (∀ k,k≠n→Bf (Ec fs (Ae n b)) k=Bf fs k)∧Bf (Ec fs (Ae n b)) n=some {x with data:=x.data++b}∧usedF (Ec fs (Ae n b))=usedF fs+b.length∧(Ec fs (Ae n b)).length=fs.length:=by
 have e:Ec fs (Ae n b)=Fd n (fun _=>{x with data:=x.data++b}) fs:=chgL_set (o:=Ae n b) hr ha (by simp [Ae]) (by simp [Ae]) (by simp [Ae]);have hn:=(B8 ha).1;have hu:=If (f':={x with data:=x.data++b}) hr ha hn;rw [e];exact⟨fun k hk=>Gv (y:={x with data:=x.data++b}) hn hk,Kz ha hn,by simp only [ζ] at hu;omega,by simp [Fd]⟩
theorem at_sync (hr:Fs fs)  (ha:Bf fs n=some x):
  (∀ k,k≠n→Bf (Ec fs (Ag n)) k=Bf fs k)∧Bf (Ec fs (Ag n)) n=some {x with safe:=(x.data.length:Int)}∧usedF (Ec fs (Ag n))=usedF fs∧(Ec fs (Ag n)).length=fs.length:=by
 have e:Ec fs (Ag n)=Fd n (fun _=>{x with safe:=(x.data.length:Int)}) fs:=chgL_set (o:=Ag n) hr ha (by simp [Ag]) (by simp [Ag]) (by simp [Ag]);have hn:=(B8 ha).1;have hu:=If (f':={x with safe:=(x.data.length:Int)}) hr ha hn;rw [e];exact⟨fun k hk=>Gv (y:={x with safe:=(x.data.length:Int)}) hn hk,Kz ha hn,by simp only at hu;omega,by simp [Fd]⟩
theorem at_new (ha:Bf fs n=none):
  (∀ k,k≠n→Bf (Ec fs (Ak n)) k=Bf fs k)∧Bf (Ec fs (Ak n)) n=some ⟨n,[],0⟩∧usedF (Ec fs (Ak n))=usedF fs∧(Ec fs (Ak n)).length=fs.length+1:=by
 rw [chg_create];exact⟨fun k hk=>Gu (fun e=>hk e.symm),Ee (ne_of_none ha),by rw [Fp];simp,Hw _ _⟩
theorem at_ren (ha:Bf fs n=some x) (hnt:n≠t):
  (∀ k,k≠n→k≠t→Bf (Ec fs (An n t)) k=Bf fs k)∧Bf (Ec fs (An n t)) n=none∧Bf (Ec fs (An n t)) t=some {x with name:=t}:=by
 have e:Ec fs (An n t)=Dp {x with name:=t} (takeF t (takeF n fs)):=by
  unfold Ec Iq stand An Ll;simp [ha]
 have h1: ∀ y∈takeF t (takeF n fs),y.name≠t:=fun y hy=>by
  have:=(List.mem_filter.1 hy).2;simpa using this
 rw [e];refine⟨fun k h2 h3=> ?_,?_,Ee (f:={x with name:=t}) h1⟩
 ·rw [Gu (f:={x with name:=t}) (fun e=>h3 e.symm),atF_take _ h3,atF_take _ h2]
 ·rw [Gu (f:={x with name:=t}) (fun e=>hnt e.symm),atF_take _ hnt,at_take_same]
abbrev Grp:=Sg×List (List UInt8)
def footG (stride:Nat) (x:Grp):List UInt8:=By 3 x.1.num.toNat (Fa x.1.first.toNat x.2.length stride (Fv stride 0 x.1.first.toNat (Hk x.1).length x.2))
structure SealAt (fs:List Bl) (stride:Nat) (x:Grp):Prop where
 dat:Dh fs (Ad x.1.num)=some (Cl x.1 x.2++footG stride x)
 len:1≤x.2.length∧x.2.length≤512
 count:x.1.count=(x.2.length:Int)
 foot:x.1.foot=((Cl x.1 x.2).length:Int)
structure Mo (fs:List Bl) (s:C6) (G:List Grp) (g:Sg) (bs:List (List UInt8)):Prop where
 ok:Cy s.man=true
 snap:s.man.snap=0
 segs:s.man.segs=G.map (·.1)++[g]
 man:Dh fs Aw=some (Ct s.man).1
 act:Dh fs (Ad g.num)=some (Cl g bs)
 cnt:s.count=bs.length∧bs.length≤512
 size:s.size=(Cl g bs).length
 marks:s.marks=Fv s.stride 0 g.first.toNat (Hk g).length bs
 seals: ∀ x∈G,SealAt fs s.stride x
 body:(∀ x∈G,∀ b∈x.2,Du b)∧ ∀ b∈bs,Du b
 cfg:(1≤s.stride∧s.stride≤64)∧1≤s.segEv∧s.segEv≤512
 clean: ∀ k x,Bf fs k=some x→A5 true s.man k=false
 top:g.first+(bs.length:Int)≤1099511627777
section
variable {fs : List Bl} {s : C6} {G : List Grp} {g : Sg} {bs : List (List UInt8)}
theorem Mo.last (h:Mo fs s G g bs):Ah s.man=g:=by unfold Ah;rw [h.segs];simp
theorem Mo.name (h:Mo fs s G g bs):A9 s.man=Ad g.num:=by unfold A9;rw [h.last]
theorem Mo.lastE (h:Mo fs s G g bs):lastE s=g.first+(bs.length:Int) - 1:=by unfold Go.Proofs.YtgkdenejkcngnaaGreatDoor.lastE;rw [h.last,h.cnt.1]
theorem Mo.mem (h:Mo fs s G g bs):g∈s.man.segs:=by rw [h.segs];simp
theorem Mo.seg (h:Mo fs s G g bs):(1≤g.num∧g.num≤999999)∧1≤g.first∧g.first≤1099511627777:=by
 have hf:=Cj h.ok;have:=hf.seg g h.mem;have:=hf.next;have:=h.top;omega
theorem Mo.sealSeg (h:Mo fs s G g bs) {x:Grp} (hx:x∈G):(1≤x.1.num∧x.1.num≤999999)∧1≤x.1.first:=by
 have hf:=Cj h.ok;have:=hf.seg x.1 (by rw [h.segs];exact List.mem_append_left _ (List.mem_map_of_mem hx));have:=hf.next;omega
end
theorem Km {bs:List (List UInt8)} (h: ∀ b∈bs,Du b) (n:Nat):(Hl (evFr n bs)).length≤1060*bs.length:=by
 induction bs generalizing n with
 |nil=>simp [evFr,Hl]
 |cons b r ih=>
  have:=ih (fun x hx=>h x (by simp [hx])) (n+1);have:=(h b (by simp)).2;rw [K7,τ];omega
theorem chain_turn (nx:Int) (g:Sg) (c k:Int) (hc:1≤c∧c≤512) (hk:1≤k∧k≤1099511627776) (ht:g.first+c≤1099511627777): ∀ (l:List Sg) (first num:Int),A4 nx first num (l++[g])=true→
  A4 (nx+1) first num (l++[(⟨g.num,g.first,c,k⟩:Sg),⟨nx,g.first+c,0,0⟩])=true
 | [],first,num,h=>by
  simp only [List.nil_append,A4,List.isEmpty_nil,List.isEmpty_cons,Bool.and_eq_true,decide_eq_true_eq,if_true,Bool.false_eq_true,if_false] at h ⊢
  repeat' apply And.intro
  all_goals first|trivial|omega
 |x::r,first,num,h=>by
  have e1:(r++[g]).isEmpty=false:=by cases r<;>rfl
  have e2:(r++[(⟨g.num,g.first,c,k⟩:Sg),⟨nx,g.first+c,0,0⟩]).isEmpty=false:=by cases r<;>rfl
  simp only [List.cons_append,A4,e1,e2,Bool.and_eq_true,decide_eq_true_eq,Bool.false_eq_true,if_false] at h ⊢
  have ih:=chain_turn nx g c k hc hk ht r (first+x.count) x.num h.2.2
  exact⟨⟨⟨h.1.1.1,h.1.1.2⟩,by omega⟩,h.2.1,ih⟩
theorem Mo.turnOk {s:C6} {G:List Grp} {g:Sg}  (h:Mo fs s G g bs) (hc:s.count≠0) (h1:s.man.segs.length<256) (h2:s.man.next≤999999) (h3:s.man.gen<1099511627776):
  Bu s={s.man with gen:=s.man.gen+1,next:=s.man.next+1,segs:=G.map (·.1)++[⟨g.num,g.first,s.count,s.size⟩,⟨s.man.next,g.first+(s.count:Int),0,0⟩]}∧Cy (Bu s)=true:=by
 have hf:=Cj h.ok;have e:Bu s={s.man with gen:=s.man.gen+1,next:=s.man.next+1,segs:=G.map (·.1)++[⟨g.num,g.first,s.count,s.size⟩,⟨s.man.next,g.first+(s.count:Int),0,0⟩]}:=by
  unfold Bu;rw [h.last,h.lastE,h.cnt.1,h.segs,List.dropLast_concat,show g.first+(bs.length:Int) - 1+1=g.first+(bs.length:Int) by omega]
 refine⟨e,?_⟩;have hch:=hf.chain;rw [h.segs] at hch;have h4:=h.cnt;have h5:=h.size;have h6:=Km h.body.2 g.first.toNat;have h7:=O9 h.seg.1 h.seg.2;have h8:(Cl g bs).length=(Hk g).length+(Hl (evFr g.first.toNat bs)).length:=by unfold Cl;rw [ζ]
 have:=chain_turn s.man.next g s.count s.size (by omega) (by omega) (by have:=h.top;omega) (G.map (·.1)) _ _ hch;rw [e];have a1:=hf.gen;have a2:=hf.next;have a3:=hf.snapSeq;have a4:=hf.floor;have a5:=hf.snap;have a6:(decide (s.man.snap=0)==decide (s.man.snapSeq=0))=true:=by
  have:=h.ok;simp only [Cy,Bool.and_eq_true] at this;exact this.1.1.2
 have a7:(G.map (·.1)++[(⟨g.num,g.first,s.count,s.size⟩:Sg),⟨s.man.next,g.first+(s.count:Int),0,0⟩]).length≤256:=by
  have:s.man.segs.length=(G.map (·.1)).length+1:=by rw [h.segs];simp
  simp only [ζ,τ,Φ] at this ⊢;omega
 simp only [Cy,Bool.and_eq_true,decide_eq_true_eq];exact⟨⟨⟨⟨⟨⟨⟨⟨⟨⟨⟨⟨by omega,by omega⟩,by omega⟩,by omega⟩,by omega⟩,by omega⟩,by omega⟩,by omega⟩,by omega⟩,by omega⟩,a6⟩,a7⟩,this⟩
section
variable {P Q : List Bl → Prop} {d : Af} {n : List UInt8} {x : Bl} {ops : List Ls}
theorem went_app (hok:A0 d) (hd:d.down=false) (ha:Bf d.files n=some x) (hu:((usedF d.files+b.length:Nat):Int)≤d.room) (h1:P (Ec d.files (Ae n b)))
  (hr: ∀ d':Af,d'.files=Ec d.files (Ae n b)→d'.room=d.room→d'.down=false→A0 d'→(d.fuse=0→d'.fuse=0)→Ox P Q d' (Bk d' ops)):Ox P Q d (Bk d (Ae n b::ops)):=
 E6 hok (by simp [Ae]) (by simp [Ae]) (by
  rw [Ja,Ey hok hd ha,γ (by decide),show decide (d.room - (usedF d.files:Int)<(b.length:Int))=false by simp;omega];rfl) (by rw [κ (by simp [Ae])];exact h1) hr
theorem went_sync (hok:A0 d) (hd:d.down=false) (ha:Bf d.files n=some x) (h1:P d.files)
  (hr: ∀ d':Af,d'.files=Ec d.files (Ag n)→d'.room=d.room→d'.down=false→A0 d'→(d.fuse=0→d'.fuse=0)→Ox P Q d' (Bk d' ops)):Ox P Q d (Bk d (Ag n::ops)):=
 E6 hok (by simp [Ag]) (by simp [Ag]) (by rw [Mr,Ey hok hd ha]) (by rw [γ (by simp [Ag])];exact h1) hr
theorem went_new (hok:A0 d) (hd:d.down=false) (hn:Ao n=true) (ha:Bf d.files n=none) (hl:d.files.length<700) (h1:P d.files)
  (hr: ∀ d':Af,d'.files=Ec d.files (Ak n)→d'.room=d.room→d'.down=false→A0 d'→(d.fuse=0→d'.fuse=0)→Ox P Q d' (Bk d' ops)):Ox P Q d (Bk d (Ak n::ops)):=
 E6 hok (by simp [Ak]) (by simp [Ak]) (by
  rw [Jb,openE_off hd hn ha,γ (by decide),γ (by decide),show decide (700≤d.files.length)=false by simp;omega];rfl) (by rw [γ (by simp [Ak])];exact h1) hr
theorem went_ren (hok:A0 d) (hd:d.down=false) (ht:Ao t=true) (ha:Bf d.files n=some x) (h1:P d.files)
  (hr: ∀ d':Af,d'.files=Ec d.files (An n t)→d'.room=d.room→d'.down=false→A0 d'→(d.fuse=0→d'.fuse=0)→Ox P Q d' (Bk d' ops)):Ox P Q d (Bk d (An n t::ops)):=
 E6 hok (by simp [An]) (by simp [An]) (by rw [Kf,Ey hok hd ha,ht];simp) (by rw [γ (by simp [An])];exact h1) hr
end
theorem ren_used (hr:Fs fs)  (ha:Bf fs n=some x):usedF (Ec fs (An n t))≤usedF fs∧(Ec fs (An n t)).length≤fs.length:=by
 have e:Ec fs (An n t)=Dp {x with name:=t} (takeF t (takeF n fs)):=by
  unfold Ec Iq stand An Ll;simp [ha]
 have h1:=Ea hr ha;have h2:usedF (takeF t (takeF n fs))≤usedF (takeF n fs):=by
  rcases h:Bf (takeF n fs) t with _|y
  ·rw [On h];exact μ _
  ·have:=Ea (Kt hr) h;omega
 have h3:(takeF n fs).length<fs.length:=by
  have hm:=(B8 ha).2;have hx:=(B8 ha).1;rcases Nat.lt_or_ge (takeF n fs).length fs.length with h|h
  ·exact h
  ·have:=List.length_filter_eq_length_iff.1 (Nat.le_antisymm (List.length_filter_le _ _) h) x hm;simp [hx] at this
 have h4:(takeF t (takeF n fs)).length≤(takeF n fs).length:=List.length_filter_le _ _;rw [e,Fp,Hw];exact⟨by simp only;omega,by omega⟩
theorem seg_ne {n:Int} (h:1≤n∧n≤999999):Ad n≠Bm∧Ad n≠Ic∧Ao (Ad n)=true:=by
 have h1:=parse_seg n h;refine⟨fun e=> ?_,fun e=> ?_,parse_right _ (by rw [h1];simp)⟩
 ·rw [e,show Bg Bm=(2,0) by decide] at h1;simp at h1
 ·rw [e,show Bg Ic=(1,0) by decide] at h1;simp at h1
theorem stray_tmp (m:Da):A5 true m Bm=true:=by
 unfold A5;rw [show Bg Bm=(2,0) by decide];rfl
theorem stray_next {m:Da} (hf:I2 m) (h:m.next≤999999):A5 true m (Ad m.next)=true:=by
 have h1:=hf.next;unfold A5;rw [parse_seg m.next (by omega)];simp only [if_true];have:Jg m m.next=false:=by
  unfold Jg;rw [List.any_eq_false];intro g hg;have:=hf.seg g hg;simp;omega
 rw [this];rfl
structure Mid (fs:List Bl) (s:C6) (fs':List Bl):Prop where
 oth: ∀ k,A5 true s.man k=false→k≠A9 s.man→Bf fs' k=Bf fs k
 act: ∃ x y,Bf fs (A9 s.man)=some x∧Bf fs' (A9 s.man)=some y∧(y.data=x.data∨y.data=x.data++Fo s)∧x.safe≤y.safe
structure TurnQ (fs:List Bl) (s:C6) (G:List Grp) (g:Sg) (bs:List (List UInt8)) (fs':List Bl):Prop where
 sta:Mo fs' (turned s) (G++[(⟨g.num,g.first,s.count,s.size⟩,bs)]) ⟨s.man.next,g.first+(bs.length:Int),0,0⟩ []
 oth: ∀ k,k≠Ic→k≠Ad g.num→k≠Ad s.man.next→k≠Bm→Bf fs' k=Bf fs k
 used:usedF fs'≤usedF fs+(Fo s).length+(Jy s).length+(Ct (Bu s)).1.length
 len:fs'.length≤fs.length+2
 safe: ∀ k,(k=Ic∨k=Ad g.num∨k=Ad s.man.next)→ ∀ x,Bf fs' k=some x→x.safe=(x.data.length:Int)
theorem Ku {s:C6}  (h:turnE d s more=0):s.count≠0∧s.man.segs.length<256∧s.man.next≤999999∧s.man.gen<1099511627776∧
  ((Fo s).length:Int)+((Jy s).length:Int)+((Ct (Bu s)).1.length:Int)+(more:Int)≤d.room - (usedF d.files:Int)∧d.files.length+2≤700:=by
 unfold turnE at h;split at h
 ·cases h
 ·split at h
  ·cases h
  ·split at h
   ·cases h
   ·split at h
    ·cases h
    ·omega
theorem seal_went {s:C6} {G:List Grp} {g:Sg}  (hok:A0 d) (hd:d.down=false) (h:Mo d.files s G g bs) (ht:turnE d s more=0) {P:List Bl→Prop} (hP: ∀ fs',Mid d.files s fs'→P fs'):
  Ox P (TurnQ d.files s G g bs) d (Bk d (Ds s)):=by
 obtain⟨hc,h256,hnx,hgen,hroom,hlen⟩:=Ku ht;obtain⟨hte,hto⟩:=h.turnOk hc h256 hnx hgen;have hf:=Cj h.ok;have hsg:=h.seg;obtain⟨F,hF⟩: ∃ F,F=d.files:=⟨_,rfl⟩;obtain⟨x0,hx0,hxd⟩:=Dm h.act;have hA:=seg_ne hsg.1;have hnxb:=hf.next;have hN:=seg_ne (n:=s.man.next) (by omega);have hgn:=hf.seg g h.mem;have hAN:Ad g.num≠Ad s.man.next:=fun e=>by
  have:=seg_same g.num s.man.next hsg.1;rw [e] at this;simp at this;omega
 have hnN:Bf d.files (Ad s.man.next)=none:=by
  rcases hh:Bf d.files (Ad s.man.next) with _|y
  ·rfl
  ·have:=h.clean _ y hh;rw [stray_next hf hnx] at this;cases this
 have hnT:Bf d.files Bm=none:=by
  rcases hh:Bf d.files Bm with _|y
  ·rfl
  ·have:=h.clean _ y hh;rw [stray_tmp] at this;cases this
 have hTM:Bm≠Ic:=by decide
 have hmid: ∀ fs' y,(∀ k,k≠Ad g.num→k≠Ad s.man.next→k≠Bm→Bf fs' k=Bf d.files k)→Bf fs' (Ad g.num)=some y→(y.data=x0.data∨y.data=x0.data++Fo s)→x0.safe≤y.safe→P fs':=fun fs' y a b c e=>
  hP fs' ⟨fun k hk hk2=>a k (by rw [←h.name];exact hk2) (fun e=>by rw [e,stray_next hf hnx] at hk;cases hk) (fun e=>by rw [e,stray_tmp] at hk;cases hk),x0,y,by rw [h.name];exact hx0,by rw [h.name];exact b,c,e⟩
 have hsf:=hok.safe x0 (B8 hx0).2;have e9:Ds s=[Ae (Ad g.num) (Fo s),Ag (Ad g.num),Ak (Ad s.man.next),Ae (Ad s.man.next) (Jy s),Ag (Ad s.man.next),Ak Bm,Ae Bm (Ct (Bu s)).1,Ag Bm,An Bm Ic]:=by
  unfold Ds Ei;rw [h.name];rfl
 rw [e9];obtain⟨a1,b1,u1,l1⟩:=at_app hok.rise hx0 (b:=Fo s);refine went_app hok hd hx0 (by omega) (hmid _ _ (fun k k1 _ _=>a1 k k1) b1 (.inr rfl) (Int.le_refl _)) fun d1 f1 r1 n1 o1 z1=> ?_;rw [←f1] at a1 b1 u1 l1;obtain⟨a2,b2,u2,l2⟩:=at_sync o1.rise b1;refine went_sync o1 n1 b1 (hmid _ _ (fun k k1 _ _=>a1 k k1) b1 (.inr rfl) (Int.le_refl _)) fun d2 f2 r2 n2 o2 z2=> ?_;rw [←f2] at a2 b2 u2 l2;have c2: ∀ k,k≠Ad g.num→Bf d2.files k=Bf d.files k:=fun k hk=>(a2 k hk).trans (a1 k hk);have hsy:x0.safe≤((x0.data++Fo s).length:Int):=by rw [ζ];omega
 have hN2:Bf d2.files (Ad s.man.next)=none:=by rw [c2 _ hAN.symm];exact hnN
 obtain⟨a3,b3,u3,l3⟩:=at_new hN2;refine went_new o2 n2 hN.2.2 hN2 (by omega) (hmid _ _ (fun k k1 _ _=>c2 k k1) b2 (.inr rfl) hsy) fun d3 f3 r3 n3 o3 z3=> ?_;rw [←f3] at a3 b3 u3 l3;have c3: ∀ k,k≠Ad g.num→k≠Ad s.man.next→Bf d3.files k=Bf d.files k:=fun k hk hk2=>(a3 k hk2).trans (c2 k hk);have g3:Bf d3.files (Ad g.num)=_:=(a3 _ hAN).trans b2;obtain⟨a4,b4,u4,l4⟩:=at_app o3.rise b3 (b:=Jy s);have c4: ∀ k,k≠Ad g.num→k≠Ad s.man.next→Bf (Ec d3.files (Ae (Ad s.man.next) (Jy s))) k=Bf d.files k:=fun k hk hk2=>(a4 k hk2).trans (c3 k hk hk2);have g4:=(a4 _ hAN).trans g3;refine went_app o3 n3 b3 (by rw [r3,r2,r1];omega) (hmid _ _ (fun k k1 k2 _=>c4 k k1 k2) g4 (.inr rfl) hsy) fun d4 f4 r4 n4 o4 z4=> ?_;rw [←f4] at a4 b4 u4 l4 c4 g4;obtain⟨a5,b5,u5,l5⟩:=at_sync o4.rise b4;refine went_sync o4 n4 b4 (hmid _ _ (fun k k1 k2 _=>c4 k k1 k2) g4 (.inr rfl) hsy) fun d5 f5 r5 n5 o5 z5=> ?_;rw [←f5] at a5 b5 u5 l5;have c5: ∀ k,k≠Ad g.num→k≠Ad s.man.next→Bf d5.files k=Bf d.files k:=fun k hk hk2=>(a5 k hk2).trans (c4 k hk hk2);have g5:=(a5 _ hAN).trans g4;have hT5:Bf d5.files Bm=none:=by rw [c5 _ hA.1.symm hN.1.symm];exact hnT
 obtain⟨a6,b6,u6,l6⟩:=at_new hT5;refine went_new o5 n5 (by decide) hT5 (by omega) (hmid _ _ (fun k k1 k2 _=>c5 k k1 k2) g5 (.inr rfl) hsy) fun d6 f6 r6 n6 o6 z6=> ?_;rw [←f6] at a6 b6 u6 l6;have c6: ∀ k,k≠Ad g.num→k≠Ad s.man.next→k≠Bm→Bf d6.files k=Bf d.files k:=fun k hk hk2 hk3=>(a6 k hk3).trans (c5 k hk hk2);have g6:=(a6 _ hA.1).trans g5;obtain⟨a7,b7,u7,l7⟩:=at_app o6.rise b6 (b:=(Ct (Bu s)).1);have c7: ∀ k,k≠Ad g.num→k≠Ad s.man.next→k≠Bm→Bf (Ec d6.files (Ae Bm (Ct (Bu s)).1)) k=Bf d.files k:=fun k hk hk2 hk3=>(a7 k hk3).trans (c6 k hk hk2 hk3);have g7:=(a7 _ hA.1).trans g6;refine went_app o6 n6 b6 (by rw [r6,r5,r4,r3,r2,r1];omega) (hmid _ _ c7 g7 (.inr rfl) hsy) fun d7 f7 r7 n7 o7 z7=> ?_;rw [←f7] at a7 b7 u7 l7 c7 g7;obtain⟨a8,b8,u8,l8⟩:=at_sync o7.rise b7;refine went_sync o7 n7 b7 (hmid _ _ c7 g7 (.inr rfl) hsy) fun d8 f8 r8 n8 o8 z8=> ?_;rw [←f8] at a8 b8 u8 l8;have c8: ∀ k,k≠Ad g.num→k≠Ad s.man.next→k≠Bm→Bf d8.files k=Bf d.files k:=fun k hk hk2 hk3=>(a8 k hk3).trans (c7 k hk hk2 hk3);have g8:=(a8 _ hA.1).trans g7;have s8:Bf d8.files (Ad s.man.next)=_:=(a8 _ hN.1).trans ((a7 _ hN.1).trans ((a6 _ hN.1).trans b5));obtain⟨a9,b9,m9⟩:=at_ren b8 hTM;have v9:=ren_used (t:=Ic) o8.rise b8;refine went_ren o8 n8 (by decide) b8 (hmid _ _ c8 g8 (.inr rfl) hsy) fun d9 f9 r9 n9 o9 z9=> ?_;rw [←f9] at a9 b9 m9 v9;have c9: ∀ k,k≠Ic→k≠Ad g.num→k≠Ad s.man.next→k≠Bm→Bf d9.files k=Bf d.files k:=fun k h0 hk hk2 hk3=>(a9 k hk3 h0).trans (c8 k hk hk2 hk3);have g9:=(a9 _ hA.1 hA.2.1).trans g8;have s9:=(a9 _ hN.1 hN.2.1).trans s8;refine Oo o9 n9 ⟨?_,c9,by omega,by omega,?_⟩
 ·have hsz:=h.size;have hcn:=h.cnt;have hH:Jy s=Hk ⟨s.man.next,g.first+(bs.length:Int),0,0⟩:=by
   unfold Jy Hk;rw [h.lastE,show g.first+(bs.length:Int) - 1+1=g.first+(bs.length:Int) by omega]
  have hfo:Fo s=footG s.stride (⟨g.num,g.first,s.count,s.size⟩,bs):=by
   unfold Fo footG;rw [h.last,hcn.1,h.marks];rfl
  refine⟨hto,?_,?_,?_,?_,⟨rfl,by simp⟩,?_,?_,?_,?_,h.cfg,?_,by simpa using h.top⟩
  ·show (Bu s).snap=0;rw [hte];exact h.snap
  ·show (Bu s).segs=_;rw [hte,hcn.1];simp
  ·show Dh d9.files Aw=some (Ct (Bu s)).1;rw [show Aw=Ic from rfl,D5 m9];simp
  ·rw [D5 s9];show some ([]++Jy s)=some (Cl _ []);unfold Cl;rw [List.nil_append,hH];simp [evFr,Hl]
  ·show (Jy s).length=_;unfold Cl;rw [hH];simp [evFr,Hl]
  ·rfl
  ·intro x hx;rcases List.mem_append.1 hx with hx|hx
   ·have hxs:=h.seals x hx;have hxg:=h.sealSeg hx;have hch:=hf.chain;have hxn:x.1.num<g.num:=by
     have:=(Oy _ _ _ _ hch).1;rw [h.segs,List.pairwise_append] at this;exact this.2.2 x.1 (List.mem_map_of_mem hx) g (by simp)
    have hq:=seg_ne hxg.1;have hd1:Ad x.1.num≠Ad g.num:=fun e=>by
     have:=seg_same g.num x.1.num hsg.1;rw [e] at this;simp at this;omega
    have hd2:Ad x.1.num≠Ad s.man.next:=fun e=>by
     have:=seg_same s.man.next x.1.num (by omega);rw [e] at this;simp at this;omega
    refine⟨?_,hxs.len,hxs.count,hxs.foot⟩;have:=hxs.dat;unfold Dh at this ⊢;rw [c9 _ hq.2.1 hd1 hd2 hq.1];exact this
   ·simp only [List.mem_singleton] at hx;subst hx;refine⟨?_,by simp only;omega,by simp only;omega,by simp only [hsz];rfl⟩;show Dh d9.files (Ad g.num)=_;rw [D5 g9];show some (x0.data++Fo s)=_;rw [hxd,hfo];rfl
  ·refine⟨fun x hx=> ?_,fun b hb=>by simp at hb⟩;rcases List.mem_append.1 hx with hx|hx
   ·exact h.body.1 x hx
   ·simp only [List.mem_singleton] at hx;subst hx;exact h.body.2
  ·intro k x hk;have hmt:=Cj hto;show A5 true (Bu s) k=false;by_cases k0:k=Ic
   ·rw [k0];exact ns_man true _
   by_cases k1:k=Ad g.num
   ·rw [k1];exact Pi hmt (g:=⟨g.num,g.first,s.count,s.size⟩) (by rw [hte];simp)
   by_cases k2:k=Ad s.man.next
   ·rw [k2];exact Pi hmt (g:=⟨s.man.next,g.first+(s.count:Int),0,0⟩) (by rw [hte];simp)
   by_cases k3:k=Bm
   ·rw [k3,b9] at hk;cases hk
   rw [c9 k k0 k1 k2 k3] at hk;have:=h.clean k x hk;unfold A5 at this ⊢;split at this
   ·rename_i hp;rw [κ hp];have hs:Jg s.man (Bg k).2=true:=by simpa using this
    unfold Jg at hs ⊢;rw [List.any_eq_true] at hs;obtain⟨z,hz1,hz2⟩:=hs;rw [hte];simp only [List.any_append,Bool.true_and,Bool.not_eq_false',Bool.or_eq_true,List.any_eq_true];rw [h.segs] at hz1;rcases List.mem_append.1 hz1 with hz1|hz1
    ·exact .inl ⟨z,hz1,hz2⟩
    ·simp only [List.mem_singleton] at hz1;subst hz1;exact .inr ⟨⟨z.num,z.first,s.count,s.size⟩,by simp,hz2⟩
   ·rename_i hp;rw [γ hp];have:(Bu s).snap=s.man.snap:=by rw [hte]
    rw [this]
    assumption
 ·rintro k (rfl|rfl|rfl) x hx
  ·rw [m9] at hx;cases hx;rfl
  ·rw [g9] at hx;cases hx;rfl
  ·rw [s9] at hx;cases hx;rfl
theorem seal_found {x:Grp} (hs:1≤stride∧stride≤64) (hx:SealAt fs stride x) (h1:1≤x.1.num∧x.1.num≤999999) (h2:1≤x.1.first∧x.1.first+(x.2.length:Int)≤1099511627777) (hb: ∀ b∈x.2,Du b):
  sealB (Dh fs (Ad x.1.num)) x.1=true∧Cn (footG stride x) x.1=some (Fv stride 0 x.1.first.toNat (Hk x.1).length x.2,stride):=by
 have hl:=O9 h1 (by omega:1≤x.1.first∧x.1.first≤1099511627777);have hll:=Km hb x.1.first.toNat;have hsl:(Cl x.1 x.2).length=(Hk x.1).length+(Hl (evFr x.1.first.toNat x.2)).length:=by unfold Cl;rw [ζ]
 have hfo:=hx.foot;have hle:=hx.len;have hcl:=closing_foot (g:=x.1) (bs:=x.2) (stride:=stride) (p:=(Hk x.1).length) h1 h2 hx.len hs hx.count (by rw [hfo,hsl]) (by rw [hfo,hsl];omega) (by omega);refine⟨?_,hcl⟩;have hfl:(footG stride x).length≠0:=by unfold footG;rw [Az];omega
 rw [hx.dat];unfold sealB;dsimp only;rw [γ (by rw [hfo,ζ];omega)];have hbe:D4 (Cl x.1 x.2++footG stride x) x.1=((Hk x.1).length,true):=by
  unfold Cl;rw [List.append_assoc];exact begV_seg h1 (by omega) _
 have hbt:=begV_take (b:=Cl x.1 x.2++footG stride x) (g:=x.1) (k:=min (Cl x.1 x.2++footG stride x).length 64) (by rw [hbe]) (by rw [hbe];simp only [ζ];omega);rw [hbt,hbe];simp only [Bool.true_eq_false,if_false];rw [show x.1.foot.toNat=(Cl x.1 x.2).length by omega,List.drop_left];have hfd:footG stride x=By 3 x.1.num.toNat (Fa x.1.first.toNat x.2.length stride (Fv stride 0 x.1.first.toNat (Hk x.1).length x.2)):=rfl;rw [hfd,hcl];dsimp only;rcases hb2:x.2 with _|⟨b,r⟩
 ·rw [hb2] at hle;simp at hle
 ·rw [Fv,κ (Nat.zero_mod _)];simp
theorem act_found {g:Sg}  (h1:1≤g.num∧g.num≤999999) (h2:1≤g.first∧g.first+(bs.length:Int)≤1099511627777) (hb: ∀ b∈bs,Du b) (hl:bs.length≤512):
  D4 (Cl g bs) g=((Hk g).length,true)∧B5 (Cl g bs)=(g.num.toNat,g.first.toNat,(Hk g).length,0)∧Bt (Cl g bs) (Hk g).length g.first.toNat 512=(Jt (Hk g).length (Fc 0 (evFr g.first.toNat bs)),(Cl g bs).length)∧
   I9 (some (Cl g bs)) g=((Cl g bs).length,bs.length,true):=by
 have a:=begV_seg h1 (by omega:1≤g.first∧g.first≤1099511627777) (Hl (evFr g.first.toNat bs));have b:=hdrOf_seg h1 (by omega:1≤g.first∧g.first≤1099511627777) (Hl (evFr g.first.toNat bs));have c:=scan_lay (n:=g.first.toNat) (most:=512) hb (by omega) hl (Hk g);refine⟨a,b,c,?_⟩;unfold I9;dsimp only;have a':D4 (Cl g bs) g=((Hk g).length,true):=a;have b':B5 (Cl g bs)=(g.num.toNat,g.first.toNat,(Hk g).length,0):=b;have c':Bt (Cl g bs) (Hk g).length g.first.toNat 512=(Jt (Hk g).length (Fc 0 (evFr g.first.toNat bs)),(Cl g bs).length):=c;rw [a',b'];simp only [Bool.true_eq_false,if_false];rw [c',Gq,Fy,Dj]
theorem Mo.sealTop {fs:List Bl} {s:C6} {G:List Grp} {g:Sg} {bs:List (List UInt8)} (h:Mo fs s G g bs) {x:Grp} (hx:x∈G):x.1.first+(x.2.length:Int)≤g.first:=by
 have hf:=Cj h.ok;have hch:=hf.chain;rw [h.segs] at hch;have hall: ∀ (l:List Sg) (first num:Int),A4 s.man.next first num (l++[g])=true→ ∀ z∈l,z.first+z.count≤g.first∧first≤g.first:=fun l=>by
  have hfst: ∀ (l:List Sg) (first num:Int),A4 s.man.next first num (l++[g])=true→first≤g.first:=fun l=>by
   induction l with
   |nil=>intro first num h;simp only [List.nil_append,A4,Bool.and_eq_true,decide_eq_true_eq] at h;omega
   |cons z r ih=>
    intro first num h;have e:(r++[g]).isEmpty=false:=by cases r<;>rfl
    simp only [List.cons_append,A4,e,Bool.and_eq_true,decide_eq_true_eq,Bool.false_eq_true,if_false] at h;have:=ih _ _ h.2.2;omega
  induction l with
  |nil=>intro _ _ _ z hz;cases hz
  |cons z r ih=>
   intro first num h y hy;have h0:=hfst (z::r) first num h;have e:(r++[g]).isEmpty=false:=by cases r<;>rfl
   simp only [List.cons_append,A4,e,Bool.and_eq_true,decide_eq_true_eq,Bool.false_eq_true,if_false] at h;have h2:=hfst r _ _ h.2.2;rcases Δ.1 hy with rfl|hy
   ·omega
   ·exact⟨(ih _ _ h.2.2 y hy).1,h0⟩
 have:=(hall _ _ _ hch x.1 (List.mem_map_of_mem hx)).1;rw [(h.seals x hx).count] at this;exact this
theorem Mo.sealed {s:C6} {G:List Grp} {g:Sg}  (h:Mo fs s G g bs) {x:Grp} (hx:x∈G):
  sealB (Dh fs (Ad x.1.num)) x.1=true∧Cn (footG s.stride x) x.1=some (Fv s.stride 0 x.1.first.toNat (Hk x.1).length x.2,s.stride):=by
 have a:=h.sealSeg hx;have b:=h.sealTop hx;have c:=h.top;exact seal_found h.cfg.1 (h.seals x hx) a.1 ⟨a.2,by omega⟩ (h.body.1 x hx)
theorem find_sta {s:C6} {G:List Grp} {g:Sg}  (h:Mo fs s G g bs) (room:Int):findB room fs=(⟨false,s.man,[],s.size,lastE s⟩,0):=by
 have hf:=Cj h.ok;have hsg:=h.seg;have hsq:s.man.snapSeq=0:=by
  have:=h.ok;simp only [Cy,Bool.and_eq_true,beq_iff_eq,decide_eq_decide] at this;exact this.1.1.2.1 h.snap
 obtain⟨_,_,_,ha⟩:=act_found hsg.1 ⟨hsg.2.1,h.top⟩ h.body.2 h.cnt.2;rw [find_man h.man (by rw [Mv h.ok]),Mv h.ok];unfold Pe;rw [h.last,h.name,h.act,ha,γ,γ]
 ·have:(fs.map (·.name)).filter (A5 true s.man)=[]:=List.filter_eq_nil_iff.2 fun n hn=>by
   obtain⟨f,hfm,rfl⟩:=List.mem_map.1 hn;rcases hx:Bf fs f.name with _|y
   ·exact absurd rfl (ne_of_none hx f hfm)
   ·rw [h.clean _ y hx];decide
  rw [this,h.lastE,h.size];simp only [Prod.mk.injEq,Pl.mk.injEq,true_and,and_true];omega
 ·simp only [Bool.true_eq_false,false_or];omega
 ·rintro(h1|h1)
  ·unfold snapB at h1;rw [γ (by rw [h.snap];decide)] at h1;cases h1
  ·rw [h.segs,List.dropLast_concat] at h1;unfold sealsB at h1;rw [List.all_eq_false] at h1;obtain⟨z,hz,hn⟩:=h1;obtain⟨x,hx,rfl⟩:=List.mem_map.1 hz;exact hn (h.sealed hx).1
theorem segB_snoc {g:Sg} :Cl g (bs++[raw])=Cl g bs++By 1 (g.first.toNat+bs.length) raw:=by
 unfold Cl;rw [evFr_append,Pc,←List.append_assoc];congr 1;simp [evFr,Hl]
theorem add_sta {s:C6} {G:List Grp} {g:Sg}  (h:Mo fs s G g bs) (hb:Du raw) (hl:bs.length<512) (ht:lastE s<1099511627776)
  (hx:Bf fs (Ad g.num)=some x) (h1: ∀ k,k≠Ad g.num→Bf fs' k=Bf fs k) {y:Bl} (h2:Bf fs' (Ad g.num)=some y) (h3:y.data=x.data++Fl s raw):Mo fs' (addS s (Fl s raw)) G g (bs++[raw]):=by
 have hsg:=h.seg;have hA:=seg_ne hsg.1;have hxd:x.data=Cl g bs:=by have:=h.act;rw [D5 hx] at this;simpa using this
 have hlE:=h.lastE;have hev:Fl s raw=By 1 (g.first.toNat+bs.length) raw:=by
  unfold Fl;rw [hlE];congr 1;omega
 have hd: ∀ k,k≠Ad g.num→Dh fs' k=Dh fs k:=fun k hk=>by unfold Dh;rw [h1 k hk]
 refine⟨h.ok,h.snap,h.segs,by rw [hd Aw (fun e=>hA.2.1 e.symm)];exact h.man,?_,?_,?_,?_,fun z hz=> ?_,⟨h.body.1,fun b hbm=> ?_⟩,h.cfg,fun k z hk=> ?_,?_⟩
 ·rw [D5 h2,h3,hxd,hev,segB_snoc]
 ·exact⟨by show s.count+1=_;rw [h.cnt.1];simp,by simp;omega⟩
 ·show s.size+(Fl s raw).length=_;rw [h.size,hev,segB_snoc,ζ]
 ·show (if s.count % s.stride=0 then s.marks++[⟨lastE s+1,s.size⟩] else s.marks)=Fv s.stride 0 g.first.toNat (Hk g).length (bs++[raw]);rw [mksG_snoc,h.marks,Nat.zero_add,h.cnt.1,hlE,h.size];have e1:g.first+(bs.length:Int) - 1+1=((g.first.toNat+bs.length:Nat):Int):=by omega
  have e2:((Cl g bs).length:Int)=(((Hk g).length+(Hl (evFr g.first.toNat bs)).length:Nat):Int):=by unfold Cl;rw [ζ]
  rw [e1,e2];split<;>simp
 ·have a:=h.seals z hz;have hzs:=h.sealSeg hz;have hne:Ad z.1.num≠Ad g.num:=fun e=>by
   have:=seg_same g.num z.1.num hsg.1;rw [e] at this;simp at this;have hch:=(Oy _ _ _ _ (Cj h.ok).chain).1;rw [h.segs,List.pairwise_append] at hch;have:=hch.2.2 z.1 (List.mem_map_of_mem hz) g (by simp);omega
  exact⟨by rw [hd _ hne];exact a.dat,a.len,a.count,a.foot⟩
 ·rcases List.mem_append.1 hbm with hbm|hbm
  ·exact h.body.2 b hbm
  ·simp only [List.mem_singleton] at hbm;subst hbm;exact hb
 ·by_cases hk0:k=Ad g.num
  ·rw [hk0];exact Pi (Cj h.ok) h.mem
  ·rw [h1 k hk0] at hk;exact h.clean k z hk
 ·simp only [ζ,List.length_singleton];omega
theorem rdD_okS (h:A0 d) (n:Nat):A0 (Df d n):=⟨h.rise,h.names,h.safe,h.count,h.room,h.used,h.fuse,h.steps,by show -9223372036854775808≤IntKind.i64.wrap (d.reads+(n:Int))∧IntKind.i64.wrap (d.reads+(n:Int))≤9223372036854775807;rw [ν];omega⟩
structure Fe (d:Af) (s:C6) (E:List (List UInt8)):Prop where
 ok:A0 d
 up:d.down=false
 sta: ∃ G g bs,Mo d.files s G g bs∧E=G.flatMap (·.2)++bs
 floor:s.man.floor=0
 closed:s.closed=false
theorem chain_sum (nx:Int) (g:Sg): ∀ (G:List Grp) (first num:Int),A4 nx first num (G.map (·.1)++[g])=true→(∀ x∈G,x.1.count=(x.2.length:Int))→g.first=first+((G.flatMap (·.2)).length:Int)
 | [],first,num,h,_=>by
  simp only [List.map_nil,List.nil_append,A4,Bool.and_eq_true,decide_eq_true_eq] at h
  simp only [List.flatMap_nil,Φ]
  omega
 |x::G,first,num,h,hc=>by
  have e:(G.map (·.1)++[g]).isEmpty=false:=by cases G<;>rfl
  simp only [List.map_cons,List.cons_append,A4,e,Bool.and_eq_true,decide_eq_true_eq,Bool.false_eq_true,if_false] at h
  have ih:=chain_sum nx g G _ _ h.2.2 fun y hy=>hc y (by simp [hy])
  have:=hc x (by simp)
  rw [List.flatMap_cons,ζ]
  omega
theorem Mo.events {s:C6} {G:List Grp} {g:Sg}  (h:Mo fs s G g bs) (hf:s.man.floor=0):g.first=((G.flatMap (·.2)).length:Int)+1:=by
 have hch:=(Cj h.ok).chain;rw [h.segs,hf] at hch;have:=chain_sum _ g G _ _ hch fun x hx=>(h.seals x hx).count;omega
theorem Fe.last {s:C6}  (h:Fe d s E):Go.Proofs.YtgkdenejkcngnaaGreatDoor.lastE s=(E.length:Int):=by
 obtain⟨G,g,bs,hs,rfl⟩:=h.sta;have:=hs.events h.floor;rw [hs.lastE,ζ];omega
theorem Fe.rd {s:C6}  (h:Fe d s E) (n:Nat):Fe (Df d n) s E:=⟨rdD_okS h.ok n,h.up,h.sta,h.floor,h.closed⟩
theorem Fe.seg {s:C6}  (h:Fe d s E):s.man.segs≠ []:=by
 obtain⟨G,g,bs,hs,rfl⟩:=h.sta;rw [hs.segs];simp
theorem app_ok (hok:A0 d) (hd:d.down=false) (hf:d.fuse=0) (ha:Bf d.files n=some x) (hu:((usedF d.files+b.length:Nat):Int)≤d.room):
  (Bi d (Ae n b)).2.2.2=0∧(Bi d (Ae n b)).1.files=Ec d.files (Ae n b)∧(Bi d (Ae n b)).1.room=d.room∧(Bi d (Ae n b)).1.down=false∧A0 (Bi d (Ae n b)).1∧(Bi d (Ae n b)).1.fuse=0:=by
 have hw:=went_app (P:=fun _=>True) (Q:=fun fs=>fs=Ec d.files (Ae n b)) (ops:=[]) hok hd ha hu trivial fun d' f _ n o _=>Oo o n f;by_cases h0:(Bi d (Ae n b)).2.2.2=0
 ·have e:Bk d [Ae n b]=((Bi d (Ae n b)).1,0):=by rw [Dx h0];rfl
  rw [e] at hw;rcases hw.out with⟨_,h2,h3,h4⟩|⟨h1,_⟩
  ·exact⟨h0,h2,hw.room,h3,hw.ok,h4 hf⟩
  ·cases h1
 ·rw [Ch h0] at hw;rcases hw.out with⟨h1,_⟩|⟨_,h2,_⟩
  ·exact absurd h1 h0
  ·exact absurd hf h2
structure Grow (d:Af) (s:C6) (d':Af) (s':C6) (u k:Nat):Prop where
 room:d'.room=d.room
 fuse:d'.fuse=0
 used:usedF d'.files≤usedF d.files+u
 len:d'.files.length≤d.files.length+k*2
 segs:s'.man.segs.length≤s.man.segs.length+k
 next:s'.man.next≤s.man.next+(k:Int)
 gen:s'.man.gen≤s.man.gen+(k:Int)
 cfg:s'.stride=s.stride∧s'.segEv=s.segEv
 steps:d'.steps≤d.steps+((k*40+1:Nat):Int)
theorem K4 {s:C6}  (h:Fe d s E):(Fo s).length≤6220:=by
 obtain⟨G,g,bs,hs,rfl⟩:=h.sta;have hsg:=hs.seg;have h7:=O9 hsg.1 hsg.2;have h8:=Km hs.body.2 g.first.toNat;have hc:=hs.cnt;have ht:=hs.top;have hm:Dv s.marks=true:=by
  rw [hs.marks];unfold Dv;rw [mksG_ok s.stride bs 0 _ _ 0 (-1) (by omega) (by omega) (by omega) (by omega),ξ (η (K9 s.stride bs 0 _ _) hc.2)];rfl
 unfold Fo;rw [Az];have:=Lz (first:=(Ah s.man).first.toNat) (count:=s.count) (stride:=s.stride) (by rw [hs.last];omega) (by omega) hs.cfg.1.2 hm;omega
theorem K6 {s:C6}  (h:Fe d s E) (hn:s.man.next≤999999) (hl:lastE s<1099511627777):(Jy s).length≤40:=by
 obtain⟨G,g,bs,hs,rfl⟩:=h.sta;have hf:=Cj hs.ok;have h1:=hf.next;have h2:=hs.seg;have h3:=hs.lastE;exact(O9 (g:=⟨s.man.next,lastE s+1,0,0⟩) (by simp only;omega) (by simp only;omega)).2
theorem Pg (m:Da):(Ct m).1.length≤10310:=by
 unfold Ct;split
 ·rename_i h;have hf:=Cj h;have:=manBody_len hf;rw [Nl (by have:=hf.gen;omega) (by omega)];simp only [Az];omega
 ·simp
theorem Jf: ∀ (ops:List Ls) (d:Af),(Bk d ops).1.steps≤d.steps+(ops.length:Int)
 | [],d=>by simp [Bk]
 |o::r,d=>by
  have h1:=Bx d o
  by_cases h0:(Bi d o).2.2.2=0
  ·rw [Dx h0]
   have:=Jf r (Bi d o).1
   rw [τ]
   push_cast
   omega
  ·rw [Ch h0,τ]
   push_cast
   omega
theorem turn_ok {s:C6}  (h:Fe d s E) (hf:d.fuse=0) (more:Nat):
  Fe (Bj d s more).2.2 (Bj d s more).2.1 E∧Grow d s (Bj d s more).2.2 (Bj d s more).2.1 16600 1∧
   (((Bj d s more).1=turnE d s more∧turnE d s more≠0∧(Bj d s more).2.1=s∧(Bj d s more).2.2.files=d.files)∨
    ((Bj d s more).1=0∧turnE d s more=0∧(Bj d s more).2.1.count=0∧((usedF (Bj d s more).2.2.files+more:Nat):Int)≤d.room)):=by
 by_cases h0:turnE d s more=0
 ·obtain⟨G,g,bs,hs,rfl⟩:=h.sta;have hz:=Ku h0;have hw:=seal_went (d:=Df d s.size) (P:=fun _=>True) (rdD_okS h.ok _) h.up hs (more:=more) h0 fun _ _=>trivial;have hst:=Jf (Ds s) (Df d s.size);rcases hw.out with⟨h1,h2,h3,h4⟩|⟨_,h2,_⟩
  ·have e:Bj d s more=(0,turned s,(Bk (Df d s.size) (Ds s)).1):=by unfold Bj;rw [κ h0,κ h1]
   have hu:=h2.used;have hl:=h2.len;have b1:=K4 h;have b2:=K6 h (by omega) (by rw [hs.lastE];have:=hs.top;omega);have b3:=Pg (Bu s);rw [e];refine⟨⟨hw.ok,h3,⟨_,_,_,h2.sta,by simp⟩,h.floor,h.closed⟩,⟨hw.room,h4 hf,?_,?_,?_,?_,?_,⟨rfl,rfl⟩,?_⟩,.inr ⟨rfl,h0,rfl,?_⟩⟩
   ·simp only;have:(Df d s.size).files=d.files:=rfl;rw [this] at hu;omega
   ·exact hl
   ·show (Bu s).segs.length≤_;unfold Bu;simp only [ζ,List.length_dropLast,τ,Φ];have:0<s.man.segs.length:=Ψ.2 h.seg;omega
   ·show s.man.next+1≤_;omega
   ·show s.man.gen+1≤_;omega
   ·have:(Ds s).length=9:=rfl;rw [this] at hst;have:(Df d s.size).steps=d.steps:=rfl;rw [this] at hst;simp only;omega
   ·have hr:(Df d s.size).files=d.files:=rfl;rw [hr] at hu;simp only;omega
  ·exact absurd hf h2
 ·have e:Bj d s more=(turnE d s more,s,if turnE d s more=54 then Df d s.size else d):=by unfold Bj;rw [γ h0]
  rw [e]
  have hd:Fe (if turnE d s more=54 then Df d s.size else d) s E∧(if turnE d s more=54 then Df d s.size else d).files=d.files∧(if turnE d s more=54 then Df d s.size else d).room=d.room∧
    (if turnE d s more=54 then Df d s.size else d).fuse=0∧(if turnE d s more=54 then Df d s.size else d).steps=d.steps:=by
   split
   ·exact⟨h.rd _,rfl,rfl,hf,rfl⟩
   ·exact⟨h,rfl,rfl,hf,rfl⟩
  exact⟨hd.1,⟨hd.2.2.1,hd.2.2.2.1,by simp only;rw [hd.2.1];omega,by simp only;rw [hd.2.1];omega,by simp only;omega,by simp only;omega,by simp only;omega,⟨rfl,rfl⟩,by simp only;rw [hd.2.2.2.2];omega⟩,.inl ⟨rfl,h0,rfl,hd.2.1⟩⟩
theorem append_ok {s:C6}  (h:Fe d s E) (hf:d.fuse=0) (hb:Du raw) (hl:s.count<512) (ht:lastE s<1099511627776) (hu:((usedF d.files+(Fl s raw).length:Nat):Int)≤d.room):
  (Ik d s (Fl s raw)).1=(lastE s+1,0)∧Fe (Ik d s (Fl s raw)).2.2 (Ik d s (Fl s raw)).2.1 (E++[raw])∧Grow d s (Ik d s (Fl s raw)).2.2 (Ik d s (Fl s raw)).2.1 1060 0:=by
 obtain⟨G,g,bs,hs,rfl⟩:=h.sta;obtain⟨x,hx,hxd⟩:=Dm hs.act;obtain⟨a1,a2,a3,a4,a5,a6⟩:=app_ok (b:=Fl s raw) h.ok h.up hf hx hu;obtain⟨b1,b2,b3,b4⟩:=at_app h.ok.rise hx (b:=Fl s raw);have hst:=Bx d (Ae (Ad g.num) (Fl s raw));have e:Ik d s (Fl s raw)=((lastE s+1,0),addS s (Fl s raw),(Bi d (Ae (Ad g.num) (Fl s raw))).1):=by unfold Ik;rw [hs.name,κ a1]
 rw [e];refine⟨rfl,⟨a5,a4,⟨G,g,bs++[raw],?_,by simp⟩,h.floor,h.closed⟩,⟨a3,a6,?_,?_,?_,?_,?_,⟨rfl,rfl⟩,?_⟩⟩
 ·rw [a2];exact add_sta hs hb (by have:=hs.cnt.1;omega) ht hx (fun k hk=>b1 k hk) b2 rfl
 ·simp only;rw [a2,b3];have:(Fl s raw).length=raw.length+20:=Az _ _ _;have:=hb.2;omega
 ·simp only;rw [a2,b4];omega
 ·exact μ _
 ·show s.man.next≤s.man.next+0;omega
 ·show s.man.gen≤s.man.gen+0;omega
 ·simp only;omega
theorem Grow.trans {d1 d2:Af} {s s1 s2:C6} {u1 u2 k1 k2:Nat} (h:Grow d s d1 s1 u1 k1) (h2:Grow d1 s1 d2 s2 u2 k2) (hs:d2.steps≤d.steps+(((k1+k2)*40+1:Nat):Int)):Grow d s d2 s2 (u1+u2) (k1+k2):=
 ⟨h2.room.trans h.room,h2.fuse,by have:=h.used;have:=h2.used;omega,by have:=h.len;have:=h2.len;omega,by have:=h.segs;have:=h2.segs;omega,by have:=h.next;have:=h2.next;omega,by have:=h.gen;have:=h2.gen;omega,
  ⟨h2.cfg.1.trans h.cfg.1,h2.cfg.2.trans h.cfg.2⟩,hs⟩
theorem push_ok {s:C6}  (h:Fe d s E) (hf:d.fuse=0) (hb:Du raw):
  Grow d s (Dg d s raw).2.2 (Dg d s raw).2.1 17660 1∧
   (((Dg d s raw).1.1=0∧(Dg d s raw).1.2≠0∧((Dg d s raw).1.2=92∧1099511627776≤lastE s∨(Dg d s raw).1.2=54∧d.room - (usedF d.files:Int)<1060∨(Dg d s raw).1.2=turnE d s (Fl s raw).length∧s.segEv≤s.count)∧
     Fe (Dg d s raw).2.2 (Dg d s raw).2.1 E∧(Dg d s raw).2.1=s∧(Dg d s raw).2.2.files=d.files)∨
    ((Dg d s raw).1=((E.length:Int)+1,0)∧Fe (Dg d s raw).2.2 (Dg d s raw).2.1 (E++[raw]))):=by
 have hbl:(Fl s raw).length=raw.length+20:=Az _ _ _;have hb2:=hb.2;have hself:Grow d s d s 17660 1:=⟨rfl,hf,by omega,by omega,by omega,by omega,by omega,⟨rfl,rfl⟩,by omega⟩;have hcfg:=(show 1≤s.segEv∧s.segEv≤512 from by obtain⟨G,g,bs,hs,_⟩:=h.sta;exact hs.cfg.2);unfold Dg;by_cases h1:1099511627776≤lastE s
 ·rw [κ h1];exact⟨hself,.inl ⟨rfl,by simp,.inl ⟨rfl,h1⟩,h,rfl,rfl⟩⟩
 ·rw [γ h1];by_cases h2:s.segEv≤s.count
  ·rw [κ h2];obtain⟨t1,t2,t3⟩:=turn_ok h hf (Fl s raw).length;rcases t3 with⟨a1,a2,a3,a4⟩|⟨a1,a2,a3,a4⟩
   ·rw [γ (by rw [a1];exact a2)];refine⟨⟨t2.room,t2.fuse,by have:=t2.used;simp only;omega,t2.len,t2.segs,t2.next,t2.gen,t2.cfg,t2.steps⟩,.inl ⟨rfl,by rw [a1];exact a2,.inr (.inr ⟨a1,h2⟩),t1,a3,a4⟩⟩
   ·rw [κ a1];have hlE:lastE (Bj d s (Fl s raw).length).2.1=lastE s:=by rw [t1.last,h.last]
    have hev:Fl (Bj d s (Fl s raw).length).2.1 raw=Fl s raw:=by show By 1 (Go.Proofs.YtgkdenejkcngnaaGreatDoor.lastE (Bj d s (Fl s raw).length).2.1+1).toNat raw=By 1 (Go.Proofs.YtgkdenejkcngnaaGreatDoor.lastE s+1).toNat raw;rw [hlE]
    have:=append_ok (raw:=raw) t1 t2.fuse hb (by omega) (by omega) (by rw [hev,t2.room];exact a4);rw [hev,hlE,h.last] at this;obtain⟨b1,b2,b3⟩:=this;refine⟨t2.trans b3 ?_,.inr ⟨b1,b2⟩⟩;have hx:(Bj d s (Fl s raw).length).2.2.steps≤d.steps+9:=by
     unfold Bj;rw [κ a2];have:=Jf (Ds s) (Df d s.size);have e:(Ds s).length=9:=rfl;have e2:(Df d s.size).steps=d.steps:=rfl;rw [e,e2] at this;split<;>exact this
    have:=b3.steps;omega
  ·rw [γ h2];by_cases h3:d.room - (usedF d.files:Int)<((Fl s raw).length:Int)
   ·rw [κ h3];exact⟨hself,.inl ⟨rfl,by simp,.inr (.inl ⟨rfl,by omega⟩),h,rfl,rfl⟩⟩
   ·rw [γ h3];have:=append_ok (raw:=raw) h hf hb (by omega) (by omega) (by omega);rw [h.last] at this;obtain⟨b1,b2,b3⟩:=this;exact⟨⟨b3.room,b3.fuse,by have:=b3.used;omega,by have:=b3.len;omega,by have:=b3.segs;omega,by have:=b3.next;omega,by have:=b3.gen;omega,b3.cfg,by have:=b3.steps;omega⟩,.inr ⟨b1,b2⟩⟩
theorem peek_app {c r:List UInt8} (h:16≤c.length):Db (c++r)=Db c:=by
 unfold Db;rw [Kg (by omega),Kg (by omega),Kg (by omega),Kg (by omega),List.take_append_of_le_length (by omega),List.drop_append_of_le_length (by omega),
  List.take_append_of_le_length (by rw [Λ];omega),ζ,γ (show ¬ c.length+r.length<16 by omega),γ (show ¬ c.length<16 by omega)]
theorem decF_size (h:(Cg b).2.2=0):(Db b).2.2.2=0∧(Cg b).2.1=(Db b).2.2.1∧(Db b).2.2.1≤b.length:=by
 unfold Cg at h ⊢;split at h
 ·rename_i h1;exact absurd h h1
 ·rename_i h1;rw [γ h1];split at h
  ·exact absurd h (by decide)
  ·rename_i h2;rw [γ h2];split at h
   ·exact absurd h (by decide)
   ·rename_i h3;rw [γ h3];exact⟨Decidable.not_not.1 h1,rfl,by omega⟩
theorem frame_torn {s:Nat} (hk:1≤k∧k≤7) (hs:s≤1099511627776) (hb:body.length≤16384) {n:Nat} (hn:n<body.length+20):(Cg ((By k s body).take n)).2.2≠0:=by
 intro h;have e:=decF_enc hk hs hb [];rw [List.append_nil] at e;obtain⟨h1,_,h3⟩:=decF_size h;obtain⟨_,h5,_⟩:=decF_size (b:=By k s body) (by rw [e]);have h16:=(peekF_fine h1).1;have hp:=peek_app (r:=(By k s body).drop n) h16;rw [List.take_append_drop] at hp;rw [e,hp] at h5;simp only at h5;rw [ω] at h3;omega
theorem lay_cut: ∀ (fl:List J6) (n:Nat),(∀ f∈fl,FrmOk f)→ ∃ m t,m≤fl.length∧(Hl fl).take n=Hl (fl.take m)++t∧(t=[]∨(Cg t).2.2≠0)∧ ∀ q,q≤fl.length→(Hl (fl.take q)).length≤n→q≤m
 | [],n,_=>⟨0,[],μ _,by simp [Hl],.inl rfl,fun q h _=>h⟩
 |f::r,n,h=>by
  obtain⟨h1,h2,h3⟩:=h f (by simp)
  have hl:=Az f.k f.s f.body
  by_cases hn:n<f.body.length+20
  ·refine⟨0,(By f.k f.s f.body).take n,θ _,?_,.inr (frame_torn h1 h2 h3 hn),fun q hq hle=> ?_⟩
   ·rw [Iu,List.take_append_of_le_length (by omega)]
    simp [Hl]
   ·rcases q with _|q
    ·exact μ _
    ·rw [List.take_succ_cons,Iu,ζ] at hle
     omega
  ·obtain⟨m,t,a1,a2,a3,a4⟩:=lay_cut r (n - (f.body.length+20)) (fun x hx=>h x (by simp [hx]))
   refine⟨m+1,t,by rw [τ];omega,?_,a3,fun q hq hle=> ?_⟩
   ·rw [Iu,List.take_succ_cons,Iu,List.append_assoc,←a2,←hl,List.take_append]
    rw [List.take_of_length_le (by omega)]
   ·rcases q with _|q
    ·exact θ _
    ·rw [List.take_succ_cons,Iu,ζ] at hle
     have:=a4 q (by rw [τ] at hq;omega) (by omega)
     omega
theorem takeRun_stop {first most:Nat} (tl:List (Nat×J6)) (ht:tl=[]∨ ∃ x r,tl=x::r∧x.2.k≠1): ∀ (fl:List J6) (p c:Nat),(∀ (i:Nat) f,fl[i]? =some f→f.k=1∧f.s=first+c+i)→c+fl.length≤most→takeRun first most c (Fc p fl++tl)=Fc p fl
 | [],p,c,_,_=>by
  rw [Fc,List.nil_append]
  rcases ht with rfl|⟨x,r,rfl,h⟩
  ·rw [takeRun]
  ·rw [take_stop (.inl h)]
 |f::r,p,c,h,hm=>by
  obtain⟨h1,h2⟩:=h 0 f rfl
  rw [τ] at hm
  rw [Fc,List.cons_append]
  by_cases hc:c+1=most
  ·have hr:r=[]:=List.length_eq_zero_iff.1 (by omega)
   subst hr
   rw [take_full (by simp only;omega) hc,Fc]
  ·rw [take_go (by simp only;omega) hc,takeRun_stop tl ht r _ (c+1) (fun i x hx=>by
    have:=h (i+1) x (by simpa using hx)
    omega) (by omega)]
theorem scan_more {n most:Nat} {bs:List (List UInt8)} (hb: ∀ b∈bs,Du b) (hn:n+bs.length≤1099511627777) (hm:bs.length≤most) (h t:List UInt8) (ft:List J6) (hf: ∀ f∈ft,FrmOk f∧f.k≠1) (ht:t=[]∨(Cg t).2.2≠0):
  Bt (h++(Hl (evFr n bs++ft)++t)) h.length n most=(Jt h.length (Fc 0 (evFr n bs)),(h++Hl (evFr n bs)).length):=by
 have hfr:=frs_lay (fl:=evFr n bs++ft) (rest:=t) (fun f hx=>by
  rcases List.mem_append.1 hx with hx|hx
  ·exact evFr_ok hb hn f hx
  ·exact(hf f hx).1) ht
 have hpos: ∀ (a b:List J6) (p:Nat),Fc p (a++b)=Fc p a++Fc (p+(Hl a).length) b:=fun a=>by
  induction a with
  |nil=>intro b p;simp [Fc,Hl]
  |cons x a ih=>
   intro b p;rw [List.cons_append,Fc,Fc,List.cons_append,ih,Iu,ζ,Az];congr 3;omega
 have hr:=takeRun_stop (first:=n) (most:=most) (Fc (0+(Hl (evFr n bs)).length) ft) (by
  rcases ft with _|⟨f,r⟩
  ·exact .inl rfl
  ·exact .inr ⟨_,_,rfl,(hf f (by simp)).2⟩) (evFr n bs) 0 0 (fun i f hi=>by
  obtain⟨b,_,rfl⟩:=evFr_get bs n i f hi;exact⟨rfl,rfl⟩) (by rw [Dj];omega)
 unfold Bt;rw [List.drop_left,hfr,hpos,hr,lastEnd_lay,Nat.zero_add,ζ]
theorem cut_found {g:Sg} {bs:List (List UInt8)} (h1:1≤g.num∧g.num≤999999) (h2:1≤g.first∧g.first+(bs.length:Int)≤1099511627777) (hb: ∀ b∈bs,Du b) (hl:bs.length≤512) (ft:List J6) (hf: ∀ f∈ft,FrmOk f∧f.k≠1) {n:Nat} (hn:(Hk g).length≤n):
  ∃ m,m≤bs.length∧I9 (some ((Hk g++Hl (evFr g.first.toNat bs++ft)).take n)) g=((Cl g (bs.take m)).length,m,true)∧
   Bt ((Hk g++Hl (evFr g.first.toNat bs++ft)).take n) (Hk g).length g.first.toNat 512=(Jt (Hk g).length (Fc 0 (evFr g.first.toNat (bs.take m))),(Cl g (bs.take m)).length)∧
   (∃ r,(Hk g++Hl (evFr g.first.toNat bs++ft)).take n=Cl g (bs.take m)++r)∧ ∀ q,q≤bs.length→(Cl g (bs.take q)).length≤n→q≤m:=by
 have hok: ∀ f∈evFr g.first.toNat bs++ft,FrmOk f:=fun f hx=>by
  rcases List.mem_append.1 hx with hx|hx
  ·exact evFr_ok hb (by omega) f hx
  ·exact(hf f hx).1
 obtain⟨m0,t,a1,a2,a3,a4⟩:=lay_cut _ (n - (Hk g).length) hok;have hevT: ∀ (bs:List (List UInt8)) (k q:Nat),(evFr k bs).take q=evFr k (bs.take q):=fun bs=>by
  induction bs with
  |nil=>intro k q;simp [evFr]
  |cons b r ih=>
   intro k q;rcases q with _|q
   ·simp [evFr]
   ·rw [List.take_succ_cons,evFr,evFr,List.take_succ_cons,ih]
 have hdat:(Hk g++Hl (evFr g.first.toNat bs++ft)).take n=Hk g++(Hl (evFr g.first.toNat (bs.take m0)++ft.take (m0 - bs.length))++t):=by
  rw [List.take_append,List.take_of_length_le hn,a2,List.take_append,hevT,Dj]
 have hm:(bs.take m0)=bs.take (min m0 bs.length):=by
  rw [List.take_eq_take_iff];simp
 obtain⟨m,hmm⟩: ∃ m,m=min m0 bs.length:=⟨_,rfl⟩;have hml:(bs.take m).length=m:=by rw [ω];omega
 have hft: ∀ f∈ft.take (m0 - bs.length),FrmOk f∧f.k≠1:=fun f hx=>hf f (List.mem_of_mem_take hx);have hbt: ∀ b∈bs.take m,Du b:=fun b hx=>hb b (List.mem_of_mem_take hx);rw [hm,←hmm] at hdat;have hsc:=scan_more (n:=g.first.toNat) (most:=512) (bs:=bs.take m) hbt (by omega) (by omega) (Hk g) t _ hft a3;rw [←hdat] at hsc;have hbe:=begV_seg h1 (by omega:1≤g.first∧g.first≤1099511627777) (Hl (evFr g.first.toNat (bs.take m)++ft.take (m0 - bs.length))++t);have hhd:=hdrOf_seg h1 (by omega:1≤g.first∧g.first≤1099511627777) (Hl (evFr g.first.toNat (bs.take m)++ft.take (m0 - bs.length))++t);rw [←hdat] at hbe hhd;refine⟨m,by omega,?_,hsc,⟨Hl (ft.take (m0 - bs.length))++t,?_⟩,fun q hq hle=> ?_⟩
 ·unfold I9;dsimp only;rw [hbe,hhd];simp only [Bool.true_eq_false,if_false];rw [hsc,Gq,Fy,Dj,hml];rfl
 ·rw [hdat,Pc];unfold Cl;simp only [List.append_assoc]
 ·unfold Cl at hle;rw [ζ] at hle;have:=a4 q (by rw [ζ,Dj];omega) (by rw [List.take_append_of_le_length (by rw [Dj];omega),hevT];omega);omega
theorem used_filter (q:Bl→Bool): ∀ fs:List Bl,usedF (fs.filter q)≤usedF fs
 | []=>μ _
 |f::r=>by
  have ih:=used_filter q r
  rw [List.filter_cons]
  split
  ·simp only [usedF,List.map_cons,List.sum_cons] at ih ⊢;omega
  ·simp only [usedF,List.map_cons,List.sum_cons] at ih ⊢;omega
theorem man_clean (hok:A0 d) (hd:d.down=false) (hfz:d.fuse=0)  (hm:Dh d.files Aw=some b) (h0:(B2 b).2=0) {p:Pl} (hp:Pe d.files (B2 b).1=(p,0)):
  (B1 d p).2=0∧A0 (B1 d p).1∧(B1 d p).1.down=false∧(B1 d p).1.fuse=0∧(B1 d p).1.room=d.room∧usedF (B1 d p).1.files≤usedF d.files∧(B1 d p).1.files.length≤d.files.length∧
   ∃ x y,Bf d.files (A9 (B2 b).1)=some x∧Nx d.files (B2 b).1 (I9 (some x.data) (Ah (B2 b).1)).1 x y (B1 d p).1.files∧y.data=x.data.take (I9 (some x.data) (Ah (B2 b).1)).1∧y.safe=((I9 (some x.data) (Ah (B2 b).1)).1:Int):=by
 obtain⟨m,hmm⟩: ∃ m,m=(B2 b).1:=⟨_,rfl⟩;have hdm:B2 b=(m,0):=by rw [hmm];exact Prod.ext rfl h0
 rw [←hmm] at hp;have hmo:Cy m=true:=by rw [hmm];exact decMan_ok h0
 have hf:=Cj hmo;have hfd:findB d.room d.files=(p,0):=by rw [find_man hm h0,←hmm];exact hp
 obtain⟨hpe,hact⟩:=manB_inv hp;obtain⟨fs0,hfs⟩: ∃ fs0,fs0=d.files:=⟨_,rfl⟩;have hok0:=hok;obtain⟨x,hx⟩: ∃ x,Bf d.files (A9 m)=some x:=by
  rcases h:Bf d.files (A9 m) with _|x
  ·rw [Ki h] at hact;cases hact
  ·exact⟨x,rfl⟩
 rw [D5 hx] at hact hpe;obtain⟨hcut,hc20,hcl⟩:=actB_cut hact;obtain⟨cut,hcu⟩: ∃ c,c=(I9 (some x.data) (Ah m)).1:=⟨_,rfl⟩;rw [←hcu] at hcut hc20 hcl hpe;have hns:A5 true m (A9 m)=false:=Pi hf (last_mem hf);have hpm:p.man=m:=by rw [hpe]
 have hpc:p.cut=(cut:Int):=by rw [hpe]
 have hpr:p.remove=straysD d true m:=by rw [hpe];rfl
 have hpf:p.fresh=false:=by rw [hpe]
 have hlen:x.data.length≤67108864:=by
  have h1:=Fg (B8 hx).2;have h2:=hok.used;have h3:=hok.room;omega
 have hap:B1 d p=Bk d ((straysD d true m).map Bb++(Ek (A9 m)::((if (cut:Int)<(x.data.length:Int) then [Dk (A9 m) cut] else [])++[Ag (A9 m)]))):=by
  unfold B1 M4 Je;rw [hpm,hmo,hpf,hpr,hpc];have:(straysD d true m).any (fun y=>y==A9 m)=false:=by
   rw [List.any_eq_false];intro y hy e;have h1:A5 true m y=true:=(List.mem_filter.1 hy).2;rw [eq_of_beq e,hns] at h1;cases h1
  rw [this];simp only [Bool.false_eq_true,if_false,if_true];rw [hx];rfl
 rw [hap];have hsafe0:SafeIn d.files→x.safe=(x.data.length:Int):=fun hs=>by
  obtain⟨g1,g2⟩:=B8 hx;obtain⟨e1,e2⟩:=man_there hm;refine hs x g2 ?_;rw [e1,e2,hdm,g1];exact hns
 have hw:Ox (fun _=>True) (fun fs=> ∃ y,Nx d.files m cut x y fs∧y.data=x.data.take cut∧y.safe=(cut:Int)∧usedF fs≤usedF d.files∧fs.length≤d.files.length) d (Bk d ((straysD d true m).map Bb++(Ek (A9 m)::((if (cut:Int)<(x.data.length:Int) then [Dk (A9 m) cut] else [])++[Ag (A9 m)])))):=by
  refine went_removes (I:=fun fs=>(∀ k,A5 true m k=false→Bf fs k=Bf d.files k)∧(∀ f∈fs,f∈d.files)∧usedF fs≤usedF d.files∧fs.length≤d.files.length) (fun _ _=>trivial) _ d _ hok hd (strays_nodup hok.rise _ _) (strays_sub d true m hok.rise).2 ⟨fun _ _=>rfl,fun _ h=>h,μ _,μ _⟩ (fun fs n hn h=> ?_) fun d1 e1 r1 n1 o1 f1 hI=> ?_
  ·have hs:A5 true m n=true:=(List.mem_filter.1 hn).2;refine⟨fun k hk=> ?_,fun f hfm=>h.2.1 f (List.mem_filter.1 hfm).1,η (used_filter _ _) h.2.2.1,η (List.length_filter_le _ _) h.2.2.2⟩;rw [at_take]
   ·exact h.1 k hk
   ·rintro rfl;rw [hk] at hs;cases hs
  ·have e1':d1.files=d.files.filter fun f=> !(A5 true m f.name):=by
    rw [e1];exact takes_strays _ _
   have hx1:Bf d1.files (A9 m)=some x:=(hI.1 _ hns).trans hx;have hns1: ∀ f∈d1.files,A5 true m f.name=false:=fun f hfm=>by
    rw [e1'] at hfm;have hns2:=(List.mem_filter.1 hfm).2;simpa using hns2
   have L1:Nx d.files m cut x x d1.files:=⟨o1.rise,hx1,fun k hk _=>hI.1 k hk,fun f hfm=> .inr (hI.2.1 f hfm),fun f hfm=>hns1 f hfm,rfl,hcl,hsafe0⟩;rw [Dx (by rw [sizeO (Ey o1 n1 hx1) hx1]),sizeO (Ey o1 n1 hx1) hx1];show Ox _ _ d1 (Bk d1 _);have hsync: ∀ (d2:Af) (y:Bl),A0 d2→d2.down=false→d2.room=d.room→Nx d.files m cut x y d2.files→y.data=x.data.take cut→usedF d2.files≤usedF d.files∧d2.files.length≤d.files.length→Ox (fun _=>True) (fun fs=> ∃ y,Nx d.files m cut x y fs∧y.data=x.data.take cut∧y.safe=(cut:Int)∧usedF fs≤usedF d.files∧fs.length≤d.files.length) d2 (Bk d2 [Ag (A9 m)]):=fun d2 y o2 n2 r2 L2 hyl hus=>by
    refine E6 o2 (by simp [Ag]) (by simp [Ag]) (by rw [Mr];exact Ey o2 n2 L2.at_) trivial fun d3 e3 r3 n3 o3 f3=> ?_;have c3:Ec d2.files (Ag (A9 m))=Fd (A9 m) (fun _=>{y with safe:=(y.data.length:Int)}) d2.files:=by
     rw [chgL_set (x:=y) o2.rise L2.at_ (by simp [Ag]) (by simp [Ag]) (by simp [Ag])];simp [Ll,Ag]
    rw [c3] at e3;have L3:=L2.set hf (z:={y with safe:=(y.data.length:Int)}) L2.name L2.dat L2.len (fun _=>rfl);have hu3:=If (f':={y with safe:=(y.data.length:Int)}) o2.rise L2.at_ L2.name;have hl3:(Fd (A9 m) (fun _=>{y with safe:=(y.data.length:Int)}) d2.files).length=d2.files.length:=by unfold Fd;rw [List.length_map]
    rw [←e3] at L3 hu3 hl3;exact Oo o3 n3 ⟨_,L3,hyl,by show (y.data.length:Int)=_;rw [hyl,ω];omega,by simp only at hu3;omega,by omega⟩
   by_cases hlt:(cut:Int)<(x.data.length:Int)
   ·rw [κ hlt];show Ox _ _ d1 (Bk d1 (Dk (A9 m) cut::[Ag (A9 m)]));refine E6 o1 (by simp [Dk]) (by simp [Dk];omega) ?_ trivial fun d2 e2 r2 n2 o2 f2=> ?_
    ·rw [bar_cut,Ey o1 n1 hx1,hx1,γ (by decide)];dsimp only;rw [γ];simp;omega
    ·have c2:Ec d1.files (Dk (A9 m) cut)=Fd (A9 m) (fun _=>{x with data:=x.data.take cut,safe:=if (cut:Int)<x.safe then (cut:Int) else x.safe}) d1.files:=by
      rw [chgL_set (x:=x) o1.rise hx1 (by simp [Dk]) (by simp [Dk]) (by simp [Dk])];simp [Ll,Dk];rfl
     rw [c2] at e2;have hl2:(x.data.take cut).length=cut:=by rw [ω];omega
     have L2:=L1.set hf (z:={x with data:=x.data.take cut,safe:=if (cut:Int)<x.safe then (cut:Int) else x.safe}) L1.name hcut (by show cut≤(x.data.take cut).length;omega) (fun hs=>by
      show (if (cut:Int)<x.safe then (cut:Int) else x.safe)=((x.data.take cut).length:Int);rw [hl2,κ (by rw [hsafe0 hs];exact hlt)])
     have hu2:=If (f':={x with data:=x.data.take cut,safe:=if (cut:Int)<x.safe then (cut:Int) else x.safe}) o1.rise hx1 L1.name;have hl3:(Fd (A9 m) (fun _=>{x with data:=x.data.take cut,safe:=if (cut:Int)<x.safe then (cut:Int) else x.safe}) d1.files).length=d1.files.length:=by unfold Fd;rw [List.length_map]
     rw [←e2] at L2 hu2 hl3;exact hsync d2 _ o2 n2 (r2.trans r1) L2 rfl ⟨by have:=hI.2.2.1;simp only [hl2] at hu2;omega,by have:=hI.2.2.2;omega⟩
   ·rw [γ hlt];exact hsync d1 x o1 n1 r1 L1 (List.take_of_length_le (by omega)).symm hI.2.2
 rcases hw.out with⟨a1,⟨y,a2,a3,a4,a7,a8⟩,a5,a6⟩|⟨_,a2,_⟩
 ·exact⟨a1,hw.ok,a5,a6 hfz,hw.room,a7,a8,x,y,by rw [←hmm];exact hx,by rw [←hmm,←hcu];exact a2,by rw [←hmm,←hcu];exact a3,by rw [←hmm,←hcu];exact a4⟩
 ·exact absurd hfz a2
theorem bldM_snoc (stride:Nat) (p:I3): ∀ (ps:List I3) (i:Nat),F7 stride i (ps++[p])=F7 stride i ps++if (i+ps.length) % stride=0 then [⟨(p.f.s:Int),(p.pos:Int)⟩] else []
 | [],i=>by
  rw [List.nil_append,F7,F7,F7,Φ,Nat.add_zero]
  split<;>rfl
 |x::r,i=>by
  have ih:=bldM_snoc stride p r (i+1)
  rw [show i+1+r.length=i+(r.length+1) by omega] at ih
  rw [List.cons_append,F7,F7,ih,τ]
  split
  ·rfl
  ·rfl
theorem bldM_len (stride:Nat): ∀ (ps:List I3) (i:Nat),(F7 stride i ps).length≤ps.length
 | [],_=>μ _
 |p::r,i=>by
  have:=bldM_len stride r (i+1)
  rw [F7]
  split<;>simp only [τ]<;>omega
theorem Hm.row {p p':I3}  (h:Hm w g p v):Hm (w.setRow g (Im p' v')) g p' v':=setRow_heap w g _ _ _ _ h
theorem wpList_store_plc (hgd:o.guard=none) (x y:Operand) (ho:o.op= .store 103 x y)
  (g:Nat) (p p':I3) (v v':Value) (hx:a.eval x= .pointer (some ⟨g,0,none⟩)) (hy:a.eval y=pcV p' v') (hE:Hm w g p v) (h1:v'.oneCell'=true)
  (h: ∀ W,Hm W g p' v'→Ab (fun k=>k=g) w W→wpList prog ops Q rest (a.put o.dst undef) W):wpList prog ops Q (o::rest) a w:=
 wpList_store_row hgd 103 x y ho g (Im p' v') hx hy 103 (Im p v) hE pcInfo rfl (pcCs_all p' v' h1) (h _ hE.row (Jh _ _ _))
theorem Lr (hgd:o.guard=none) (x:Operand) (ho:o.op= .load 103 x)
  (b off:Nat) (p:I3) (dv:Value) (hx:a.eval x= .pointer (some ⟨b,off,none⟩)) (hE:w.rangeAt b off (Im p dv).toList)
  (h:wpList prog ops Q rest (a.put o.dst (pcV p dv)) w):wpList prog ops Q (o::rest) a w:=
 wpList_load_mid hgd 103 x ho b off hx (Im p dv).toList _ hE underlying103 rfl pcInfo h
theorem Fx {n:Nat} {e:TypeId}  {xs:List Value} (h:w.ownsRow B e size v n xs) (ht:Ab S w w') (hS: ∀ k,v.ownBlock=some k→ ¬ S k):w'.ownsRow B e size v n xs:=by
 refine⟨h.1,?_⟩;rcases h.2 with hn|⟨g,cap,cur,rfl,hb1,hg,rest⟩
 ·exact .inl hn
 ·exact .inr ⟨g,cap,cur,rfl,hb1,by rw [ht.block _ (δ.1 hg).1 (hS g rfl)];exact hg,rest⟩
def zPc:I3:=⟨0,0,N7⟩
theorem build_any (ps:List I3) (v:Value) (stride:Nat) (A:Nat→Prop) (w:World) (hv:Ny A w v ps) (hs:1≤stride∧stride≤64) (hl:ps.length≤512):
  Calls prog 37 #[v,Vi Vk (stride:Int)] w fun e w'=> ∃ v',e= .returned v'∧Es w' w.heap.size v' (F7 stride 0 ps)∧Below w.heap.size w w':=by
 obtain⟨oa,cap,rfl,_,_,hat⟩:=hv.shape;have HAT:=Qh hat;have t1:decide ((stride:Int)<1)=false:=by simp;omega
 have hst:=hs.1;have hst0:((stride:Int)==0)=false:=by simp;omega
 clear hat hv;go_enter func37,ntmps37;go_wp2;go_loopw [5,12] (fun mv iv wr=> ∃ k:Nat,k≤ps.length∧iv= Vi Vk (k:Int)∧Hid (Es wr w.heap.size mv (F7 stride 0 (ps.take k)))∧Hid (Below w.heap.size w wr)) (fun _ iv _=>ps.length - (intOf iv).toNat)
 case atStart=>exact⟨0,θ _,rfl,Qh (G6 _ _),Qh (χ _ _)⟩
 case round=>
  obtain⟨k,hk,rfl,HO,HB⟩:=hrel;by_cases hlt:k<ps.length
  ·obtain⟨p,hp,htk,_⟩:=Pj ps k hlt;obtain⟨b,off,rfl,_,dv,hcell,hbr⟩:=HAT.out k p hp;have hone:=hbr.one;have q1:(k:Int)<(ps.length:Int):=by omega
   have HSN:=Qs (F7 stride 0 (ps.take (k+1))=F7 stride 0 (ps.take k)++if k % stride=0 then [⟨(p.f.s:Int),(p.pos:Int)⟩] else []) (by
    rw [htk,bldM_snoc,Nat.zero_add,ω,Nat.min_eq_left hk])
   have HLN:=Qs ((F7 stride 0 (ps.take k)).length≤100000) (by
    have:=bldM_len stride (ps.take k) 0;rw [ω] at this;omega)
   have HCE:=Qh (Bs hcell HB.out);have HN:=Qs (Hm (wr.alloc (.cells #[Vi Vk 0,Vi Vk 0,Vi Vk 0,Vi Vk 0,.slice none 0 0] 103)) wr.heap.size zPc (.slice none 0 0)) (σ wr _);have HBN:=Qh (Aa wr (.cells #[Vi Vk 0,Vi Vk 0,Vi Vk 0,Vi Vk 0,.slice none 0 0] 103));have hk1:IntKind.i64.wrap ((k:Int)+1)=(k:Int)+1:=by rw [ν];omega
   have hlw:=HB.out.size;have H1:=Qh hone;clear hp htk hcell hone hbr;generalize F7 stride 0 (ps.take k)=pre at*;go_wp2_with (first|(with_reducible refine Lr rfl (.tmp 15) rfl b (off+k*5) p dv rfl HCE.out ?_)|(with_reducible refine wpList_store_plc rfl (.tmp 7) (.tmp 16) rfl wr.heap.size zPc p (.slice none 0 0) dv rfl rfl HN.out H1.out ?_));intro w2 hm2 ht2;have HM2:=Qh hm2;have HO2:=Qh (show Es w2 w.heap.size _ pre from Fx (HO.out.later HBN.out) ht2 fun j hj=>by have:=(World.ownsRow.lt HO.out j hj).2;omega);have HB2:=Qh (Al (HB.out.trans (HBN.out.mono hlw)) ht2 (fun i hi=>by omega) (by have:=HBN.out.size;omega));have hs2:w.heap.size≤w2.heap.size:=HB2.out.size;have c0:w2.cell? ⟨wr.heap.size,0,none⟩=some (Vi Vk (p.pos:Int)):=hm2.cell 0;have c3:w2.cell? ⟨wr.heap.size,3,none⟩=some (Vi Vk (p.f.s:Int)):=hm2.cell 3;clear hm2 ht2 HN HBN HCE HO HB;generalize wr.heap.size=gx at*;rcases hm:decide (k % stride=0) with _|_
   ·have hm': ¬ k % stride=0:=Γ hm;have hmi:(((k:Int) % (stride:Int))==0)=false:=by simp;omega
    have HSN':=Qs (F7 stride 0 (ps.take (k+1))=pre) (by rw [HSN.out,γ hm',List.append_nil]);clear hm hm' HSN;go_wp2;go_roundw
    case rel=>exact⟨k+1,by omega,by go_num,Qh (by rw [HSN'.out];exact HO2.out),HB2⟩
    case measure=>simp [intOf];omega
   ·have hm':k % stride=0:=ψ hm;have hmi:(((k:Int) % (stride:Int))==0)=true:=by simp;omega
    have HSN':=Qs (F7 stride 0 (ps.take (k+1))=pre++[⟨(p.f.s:Int),(p.pos:Int)⟩]) (by rw [HSN.out,κ hm']);clear hm hm' HSN;go_wp2_with (refine wpList_appMk (m:=⟨(p.f.s:Int),(p.pos:Int)⟩) rfl (.tmp 21) (.tmp 28) rfl rfl rfl rfl HO2.out hs2 HLN.out ?_);intro v5 w5 ho5 hb5 hs5;have HO5:=Qh ho5;have HB5:=Qh (HB2.out.trans hb5);clear ho5 hb5 hs5 c0 c3;go_wp2;go_roundw
    case rel=>exact⟨k+1,by omega,by go_num,Qh (by rw [HSN'.out];exact HO5.out),HB5⟩
    case measure=>simp [intOf];omega
  ·obtain rfl:k=ps.length:=by omega
   rw [List.take_length] at HO;go_wp2;go_ret;exact⟨_,rfl,HO.out,HB.out⟩
theorem idxNums_snoc: ∀ (ms:List Mk) (m:Mk) (s p:Int),idxNums s p (ms++[m])=idxNums s p ms++[(m.s - (match ms.getLast? with|none=>s|some x=>x.s)).toNat,(m.p - (match ms.getLast? with|none=>p|some x=>x.p)).toNat]
 | [],m,s,p=>rfl
 | [x],m,s,p=>rfl
 |x::y::r,m,s,p=>by
  have ih:=idxNums_snoc (y::r) m x.s x.p
  have e:(x::y::r).getLast? =(y::r).getLast? :=List.getLast?_cons_cons
  rw [List.cons_append,idxNums,ih,e]
  rcases h:(y::r).getLast? with _|z
  ·simp at h
  ·rfl
def J0 (ms:List Mk):Mk:=ms.getLast?.getD ⟨0,0⟩
theorem lastM_snoc (ms:List Mk) (m:Mk):J0 (ms++[m])=m:=by unfold J0;simp
theorem idxNums_last (ms:List Mk) (m:Mk):idxNums 0 0 (ms++[m])=idxNums 0 0 ms++[(m.s - (J0 ms).s).toNat,(m.p - (J0 ms).p).toNat]:=by
 rw [idxNums_snoc];unfold J0;rcases ms.getLast? with _|x<;>rfl
theorem wpList_app2 (hgd:o.guard=none) (s y:Operand) (ho:o.op= .call {callee:= .builtin .append,args:= #[s,y],argTypes:= #[262,262]})  {q:Nat} {pv qv:Int}
  (hs:a.eval s=v) (hN:N=w.heap.size) (hy:a.eval y= .slice (some ⟨N,0,none⟩) 2 2) (hown:Lx w B v us) (hB:B≤w.heap.size) (h1:pv=(p:Int)) (h2:qv=(q:Int)) (hl:us.length≤100000)
  (h: ∀ v' w',Lx w' B v' (us++[p,q])→Below B w w'→Ab (fun k=>v.ownBlock=some k) w w'→wpList prog ops Q rest (a.put o.dst v') w'):wpList prog ops Q (o::rest) a (w.alloc (.cells #[.int .u64 pv,.int .u64 qv] 137)):=by
 subst h1 h2 hN;obtain⟨i0,hi,hz0,hz1,hz2⟩:=info_parts infoU64;have hb:=Aa w (.cells #[.int .u64 (p:Int),.int .u64 (q:Int)] 137);refine wpList_append_own _ hgd s y 262 ho B 137 i0 (.int .u64 0) 1 8 underlying262 hi hz0 hz1 hz2 rfl (by decide) v us.length (Jk us) hs (A2 hown hb) ⟨w.heap.size,0,none⟩ 2 2 [.int .u64 (p:Int),.int .u64 (q:Int)] hy rfl (fun j u hj=> ?_) (fun u hu=> ?_) (by unfold maxLen;omega) (by omega) (η hB hb.size) ?_
 ·rw [Cr,Nat.zero_add,World.cell?_alloc_new];simpa using hj
 ·simp at hu;rcases hu with rfl|rfl<;>rfl
 ·intro v' w' hown' hg _;refine h v' w' ?_ ((hb.mono hB).trans (Cm (A2 hown hb) (η hB hb.size) hg)) ((Ab.below hb).trans (Ab.grown (S:=fun k=>v.ownBlock=some k) hg fun _ hk=>hk) fun _ h=> .inl h);unfold Lx;rw [ζ,show Jk (us++[p,q])=Jk us++[.int .u64 (p:Int),.int .u64 (q:Int)] by simp [Jk]];exact hown'
theorem marks_step: ∀ (ms:List Mk) (s p:Int) (k:Nat) (m:Mk),E5 s p ms=true→ms[k]? =some m→(match (ms.take k).getLast? with|none=>s|some x=>x.s)<m.s∧(match (ms.take k).getLast? with|none=>p|some x=>x.p)<m.p∧m.s≤1099511627776∧m.p≤1099511627776
 | [],_,_,_,_,_,h=>by simp at h
 |x::r,s,p,0,m,h,hm=>by
  simp at hm
  subst hm
  rw [E5] at h
  split at h
  ·cases h
  ·simp;omega
 |x::r,s,p,k+1,m,h,hm=>by
  rw [E5] at h
  split at h
  ·cases h
  ·have ih:=marks_step r x.s x.p k m h (by simpa using hm)
   rw [List.take_succ_cons]
   rcases hr:(r.take k).getLast? with _|y
   ·rw [hr] at ih
    rw [List.getLast?_cons,hr]
    exact ih
   ·rw [hr] at ih
    rw [List.getLast?_cons,hr]
    exact ih
theorem idxEnc_any (ms:List Mk) (v:Value) (w:World) (hv:MkRow w v ms) (hm:Dv ms=true):
  Calls prog 156 #[v] w fun e w'=> ∃ v',e= .returned (.tuple #[v',Vi Vk 0])∧Cw w' w.heap.size v' (Ej (idxNums 0 0 ms))∧Below w.heap.size w w':=by
 have HVA:=Qh (by have:=marksValid_any ms v w hv;rw [hm] at this;exact this);have hm2:=hm;unfold Dv at hm2;simp only [Bool.and_eq_true,decide_eq_true_eq] at hm2;have HLT:=Qh (by have:=Pa ms 0 (-1) hm2.2 (by omega) (by omega);rw [κ rfl] at this;exact this);have HLN:=Qs (ms.length≤512) hm2.1;have HST:=Qh (fun k m=>marks_step ms 0 (-1) k m hm2.2);have HV:=Qh hv;obtain⟨oa,cap,rfl,_,_,_⟩:=id hv;clear hv hm hm2;go_enter func156,ntmps156;go_wp2_with fail;refine HVA.out.mono ?_;rintro e w1 ⟨rfl,hb1⟩;have HB1:=Qh (Below.next hb1 (Aa w1 (.cells (Gl ⟨0,0⟩) 135)));have HA:=Qh (Hu w1 ⟨0,0⟩);have hsz:=hb1.size;have hs1:w1.heap.size+1≤(w1.alloc (.cells (Gl ⟨0,0⟩) 135)).heap.size:=by simp
 simp only [Gl] at HB1 HA hs1;clear hb1 HVA;go_wp2;generalize hw2:w1.alloc (.cells #[Vi Vk 0,Vi Vk 0] 135)=w2 at*;have HSZ:=Qh hs1;clear hw2 hs1;generalize w1.heap.size=g at*;go_loopw [4,13] (fun uv iv wr=> ∃ k:Nat,k≤ms.length∧iv= Vi Vk (k:Int)∧Hid (Lx wr (g+1) uv (idxNums 0 0 (ms.take k)))∧Hid (Er wr g (J0 (ms.take k)))∧Hid (g+1≤wr.heap.size)∧Hid (Below w.heap.size w wr)) (fun _ iv _=>ms.length - (intOf iv).toNat)
 case atStart=>exact⟨0,θ _,rfl,Qh ⟨rfl,.inl ⟨rfl,rfl⟩⟩,Qh (by rw [show J0 (ms.take 0)=⟨0,0⟩ from rfl];exact HA.out),HSZ,HB1⟩
 case round=>
  obtain⟨k,hk,rfl,HO,HX,HT,HB⟩:=hrel;by_cases hlt:k<ms.length
  ·obtain⟨m,hmk,htk,_⟩:=Pj ms k hlt;obtain⟨_,_,e2,_,_,hat⟩:=HV.out;simp only [Value.slice.injEq,true_and] at e2;obtain⟨rfl,rfl⟩:=e2;obtain⟨b,off,rfl,hcell⟩:=hat k m hmk;have HCE:=Qh (Bs hcell HB.out);have q1:(k:Int)<(ms.length:Int):=by omega
   have HLA:=Qs (J0 (ms.take (k+1))=m∧idxNums 0 0 (ms.take (k+1))=idxNums 0 0 (ms.take k)++[(m.s - (J0 (ms.take k)).s).toNat,(m.p - (J0 (ms.take k)).p).toNat]) (by rw [htk];exact⟨lastM_snoc _ _,idxNums_last _ _⟩);have hb4:0≤m.s - (J0 (ms.take k)).s∧0≤m.p - (J0 (ms.take k)).p∧m.s - (J0 (ms.take k)).s<9223372036854775808∧m.p - (J0 (ms.take k)).p<9223372036854775808:=by
    have h1:=HST.out k m hmk;have h2:0≤(J0 (ms.take k)).s∧0≤(J0 (ms.take k)).p:=by
     unfold J0;rcases hg:(ms.take k).getLast? with _|x
     ·exact⟨Int.le_refl _,Int.le_refl _⟩
     ·have hk0:0<k:=by
       rcases Nat.eq_zero_or_pos k with rfl|h
       ·simp at hg
       ·exact h
      have hx:ms[k - 1]? =some x:=by
       rw [List.getLast?_eq_getElem?,ω,Nat.min_eq_left hk,List.getElem?_take_of_lt (by omega)] at hg;exact hg
      have:=HST.out (k - 1) x hx;simp only [Option.getD_some];rcases hg2:(ms.take (k - 1)).getLast? with _|y
      ·rw [hg2] at this;simp only at this;omega
      ·have hp: ∀ (j:Nat) (z:Mk),ms[j]? =some z→0≤z.s∧0≤z.p:=fun j=>by
        induction j with
        |zero=>intro z hz;have:=HST.out 0 z hz;simp at this;omega
        |succ j ih=>
         intro z hz;have h3:=HST.out (j+1) z hz;have hj:=(List.getElem?_eq_some_iff.1 hz).1;have h4:=ih ms[j] (Θ (by omega));rw [List.getLast?_eq_getElem?,ω,Nat.min_eq_left (by omega),List.getElem?_take_of_lt (by omega),Nat.add_sub_cancel,Θ (by omega)] at h3;simp only at h3;omega
       exact hp _ _ hx
    unfold J0 at h2 ⊢;rcases hg:(ms.take k).getLast? with _|x
    ·rw [hg] at h1 h2;simp at h1 h2 ⊢;omega
    ·rw [hg] at h1 h2;simp at h1 h2 ⊢;omega
   have HB4:=Qh hb4;have hl5:(idxNums 0 0 (ms.take k)).length≤100000:=by have h5:=Ht (ms.take k) 0 0;have:=HLN.out;rw [ω] at h5;omega
   have hlw:=HB.out.size;have hgw:=HX.out.lt;generalize J0 (ms.take k)=x at*;generalize idxNums 0 0 (ms.take k)=us at*;have HN:=Qh (Hu wr ⟨0,0⟩);have HBN:=Qh (Aa wr (.cells (Gl ⟨0,0⟩) 135));have hw1:IntKind.i64.wrap (m.s - x.s)=m.s - x.s:=by rw [ν];omega
   have hw2':IntKind.i64.wrap (m.p - x.p)=m.p - x.p:=by rw [ν];omega
   have hw3:IntKind.u64.wrap (m.s - x.s)=m.s - x.s:=by rw [IntKind.wrap_u64];omega
   have hw4:IntKind.u64.wrap (m.p - x.p)=m.p - x.p:=by rw [IntKind.wrap_u64];omega
   have hk1:IntKind.i64.wrap ((k:Int)+1)=(k:Int)+1:=by rw [ν];omega
   simp only [Gl] at HN HBN;clear hmk htk hcell hat hb4;go_wp2_with (first|(with_reducible refine En rfl (.tmp 15) rfl b (off+k*2) m rfl HCE.out ?_)|(with_reducible refine Ef rfl (.tmp 7) (.tmp 16) rfl wr.heap.size ⟨0,0⟩ m rfl rfl HN.out ?_));intro w3 hm3 ht3;have HM3:=Qh hm3;have HX3:=Qs (Er w3 g x) (by
    unfold Er;rw [ht3.block _ (Nat.lt_of_lt_of_le hgw HBN.out.size) (by omega)];exact HX.out.below HBN.out)
   have HNE:=Qh (fun j hj=>(World.ownsRow.lt HO.out j hj).2);have HO3:=Qh (show Lx w3 (g+1) _ us from Fx (HO.out.later HBN.out) ht3 fun j hj=>by have:=(World.ownsRow.lt HO.out j hj).2;omega);have HB3:=Qh (Al (HB.out.trans (HBN.out.mono hlw)) ht3 (fun i hi=>by omega) (by have:=HBN.out.size;omega));have hs3:g+1≤w3.heap.size:=by have:=HT.out;have:=HBN.out.size;have:=ht3.size;omega
   have c0:=hm3.c0;have c1:=hm3.c1;have d0:=HX3.out.c0;have d1:=HX3.out.c1;have hgx:wr.heap.size<w3.heap.size:=hm3.lt;have hwg:w.heap.size≤g:=by have:=hsz;omega
   clear hm3 ht3 HN HBN HCE HO HX HT HB;generalize wr.heap.size=gx at*;have e1:m.s - x.s=(((m.s - x.s).toNat:Nat):Int):=by have:=HB4.out;omega
   have e2:m.p - x.p=(((m.p - x.p).toNat:Nat):Int):=by have:=HB4.out;omega
   have E1:=Qh e1;have E2:=Qh e2;clear e1 e2;go_wp2_with (with_reducible refine wpList_app2 (p:=(m.s - x.s).toNat) (q:=(m.p - x.p).toNat) rfl (.tmp 17) (.tmp 30) rfl rfl rfl rfl HO3.out hs3 E1.out E2.out hl5 ?_);intro v4 w4 ho4 hb4 hs4;have HM4:=Qs (Er w4 gx m) ((hs4.block gx hgx fun e=>by have:=HNE.out gx e;omega).trans HM3.out);have HX4:=Qh (HX3.out.keep hb4 (Nat.lt_succ_self g));have HO4:=Qh ho4;have HB4':=Qh (HB3.out.trans (hb4.mono (by omega)));have HT4:=Qs (g+1≤w4.heap.size) (η hs3 hs4.size);clear ho4 hb4 hs4 c0 c1 d0 d1 HO3 HX3 HM3 HB3;go_wp2_with (first|(with_reducible refine M9 rfl (.tmp 7) rfl gx m rfl HM4.out ?_)|(with_reducible refine Ef rfl (.tmp 5) (.tmp 32) rfl g x m rfl rfl HX4.out ?_));intro w5 hm5 ht5;have HX5:=Qh hm5;have HO5:=Qh (show Lx w5 (g+1) _ (us++[(m.s - x.s).toNat,(m.p - x.p).toNat]) from Fx HO4.out ht5 fun j hj=>by have:=(World.ownsRow.lt HO4.out j hj).1;omega);have HB5:=Qh (Al HB4'.out ht5 (fun i hi=>by omega) HB4'.out.size);have HT5:=Qs (g+1≤w5.heap.size) (η HT4.out ht5.size);clear hm5 ht5;go_wp2;go_roundw
   case rel=>exact⟨k+1,by omega,by go_num,Qh (by rw [HLA.out.2];exact HO5.out),Qh (by rw [HLA.out.1];exact HX5.out),HT5,HB5⟩
   case measure=>simp [intOf];omega
  ·obtain rfl:k=ms.length:=by omega
   rw [List.take_length] at HO;have HEA:=Qh (by
    refine encodeAll_any (idxNums 0 0 ms) _ wr HO.out.row (fun u hu=> ?_) ?_
    ·have:=HLT.out u hu;omega
    ·have:=Ht ms 0 0;have:=HLN.out;omega)
   obtain⟨ob,cb,rfl,_,_⟩:=Aj HO.out;go_wp2_with fail;refine HEA.out.mono ?_;rintro e w5 ⟨v5,rfl,h5,hb5⟩;have HO5:=Qh (h5.mono HB.out.size);have HB5:=Qh (Below.next HB.out hb5);clear h5 hb5;go_wp2;go_ret2;exact⟨_,rfl,HO5.out,HB5.out⟩
theorem nums_any (us:List Nat) (g:Nat) (w:World) (hu: ∀ u∈us,u<9223372036854775808) (hl:us.length≤100) (hc: ∀ (i:Nat) u,us[i]? =some u→w.cell? ⟨g,i,none⟩=some (Vi Vk (u:Int))):
  Calls prog 124 #[.slice (some ⟨g,0,none⟩) us.length us.length] w fun e w'=> ∃ v,e= .returned v∧Cw w' w.heap.size v (us.flatMap A7)∧Below w.heap.size w w':=by
 have HC:=Qh hc;have HU:=Qh hu;have HLE:=Qh (fun k=>show ((us.take k).flatMap A7).length≤10*us.length from by
  have h: ∀ l:List Nat,(∀ u∈l,u<9223372036854775808)→(l.flatMap A7).length≤10*l.length:=fun l=>by
   induction l with
   |nil=>intro _;simp
   |cons x r ih=>
    intro h;have h1:=De (show x<18446744073709551616 by have:=h x (by simp);omega);have h2:=ih fun u hu=>h u (by simp [hu]);rw [List.flatMap_cons,ζ,τ];omega
  have h1:=h (us.take k) fun u hx=>hu u (List.mem_of_mem_take hx);rw [ω] at h1;omega)
 clear hc hu;go_enter func124,ntmps124;go_wp2;go_loopw [3,8] (fun bv iv wr=> ∃ k:Nat,k≤us.length∧iv= Vi Vk (k:Int)∧Hid (Cw wr w.heap.size bv ((us.take k).flatMap A7))∧Hid (Below w.heap.size w wr)) (fun _ iv _=>us.length - (intOf iv).toNat)
 case atStart=>exact⟨0,θ _,rfl,Qh (Cw.nil w _),Qh (χ _ _)⟩
 case round=>
  obtain⟨k,hk,rfl,HO,HB⟩:=hrel;by_cases hlt:k<us.length
  ·obtain⟨u,hx,htk,hm⟩:=Pj us k hlt;have q1:(k:Int)<(us.length:Int):=by omega
   have hub:=HU.out u hm;have c1:=cell_later HB.out (HC.out k u hx);have HS:=Qh (F9 u wr (by omega));have HX:=Qs ((us.take (k+1)).flatMap A7=(us.take k).flatMap A7++A7 u) (by rw [htk];simp);have HL:=Qs (((us.take k).flatMap A7).length+(A7 u).length≤140737488355328) (by have:=HLE.out k;have:=De (show u<18446744073709551616 by omega);omega);have hw1:IntKind.u64.wrap (u:Int)=(u:Int):=by rw [IntKind.wrap_u64];omega
   have hk1:IntKind.i64.wrap ((k:Int)+1)=(k:Int)+1:=by rw [ν];omega
   generalize (us.take k).flatMap A7=p at*;generalize A7 u=q at*;clear hx htk hm hub;go_wp2_with fail;refine HS.out.mono ?_;rintro e w1 ⟨v1,rfl,h1,h2⟩;have H1:=Qh h1;have HB1:=Qh (Below.next HB.out h2);have HO1:=Qh (HO.out.later h2);clear h1 h2 HS HO c1;go_wp2_with (at_builtin;refine E4 rfl _ _ rfl rfl rfl HO1.out ?c1 H1.out.brow HL.out ?_)
   case c1=>exact HB1.out.size
   intro v' w' h1 h2;have HF:=Qh h1;have HG:=Qh (HB1.out.trans h2);clear h1 h2;go_wp2;go_roundw
   case rel=>exact⟨k+1,by omega,by go_num,Qh (by rw [HX.out];exact HF.out),HG⟩
   case measure=>simp [intOf];omega
  ·obtain rfl:k=us.length:=by omega
   rw [List.take_length] at HO;go_wp2;go_ret;exact⟨_,rfl,HO.out,HB.out⟩
theorem body_any (first count stride:Nat) (ms:List Mk) (mv:Value) (w:World) (hr:MkRow w mv ms) (hm:Dv ms=true) (h1:first≤1099511627777) (h2:count≤512) (h3:stride≤64):
  Calls prog 123 #[clV (first:Int) (count:Int) (stride:Int) mv] w fun e w'=> ∃ v,e= .returned v∧Cw w' w.heap.size v (Fa first count stride ms)∧Below w.heap.size w w':=by
 have hb0:=Aa w (.cells (Hp (first:Int) (count:Int) (stride:Int) mv) 186);have HB0:=Qh hb0;have HC0:=Qs (Ig (w.alloc (.cells (Hp (first:Int) (count:Int) (stride:Int) mv) 186)) w.heap.size (first:Int) (count:Int) (stride:Int) mv) (σ w _);have HE:=Qh (idxEnc_any ms mv _ (hr.below hb0) hm);have HL:=Qh (Lz h1 h2 h3 hm);have HNB:=Qs (∀ u∈ [first,count,stride],u<9223372036854775808) (by simp;omega);have HFB:=Qs (Fa first count stride ms=[first,count,stride].flatMap A7++Ej (idxNums 0 0 ms)) (by unfold Fa;simp);rw [HFB.out,ζ] at HL;rw [HFB.out];have HNU:=Qh (fun g w hc=>nums_any [first,count,stride] g w HNB.out (by simp) hc);generalize Ej (idxNums 0 0 ms)=q at*;generalize [first,count,stride].flatMap A7=p at*;simp only [Hp] at HB0 HC0 HE;clear hb0 hr hm h1 h2 h3 HFB;go_enter func123,ntmps123;go_wp2_with fail;refine HE.out.mono ?_;rintro e w1 ⟨v1,rfl,ho1,hb1⟩;have HO1:=Qh ho1;have HB1:=Qh (Below.next HB0.out hb1);have HC1:=Qs (Ig w1 w.heap.size (first:Int) (count:Int) (stride:Int) mv) ((hb1.block _ (by simp)).trans HC0.out);have c0:w1.cell? ⟨w.heap.size,0,none⟩=some (Vi Vk (first:Int)):=cell_of_row w1 _ 0 _ _ _ HC1.out;have c1:w1.cell? ⟨w.heap.size,1,none⟩=some (Vi Vk (count:Int)):=cell_of_row w1 _ 1 _ _ _ HC1.out;have c2:w1.cell? ⟨w.heap.size,2,none⟩=some (Vi Vk (stride:Int)):=cell_of_row w1 _ 2 _ _ _ HC1.out;have HN:=Qh (HNU.out w1.heap.size (w1.alloc (.cells #[Vi Vk (first:Int),Vi Vk (count:Int),Vi Vk (stride:Int)] 3)) (fun i u hu=>by
  rw [World.cell?_alloc_new]
  match i,hu with
  |0,hu=>simp at hu;subst hu;rfl
  |1,hu=>simp at hu;subst hu;rfl
  |2,hu=>simp at hu;subst hu;rfl))
 have hb2:=Aa w1 (.cells #[Vi Vk (first:Int),Vi Vk (count:Int),Vi Vk (stride:Int)] 3);have HB2:=Qh (Below.next HB1.out hb2);have HO2:=Qh (ho1.later hb2);clear ho1 hb1 hb2 HE HNU HO1;go_wp2_with fail;refine HN.out.mono ?_;rintro e w3 ⟨v3,rfl,ho3,hb3⟩;have HO3:=Qh (ho3.mono HB2.out.size);have HB3:=Qh (Below.next HB2.out hb3);have HQ3:=Qh (HO2.out.later hb3);have hlen:p.length+q.length≤140737488355328:=by have:=HL.out;omega
 clear ho3 hb3 HN c0 c1 c2;go_wp2_with (at_builtin;refine E4 rfl _ _ rfl rfl rfl HO3.out ?c1 HQ3.out.brow hlen ?_)
 case c1=>exact HB3.out.size
 intro v' w' h1 h2;have HF:=Qh h1;have HG:=Qh (HB3.out.trans h2);clear h1 h2;go_wp2;go_ret;exact⟨_,rfl,HF.out,HG.out⟩
def Lf (num first count good:Nat):Array Value:= #[Vi Vk (num:Int),Vi Vk (first:Int),Vi Vk (count:Int),.bool false,Vi Vk 0,.slice none 0 0,Vi Vk (good:Int)]
@[reducible] def sgmV (num first count good : Nat) : Value := .agg #[Vi Vk (num : Int), Vi Vk (first : Int), Vi Vk (count : Int), .bool false, Vi Vk 0, .slice none 0 0, Vi Vk (good : Int)]
theorem sgmInfo:(prog.info? 202).map (·.size)=some 7:=by kernel_rfl
def I8 (w:World) (b num first count good:Nat):Prop:=w.heap[b]? =some (.cells (Lf num first count good) 202 (0,0))
theorem I8.lt {b n:Nat} (h:I8 w b n f c g):b<w.heap.size:=(δ.1 h).1
theorem I8.below {b n:Nat} (h:I8 w b n f c g) (hb:Below w.heap.size w w'):I8 w' b n f c g:=(hb.block _ h.lt).trans h
theorem I8.cell {b n:Nat} (h:I8 w b n f c g) (j:Nat):w.cell? ⟨b,j,none⟩=(Lf n f c g)[j]? :=cell_of_row w b j _ _ _ h
theorem sgm_alloc (w:World):I8 (w.alloc (.cells (Lf 0 0 0 0) 202)) w.heap.size 0 0 0 0:=σ w _
theorem wpList_store_sgm (hgd:o.guard=none) (x y:Operand) (ho:o.op= .store 202 x y)
  (b n f c g n' f' c' g':Nat) (hx:a.eval x= .pointer (some ⟨b,0,none⟩)) (hy:a.eval y=sgmV n' f' c' g') (hE:I8 w b n f c g)
  (h: ∀ W,I8 W b n' f' c' g'→Ab (fun k=>k=b) w W→wpList prog ops Q rest (a.put o.dst undef) W):wpList prog ops Q (o::rest) a w:=
 wpList_store_row hgd 202 x y ho b (Lf n' f' c' g') hx hy 202 (Lf n f c g) hE sgmInfo rfl (Array.all_eq_true_iff_forall_mem.2 (by
  intro u hu
  simp only [Lf,List.mem_toArray,Δ,Ω,or_false] at hu
  rcases hu with rfl|rfl|rfl|rfl|rfl|rfl|rfl<;>rfl)) (h _ (setRow_heap w b _ _ _ _ hE) (Jh _ _ _))
theorem wpList_load_sgm (hgd:o.guard=none) (x:Operand) (ho:o.op= .load 202 x)
  (b n f c g:Nat) (hx:a.eval x= .pointer (some ⟨b,0,none⟩)) (hE:I8 w b n f c g)
  (h:wpList prog ops Q rest (a.put o.dst (sgmV n f c g)) w):wpList prog ops Q (o::rest) a w:=
 wpList_load_row hgd 202 x ho b hx 202 (Lf n f c g) (0,0) _ hE underlying202 rfl sgmInfo h
theorem run_load_sgm {b n:Nat} (hE:I8 w b n f c g):(loadVar 202 ⟨b,0,none⟩).run prog w= .ok (sgmV n f c g) w:=
 run_loadVar_row (P:=prog) w b 202 202 (Lf n f c g) (0,0) _ hE underlying202 rfl sgmInfo
theorem results_sgm3 {p r:Tmp} (h:fn.results= #[.cell p 202,.tmp q,.tmp r]) (tmps:Array Value) (w:World) (b n f c g:Nat) (x y:Value)
  (hp:tmps.getD p undef= .pointer (some ⟨b,0,none⟩)) (hq:tmps.getD q undef=x) (hr:tmps.getD r undef=y) (hE:I8 w b n f c g):(results fn tmps).run prog w= .ok (.tuple #[sgmV n f c g,x,y]) w:=by
 have hl:=run_load_sgm hE;have hp':tmps[p]?.getD undef= .pointer (some ⟨b,0,none⟩):=by simpa using hp
 have hq':tmps[q]?.getD undef=x:=by simpa using hq
 have hr':tmps[r]?.getD undef=y:=by simpa using hr
 simp [results,h,hp',hq',hr',asAddr,hl]
theorem Ny.turned (h:Ny A w v ps) (ht:Ab S w w') (hS: ∀ k,A k→ ¬ S k):Ny A w' v ps:=by
 obtain⟨oa,cap,h1,h2,h3,h4⟩:=h;refine⟨oa,cap,h1,h2,h3,fun hn=> ?_⟩;obtain⟨b,off,e,ha,hc⟩:=h4 hn;refine⟨b,off,e,ha,fun i p hp=> ?_⟩;obtain⟨dv,h5,h6⟩:=hc i p hp;exact⟨dv,fun j u hj=>ht.cell (h5 j u hj) (hS b ha),h6.turned ht hS⟩
def ScanW (w:World) (num first good:Nat) (ps:List I3) (e:Ending) (w':World):Prop:= ∃ pv,e= .returned (.tuple #[sgmV num first ps.length good,pv,Vi Vk 0])∧Ny (fun k=>w.heap.size≤k) w' pv ps∧Below w.heap.size w w'
theorem scan_whole (b:List UInt8) (v:Value) (num first at_:Nat) (ps:List I3) (w:World) (hv:B7 w v b) (hl:b.length≤67108864) (hn:Bh w) (hh:B5 b=(num,first,at_,0)) (ha:at_≤b.length) (hs:Bt b at_ first 512=(ps,b.length)):
  Calls prog 122 #[v] w (ScanW w num first b.length ps):=by
 have HB0:=Qh (Aa w (.cells (Lf 0 0 0 0) 202));have HR0:=Qh (sgm_alloc w);have HV0:=Qh (hv.below HB0.out);have HN0:=Qh (hn.below HB0.out);have HH:=Qh (by have:=hdrOf_any b v _ HV0.out (by omega) HN0.out;rw [hh] at this;exact this);have HS:=Qh (fun W hV hN=>by have:=Nv b v at_ first 512 W hV hl hN ha (by decide) (by decide);rw [hs] at this;exact this);have HL:=Qh hl;have HPL:=Qs (ps.length≤512) (by
  have:=congrArg (fun x=>x.1.length) hs;simp only [Bt,Jt,List.length_map] at this;have h2:=Nw (first:=first) (most:=512) (frs (b.drop at_)) 0 (by decide);omega)
 obtain⟨oa,cap,rfl,_,_⟩:=id hv;simp only [Lf] at HB0 HR0 HV0 HN0 HH;unfold HdrPost at HH;unfold RunP at HS;clear hv hl hn hh ha hs;go_enter func122,ntmps122;go_wp2_with fail;refine HH.out.mono ?_;rintro e w1 ⟨rfl,hb1⟩;have HB1:=Qh (Below.next HB0.out hb1);have HV1:=Qh (HV0.out.below hb1);have HN1:=Qh (HN0.out.below hb1);have HR1:=Qh (HR0.out.below hb1);have HS1:=Qh (HS.out w1 HV1.out HN1.out);clear hb1 HB0 HV0 HN0 HR0 HH HS;go_wp2_with fail;refine HS1.out.mono ?_;rintro e w2 ⟨pv,rfl,hp2,hb2⟩;have HB2:=Qh (Below.next HB1.out hb2);have HV2:=Qh (HV1.out.below hb2);have HN2:=Qh (HN1.out.below hb2);have HR2:=Qh (HR1.out.below hb2);have HP2:=Qh (hp2.mono (A':=fun k=>w.heap.size<k) fun k hk=>Nat.lt_of_lt_of_le HR1.out.lt hk);obtain⟨op,pc,rfl,_,_,_⟩:=hp2.shape;have HA3:=Qs (I8 (w2.alloc (.cells (Lf num first ps.length b.length) 202)) w2.heap.size num first ps.length b.length) (σ w2 _);have hb3:=Aa w2 (.cells (Lf num first ps.length b.length) 202);have HB3:=Qh (Below.next HB2.out hb3);have HV3:=Qh (HV2.out.below hb3);have HR3:=Qh (HR2.out.below hb3);have HP3:=Qh (HP2.out.below hb3);have HNE:=Qs (¬ w2.heap.size=w.heap.size) (by have:=HR2.out.lt;omega);have HD:=Qh (fun v' (hV:B7 (w2.alloc (.cells (Lf num first ps.length b.length) 202)) v' [])=>by
  have:=L6 [] v' _ hV (by simp) (HN2.out.below hb3);rw [show Cg []=(N7,0,60) from rfl] at this;exact this)
 unfold DecPost at HD;simp only [Lf] at HA3 HB3 HV3 HR3 HP3 HD;clear hb2 hp2 hb3 HB1 HV1 HN1 HR1 HS1 HB2 HV2 HN2 HR2 HP2;go_wp2_with (with_reducible refine Pw rfl (.tmp 41) (.tmp 42) rfl oa cap b.length b rfl rfl HV3.out (μ _) ?_);intro oa' cap' hv';have HD':=Qh (HD.out _ hv');clear HD hv' HV3;generalize w2.alloc (.cells #[Vi Vk (num:Int),Vi Vk (first:Int),Vi Vk (ps.length:Int),.bool false,Vi Vk 0,.slice none 0 0,Vi Vk (b.length:Int)] 202)=w3 at*;go_wp2_with fail;refine HD'.out.mono ?_;rintro e w4 ⟨bv,rfl,hbv,hb4⟩;obtain⟨ob,cb,rfl,_,_⟩:=hbv;have hb5:=Aa w4 (.cells #[Vi Vk N7.k,Vi Vk N7.s,.slice ob N7.body.length cb] 101);have HB5:=Qh (Below.next (Below.next HB3.out hb4) hb5);have HR5:=Qh ((HR3.out.below hb4).below hb5);have HA5:=Qh ((HA3.out.below hb4).below hb5);have HP5:=Qh ((HP3.out.below hb4).below hb5);clear hb4 hb5;go_wp2_with (first|with_reducible refine wpList_load_sgm rfl (.tmp 11) rfl w2.heap.size num first ps.length b.length rfl HA5.out ?_|with_reducible refine wpList_store_sgm rfl (.tmp 2) (.tmp 61) rfl w.heap.size 0 0 0 0 num first ps.length b.length rfl rfl HR5.out ?_);intro w6 hs6 ht6;have HS6:=Qh hs6;have HB6:=Qs (Below w.heap.size w w6) (Al HB5.out ht6 (fun k hk=>by omega) HB5.out.size);have HP6:=Qh ((HP5.out.turned ht6 fun k hk e=>Nat.lt_irrefl _ (e▸hk)).mono (A':=fun k=>w.heap.size≤k) fun k hk=>Nat.le_of_lt hk);clear hs6 ht6;go_wp2;exact π (results_sgm3 rfl _ _ _ _ _ _ _ _ _ rfl rfl rfl HS6.out) rfl ⟨_,rfl,HP6.out,HB6.out⟩
def Kc (f:Nat) (s:C6) (mv sv:Value):Array Value:= #[Vi Vk (s.count:Int),Vi Vk (s.size:Int),mv,.pointer (some ⟨f,0,none⟩),Vi Vk (s.stride:Int),Vi Vk (s.segEv:Int),
 Vi Vk s.man.gen,Vi Vk s.man.next,Vi Vk s.man.floor,Vi Vk s.man.snap,Vi Vk s.man.snapSeq,sv,.bool s.closed,Vi Vk (s.decoded:Int)]
def Dy (w:World) (b f:Nat) (s:C6) (mv sv:Value):Prop:=w.heap[b]? =some (.cells (Kc f s mv sv) 82 (0,0))
section
variable {w w' : World} {b f : Nat} {s s' : C6} {mv sv mv' sv' : Value}
theorem Dy.lt (h:Dy w b f s mv sv):b<w.heap.size:=(δ.1 h).1
theorem Dy.cell (h:Dy w b f s mv sv) (j:Nat):w.cell? ⟨b,j,none⟩=(Kc f s mv sv)[j]? :=by unfold Dy at h;simp [World.cell?,h]
theorem Dy.free (h:Dy w b f s mv sv) (j:Nat):w.frozen? ⟨b,j,none⟩=false:=by unfold Dy at h;simp [World.frozen?,h]
theorem Dy.keep (h:Dy w b f s mv sv) (hk:w'.heap[b]? =w.heap[b]?):Dy w' b f s mv sv:=by unfold Dy at *;rw [hk];exact h
theorem Dy.set (h:Dy w b f s mv sv) (j:Nat) (v:Value) (e:(Kc f s mv sv).setIfInBounds j v=Kc f s' mv' sv'):Dy (w.setCell ⟨b,j,none⟩ v) b f s' mv' sv':=by
 unfold Dy at h ⊢;rw [←e];simp only [World.setCell];rw [Array.getElem?_modify];simp [h]
end
def Br (b:Nat) (mv:Value) (f m:Nat) (L:List Aq) (k:Nat):Prop:=k=b∨mv.ownBlock=some k∨foot f m L k
structure SJ (w:World) (b f m:Nat) (L:List Aq) (d:Af) (s:C6) (mv sv:Value):Prop where
 blk:Dy w b f s mv sv
 fs:Bv w f m d L
 mks:Es w 0 mv s.marks
 sg:Fu (fun k=> ¬ Br b mv f m L k) w sv s.man.segs
 nib:Bh w
 gl:4≤w.heap.size∧ ∀ k,k<4→ ¬ Br b mv f m L k
 sep: ¬ foot f m L b∧mv.ownBlock≠some b∧ ∀ k,mv.ownBlock=some k→ ¬ foot f m L k
section
variable {w w' : World} {b f m : Nat} {L : List Aq} {d d' : Af} {s s' : C6} {mv sv : Value}
theorem mk_lt (h:Es w 0 mv s.marks): ∀ k,mv.ownBlock=some k→k<w.heap.size:=fun k hk=>(World.ownsRow.lt h k hk).2
theorem SJ.lt (h:SJ w b f m L d s mv sv): ∀ k,Br b mv f m L k→k<w.heap.size:=by
 rintro k (rfl|hk|hk)
 ·exact h.blk.lt
 ·exact mk_lt h.mks k hk
 ·exact h.fs.lt k hk
theorem Es.kept' (h:Es w B v ms) (hk: ∀ k,v.ownBlock=some k→w'.heap[k]? =w.heap[k]?):Es w' B v ms:=by
 refine⟨h.1,?_⟩;rcases h.2 with hn|⟨g,cap,cur,rfl,hb1,hg,rest⟩
 ·exact .inl hn
 ·exact .inr ⟨g,cap,cur,rfl,hb1,by rw [hk g rfl];exact hg,rest⟩
theorem SJ.turned (h:SJ w b f m L d s mv sv) (ht:Ab S w w') (hS: ∀ k,S k→k<w.heap.size→False):SJ w' b f m L d s mv sv:=by
 have hb:Below w.heap.size w w':=⟨ht.os,ht.tape,ht.output,ht.size,fun k hk=>ht.block k hk fun hs=>hS k hs hk⟩;exact⟨h.blk.keep (hb.block b h.blk.lt),h.fs.below hb,h.mks.kept' fun k hk=>hb.block k (mk_lt h.mks k hk),h.sg.below hb,h.nib.below hb,⟨η h.gl.1 hb.size,h.gl.2⟩,h.sep⟩
theorem SJ.below (h:SJ w b f m L d s mv sv) (hb:Below w.heap.size w w'):SJ w' b f m L d s mv sv:=h.turned (Ab.below (S:=fun _=>False) hb) fun _ hs _=>hs
theorem SJ.diskL {L':List Aq} (h:SJ w b f m L d s mv sv) (h1:Bv w' f m d' L') (h2:Ab (foot f m L) w w') (h3: ∀ k,foot f m L' k→foot f m L k∨w.heap.size≤k):
  SJ w' b f m L' d' s mv sv∧Ab (Br b mv f m L) w w'∧ ∀ k,Br b mv f m L' k→Br b mv f m L k∨w.heap.size≤k:=by
 have hsub: ∀ k,Br b mv f m L' k→Br b mv f m L k∨w.heap.size≤k:=by
  rintro k (hk|hk|hk)
  ·exact .inl (.inl hk)
  ·exact .inl (.inr (.inl hk))
  ·exact(h3 k hk).imp (fun x=> .inr (.inr x)) id
 have hbl: ∀ k,k<w.heap.size→ ¬ foot f m L k→w'.heap[k]? =w.heap[k]? :=fun k a b=>h2.block k a b;refine⟨⟨h.blk.keep (hbl b h.blk.lt h.sep.1),h1,h.mks.kept' fun k hk=>hbl k (mk_lt h.mks k hk) (h.sep.2.2 k hk),?_,?_,⟨η h.gl.1 h2.size,fun k hk hc=> ?_⟩,?_⟩,h2.mono fun k hk=> .inr (.inr hk),hsub⟩
 ·refine(h.sg.low.turned h2 fun k hk hc=>hk.1 (.inr (.inr hc))).mono fun k hk hc=> ?_;rcases hsub k hc with hc|hc
  ·exact hk.1 hc
  ·omega
 ·exact h.nib.turned h2 (fun hc=>h.gl.2 _ (by decide) (.inr (.inr hc))) h.nib.lt
 ·rcases hsub k hc with hc|hc
  ·exact h.gl.2 k hk hc
  ·have:=h.gl.1;omega
 ·refine⟨fun hc=> ?_,h.sep.2.1,fun k hk hc=> ?_⟩
  ·rcases h3 _ hc with hc|hc
   ·exact h.sep.1 hc
   ·have:=h.blk.lt;omega
  ·rcases h3 _ hc with hc|hc
   ·exact h.sep.2.2 k hk hc
   ·have:=mk_lt h.mks k hk;omega
theorem SJ.disk (h:SJ w b f m L d s mv sv) (hp:A1 w f m L d' w'): ∃ L',SJ w' b f m L' d' s mv sv∧Ab (Br b mv f m L) w w'∧ ∀ k,Br b mv f m L' k→Br b mv f m L k∨w.heap.size≤k:=by
 obtain⟨L',h1,h2,h3⟩:=hp;exact⟨L',h.diskL h1 h2 h3⟩
theorem SJ.read (h:SJ w b f m L d s mv sv) (h1:Bv w' f m d' L) (h2:Ab (fun i=>i=f) w w'):SJ w' b f m L d' s mv sv:=
 (h.diskL h1 (h2.mono fun _ hk=> .inl hk) fun _ hk=> .inl hk).1
theorem SJ.set (h:SJ w b f m L d s mv sv) (e:(Kc f s mv sv).setIfInBounds j v=Kc f s' mv sv) (e1:s'.marks=s.marks) (e2:s'.man.segs=s.man.segs):SJ (w.setCell ⟨b,j,none⟩ v) b f m L d s' mv sv∧Ab (Br b mv f m L) w (w.setCell ⟨b,j,none⟩ v):=by
 have ht:Ab (fun k=>k=b) w (w.setCell ⟨b,j,none⟩ v):=Ab.setCell _ _ _ rfl;refine⟨⟨h.blk.set j v e,h.fs.turned ht (fun k hk he=>h.sep.1 (he▸hk)),?_,?_,h.nib.turned ht (fun hc=>h.gl.2 _ (by decide) (.inl hc)) h.nib.lt,⟨η h.gl.1 ht.size,h.gl.2⟩,h.sep⟩,ht.mono fun k hk=> .inl hk⟩
 ·rw [e1];exact h.mks.kept' fun k hk=>ht.block k (mk_lt h.mks k hk) fun hc=>h.sep.2.1 (hc▸hk)
 ·rw [e2];exact h.sg.turned ht fun k hk hc=>hk (.inl hc)
end
def E9 (w:World) (b f m:Nat) (L:List Aq) (mv:Value) (d':Af) (s':C6) (w':World):Prop:=
 ∃ L' mv' sv',SJ w' b f m L' d' s' mv' sv'∧Ab (Br b mv f m L) w w'∧ ∀ k,Br b mv' f m L' k→Br b mv f m L k∨w.heap.size≤k
theorem E9.same {b:Nat} {s:C6}  (h:SJ w b f m L d s mv sv):E9 w b f m L mv d s w:=⟨L,mv,sv,h,Ab.refl _ _,fun _ h=> .inl h⟩
theorem E9.below {b:Nat} {s:C6}  (h:SJ w b f m L d s mv sv) (hb:Below w.heap.size w w'):E9 w b f m L mv d s w':=⟨L,mv,sv,h.below hb,Ab.below hb,fun _ h=> .inl h⟩
theorem E9.then {b:Nat} {L1:List Aq} {s':C6} {mv1:Value} (h:E9 w1 b f m L1 mv1 d' s' w2) (ht:Ab (Br b mv f m L) w w1) (hL: ∀ k,Br b mv1 f m L1 k→Br b mv f m L k∨w.heap.size≤k):E9 w b f m L mv d' s' w2:=by
 obtain⟨L',mv',sv',h1,h2,h3⟩:=h;refine⟨L',mv',sv',h1,ht.trans h2 hL,fun k hk=> ?_⟩;rcases h3 k hk with h4|h4
 ·exact hL k h4
 ·exact .inr (η ht.size h4)
theorem scanRun_len {at_:Nat} {n:Nat} (hs:Bt b at_ first 512=(ps,n)):ps.length≤512:=by
 have:=congrArg (fun x=>x.1.length) hs;simp only [Bt,Jt,List.length_map] at this;have h2:=Nw (first:=first) (most:=512) (frs (b.drop at_)) 0 (by decide);omega
theorem Es.lit (h:Es w B v ms): ∃ oa cap,v= .slice oa ms.length cap:=by
 obtain⟨oa,cap,e,_⟩:=Aj h;exact⟨oa,cap,e⟩
theorem footer_any (b:List UInt8) (v:Value) (num first at_ stride:Nat) (ps:List I3) (w:World) (hv:B7 w v b) (hl:b.length≤67108864) (hn:Bh w) (hh:B5 b=(num,first,at_,0)) (ha:at_≤b.length) (hs:Bt b at_ first 512=(ps,b.length))
  (h0:ps≠ []) (hst:1≤stride∧stride≤64) (hm:Dv (F7 stride 0 ps)=true) (hf:first≤1099511627777):
  Calls prog 79 #[v,Vi Vk (stride:Int)] w (Cv w (Cx 3 (num:Int) (Fa first ps.length stride (F7 stride 0 ps)))):=by
 have HS:=Qh (scan_whole b v num first at_ ps w hv hl hn hh ha hs);have HPL:=Qh (scanRun_len hs);have HST:=Qh hst;have HMV:=Qh hm;have HF:=Qh hf;have HN:=Qh hn;obtain⟨oa,cap,rfl,_,_⟩:=id hv;have q0:((ps.length:Int)==0)=false:=by
  have:=Ψ.2 h0;simp;exact h0
 have q1:decide ((stride:Int)<1)=false:=ρ (by omega);have q2:decide (64<(stride:Int))=false:=ρ (by omega);have q3:((b.length:Int)==(b.length:Int))=true:=by simp
 clear hv hl hn hh ha hs hst hm hf h0;obtain⟨bl,hbl⟩: ∃ bl,bl=Fa first ps.length stride (F7 stride 0 ps):=⟨_,rfl⟩;rw [←hbl];have HBL:=Qh hbl;clear hbl;obtain⟨ms,hms⟩: ∃ ms,ms=F7 stride 0 ps:=⟨_,rfl⟩;rw [←hms] at HMV HBL;have HMS:=Qh hms;clear hms;unfold ScanW at HS;obtain⟨rl,re,hre⟩: ∃ rl re,Cx 3 (num:Int) bl=(rl,re):=⟨_,_,rfl⟩;rw [hre];have HRE:=Qh hre;clear hre;go_enter func79,ntmps79;go_wp2_with fail;refine HS.out.mono ?_;rintro e w1 ⟨pv,rfl,hp1,hb1⟩;obtain⟨op,pc,rfl,_,_,_⟩:=hp1.shape;have HA:=Qs (I8 (w1.alloc (.cells (Lf num first ps.length b.length) 202)) w1.heap.size num first ps.length b.length) (σ w1 _);have hb2:=Aa w1 (.cells (Lf num first ps.length b.length) 202);have HB2:=Qh (Below.next hb1 hb2);have HP2:=Qh (hp1.below hb2);have HN2:=Qh ((HN.out.below hb1).below hb2);simp only [Lf] at HA HB2 HP2 HN2;clear hp1 hb1 hb2 HS;go_wp2_with fail;generalize w1.alloc (.cells #[Vi Vk (num:Int),Vi Vk (first:Int),Vi Vk (ps.length:Int),.bool false,Vi Vk 0,.slice none 0 0,Vi Vk (b.length:Int)] 202)=w2 at*;have HBI:=Qh (fun W (hB:Below w2.heap.size w2 W)=>by have:=build_any ps _ stride _ W (HP2.out.below hB) HST.out HPL.out;rw [←HMS.out] at this;exact this);have C1:=Qs (w2.cell? ⟨w1.heap.size,1,none⟩=some (Vi Vk (first:Int))) (HA.out.cell 1);have C2:=Qs (w2.cell? ⟨w1.heap.size,2,none⟩=some (Vi Vk (ps.length:Int))) (HA.out.cell 2);refine ε (S:=fun w'=>Below w2.heap.size w2 w') (by kernel_rfl) (Ac w2 1) (fun hHeld=> ?_);have FX1:=Qh (fun(wF:World) (hSw:(fun w'=>Below w2.heap.size w2 w') wF)=>And.intro ((cell_later hSw C1.out)) ((cell_later hSw C2.out)));refine tf FX1 0 rfl ?_;refine tf FX1 1 rfl ?_;refine tf FX1 2 rfl ?_;refine tf FX1 3 rfl ?_;refine tf FX1 4 rfl ?_;refine tf FX1 5 rfl ?_;refine tf FX1 6 rfl ?_;clear FX1;generalize World.drew _=Wd at*;refine wpAnyH_ready (rs:=[7,9]) (by kernel_rfl) (by simp) ?_;refine AllReadyH.cons rfl (fun K hK=> ?_) (AllReadyH.cons rfl (fun K hK=> ?_) AllReadyH.nil);go_simp;refine(HBI.out Wd hHeld).mono ?_;rintro e w3 ⟨mv,rfl,hmo,hb3⟩;obtain⟨om,cm,rfl⟩:=hmo.lit;go_wp2_with fail;refine hK.out _ _ (Below.next hHeld hb3) (fun hHeld=> ?_);clear hK K hb3;refine tq 8 rfl ?_;have hba:=Aa w3 (.cells #[Vi Vk 0,Vi Vk 0,Vi Vk 0,.slice none 0 0] 186);have HC:=Qs (Ig (w3.alloc (.cells #[Vi Vk 0,Vi Vk 0,Vi Vk 0,.slice none 0 0] 186)) w3.heap.size 0 0 0 (.slice none 0 0)) (σ w3 _);have HM:=Qh ((hmo.mono (θ _)).later hba);have HNE:=Qs (∀ k,(Value.slice om ms.length cm).ownBlock=some k→k≠w3.heap.size) (fun k hk=>by have:=(World.ownsRow.lt hmo k hk).2;omega);have hg0:=hHeld.size;refine Rd 9 rfl fun K hK=> ?_;go_simp;refine hK.out _ _ (Below.next hHeld hba) (fun hHeld=> ?_);clear hK K hba hmo;generalize w3.heap.size=ga at*;generalize w3.alloc (.cells #[Vi Vk 0,Vi Vk 0,Vi Vk 0,.slice none 0 0] 186)=w4 at*;rotate_left;have hba:=Aa Wd (.cells #[Vi Vk 0,Vi Vk 0,Vi Vk 0,.slice none 0 0] 186);have HC:=Qs (Ig (Wd.alloc (.cells #[Vi Vk 0,Vi Vk 0,Vi Vk 0,.slice none 0 0] 186)) Wd.heap.size 0 0 0 (.slice none 0 0)) (σ Wd _);have hg0:=hHeld.size;have HLT:=Qh HC.out.lt;go_simp;refine hK.out _ _ (Below.next hHeld hba) (fun hHeld=> ?_);clear hK K hba;generalize Wd.heap.size=ga at*;generalize Wd.alloc (.cells #[Vi Vk 0,Vi Vk 0,Vi Vk 0,.slice none 0 0] 186)=w3 at*;refine Rd 7 rfl fun K hK=> ?_;go_simp;refine(HBI.out w3 hHeld).mono ?_;rintro e w4 ⟨mv,rfl,hmo,hb3⟩;obtain⟨om,cm,rfl⟩:=hmo.lit;replace HC:=Qh (HC.out.below hb3);have HM:=Qh (hmo.mono (θ _));have HNE:=Qs (∀ k,(Value.slice om ms.length cm).ownBlock=some k→k≠ga) (fun k hk=>by have:=(World.ownsRow.lt hmo k hk).1;have:=HLT.out;omega);go_wp2_with fail;refine hK.out _ _ (Below.next hHeld hb3) (fun hHeld=> ?_);clear hK K hb3 hmo;refine tq 8 rfl ?_
 all_goals
  refine Rd 10 rfl fun K hK=> ?_;rw [κ (by kernel_rfl)];refine wp_store_row 186 (.tmp 9) (.tmp 47) rfl ga (Hp (first:Int) (ps.length:Int) (stride:Int) (.slice om ms.length cm)) rfl rfl 186 (Hp 0 0 0 (.slice none 0 0)) HC.out clInfo rfl (clCs_all _ _ _ _ rfl) ?_;have HCL:=Qs (Ig (w4.setRow ga (Hp (first:Int) (ps.length:Int) (stride:Int) (.slice om ms.length cm))) ga (first:Int) (ps.length:Int) (stride:Int) (.slice om ms.length cm)) (setRow_heap w4 ga _ _ _ _ HC.out);have HMR:=Qs (MkRow (w4.setRow ga (Hp (first:Int) (ps.length:Int) (stride:Int) (.slice om ms.length cm))) (.slice om ms.length cm) ms) ((Es.kept' HM.out fun k hk=>setRow_other _ _ _ _ (HNE.out k hk)).row);have hbr:Below w2.heap.size w2 (w4.setRow ga (Hp (first:Int) (ps.length:Int) (stride:Int) (.slice om ms.length cm))):=Bw hHeld hg0 _;generalize w4.setRow ga (Hp (first:Int) (ps.length:Int) (stride:Int) (.slice om ms.length cm))=w5 at*;refine hK.out _ _ hbr (fun hHeld=> ?_);clear hK K HC HM HNE hbr;refine Ξ (by kernel_rfl) ?_ _;go_wp2_with fail;have HB5:=Qh (Below.next HB2.out hHeld);have C0:=Qs (w5.cell? ⟨w1.heap.size,0,none⟩=some (Vi Vk (num:Int))) ((HA.out.below hHeld).cell 0);have HN5:=Qh (HN2.out.below hHeld);have HBO:=Qh (fun W (hB:Below w5.heap.size w5 W)=>by have:=body_any first ps.length stride ms _ W (HMR.out.below hB) HMV.out HF.out HPL.out HST.out.2;rw [←HBL.out] at this;exact this);clear hHeld;refine ε (S:=fun w'=>Below w5.heap.size w5 w') (by kernel_rfl) (Ac w5 1) (fun hHeld=> ?_);have FX2:=Qh (fun(wF:World) (hSw:(fun w'=>Below w5.heap.size w5 w') wF)=>(cell_later hSw C0.out));refine tf FX2 0 rfl ?_;refine tf FX2 1 rfl ?_;clear FX2;refine tkl 2 ga 0 [Vi Vk (first:Int),Vi Vk (ps.length:Int),Vi Vk (stride:Int),.slice om ms.length cm] rfl rfl (fun w' h=>Bs (fun j u hj=>by rw [Nat.zero_add,HCL.out.cell];simpa [Hp] using hj) h) underlying186 rfl (by rw [clInfo];rfl) ?_;simp only [pA];generalize World.drew _=We at*;refine Rd 3 rfl fun K hK=> ?_;go_simp;refine(HBO.out We hHeld).mono ?_;rintro e w6 ⟨v6,rfl,ho6,hb6⟩;obtain⟨o6,c6,rfl,_,_⟩:=Aj ho6;have HO6:=Qh ho6;have HB6:=Qh (Below.next hHeld hb6);clear ho6 hb6 hHeld;go_wp2_with fail;refine hK.out _ _ HB6.out (fun hHeld=> ?_);clear hK K;refine tq 4 rfl ?_;have HFr:=Qh (by have:=frame_any 3 (num:Int) bl _ w6 HO6.out.brow (HN5.out.below HB6.out);rw [HRE.out] at this;exact this);refine Rd 5 rfl fun K hK=> ?_;go_simp;refine HFr.out.mono ?_;rintro e w7 ⟨v7,rfl,h7,hb7⟩;have HO7:=Qh (h7.mono (η HB5.out.size HB6.out.size));have HB7:=Qh (Below.next (Below.next HB5.out HB6.out) hb7);go_wp2_with fail;refine hK.out _ _ (Below.next HB6.out hb7) (fun hHeld=> ?_);clear hK K h7 hb7;refine tq 6 rfl ?_;refine tq 7 rfl ?_;refine tq 8 rfl ?_;refine tq 9 rfl ?_;refine Ξ (by kernel_rfl) ?_ _;go_wp2;go_ret2;exact⟨_,rfl,HO7.out,HB7.out⟩
theorem fsDown_any (w:World) (f m:Nat) (d:Af) (L:List Aq) (h:Bv w f m d L):Calls prog 26 #[.pointer (some ⟨f,0,none⟩)] w fun e w'=>e= .returned (.bool d.down)∧w=w':=by
 have c6:w.cell? ⟨f,6,none⟩=some (.bool d.down):=h.hd.c6;clear h;generalize d.down=x at*;go_enter func26,ntmps26;go_wp2;go_ret;exact⟨rfl,rfl⟩
theorem fsFree_any (w:World) (f m:Nat) (d:Af) (L:List Aq) (h:Bv w f m d L):Calls prog 69 #[.pointer (some ⟨f,0,none⟩)] w fun e w'=>e= .returned (Vi Vk (d.room - (usedF d.files:Int)))∧Below w.heap.size w w':=by
 have c1:w.cell? ⟨f,1,none⟩=some (Vi Vk d.room):=h.hd.c1;have c2:w.cell? ⟨f,2,none⟩=some (Vi Vk (usedF d.files:Int)):=h.hd.c2;have hr:=h.ok.room;have hu:=h.ok.used;have hw:IntKind.i64.wrap (d.room - (usedF d.files:Int))=d.room - (usedF d.files:Int):=by rw [ν];omega
 have HW:=Qh hw;have C1:=Qh c1;have C2:=Qh c2;clear h hr hu c1 c2 hw;generalize d.room=x at*;generalize (usedF d.files:Int)=y at*;go_enter func69,ntmps69;go_wp2_with fail;refine ε (S:=fun w'=>Below w.heap.size w w') (by kernel_rfl) (Ac w 1) (fun hHeld=> ?_);have FX1:=Qh (fun(wF:World) (hSw:(fun w'=>Below w.heap.size w w') wF)=>And.intro ((cell_later hSw C1.out)) ((cell_later hSw C2.out)));refine tf FX1 0 rfl ?_;refine tf FX1 1 rfl ?_;refine tf FX1 2 rfl ?_;refine tf FX1 3 rfl ?_;refine tf FX1 4 rfl ?_;refine tf FX1 5 rfl ?_;refine tf FX1 6 rfl ?_;refine tf FX1 7 rfl ?_;clear FX1;have FX2:=Qh (fun(wF:World) (hSw:(fun w'=>Below w.heap.size w w') wF)=>(HW.out));refine tf FX2 8 rfl ?_;clear FX2;refine tq 9 rfl ?_;refine Ξ (by kernel_rfl) ?_ _;go_wp2;go_ret;exact⟨rfl,Ac _ _⟩
section
variable {w : World} {b f m : Nat} {L : List Aq} {d : Af} {s : C6} {mv sv : Value}
theorem Oe {l:Da} (h:l.segs≠ []):l.segs[l.segs.length - 1]? =some (Ah l):=by
 unfold Ah;rw [List.getLast?_eq_getElem?];rcases hg:l.segs[l.segs.length - 1]? with _|g
 ·have:=Ψ.2 h;rw [List.getElem?_eq_none_iff] at hg;omega
 ·rfl
theorem SJ.segs (h:SJ w b f m L d s mv sv) (hn:s.man.segs≠ []): ∃ gb off cap,sv= .slice (some ⟨gb,off,none⟩) s.man.segs.length cap∧s.man.segs.length≤cap∧ ¬ Br b mv f m L gb∧w.rangeAt gb (off+(s.man.segs.length - 1)*4) (B4 (Ah s.man)).toList:=by
 obtain⟨oa,cap,rfl,h1,_,h2⟩:=h.sg;obtain⟨gb,off,rfl,⟨h3,_⟩,h4⟩:=h2 _ _ (Oe hn);exact⟨gb,off,cap,rfl,h1,h3,h4⟩
theorem results_sg1 {p:Tmp} (h:fn.results= #[.cell p 72]) (tmps:Array Value) (w:World) (b:Nat) (g:Sg) (hp:tmps.getD p undef= .pointer (some ⟨b,0,none⟩)) (hE:Ft w b g):(results fn tmps).run prog w= .ok (sgV g) w:=by
 have hl:(loadVar 72 ⟨b,0,none⟩).run prog w= .ok (sgV g) w:=run_loadVar_row (P:=prog) w b 72 72 (B4 g) (0,0) _ hE underlying72 rfl sgInfo;have hp':tmps[p]?.getD undef= .pointer (some ⟨b,0,none⟩):=by simpa using hp
 simp [results,h,hp',asAddr,hl]
theorem Kx (h:SJ w b f m L d s mv sv) (hn:s.man.segs≠ []):Calls prog 34 #[.pointer (some ⟨b,0,none⟩)] w fun e w'=>e= .returned (sgV (Ah s.man))∧Below w.heap.size w w':=by
 obtain⟨gb,off,cap,rfl,hcp,_,hr⟩:=h.segs hn;have HBL:=Qh h.blk.lt;have C11:=Qs (w.cell? ⟨b,11,none⟩=some (.slice (some ⟨gb,off,none⟩) s.man.segs.length cap)) (h.blk.cell 11);have HR:=Qh hr;have hp:=Ψ.2 hn;have hml:s.man.segs.length≤9223372036854775807:=by
  obtain⟨_,_,e,h1,h2,_⟩:=h.sg;simp only [Value.slice.injEq] at e;obtain⟨_,_,rfl⟩:=e;omega
 obtain⟨n,hnn⟩: ∃ n,n=s.man.segs.length:=⟨_,rfl⟩;rw [←hnn] at C11 HR hp hcp hml;have q0:0<n:=hp;have qm:n - 1<n:=by omega
 have qn:((n - 1:Nat):Int)<(n:Int):=by omega
 have hwn:IntKind.i64.wrap ((n:Int) - 1)=((n - 1:Nat):Int):=by rw [ν];omega
 have HB0:=Qh (Aa w (.cells #[Vi Vk 0,Vi Vk 0,Vi Vk 0,Vi Vk 0] 72));have HG:=Qs (Ft (w.alloc (.cells #[Vi Vk 0,Vi Vk 0,Vi Vk 0,Vi Vk 0] 72)) w.heap.size ⟨0,0,0,0⟩) (σ w _);generalize Ah s.man=g at*;clear h hn hnn hr hp hml;go_enter func34,ntmps34;go_wp2_with fail;have C11':=Qh (cell_later HB0.out C11.out);have HR':=Qh (Bs HR.out HB0.out);have HBN:=Qs (¬ b=w.heap.size) (fun e=>by have:=HBL.out;omega);have HGN:=Qs (¬ gb=w.heap.size) (Nat.ne_of_lt (World.block_lt_of_cell? w _ (HR.out 0 _ rfl)));generalize w.alloc (.cells #[Vi Vk 0,Vi Vk 0,Vi Vk 0,Vi Vk 0] 72)=W at*;refine ε (S:=fun w'=>Ab (fun k=>k=w.heap.size) W w') (by kernel_rfl) (Ab.below (Ac W 1)) (fun hHeld=> ?_);have FX3:=Qh (fun(wF:World) (hSw:(fun w'=>Ab (fun k=>k=w.heap.size) W w') wF)=>(hSw.cell C11'.out HBN.out));refine tf FX3 0 rfl ?_;refine tf FX3 1 rfl ?_;refine tf FX3 2 rfl ?_;refine tf FX3 3 rfl ?_;refine tf FX3 4 rfl ?_;refine tf FX3 5 rfl ?_;refine tf FX3 6 rfl ?_;refine tf FX3 7 rfl ?_;refine tf FX3 8 rfl ?_;refine tf FX3 9 rfl ?_;refine tf FX3 10 rfl ?_;clear FX3;have FX4:=Qh (fun(wF:World) (hSw:(fun w'=>Ab (fun k=>k=w.heap.size) W w') wF)=>(hwn));refine tf FX4 11 rfl ?_;refine tf FX4 12 rfl ?_;clear FX4;refine tkl 13 gb (off+(n - 1)*4) [Vi Vk g.num,Vi Vk g.first,Vi Vk g.count,Vi Vk g.foot] rfl rfl (fun w' h=>fun j u hj=>h.cell (HR'.out j u hj) HGN.out) underlying72 rfl (by rw [sgInfo];rfl) ?_;simp only [pA,pB,pC,pD];have HGd:=Qs (Ft (World.drew W) w.heap.size ⟨0,0,0,0⟩) HG.out;have HBd:=Qs (Below w.heap.size w (World.drew W)) (Below.next HB0.out (Ac W 1));generalize World.drew _=Wd at*;refine Rd 14 rfl fun K hK=> ?_;rw [κ (by kernel_rfl)];refine wp_store_row 72 (.tmp 2) (.tmp 16) rfl w.heap.size (B4 g) rfl rfl 72 (B4 ⟨0,0,0,0⟩) HGd.out sgInfo rfl (Array.all_eq_true_iff_forall_mem.2 (by intro u hu;simp only [B4,List.mem_toArray,Δ,Ω,or_false] at hu;rcases hu with rfl|rfl|rfl|rfl<;>rfl)) ?_;have HS:=Qs (Ft (Wd.setRow w.heap.size (B4 g)) w.heap.size g) (setRow_heap Wd _ _ _ _ _ HGd.out);have HBS:=Qs (Below w.heap.size w (Wd.setRow w.heap.size (B4 g))) (Bw HBd.out (μ _) _);refine hK.out _ _ (hHeld.trans (Jh _ _ _) fun _ h=> .inl h) (fun hHeld=> ?_);generalize Wd.setRow w.heap.size (B4 g)=We at*;clear hK K hHeld;refine Ξ (by kernel_rfl) ?_ _;go_wp2;exact π (results_sg1 rfl _ _ _ _ rfl HS.out) rfl ⟨rfl,HBS.out⟩
theorem Hz (h:SJ w b f m L d s mv sv) (hn:s.man.segs≠ []):Calls prog 33 #[.pointer (some ⟨b,0,none⟩)] w fun e w'=>e= .returned (.string ⟨(A9 s.man).toArray⟩)∧Below w.heap.size w w':=by
 have HA:=Qh (Kx h hn);unfold sgV at HA;unfold A9;clear h hn;generalize Ah s.man=g at*;have hfl: ∀ (W:World),(Instr.field 72 (.agg #[Vi Vk g.num,Vi Vk g.first,Vi Vk g.count,Vi Vk g.foot]) 0).run prog W= .ok (Vi Vk g.num) W:=fun W=>by kernel_rfl
 go_enter func33,ntmps33;go_wp2_with fail;refine HA.out.mono ?_;rintro e w1 ⟨rfl,hb1⟩;have HB1:=Qh hb1;have HS:=Qh (Jm g.num w1);clear hb1 HA;go_wp2_with fail;refine HS.out.mono ?_;rintro e w2 ⟨rfl,hb2⟩;have HB2:=Qh (Below.next HB1.out hb2);clear hb2 HS;go_wp2;go_ret;exact⟨rfl,HB2.out⟩
structure SB (s:C6):Prop where
 segs:s.man.segs≠ []
 first:1≤(Ah s.man).first∧(Ah s.man).first≤1099511627776
 num:1≤(Ah s.man).num∧(Ah s.man).num≤999999
 count:s.count≤512
 size:s.size≤67108864
 stride:1≤s.stride∧s.stride≤64
 segEv:1≤s.segEv∧s.segEv≤512
theorem F2 (h:SJ w b f m L d s mv sv) (hs:SB s):Calls prog 42 #[.pointer (some ⟨b,0,none⟩)] w fun e w'=>e= .returned (Vi Vk (lastE s))∧Below w.heap.size w w':=by
 have HA:=Qh (fun W (hB:Below w.heap.size w W)=>Kx (h.below hB) hs.segs);unfold sgV at HA;have C0:=Qs (w.cell? ⟨b,0,none⟩=some (Vi Vk (s.count:Int))) (h.blk.cell 0);unfold lastE;have hf:=hs.first;have hc:=hs.count;have hw1:IntKind.i64.wrap ((Ah s.man).first+(s.count:Int))=(Ah s.man).first+(s.count:Int):=by rw [ν];omega
 have hw2:IntKind.i64.wrap ((Ah s.man).first+(s.count:Int) - 1)=(Ah s.man).first+(s.count:Int) - 1:=by rw [ν];omega
 have HW1:=Qh hw1;have HW2:=Qh hw2;clear h hs hf hc hw1 hw2;generalize Ah s.man=g at*;generalize (s.count:Int)=c at*;have hfl: ∀ (W:World),(Instr.field 72 (.agg #[Vi Vk g.num,Vi Vk g.first,Vi Vk g.count,Vi Vk g.foot]) 1).run prog W= .ok (Vi Vk g.first) W:=fun W=>by kernel_rfl
 go_enter func42,ntmps42;go_wp2_with fail;refine ε (S:=fun w'=>Below w.heap.size w w') (by kernel_rfl) (Ac w 1) (fun hHeld=> ?_);have FX5:=Qh (fun(wF:World) (hSw:(fun w'=>Below w.heap.size w w') wF)=>(cell_later hSw C0.out));refine tf FX5 0 rfl ?_;refine tf FX5 3 rfl ?_;refine tf FX5 4 rfl ?_;refine tf FX5 5 rfl ?_;refine tf FX5 6 rfl ?_;refine tf FX5 7 rfl ?_;clear FX5;generalize World.drew _=Wd at*;refine Rd 1 rfl fun K hK=> ?_;go_simp;refine(HA.out Wd hHeld).mono ?_;rintro e w1 ⟨rfl,hb1⟩;have HB1:=Qh (Below.next hHeld hb1);clear hb1 hHeld HA;go_wp2_with fail;refine hK.out _ _ HB1.out (fun hHeld=> ?_);clear hK K hHeld;have hw1:=HW1.out;have hw2:=HW2.out;have FX6:=Qh (fun(wF:World) (hSw:(fun w'=>Below w.heap.size w w') wF)=>(hw1));refine tf FX6 2 rfl ?_;refine tf FX6 8 rfl ?_;refine tf FX6 9 rfl ?_;clear FX6;refine tq 10 rfl ?_;refine Ξ (by kernel_rfl) ?_ _;go_wp2;go_ret;exact⟨rfl,HB1.out⟩
theorem N4 (h:SJ w b f m L d s mv sv):Calls prog 45 #[.pointer (some ⟨b,0,none⟩)] w fun e w'=>e= .returned (.bool s.closed)∧w=w':=by
 have c12:w.cell? ⟨b,12,none⟩=some (.bool s.closed):=h.blk.cell 12;clear h;generalize s.closed=x at*;go_enter func45,ntmps45;go_wp2;go_ret;exact⟨rfl,rfl⟩
theorem F0 (h:SJ w b f m L d s mv sv) (hc:s.closed=false) (hd:d.down=false):Calls prog 38 #[.pointer (some ⟨b,0,none⟩)] w fun e w'=>e= .returned (Vi Vk 0)∧w=w':=by
 have c12:w.cell? ⟨b,12,none⟩=some (.bool s.closed):=h.blk.cell 12;have c3:w.cell? ⟨b,3,none⟩=some (.pointer (some ⟨f,0,none⟩)):=h.blk.cell 3;have HD:=Qh (fsDown_any w f m d L h.fs);rw [hc] at c12;rw [hd] at HD;clear h hc hd;go_enter func38,ntmps38;go_wp2_with fail;refine HD.out.mono ?_;rintro e w1 ⟨rfl,rfl⟩;go_wp2;go_ret;exact⟨rfl,rfl⟩
theorem Pt (e:Int) (h:SJ w b f m L d s mv sv):Calls prog 54 #[.pointer (some ⟨b,0,none⟩),Vi Vk e] w fun x w'=>x= .returned (Vi Vk e)∧SJ w' b f m L d (shutS s e) mv sv∧Ab (Br b mv f m L) w w':=by
 by_cases he:e=3
 ·subst he;have c12:w.cell? ⟨b,12,none⟩=some (.bool s.closed):=h.blk.cell 12;have f12:=h.blk.free 12;have HP:=Qh (h.set (s':={s with closed:=true}) (j:=12) (v:= .bool true) rfl rfl rfl);clear h;go_enter func54,ntmps54;go_wp2;go_ret;exact⟨rfl,HP.out⟩
 ·have h3:(e==3)=false:=by simpa using he
  have HP:=Qh h;have HE:=Qs (shutS s e=s) (by unfold shutS;rw [γ he]);clear h he;go_enter func54,ntmps54;go_wp2;go_ret;exact⟨rfl,by rw [HE.out];exact HP.out,Ab.refl _ _⟩
end
end Go.Proofs.YtgkdenejkcngnaaGreatDoor
