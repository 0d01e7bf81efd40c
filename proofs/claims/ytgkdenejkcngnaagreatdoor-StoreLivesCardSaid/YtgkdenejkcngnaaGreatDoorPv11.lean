import Derived.Deep.CutRange
import Derived.StillTailTactics
import Derived.Test.YtgkdenejkcngnaaGreatDoorPv10
set_option maxRecDepth 100000
set_option maxHeartbeats 8000000
namespace Go.Proofs.YtgkdenejkcngnaaGreatDoor
open Go.RowKit
open Value renaming int→Vi
open IntKind renaming i64→Vk
open Go.Proofs.Tryz
variable {a:Act}{K:Act→World→Prop}{d d':Af}{listed:Array Bool}{af:Array Edge}{ops:Array Oper}{x:Bl}{s:C6}{D:DataW Value}{e:Ev}{Q:Exit→Act→World→Prop}{fn:Func}{h:Hd}{bad from_ num:Int}{xs:List (Ce×Value)}{E bs:List (List UInt8)}{L:List Aq}{fs fs':List Bl}{G:List Grp}{ps:List I3}{zs:List Int}{ms:List Mk}{us vs:List Nat}{rest:List Oper}{b body l n raw t:List UInt8}{cs:List Value}{B N base c f first g i j k m more most p r segEv size stride u:Nat}{A A' S:Nat→Prop}{o:Oper}{P:Program}{q:Tmp}{bv mv rv sv v v' v1:Value}{W W' X w w' w0 w1 w2:World}
theorem used_le (n:List UInt8) (c:Nat): ∀ (fs1 fs0:List Bl),Fs fs1→Fs fs0→(∀ f∈fs1,∃ f0,Bf fs0 f.name=some f0∧f.data.length≤f0.data.length+(if f.name=n then c else 0))→usedF fs1≤usedF fs0+(if (Bf fs1 n).isSome then c else 0)∧fs1.length≤fs0.length
 | [],fs0,_,_,_=>by simp [usedF]
 |f::r,fs0,h1,h0,h=>by
  obtain⟨f0,e1,e2⟩:=h f (by simp)
  have hr:Fs r:=(List.pairwise_cons.1 h1).2
  have hlt:=(List.pairwise_cons.1 h1).1
  have hne: ∀ g∈r,g.name≠f.name:=fun g hg e=>by
   have:=hlt g hg
   rw [e] at this
   have h2:=bytes_asymm this
   rw [this] at h2;cases h2
  have ht:=Ea h0 e1
  have hrt:Fs (takeF f.name fs0):=List.Pairwise.sublist (List.filter_sublist) h0
  have hlen:(takeF f.name fs0).length+1≤fs0.length:=by
   obtain⟨z1,z2⟩:=B8 e1;have:(takeF f.name fs0).length<fs0.length:=by
    unfold takeF;rw [List.length_filter_lt_length_iff_exists];exact⟨f0,z2,by simp [z1]⟩
   omega
  obtain⟨i1,i2⟩:=used_le n c r (takeF f.name fs0) hr hrt fun g hg=>by
   obtain⟨g0,a1,a2⟩:=h g (by simp [hg]);refine⟨g0,?_,a2⟩;rw [atF_take _ (hne g hg)];exact a1
  have hu:usedF (f::r)=f.data.length+usedF r:=by simp [usedF]
  have hat:Bf (f::r) n=if f.name=n then some f else Bf r n:=by
   unfold Bf;rw [List.find?_cons];by_cases e:f.name=n
   ·rw [κ e,show (f.name==n)=true by simpa using e]
   ·rw [γ e,show (f.name==n)=false by simpa using e]
  rw [hu,hat];by_cases e:f.name=n
  ·rw [κ e] at e2 ⊢;have hn:Bf r n=none:=by
    rcases hz:Bf r n with _|z
    ·rfl
    ·obtain⟨z1,z2⟩:=B8 hz;exact absurd (z1.trans e.symm) (hne z z2)
   rw [hn] at i1;simp only [Option.isSome_none,Bool.false_eq_true,if_false,Option.isSome_some,if_true] at i1 ⊢;rw [τ];omega
  ·rw [γ e] at e2 ⊢;rw [τ];omega
def numb:Nat→List (List UInt8)→List RecS
 |_,[]=>[]
 |n,b::r=>((n:Int),upV b)::numb (n+1) r
theorem numb_append: ∀ (a b:List (List UInt8)) (n:Nat),numb n (a++b)=numb n a++numb (n+a.length) b
 | [],b,n=>by simp [numb]
 |x::a,b,n=>by rw [List.cons_append,numb,numb_append a b,numb,τ,List.cons_append,Nat.add_assoc,Nat.add_comm 1]
theorem numb_length: ∀ (a:List (List UInt8)) (n:Nat),(numb n a).length=a.length
 | [],_=>rfl
 |x::a,n=>by rw [numb,τ,numb_length a,τ]
theorem numb_ge: ∀ (a:List (List UInt8)) (n:Nat),∀ r∈numb n a,(n:Int)≤r.1∧r.1<(n:Int)+(a.length:Int)
 | [],n,r,h=>by simp [numb] at h
 |x::a,n,r,h=>by
  rw [numb] at h
  rcases Δ.1 h with rfl|h
  ·simp only [τ];omega
  ·have:=numb_ge a (n+1) r h
   simp only [τ]
   omega
def K5 (from_:Int) (rs:List RecS):List RecS:=rs.filter fun r=>decide (from_≤r.1)
theorem O6 (from_:Int) (a b:List RecS):K5 from_ (a++b)=K5 from_ a++K5 from_ b:=by simp [K5]
theorem fromN_all {a:List (List UInt8)} {n:Nat} (h:from_≤(n:Int)):K5 from_ (numb n a)=numb n a:=
 List.filter_eq_self.2 fun r hr=>by have:=(numb_ge a n r hr).1;exact ξ (by omega)
theorem fromN_none {a:List (List UInt8)} {n:Nat} (h:(n:Int)+(a.length:Int)≤from_):K5 from_ (numb n a)=[]:=
 List.filter_eq_nil_iff.2 fun r hr=>by have:=(numb_ge a n r hr).2;simp;omega
theorem recP_lay (from_:Int): ∀ (bs:List (List UInt8)) (n p q:Nat),J8 from_ (Jt p (Fc q (evFr n bs)))=K5 from_ (numb n bs)
 | [],n,p,q=>rfl
 |b::r,n,p,q=>by
  have ih:=recP_lay from_ r (n+1) p (q+b.length+20)
  rw [evFr,Fc]
  show J8 from_ ([⟨p+q,b.length+20,⟨1,n,b⟩⟩]++Jt p (Fc (q+b.length+20) (evFr (n+1) r)))=_
  rw [Hx,ih,numb,show (((n:Int),upV b)::numb (n+1) r:List RecS)=[((n:Int),upV b)]++numb (n+1) r from rfl,O6]
  congr 1
  unfold J8 K5
  simp only [List.filter_cons,List.filter_nil]
  split<;>rfl
theorem plcs_mem {bs:List (List UInt8)} {n p q:Nat} {x:I3} (h:x∈Jt p (Fc q (evFr n bs))):x.f.body∈bs:=by
 induction bs generalizing n q with
 |nil=>simp [evFr,Fc,Jt] at h
 |cons b r ih=>
  rw [evFr,Fc] at h;rcases Δ.1 (show x∈(⟨p+q,b.length+20,⟨1,n,b⟩⟩:I3)::Jt p (Fc (q+b.length+20) (evFr (n+1) r)) from h) with rfl|h
  ·simp
  ·exact List.mem_cons_of_mem _ (ih h)
def O8 (stride:Nat) (from_:Int) (n len k:Nat):Prop:=(from_≤(n:Int)→k=len)∧((n:Int)+(len:Int)≤from_→k=0)∧((n:Int)≤from_→from_<(n:Int)+(len:Int)→(n:Int)+(len:Int) - from_≤(k:Int)∧(k:Int)≤(n:Int)+(len:Int) - from_+(stride:Int) - 1)
theorem seg_piece {g:Sg}  {rest:List UInt8} (hx:Bf d.files (Ad g.num)=some x) (hxd:x.data=Cl g bs++rest) (h1:1≤g.num∧g.num≤999999) (h2:1≤g.first∧g.first+(bs.length:Int)≤1099511627777)
  (hb: ∀ b∈bs,Du b) (hl:bs.length≤512) (hst:1≤s.stride∧s.stride≤64)
  (hsrc:(0<g.count∧g.foot=((Cl g bs).length:Int)∧g.count=(bs.length:Int)∧Cn rest g=some (Fv s.stride 0 g.first.toNat (Hk g).length bs,s.stride))∨(g.count=0∧s.marks=Fv s.stride 0 g.first.toNat (Hk g).length bs∧s.size=(Cl g bs).length∧s.count=bs.length∧(from_≤g.first∨from_<g.first+(bs.length:Int)))):
  ∃ ps,SegIn d s from_ g ps∧J8 from_ ps=K5 from_ (numb g.first.toNat bs)∧O8 s.stride from_ g.first.toNat bs.length ps.length∧(ps.length≤512∧ ∀ p∈ps,Du p.f.body):=by
 obtain⟨n,hn⟩: ∃ n,n=g.first.toNat:=⟨_,rfl⟩;have hnn:g.first=(n:Int):=by omega
 rw [←hn] at hsrc;rw [←hn];have hhl:=O9 h1 (by omega:1≤g.first∧g.first≤1099511627777);have hll:=Km hb n;have hsl:(Cl g bs).length=(Hk g).length+(Hl (evFr n bs)).length:=by unfold Cl;rw [ζ,←hn]
 have hmk:Dv (Fv s.stride 0 n (Hk g).length bs)=true:=by
  unfold Dv;rw [mksG_ok s.stride bs 0 n _ 0 (-1) (by omega) (by omega) (by omega) (by omega),ξ (η (K9 s.stride bs 0 n _) hl)];rfl
 have hpi:PieceIn d s g x (Fv s.stride 0 n (Hk g).length bs) (Cl g bs).length bs.length:=by
  refine⟨hx,?_,by rw [hxd,ζ];omega,marksV_pair hmk,η (K9 _ _ _ _ _) hl,hl,by omega⟩;rcases hsrc with⟨a,b,c,e⟩|⟨a,b,c,e,_⟩
  ·exact .inl ⟨a,b,c,s.stride,by rw [hxd,List.drop_left];exact e⟩
  ·exact .inr ⟨a,b.symm,c.symm,e.symm⟩
 by_cases hskip:0<g.count∧g.first+g.count - 1<from_
 ·have hc:g.count=(bs.length:Int):=by
   rcases hsrc with⟨_,_,c,_⟩|⟨a,_⟩
   ·exact c
   ·omega
  refine⟨[],.inl ⟨hskip.1,hskip.2,rfl⟩,?_,⟨fun h=> ?_,fun _=>rfl,fun h h'=> ?_⟩,by simp,fun p hp=>by cases hp⟩
  ·rw [fromN_none (by omega)];rfl
  ·rw [Φ];omega
  ·omega
 ·by_cases h0:bs=[]
  ·subst h0;refine⟨[],.inr ⟨hskip,x,_,_,_,hpi,.inl ⟨rfl,rfl,rfl⟩⟩,rfl,⟨fun _=>rfl,fun _=>rfl,fun h h'=> ?_⟩,by simp,fun p hp=>by cases hp⟩;simp only [Φ] at h' ⊢;omega
  ·have hpos:=Ψ.2 h0;have hfr:from_<(n:Int)+(bs.length:Int):=by
    rcases hsrc with⟨a,_,c,_⟩|⟨_,_,_,_,e⟩
    ·omega
    ·rcases e with e|e<;>omega
   obtain⟨i,hi⟩: ∃ i:Nat,max from_ g.first=((n+i:Nat):Int):=⟨(max from_ g.first - (n:Int)).toNat,by omega⟩;have hil:i<bs.length:=by omega
   obtain⟨j,hj1,hj2,hj3⟩:=seek_ok (s:=n) (p:=(Hk g).length) hst.1 hil;rw [←hi] at hj3;have hdl:(bs.drop j).length=bs.length - j:=Λ;have hcut:Cl g bs=(Hk g++Hl (evFr n (bs.take j)))++Hl (evFr (n+j) (bs.drop j)):=by
    unfold Cl;rw [←hn];have e:evFr n bs=evFr n (bs.take j)++evFr (n+j) (bs.drop j):=by
     have:=evFr_append (bs.take j) (bs.drop j) n;rw [List.take_append_drop,ω,Nat.min_eq_left (by omega)] at this;exact this
    rw [e,Pc,List.append_assoc]
   have hsc:=scan_lay (n:=n+j) (most:=bs.length - j) (bs:=bs.drop j) (fun b hm=>hb b (List.mem_of_mem_drop hm)) (by rw [hdl];omega) (by rw [hdl];exact μ _) [];rw [List.nil_append,Φ] at hsc;have hcl:(Cl g bs).length=(Hk g).length+(Hl (evFr n (bs.take j))).length+(Hl (evFr (n+j) (bs.drop j))).length:=by rw [hcut,ζ,ζ]
   refine⟨Jt 0 (Fc 0 (evFr (n+j) (bs.drop j))),.inr ⟨hskip,x,_,_,_,hpi,.inr ⟨n+j,(Hk g).length+(Hl (evFr n (bs.take j))).length,bs.length - j,hj3,by omega,by omega,by omega,by omega,?_,?_⟩⟩,?_,⟨fun h=> ?_,fun h=> ?_,fun h h'=> ?_⟩,?_,fun p hp=>hb _ (List.mem_of_mem_drop (plcs_mem hp))⟩
   ·have e:(x.data.drop ((Hk g).length+(Hl (evFr n (bs.take j))).length)).take ((Cl g bs).length - ((Hk g).length+(Hl (evFr n (bs.take j))).length))=Hl (evFr (n+j) (bs.drop j)):=by
     rw [←List.drop_take,hxd,List.take_left,hcut,←ζ,List.drop_left]
    rw [e,hsc];simp only [Prod.mk.injEq,true_and];omega
   ·rw [Gq,Fy,Dj,hdl]
   ·rw [recP_lay];have e:numb n bs=numb n (bs.take j)++numb (n+j) (bs.drop j):=by
     have:=numb_append (bs.take j) (bs.drop j) n;rw [List.take_append_drop,ω,Nat.min_eq_left (by omega)] at this;exact this
    rw [e,O6];by_cases hj0:j=0
    ·subst hj0;simp [numb,K5]
    ·rw [fromN_none (a:=bs.take j) (by rw [ω];omega),List.nil_append]
   ·rw [Gq,Fy,Dj,hdl];omega
   ·omega
   ·rw [Gq,Fy,Dj,hdl];omega
   ·rw [Gq,Fy,Dj,hdl];omega
theorem mark_go {n len len2 k2:Nat} (h:O8 stride from_ n len k) (h2:O8 stride from_ (n+len) len2 k2):O8 stride from_ n (len+len2) (k+k2):=by
 obtain⟨a1,a2,a3⟩:=h;obtain⟨b1,b2,b3⟩:=h2;refine⟨fun h=> ?_,fun h=> ?_,fun h h'=> ?_⟩
 ·rw [a1 h,b1 (by omega)]
 ·rw [a2 (by omega),b2 (by omega)]
 ·by_cases hc:from_<(n:Int)+(len:Int)
  ·have:=a3 h hc;have:=b1 (by omega);omega
  ·have:=a2 (by omega);have:=b3 (by omega) (by omega);omega
theorem segs_pieces {d:Af} {s:C6} {from_:Int} (P:Sg→List (List UInt8)→Prop) (hP: ∀ g bs,P g bs→ ∃ ps,SegIn d s from_ g ps∧J8 from_ ps=K5 from_ (numb g.first.toNat bs)∧O8 s.stride from_ g.first.toNat bs.length ps.length∧(ps.length≤512∧ ∀ p∈ps,Du p.f.body)):
  ∀ (G:List Grp) (n:Nat),(∀ x∈G,P x.1 x.2)→(∀ (i:Nat) x,G[i]? =some x→x.1.first.toNat=n+((G.take i).flatMap (·.2)).length)→
   ∃ pcs:List (List I3),pcs.length=G.length∧(∀ (i:Nat) g ps,(G.map (·.1))[i]? =some g→pcs[i]? =some ps→SegIn d s from_ g ps)∧J8 from_ pcs.flatten=K5 from_ (numb n (G.flatMap (·.2)))∧O8 s.stride from_ n (G.flatMap (·.2)).length pcs.flatten.length∧ ∀ ps∈pcs,ps.length≤512∧ ∀ p∈ps,Du p.f.body
 | [],n,_,_=>⟨[],rfl,fun i g ps h=>by simp at h,rfl,⟨fun _=>rfl,fun _=>rfl,fun h h'=>by simp only [List.flatMap_nil,Φ,List.flatten_nil] at h' ⊢;omega⟩,fun ps h=>by cases h⟩
 |x::G,n,hG,hn=>by
  have h0:=hn 0 x rfl
  simp only [List.take_zero,List.flatMap_nil,Φ,Nat.add_zero] at h0
  obtain⟨ps,p1,p2,p3,p4⟩:=hP x.1 x.2 (hG x (by simp))
  obtain⟨pcs,q1,q2,q3,q4,q5⟩:=segs_pieces P hP G (n+x.2.length) (fun y hy=>hG y (by simp [hy])) fun i y hy=>by
   have:=hn (i+1) y (by simpa using hy)
   rw [List.take_succ_cons,List.flatMap_cons,ζ] at this
   omega
  rw [h0] at p2 p3
  refine⟨ps::pcs,by simp [q1],fun i g ps' hg hp=> ?_,?_,?_,fun ps' h=> ?_⟩
  ·match i with
   |0=>
    simp only [List.map_cons,List.getElem?_cons_zero,Option.some.injEq] at hg hp
    subst hg hp
    exact p1
   |i+1=>exact q2 i g ps' (by simpa using hg) (by simpa using hp)
  ·rw [List.flatten_cons,Hx,p2,q3,List.flatMap_cons,numb_append,O6]
  ·rw [List.flatten_cons,ζ,List.flatMap_cons,ζ]
   exact mark_go p3 q4
  ·rcases Δ.1 h with rfl|h
   ·exact p4
   ·exact q5 ps' h
theorem chain_first (nx:Int) (g:Sg): ∀ (G:List Grp) (first num:Int),A4 nx first num (G.map (·.1)++[g])=true→(∀ x∈G,x.1.count=(x.2.length:Int))→ ∀ (i:Nat) x,G[i]? =some x→x.1.first=first+(((G.take i).flatMap (·.2)).length:Int)
 | [],_,_,_,_,i,x,h=>by simp at h
 |y::G,first,num,h,hc,0,x,hx=>by
  simp only [List.getElem?_cons_zero,Option.some.injEq] at hx
  subst hx
  have e:(G.map (·.1)++[g]).isEmpty=false:=by cases G<;>rfl
  simp only [List.map_cons,List.cons_append,A4,e,Bool.and_eq_true,decide_eq_true_eq,Bool.false_eq_true,if_false] at h
  simp
  omega
 |y::G,first,num,h,hc,i+1,x,hx=>by
  have e:(G.map (·.1)++[g]).isEmpty=false:=by cases G<;>rfl
  simp only [List.map_cons,List.cons_append,A4,e,Bool.and_eq_true,decide_eq_true_eq,Bool.false_eq_true,if_false] at h
  have ih:=chain_first nx g G _ _ h.2.2 (fun z hz=>hc z (by simp [hz])) i x (by simpa using hx)
  have:=hc y (by simp)
  rw [List.take_succ_cons,List.flatMap_cons,ζ]
  omega
theorem read_plain (h:Fe d s E) (h2:from_≤(E.length:Int)):
  ∃ pcs:List (List I3),pcs.length=s.man.segs.length∧(∀ (i:Nat) g ps,s.man.segs[i]? =some g→pcs[i]? =some ps→SegIn d s from_ g ps)∧(∀ ps∈pcs,ps.length≤512∧ ∀ p∈ps,Du p.f.body)∧
   J8 from_ pcs.flatten=K5 from_ (numb 1 E)∧O8 s.stride from_ 1 E.length pcs.flatten.length:=by
 obtain⟨G,g,bs,hs,rfl⟩:=h.sta;have hev:=hs.events h.floor;have hch:=(Cj hs.ok).chain;rw [hs.segs,h.floor] at hch;have hgr:=chain_first _ g G _ _ hch fun x hx=>(hs.seals x hx).count;obtain⟨x,hx,hxd⟩:=Dm hs.act;have hsg:=hs.seg;have hac:g.count=0∧g.foot=0:=by
  obtain⟨y,a,b,c,_⟩:=Mt _ _ _ _ hch;rw [List.getLast?_concat] at a;simp only [Option.some.injEq] at a;subst a;exact⟨b,c⟩
 have key:=segs_pieces (d:=d) (s:=s) (from_:=from_) (fun g' bs'=>(g',bs')∈G∨(g'=g∧bs'=bs)) (fun g' bs' hp=> ?_) (G++[(g,bs)]) 1 (fun y hy=>by
   rcases List.mem_append.1 hy with hy|hy
   ·exact .inl hy
   ·simp only [List.mem_singleton] at hy;subst hy;exact .inr ⟨rfl,rfl⟩) (fun i y hy=> ?_)
 ·obtain⟨pcs,a1,a2,a3,a4,a5⟩:=key;rw [List.flatMap_append] at a3 a4;simp only [List.flatMap_cons,List.flatMap_nil,List.append_nil] at a3 a4;exact⟨pcs,by rw [a1,hs.segs];simp,fun i g' ps hg hp=>a2 i g' ps (by rw [hs.segs] at hg;simpa using hg) hp,a5,a3,a4⟩
 ·rcases hp with hp|⟨rfl,rfl⟩
  ·have hse:=hs.seals _ hp;have hsl:=hs.sealed hp;have htp:=hs.sealTop hp;obtain⟨y,hy,hyd⟩:=Dm hse.dat;have hnn:=hs.sealSeg hp;have ht:=hs.top;simp only at htp hnn hse hsl hy hyd;have hl1:=hse.len;have hc1:=hse.count;have hf1:=hse.foot;simp only at hl1 hc1 hf1;exact seg_piece hy hyd hnn.1 ⟨hnn.2,by omega⟩ (hs.body.1 _ hp) hl1.2 hs.cfg.1 (.inl ⟨by omega,hf1,hc1,hsl.2⟩)
  ·exact seg_piece (rest:=[]) hx (by rw [hxd,List.append_nil]) hsg.1 ⟨hsg.2.1,hs.top⟩ hs.body.2 hs.cnt.2 hs.cfg.1 (.inr ⟨hac.1,hs.marks,hs.size,hs.cnt.1,by
    rw [ζ] at h2;have:=hs.events h.floor;omega⟩)
 ·rcases Nat.lt_or_ge i G.length with hi|hi
  ·rw [List.getElem?_append_left hi] at hy;have:=hgr i y hy;rw [List.take_append_of_le_length (Nat.le_of_lt hi)];omega
  ·rw [List.getElem?_append_right hi] at hy;have hi0:i - G.length=0:=by
    rcases Nat.eq_zero_or_pos (i - G.length) with h|h
    ·exact h
    ·rw [List.getElem?_eq_none_iff.2 (by simp;omega)] at hy;cases hy
   rw [hi0] at hy;simp only [List.getElem?_cons_zero,Option.some.injEq] at hy;subst hy;obtain rfl:i=G.length:=by omega
   rw [List.take_append_of_le_length (μ _),List.take_length];simp only;omega
def AtS (P:Nat→Prop) (w:World) (f m b:Nat) (d:Af) (s:C6) (E:List (List UInt8)) (k:Nat):Prop:=
 ∃ L mv sv,SJ w b f m L d s mv sv∧(∀ i,Br b mv f m L i→P i)∧(∀ i,w.heap.size≤i→P i)∧Lim d s E k
def OutS (P:Nat→Prop) (w w':World) (f m b:Nat) (d':Af) (s':C6) (E':List (List UInt8)) (k:Nat):Prop:=AtS P w' f m b d' s' E' k∧Ab P w w'
section
variable {P : Nat → Prop} {w w' : World} {f m b : Nat} {L : List Aq} {d d' : Af} {s s' : C6} {mv sv : Value} {E E' : List (List UInt8)} {k k' : Nat}
theorem AtS.below (h:AtS P w f m b d s E k) (hb:Below w.heap.size w w'):AtS P w' f m b d s E k:=by
 obtain⟨L,mv,sv,h1,h2,h3,h4⟩:=h;exact⟨L,mv,sv,h1.below hb,h2,fun i hi=>h3 i (η hb.size hi),h4⟩
theorem AtS.out (h1:E9 w b f m L mv d' s' w') (hB: ∀ i,w.heap.size≤i→P i) (h2: ∀ i,Br b mv f m L i→P i) (h4:Lim d' s' E' k'):OutS P w w' f m b d' s' E' k':=by
 obtain⟨L',mv',sv',a1,a2,a3⟩:=h1;refine⟨⟨L',mv',sv',a1,fun i hi=> ?_,fun i hi=>hB i (η a2.size hi),h4⟩,a2.mono h2⟩;rcases a3 i hi with h|h
 ·exact h2 i h
 ·exact hB i h
theorem OutS.still (h:AtS P w f m b d s E k) (hb:Below w.heap.size w w'):OutS P w w' f m b d s E k:=⟨h.below hb,Ab.below hb⟩
theorem Lim.rd (h:Lim d s E k) (n:Nat):Lim (Df d n) s E k:=⟨h.ok.rd n,h.fuse,h.next,h.gen,h.steps,h.len⟩
theorem Lim.dec (h:Lim d s E k) (n:Nat):Lim d {s with decoded:=n} E k:=⟨h.ok.dec n,h.fuse,h.next,h.gen,h.steps,h.len⟩
theorem Mo.segBd {g:Sg}  (h:Mo fs s G g bs): ∀ x∈s.man.segs,0≤x.first∧x.first≤1099511627777∧0≤x.count∧x.count≤512:=by
 intro x hx;have hf:=(Cj h.ok).seg x hx;have hg:=h.seg;rw [h.segs] at hx;rcases List.mem_append.1 hx with hx|hx
 ·obtain⟨y,hy,rfl⟩:=List.mem_map.1 hx;have:=h.sealTop hy;omega
 ·simp only [List.mem_singleton] at hx;subst hx;omega
theorem atRead (h:AtS P w f m b d s E k) (hk:k<1000) (ht:Dn w):
  Calls prog 15 #[.pointer (some ⟨b,0,none⟩),Vi Vk from_] w fun x w'=> ∃ v r d' n,x= .returned (.tuple #[v,Vi Vk r])∧OutS P w w' f m b d' {s with decoded:=n} E k∧d'.files=d.files∧d'.room=d.room∧
   ((r=1∧(from_<1∨(E.length:Int)+1<from_)∧v= .slice none 0 0∧n=s.decoded)∨(r=0∧(1≤from_∧from_≤(E.length:Int)+1)∧N9 w' w.heap.size v (K5 from_ (numb 1 E))∧O8 s.stride from_ 1 E.length n)):=by
 have hbk:=h;obtain⟨L,mv,sv,h1,h2,h3,h4⟩:=h;have hsb:=h4.sb (by omega);have hla:=h4.ok.last;by_cases hf:from_<1∨lastE s+1<from_
 ·refine(stoRead_none from_ h1 hsb h4.ok.closed h4.ok.up hf).mono ?_;rintro x w' ⟨rfl,hb⟩;exact⟨_,_,d,s.decoded,rfl,OutS.still hbk hb,rfl,rfl,.inl ⟨rfl,by omega,rfl,rfl⟩⟩
 ·by_cases he:from_=lastE s+1
  ·subst he;refine(stoRead_end h1 hsb h4.ok.closed h4.ok.up h4.ok.floor).mono ?_;rintro x w' ⟨v,n,rfl,a1,a2,a3⟩;refine⟨_,_,_,0,rfl,⟨⟨L,mv,sv,a2,h2,fun i hi=>h3 i (η a3.size hi),(h4.dec 0).rd n⟩,a3.mono h2⟩,rfl,rfl,.inr ⟨rfl,by omega,?_,⟨fun h=>by omega,fun _=>rfl,fun h h'=>by omega⟩⟩⟩;rw [fromN_none (by omega)];exact a1
  ·obtain⟨G,g,bs,hs,hE⟩:=h4.ok.sta;obtain⟨pcs,p1,p2,p3,p4,p5⟩:=read_plain (from_:=from_) h4.ok (by omega);refine(stoRead_any from_ pcs h1 ht hsb h4.ok.closed h4.ok.up h4.ok.floor (by omega) (Cj hs.ok).len p1 p2 hs.segBd p3).mono ?_;rintro x w' ⟨v,n,rfl,a1,a2,a3⟩;rw [p4] at a1;exact⟨_,_,_,_,rfl,⟨⟨L,mv,sv,a2,h2,fun i hi=>h3 i (η a3.size hi),(h4.dec _).rd n⟩,a3.mono h2⟩,rfl,rfl,.inr ⟨rfl,by omega,a1,p5⟩⟩
theorem atLast (h:AtS P w f m b d s E k) (hk:k<1000):Calls prog 16 #[.pointer (some ⟨b,0,none⟩)] w fun x w'=>x= .returned (Vi Vk (E.length:Int))∧Below w.heap.size w w':=by
 obtain⟨L,mv,sv,h1,h2,h3,h4⟩:=h;have:=stoLastP_any h1 h4.ok.closed (h4.sb (by omega));rw [h4.ok.last] at this;exact this
theorem atDecoded (h:AtS P w f m b d s E k):Calls prog 17 #[.pointer (some ⟨b,0,none⟩)] w fun x w'=>x= .returned (Vi Vk (s.decoded:Int))∧w=w':=by
 obtain⟨L,mv,sv,h1,h2,h3,h4⟩:=h;exact stoDecoded_any h1 h4.ok.closed
end
section
variable {P : Nat → Prop} {w w' : World} {f m b : Nat} {L : List Aq} {d d' : Af} {s s' : C6} {mv sv : Value} {E E' : List (List UInt8)} {k k' : Nat}
def AppR (d:Af) (s:C6) (E:List (List UInt8)) (raw:List UInt8) (r:Int×Int) (d':Af) (s':C6) (E':List (List UInt8)):Prop:=
 Grow d s d' s' 17660 1∧((r.1=0∧r.2≠0∧E'=E∧s'=s∧d'.files=d.files∧(r.2=92∧1099511627776≤lastE s∨r.2=54∧d.room - (usedF d.files:Int)<1060∨r.2=turnE d s (Fl s raw).length∧s.segEv≤s.count))∨
  (r=((E.length:Int)+1,0)∧E'=E++[raw]))
theorem push_res (h:Lim d s E k) (hb:Du raw): ∃ E',AppR d s E raw (Dg d s raw).1 (Dg d s raw).2.2 (Dg d s raw).2.1 E'∧Lim (Dg d s raw).2.2 (Dg d s raw).2.1 E' (k+1):=by
 obtain⟨h1,h2⟩:=push_ok h.ok h.fuse hb;have hl:=h.len;rcases h2 with⟨a1,a2,a3,a4,a5,a6⟩|⟨a1,a2⟩
 ·exact⟨E,⟨h1,.inl ⟨a1,a2,rfl,a5,a6,a3⟩⟩,h.grow h1 a4 (by omega)⟩
 ·exact⟨E++[raw],⟨h1,.inr ⟨a1,rfl⟩⟩,h.grow h1 a2 (by simp;omega)⟩
theorem atAppend {v:Int}  (h:AtS P w f m b d s E k) (hk:k<1000) (hok:Lj 281474976710656 e):
  Calls prog 12 #[.pointer (some ⟨b,0,none⟩),Vi Vk v,Ga e] w fun x w'=> ∃ r d' s' E',x= .returned (.tuple #[Vi Vk r.1,Vi Vk r.2])∧OutS P w w' f m b d' s' E' (k+1)∧
   ((Am v e≠0∧r=(0,Am v e)∧E'=E∧s'=s∧d'=d)∨(Am v e=0∧AppR d s E (Iy v e) r d' s' E')):=by
 obtain⟨L,mv,sv,h1,h2,h3,h4⟩:=h;refine(stoAppend_any v e hok h1 h4 hk).mono ?_;rintro x w' ⟨rfl,hp⟩;by_cases hc:Am v e=0
 ·rw [κ hc] at hp ⊢;obtain⟨E',a1,a2⟩:=push_res h4 (Kr hc);exact⟨_,_,_,E',rfl,AtS.out hp h3 h2 a2,.inr ⟨hc,a1⟩⟩
 ·rw [γ hc] at hp ⊢;exact⟨_,_,_,E,rfl,AtS.out hp h3 h2 (h4.up (Nat.le_succ k)),.inl ⟨hc,rfl,rfl,rfl,rfl⟩⟩
end
section
variable {P : Nat → Prop} {w w0 w' : World} {f m b : Nat} {L : List Aq} {d d' : Af} {s s' : C6} {mv sv : Value} {E E' : List (List UInt8)} {k k' : Nat}
theorem AtS.narrow (h:AtS P w f m b d s E k) (hb:Below w.heap.size w w0):AtS (fun i=>P i∧(i<w.heap.size∨w0.heap.size≤i)) w0 f m b d s E k:=by
 obtain⟨L,mv,sv,h1,h2,h3,h4⟩:=h;exact⟨L,mv,sv,h1.below hb,fun i hi=>⟨h2 i hi,.inl (h1.lt i hi)⟩,fun i hi=>⟨h3 i (η hb.size hi),.inr hi⟩,h4⟩
theorem AtS.up (h:AtS P w f m b d s E k) (hk:k≤k'):AtS P w f m b d s E k':=by
 obtain⟨L,mv,sv,h1,h2,h3,h4⟩:=h;exact⟨L,mv,sv,h1,h2,h3,h4.up hk⟩
theorem AtS.lim (h:AtS P w f m b d s E k):Lim d s E k:=by
 obtain⟨L,mv,sv,h1,h2,h3,h4⟩:=h;exact h4
theorem load_new (room:Int):(B6 (Lp room)).1.1.snap≤0:=by
 unfold B6;rw [Nk (newD_ok room) rfl,show Bf (Lp room).files Aw=none from rfl];dsimp only;split<;>exact Int.le_refl _
theorem atNew {room:Int}  (h:Bv w f m (Lp room) []) (hP: ∀ i,w.heap.size≤i→P i) (hf:P f∧P m) (hn:Bh w) (hg:4≤w.heap.size∧ ∀ i,i<4→ ¬ P i) (hr:51≤(Lp room).room) (hc1:1≤stride∧stride≤64) (hc2:1≤segEv∧segEv≤512):
  Calls prog 9 #[.pointer (some ⟨f,0,none⟩),.agg #[Vi Vk (stride:Int),Vi Vk (segEv:Int)]] w fun x w'=> ∃ b d',x= .returned (.tuple #[.pointer (some ⟨b,0,none⟩),Vi Vk 0])∧OutS P w w' f m b d' ⟨0,22,[],stride,segEv,Ap,false,0⟩ [] 0∧d'.files=Gx []∧d'.room=(Lp room).room:=by
 obtain⟨d1,a1,a2,a3,a4,a5,a6,a7⟩:=new_run hr;have hl:=new_lim hc1 hc2 a2 a3 a4 a6 a7;have hft: ∀ i,foot f m [] i→P i:=fun i hi=>by
  rcases hi with rfl|rfl|⟨x,hx,_⟩
  ·exact hf.1
  ·exact hf.2
  ·exact absurd hx Ω
 refine(open_calls (s:=⟨0,22,[],stride,segEv,Ap,false,0⟩) (E:=[]) h hn ⟨hg.1,fun i hi hc=>hg.2 i hi (hft i hc)⟩ (by show (0:Int)≤_;decide) (load_new room) a1 hl.ok ⟨rfl,rfl⟩ rfl).mono ?_;rintro x w' ⟨sb,mv,sv,L',n,rfl,b1,b2,b3,b4⟩;refine⟨sb,_,rfl,⟨⟨L',mv,sv,b1,fun i hi=> ?_,fun i hi=>hP i (η b2.size hi),hl.rd n⟩,b2.mono hft⟩,a6,a5⟩;rcases b4 i hi with h|h
 ·exact hft i h
 ·exact hP i h
structure OpS where
 k:Int
 v:Int
 e:Ev
 raw:List UInt8
 n:Int
 st:Int
 se:Int
structure OpOk (o:OpS):Prop where
 ev:Lj 281474976710656 o.e
 raw:o.raw.length≤140737488355328
def Lb (o:OpS) (rv:Value):Array Value:= #[Vi Vk o.k,Vi Vk o.v,Vi Vk o.e.kind,Vi Vk o.e.order,Vi Vk o.e.item,Vi Vk o.e.qty,Vi Vk o.e.price,Vi Vk o.e.cur,Vi Vk o.e.tax,.string ⟨o.e.who.toArray⟩,Vi Vk o.e.stamp,.string ⟨o.e.note.toArray⟩,rv,Vi Vk o.n,Vi Vk o.st,Vi Vk o.se]
theorem Oq (hgd:o.guard=none) (x:Operand) (ho:o.op= .load 38 x)
  (b off:Nat) (e:Ev) (hx:a.eval x= .pointer (some ⟨b,off,none⟩)) (hE:w.rangeAt b off (A8 e).toList)
  (h:wpList prog ops Q rest (a.put o.dst (Ga e)) w):wpList prog ops Q (o::rest) a w:=
 wpList_load_mid hgd 38 x ho b off hx (A8 e).toList _ hE underlying38 rfl Nz h
theorem op_ev {w:World} {g:Nat} {o:OpS} {rv:Value} (h:w.heap[g]? =some (.cells (Lb o rv) 41 (0,0))):w.rangeAt g 2 (A8 o.e).toList:=fun j u hj=>by
 rw [cell_of_row _ _ _ _ _ _ h]
 match j,hj with
 |0,hj=>exact hj
 |1,hj=>exact hj
 |2,hj=>exact hj
 |3,hj=>exact hj
 |4,hj=>exact hj
 |5,hj=>exact hj
 |6,hj=>exact hj
 |7,hj=>exact hj
 |8,hj=>exact hj
 |9,hj=>exact hj
end
def evHd (j:Nat):Ev:=⟨1,7+(j:Int),0,0,0,0,0,[],0,[]⟩
def rH (j:Nat):List UInt8:=Iy 5 (evHd j)
def EH (j:Nat):List (List UInt8):=(List.range j).map rH
theorem evHd_ok (j:Nat) (h:j<3):Am 5 (evHd j)=0:=by
 rcases (show j=0∨j=1∨j=2 by omega) with rfl|rfl|rfl<;>decide
theorem rH_len (j:Nat) (h:j<3):(rH j).length=5:=by
 have e:rH j=A7 5++(A7 2++A7 1++(A7 4++A7 (7+(j:Int)).toNat++[])):=by
  rcases (show j=0∨j=1∨j=2 by omega) with rfl|rfl|rfl<;>rfl
 rw [e];simp only [ζ,Φ];rw [D6 (by decide),D6 (by decide),D6 (by decide),D6 (by decide),D6 (by omega)]
structure HdI (j:Nat) (d:Af) (s:C6):Prop where
 room:d.room=1000
 cfg:s.stride=2∧s.segEv=2
 low:j<3→usedF d.files=51+25*j∧d.files.length=2∧s.man=Ap∧s.count=j∧s.size=22+25*j∧s.marks=if j=0 then [] else [⟨1,22⟩]
 top:j=3→s.man.segs=[⟨1,1,2,72⟩,⟨2,3,0,0⟩]∧s.count=1
def M2:Da:=⟨2,3,0,0,0,[⟨1,1,2,72⟩,⟨2,3,0,0⟩]⟩
theorem m2_len:(Ct M2).1.length=33:=by
 rw [encMan_ok (by decide)];simp only [Az];show (A7 12++(A7 3++(A7 0++(A7 0++(A7 0++(A7 1++(A7 1++(A7 2++(A7 72++(A7 2++(A7 3++(A7 0++(A7 0++[]))))))))))))).length+20=33;simp only [ζ,D6 (show 12<128 by decide),D6 (show 72<128 by decide),D6 (show 3<128 by decide),D6 (show 2<128 by decide),D6 (show 1<128 by decide),D6 (show 0<128 by decide),Φ]
theorem hd_push (hj:j<3) (h:HdI j d s) (hl:Lim d s E j) (hE:E.length=j):(Dg d s (rH j)).1=((j:Int)+1,0)∧HdI (j+1) (Dg d s (rH j)).2.2 (Dg d s (rH j)).2.1:=by
 obtain⟨u1,u2,u3,u4,u5,u6⟩:=h.low hj;have hlen:=rH_len j hj;have hbl:(Fl s (rH j)).length=25:=by rw [show (Fl s (rH j)).length=(rH j).length+20 from Az _ _ _,hlen]
 have hla:lastE s=(j:Int):=by rw [hl.ok.last,hE]
 have hbo:Du (rH j):=Kr (evHd_ok j hj);have hroom:=h.room;unfold Dg;rw [γ (by omega)];by_cases h2:j<2
 ·rw [γ (by rw [h.cfg.2,u4];omega),γ (by rw [hbl,hroom,u1];omega)];obtain⟨G,g,bs,hs,hE2⟩:=hl.ok.sta;obtain⟨x,hx,hxd⟩:=Dm hs.act;obtain⟨a1,a2,a3,a4,a5,a6⟩:=app_ok (b:=Fl s (rH j)) hl.ok.ok hl.ok.up hl.fuse hx (by rw [hbl,u1,hroom];omega);obtain⟨b1,b2,b3,b4⟩:=at_app hl.ok.ok.rise hx (b:=Fl s (rH j));have e:Ik d s (Fl s (rH j))=((lastE s+1,0),addS s (Fl s (rH j)),(Bi d (Ae (Ad g.num) (Fl s (rH j)))).1):=by unfold Ik;rw [hs.name,κ a1]
  rw [e,hla];refine⟨rfl,a3.trans hroom,h.cfg,fun h3=>⟨?_,?_,u3,?_,?_,?_⟩,fun h3=>by omega⟩
  ·simp only;rw [a2,b3,u1,hbl];omega
  ·simp only;rw [a2,b4,u2]
  ·show s.count+1=j+1;omega
  ·show s.size+(Fl s (rH j)).length=_;rw [hbl,u5];omega
  ·rw [γ (by omega)];show (if s.count % s.stride=0 then s.marks++[⟨lastE s+1,s.size⟩] else s.marks)=_;rw [u4,h.cfg.1,u6,hla,u5];rcases (show j=0∨j=1 by omega) with rfl|rfl
   ·rfl
   ·rfl
 ·obtain rfl:j=2:=by omega
  rw [κ (by rw [h.cfg.2,u4];exact μ _),hbl];have hM:Bu s=M2:=by
   unfold Bu;rw [hla,u4,u5,u3];rfl
  have hft:(Fo s).length=26:=by
   unfold Fo;rw [Az,u3,u4,h.cfg.1,u6,γ (by decide)];show (A7 1++A7 2++A7 2++(A7 2++(A7 1++(A7 22++[])))).length+20=26;simp only [ζ,D6 (show 22<128 by decide),D6 (show 2<128 by decide),D6 (show 1<128 by decide),Φ]
  have hhd:(Jy s).length≤40:=K6 hl.ok (by rw [u3];decide) (by omega);have h0:turnE d s 25=0:=by
   unfold turnE;rw [γ (by omega),γ (by rw [u3];decide),γ (by rw [u3];decide),γ (by rw [hM,m2_len,hft,hroom,u1,u2];omega)]
  obtain⟨t1,t2,t3⟩:=turn_ok hl.ok hl.fuse 25;rcases t3 with⟨_,a2,_⟩|⟨a1,a2,a3,a4⟩
  ·exact absurd h0 a2
  ·rw [κ a1];have hlE:lastE (Bj d s 25).2.1=lastE s:=by rw [t1.last,hl.ok.last]
   have hev:Fl (Bj d s 25).2.1 (rH 2)=Fl s (rH 2):=by show By 1 (lastE (Bj d s 25).2.1+1).toNat (rH 2)=By 1 (lastE s+1).toNat (rH 2);rw [hlE]
   have hse:=(show 1≤s.segEv∧s.segEv≤512 by rw [h.cfg.2];decide);have hap:=append_ok (raw:=rH 2) t1 t2.fuse hbo (by omega) (by omega) (by rw [hev,t2.room,hbl];exact a4);rw [hev,hlE,hla] at hap;obtain⟨b1,b2,b3⟩:=hap;have htd:(Bj d s 25).2.1=turned s:=by
    unfold Bj at a1 ⊢;rw [κ h0] at a1 ⊢;split
    ·rfl
    ·rename_i hc;rw [γ hc] at a1;exact absurd a1 hc
   refine⟨b1,(b3.room.trans t2.room).trans hroom,⟨b3.cfg.1.trans (t2.cfg.1.trans h.cfg.1),b3.cfg.2.trans (t2.cfg.2.trans h.cfg.2)⟩,fun h3=>by omega,fun _=> ?_⟩;have hman:(Ik (Bj d s 25).2.2 (Bj d s 25).2.1 (Fl s (rH 2))).2.1=addS (turned s) (Fl s (rH 2)):=by
    unfold Ik at b1 ⊢;split
    ·rw [htd]
    ·rename_i hc;rw [γ hc] at b1;simp only [Prod.mk.injEq] at b1;exact absurd b1.2 hc
   rw [hman];refine⟨?_,rfl⟩;show (Bu s).segs=_;rw [hM];rfl
theorem two_of {α:Type}: ∀ {l:List α},l.length=2→ ∃ a b,l=[a,b]
 | [],h=>by simp at h
 | [_],h=>by simp at h
 | [a,b],_=>⟨a,b,rfl⟩
 |_::_::_::_,h=>by simp at h
section
variable {P : Nat → Prop} {w w0 w' : World} {f m b : Nat} {L : List Aq} {d d' : Af} {s s' : C6} {mv sv : Value} {E E' : List (List UInt8)} {k k' : Nat}
theorem headGone (h:Fe d s E) (hm:s.man.segs=[⟨1,1,2,72⟩,⟨2,3,0,0⟩]) (hst:s.stride=2) (hc:s.count=1) (hE:E.length=3) {pcs:List (List I3)} (p1:pcs.length=s.man.segs.length) (p2: ∀ (i:Nat) g ps,s.man.segs[i]? =some g→pcs[i]? =some ps→SegIn d s 2 g ps)
  (p5:O8 s.stride 2 1 E.length pcs.flatten.length):pcs.flatten.length=3:=by
 obtain⟨G,g,bs,hs,_⟩:=h.sta;rw [hm] at p1 p2;obtain⟨q0,q1,rfl⟩:=two_of p1;have hsg:=hs.segs;rw [hm] at hsg;obtain⟨b0,rfl,rfl⟩: ∃ b0,G=[(⟨1,1,2,72⟩,b0)]∧g=⟨2,3,0,0⟩:=by
  match G,hsg with
  | [],h=>simp at h
  | [y],h=>
   simp only [List.map_cons,List.map_nil,List.cons_append,List.nil_append,List.cons.injEq,and_true] at h;exact⟨y.2,by rw [h.1],h.2.symm⟩
  |y::z::r,h=>
   have:=congrArg List.length h;simp at this
 have hse:=hs.seals _ (List.mem_singleton.2 rfl);have hcl:=(hs.sealed (List.mem_singleton.2 rfl)).2;have hlen:b0.length=2:=by have:=hse.count;simp only at this;omega
 obtain⟨c1,c2,rfl⟩:=two_of hlen;have h0:=p2 0 _ q0 rfl rfl;have h1:=p2 1 _ q1 rfl rfl;have hsk: ∀ p:Int,Kb [⟨1,p⟩] (max 2 1)=some ⟨1,p⟩:=fun p=>rfl;have e0:q0.length=2:=by
  rcases h0 with⟨_,h,_⟩|⟨_,x,ms,en,cnt,hp,h⟩
  ·simp at h
  ·rcases hp.src with⟨_,a2,a3,st,a4⟩|⟨a1,_⟩
   ·obtain⟨y,hy,hyd⟩:=Dm hse.dat;have hxy:=hp.fil;rw [hy] at hxy;obtain rfl:=φ hxy;have hen:en=(Cl ⟨1,1,2,72⟩ [c1,c2]).length:=by have:=hse.foot;simp only at this a2;omega
    rw [hyd,hen,List.drop_left,hcl] at a4;simp only [Option.some.injEq,Prod.mk.injEq] at a4;have hms:ms=[⟨1,((Hk ⟨1,1,2,72⟩).length:Int)⟩]:=by rw [←a4.1,hst];rfl
    have hcnt:cnt=2:=by simp only at a3;omega
    rcases h with⟨h,_⟩|⟨ks,kp,lf,h3,_,h5,_,_,_,h9⟩
    ·rw [hms] at h;exact absurd (h.symm.trans (hsk _)) (by simp)
    ·rw [hms] at h3;have hks:ks=1:=by
      have:=congrArg Mk.s (φ ((hsk _).symm.trans h3));simp only at this;omega
     simp only at h5;omega
   ·simp at a1
 have e1:0<q1.length:=by
  rcases h1 with⟨h,_⟩|⟨_,x,ms,en,cnt,hp,h⟩
  ·simp at h
  ·rcases hp.src with⟨a1,_⟩|⟨_,_,_,a4⟩
   ·simp at a1
   ·rcases h with⟨_,h,_⟩|⟨ks,kp,lf,_,_,_,h6,_,_,h9⟩
    ·omega
    ·omega
 have h3:=p5.2.2 (by decide) (by omega);rw [hE,hst] at h3;simp only [List.flatten_cons,List.flatten_nil,List.append_nil,ζ] at h3 ⊢;omega
theorem headRead (h:AtS P w f m b d s E k) (hk:k<1000) (ht:Dn w) (hm:s.man.segs=[⟨1,1,2,72⟩,⟨2,3,0,0⟩]) (hst:s.stride=2) (hc:s.count=1) (hE:E.length=3):
  Calls prog 15 #[.pointer (some ⟨b,0,none⟩),Vi Vk 2] w fun x w'=> ∃ v d',x= .returned (.tuple #[v,Vi Vk 0])∧OutS P w w' f m b d' {s with decoded:=3} E k∧N9 w' w.heap.size v (K5 2 (numb 1 E)):=by
 obtain⟨L,mv,sv,h1,h2,h3,h4⟩:=h;have hsb:=h4.sb (by omega);have hla:=h4.ok.last;obtain⟨G,g,bs,hs,_⟩:=h4.ok.sta;obtain⟨pcs,p1,p2,p3,p4,p5⟩:=read_plain (from_:=2) h4.ok (by omega);have hg:=headGone h4.ok hm hst hc hE p1 p2 p5;refine(stoRead_any 2 pcs h1 ht hsb h4.ok.closed h4.ok.up h4.ok.floor (by omega) (Cj hs.ok).len p1 p2 hs.segBd p3).mono ?_;rintro x w' ⟨v,n,rfl,a1,a2,a3⟩;rw [p4] at a1;rw [hg] at a2;exact⟨_,_,rfl,⟨⟨L,mv,sv,a2,h2,fun i hi=>h3 i (η a3.size hi),(h4.dec _).rd n⟩,a3.mono h2⟩,a1⟩
theorem stRight_any (a c:Int) (w:World):Calls prog 8 #[.agg #[Vi Vk a,Vi Vk c]] w fun x w'=>x= .returned (.bool (decide (1≤a)&&decide (a≤64)&&decide (1≤c)&&decide (c≤512)))∧Below w.heap.size w w':=by
 have HB:=Qh (Aa w (.cells #[Vi Vk a,Vi Vk c] 24));rcases q1:decide (1≤a) with _|_
 all_goals rcases q2:decide (a≤64) with _|_
 all_goals rcases q3:decide (1≤c) with _|_
 all_goals rcases q4:decide (c≤512) with _|_
 all_goals
  go_enter func8,ntmps8;go_wp2;go_ret;exact⟨rfl,HB.out⟩
theorem stFree_any (stride segEv:Nat) (w:World) (hn:Bh w) (hg:4≤w.heap.size) (hc1:1≤stride∧stride≤64) (hc2:1≤segEv∧segEv≤512):
  Calls prog 11 #[.agg #[Vi Vk (stride:Int),Vi Vk (segEv:Int)]] w fun x w'=> ∃ f m b d,x= .returned (.tuple #[.pointer (some ⟨f,0,none⟩),.pointer (some ⟨b,0,none⟩)])∧OutS (fun i=>w.heap.size≤i) w w' f m b d ⟨0,22,[],stride,segEv,Ap,false,0⟩ [] 0∧d.files=Gx []∧d.room=16777216:=by
 have HB:=Qh (Aa w (.cells (cfCs stride segEv) 24));have HC:=Qs ((w.alloc (.cells (cfCs stride segEv) 24)).heap[w.heap.size]? =some (.cells (cfCs stride segEv) 24 (0,0))) (σ w _);have HNW:=Qh (fsNew_any 16777216 (w.alloc (.cells (cfCs stride segEv) 24)));have HN:=Qh hn;have HG:=Qh hg;have HC1:=Qh hc1;have HC2:=Qh hc2;clear hn hg hc1 hc2;simp only [cfCs] at HB HNW;go_enter func11,ntmps11;go_wp2_with fail;refine HNW.out.mono ?_;rintro x w1 ⟨f,m,rfl,hf,h1,h2,hb1⟩;have HB1:=Qh (Below.next HB.out hb1);have HCC:=Qs (w1.heap[w.heap.size]? =some (.cells (cfCs stride segEv) 24 (0,0))) ((hb1.block _ (δ.1 HC.out).1).trans HC.out);have HOP:=Qh (atNew (P:=fun i=>w.heap.size≤i) (stride:=stride) (segEv:=segEv) hf (fun i hi=>η HB1.out.size hi) ⟨η HB.out.size h1,η HB.out.size h2⟩ (HN.out.below HB1.out) ⟨η HG.out HB1.out.size,fun i hi hc=>by have:=HG.out;omega⟩ (by decide) HC1.out HC2.out);clear hf h1 h2 hb1 HNW HB HC;go_wp2_with (with_reducible refine J5 rfl (.tmp 1) rfl w.heap.size stride segEv rfl HCC.out ?_);refine HOP.out.mono ?_;rintro x w2 ⟨b,d,rfl,ho,hfi,hro⟩;have HO:=Qh (show OutS (fun i=>w.heap.size≤i) w w2 f m b d ⟨0,22,[],stride,segEv,Ap,false,0⟩ [] 0 from⟨ho.1,(Ab.below HB1.out).trans ho.2 fun i hi=> .inl hi⟩);have HD:=Qh (And.intro hfi hro);clear ho hfi hro;go_wp2;go_ret2;exact⟨f,m,b,d,rfl,HO.out,HD.out.1,HD.out.2⟩
end
section
variable {P : Nat → Prop} {w w0 w' : World} {f m b : Nat} {L : List Aq} {d d' : Af} {s s' : C6} {mv sv : Value} {E E' : List (List UInt8)} {k k' : Nat}
theorem Ie {n:Nat} (h:Ab (fun i=>n≤i) w w') (hn:n≤w.heap.size):Below n w w':=⟨h.os,h.tape,h.output,h.size,fun k hk=>h.block k (by omega) (by omega)⟩
theorem O4:usedF (Gx [])=51∧(Gx []).length=2:=by
 unfold Gx;rw [Fp,Fp,Hw,Hw];exact⟨by rw [show Gw.length=29 from G3.2,show Gk.length=22 from G3.1];rfl,rfl⟩
theorem hdI_zero (h1:d.files=Gx []) (h2:d.room=1000):HdI 0 d ⟨0,22,[],2,2,Ap,false,0⟩:=
 ⟨h2,⟨rfl,rfl⟩,fun _=>⟨by rw [h1,O4.1],by rw [h1,O4.2],rfl,rfl,rfl,rfl⟩,fun h=>by cases h⟩
theorem evHd_fit (j:Nat) (h:j<3):Lj 281474976710656 (evHd j):=by
 have z: ∀ n:Int,0≤n→n≤100→I64 n:=fun n h1 h2=>⟨by omega,by omega⟩;rcases (show j=0∨j=1∨j=2 by omega) with rfl|rfl|rfl<;>exact⟨z _ (by decide) (by decide),z _ (by decide) (by decide),z _ (by decide) (by decide),z _ (by decide) (by decide),z _ (by decide) (by decide),z _ (by decide) (by decide),z _ (by decide) (by decide),z _ (by decide) (by decide),by decide,by decide⟩
theorem hdAppend (hj:j<3) (hI:HdI j d s) (h:AtS P w f m b d s (EH j) j):
  Calls prog 12 #[.pointer (some ⟨b,0,none⟩),Vi Vk 5,Ga (evHd j)] w fun x w'=> ∃ d' s',x= .returned (.tuple #[Vi Vk ((j:Int)+1),Vi Vk 0])∧OutS P w w' f m b d' s' (EH (j+1)) (j+1)∧HdI (j+1) d' s':=by
 obtain⟨L,mv,sv,h1,h2,h3,h4⟩:=h;obtain⟨p1,p2⟩:=hd_push hj hI h4 (by simp [EH]);obtain⟨E',a1,a2⟩:=push_res h4 (Kr (evHd_ok j hj));have hE:E'=EH (j+1):=by
  rcases a1.2 with⟨_,hc,_⟩|⟨_,hc⟩
  ·exact absurd (congrArg Prod.snd p1) hc
  ·rw [hc];unfold EH;rw [List.range_succ,List.map_append];rfl
 subst hE;refine(stoAppend_any 5 (evHd j) (evHd_fit j hj) h1 h4 (by omega)).mono ?_;rintro x w' ⟨rfl,hp⟩;rw [κ (evHd_ok j hj)] at hp ⊢;refine⟨_,_,?_,AtS.out hp h3 h2 a2,p2⟩;rw [show (Dg d s (Iy 5 (evHd j))).1=((j:Int)+1,0) from p1]
theorem hd_recs:K5 2 (numb 1 (EH 3))=[(2,evHd 1),(3,evHd 2)]:=by
 have hu: ∀ j,j<3→upV (rH j)=evHd j:=fun j hj=>by
  unfold upV rH;rw [Mf (evHd_ok j hj)];rfl
 show K5 2 [(1,upV (rH 0)),(2,upV (rH 1)),(3,upV (rH 2))]=_;rw [hu 0 (by decide),hu 1 (by decide),hu 2 (by decide)];rfl
end
theorem head19_any (w:World) (hn:Bh w) (ht:Dn w) (hg:4≤w.heap.size):Calls prog 7 #[] w fun x w'=>x= .returned (.bool true)∧Below w.heap.size w w':=by
 have HN:=Qh hn;have HT:=Qh ht;have HG:=Qh hg;have HNW:=Qh (fsNew_any 1000 w);clear hn ht hg;go_enter func7,ntmps7;go_wp2_with fail;refine HNW.out.mono ?_;rintro x w1 ⟨f,m,rfl,hf,h1,h2,hb1⟩;have HB1:=Qh hb1;have HOP:=Qh (atNew (P:=fun i=>w.heap.size≤i) (stride:=2) (segEv:=2) hf (fun i hi=>η hb1.size hi) ⟨h1,h2⟩ (HN.out.below hb1) ⟨η HG.out hb1.size,fun i hi hc=>by have:=HG.out;omega⟩ (by decide) (by decide) (by decide));clear hf h1 h2 hb1 HNW;go_wp2_with fail;refine HOP.out.mono ?_;rintro x w2 ⟨b,d0,rfl,ho,hfi,hro⟩;have HI0:=Qh (show HdI 0 d0 ⟨0,22,[],2,2,Ap,false,0⟩∧AtS (fun i=>w.heap.size≤i) w2 f m b d0 ⟨0,22,[],2,2,Ap,false,0⟩ (EH 0) 0∧Below w.heap.size w w2 from⟨hdI_zero hfi hro,ho.1,HB1.out.trans (Ie ho.2 HB1.out.size)⟩);clear ho hfi hro HOP HB1;go_wp2;go_loopw [0,4,5,6] (fun _ iv _ _ wr=> ∃ (j:Nat) (dj:Af) (sj:C6),j≤3∧iv= Vi Vk ((j:Int)+1)∧Hid (HdI j dj sj∧AtS (fun i=>w.heap.size≤i) wr f m b dj sj (EH j) j∧Below w.heap.size w wr)) (fun _ iv _ _ _=>4 - (intOf iv).toNat)
 case atStart=>exact⟨0,d0,_,by decide,rfl,HI0⟩
 case round=>
  obtain⟨j,dj,sj,hj,rfl,HI⟩:=hrel;clear HI0;by_cases hlt:j<3
  ·have q1:(j:Int)+1≤3:=by omega
   have hw1:IntKind.i64.wrap (6+((j:Int)+1))=7+(j:Int):=by rw [ν];omega
   have hw2:IntKind.i64.wrap ((j:Int)+1+1)=(j:Int)+1+1:=by rw [ν];omega
   have HCA:=Qh (hdAppend hlt HI.out.1 HI.out.2.1);have HBW:=Qh HI.out.2.2;simp only [evHd] at HCA;go_wp2_with fail;refine HCA.out.mono ?_;rintro x w3 ⟨d1,s1,rfl,ho,hi⟩;have HI1:=Qh (show HdI (j+1) d1 s1∧AtS (fun i=>w.heap.size≤i) w3 f m b d1 s1 (EH (j+1)) (j+1)∧Below w.heap.size w w3 from⟨hi,ho.1,HBW.out.trans (Ie ho.2 HBW.out.size)⟩);clear ho hi HCA HI;go_wp2;go_roundw
   case rel=>exact⟨j+1,d1,s1,by omega,by go_num,HI1⟩
   case measure=>simp [intOf];omega
  ·obtain rfl:j=3:=by omega
   obtain⟨t1,t2⟩:=HI.out.1.top rfl;have HRE:=Qh (headRead HI.out.2.1 (by decide) (HT.out.below HI.out.2.2) t1 HI.out.1.cfg.1 t2 (by decide));have HBW:=Qh HI.out.2.2;have HSG:=Qh t1;clear t1 t2 HI;go_wp2_with fail;refine HRE.out.mono ?_;rintro x w3 ⟨rv,d1,rfl,ho,hrs⟩;have HA3:=Qh ho.1;have HB3:=Qh (HBW.out.trans (Ie ho.2 HBW.out.size));rw [hd_recs] at hrs;obtain⟨g,cap,rfl,_,_,_,_,hcell⟩:=Dr hrs (by decide);have HCE:=Qs (w3.cell? ⟨g,2,none⟩=some (Vi Vk 8)) (hcell 2 _ rfl);have HMF:=Qh (show Calls prog 30 #[.pointer (some ⟨b,0,none⟩)] w3 fun e w'=> ∃ v',e= .returned (mnV sj.man v')∧Io w' w3.heap.size v' sj.man.segs∧Below w3.heap.size w3 w' from by
    obtain⟨L,mv,sv,h1,h2,h3,h4⟩:=ho.1;have:=stoManifest_any h1 h4.ok.closed h4.ok.seg (by show sj.man.segs.length≤1000;rw [HSG.out];decide);exact this)
   clear ho hrs hcell HRE HBW;go_wp2_with fail;refine HMF.out.mono ?_;rintro x w4 ⟨v4,rfl,hsg,hb4⟩;rw [HSG.out] at hsg;obtain⟨g4,cap4,rfl,_,_,_,_,hc4⟩:=Dr hsg (by decide);have hb5:=Aa w4 (.cells #[Vi Vk sj.man.gen,Vi Vk sj.man.next,Vi Vk sj.man.floor,Vi Vk sj.man.snap,Vi Vk sj.man.snapSeq,.slice (some ⟨g4,0,none⟩) 2 cap4] 69);have HB5:=Qh (Below.next (Below.next HB3.out (Below.mono hb4 (μ _))) hb5);have HA5:=Qh ((HA3.out.below hb4).below hb5);have c2:(w4.alloc (.cells #[Vi Vk sj.man.gen,Vi Vk sj.man.next,Vi Vk sj.man.floor,Vi Vk sj.man.snap,Vi Vk sj.man.snapSeq,.slice (some ⟨g4,0,none⟩) 2 cap4] 69)).cell? ⟨g,2,none⟩=some (Vi Vk 8):=cell_later (Below.next hb4 hb5) HCE.out;have c4:(w4.alloc (.cells #[Vi Vk sj.man.gen,Vi Vk sj.man.next,Vi Vk sj.man.floor,Vi Vk sj.man.snap,Vi Vk sj.man.snapSeq,.slice (some ⟨g4,0,none⟩) 2 cap4] 69)).cell? ⟨g4,3,none⟩=some (Vi Vk 72):=cell_later hb5 (hc4 3 _ rfl);have c5:(w4.alloc (.cells #[Vi Vk sj.man.gen,Vi Vk sj.man.next,Vi Vk sj.man.floor,Vi Vk sj.man.snap,Vi Vk sj.man.snapSeq,.slice (some ⟨g4,0,none⟩) 2 cap4] 69)).cell? ⟨w4.heap.size,5,none⟩=some (.slice (some ⟨g4,0,none⟩) 2 cap4):=cell_of_row _ _ 5 _ _ _ (σ w4 _);clear hb4 hb5 hc4 hsg HCE HMF HA3 HB3;go_wp2_with fail;generalize (w4.alloc (.cells #[Vi Vk sj.man.gen,Vi Vk sj.man.next,Vi Vk sj.man.floor,Vi Vk sj.man.snap,Vi Vk sj.man.snapSeq,.slice (some ⟨g4,0,none⟩) 2 cap4] 69))=w5 at*;refine(atDecoded HA5.out).mono ?_;rintro x w6 ⟨rfl,rfl⟩;go_wp2_with fail;refine(atLast HA5.out (by decide)).mono ?_;rintro x w6 ⟨rfl,hb6⟩;have HB6:=Qh (HB5.out.trans (hb6.mono HB5.out.size));clear hb6;go_wp2;go_ret;exact⟨rfl,HB6.out⟩
structure Big (d:Af) (s:C6) (k:Nat):Prop where
 room:d.room=16777216
 used:usedF d.files≤100+k*17660
 len:d.files.length≤2+k*2
 segs:s.man.segs.length≤1+k
section
variable {d d' : Af} {s s' : C6} {E E' : List (List UInt8)} {k k' u : Nat}
theorem Big.turn (h:Big d s k') (hl:Lim d s E k) (hj:k'≤210) (hk:k≤420) (hc:s.count≠0)  (hm:more≤1060):turnE d s more=0:=by
 have h1:=h.room;have h2:=h.used;have h3:=h.len;have h4:=h.segs;have h5:=hl.next;have h6:=hl.gen;have h7:=hl.ok.last;have h8:=hl.len;have f1:=K4 hl.ok;have f2:=K6 hl.ok (by omega) (by omega);have f3:=Pg (Bu s);unfold turnE;rw [γ hc,γ (by omega),γ (by omega),γ (by omega)]
theorem Big.push (h:Big d s k') (hl:Lim d s E k) (hj:k'≤210) (hk:k≤420)  (hr:raw.length≤1040) {r:Int×Int} (ha:AppR d s E raw r d' s' E'):r=((E.length:Int)+1,0)∧E'=E++[raw]:=by
 rcases ha.2 with⟨_,h2,_,_,_,h3⟩|h2
 ·exfalso;have h7:=hl.ok.last;have h8:=hl.len;have hu:=h.used;have hro:=h.room;rcases h3 with⟨_,h4⟩|⟨_,h4⟩|⟨h4,h5⟩
  ·omega
  ·omega
  ·have hse:=(hl.sb (by omega)).segEv;have hb:(Fl s raw).length=raw.length+20:=Az _ _ _;rw [h.turn hl hj hk (by omega) (by omega)] at h4;exact h2 h4
 ·exact h2
end
theorem at_rise: ∀ {fs:List Bl} {f:Bl},Fs fs→f∈fs→Bf fs f.name=some f
 |g::r,f,h,hf=>by
  unfold Bf
  rw [List.find?_cons]
  rcases Δ.1 hf with rfl|hf
  ·simp
  ·have hlt:=(List.pairwise_cons.1 h).1 f hf
   have hne:(g.name==f.name)=false:=by
    rcases hz:g.name==f.name with _|_
    ·rfl
    ·rw [eq_of_beq hz] at hlt;have h2:=bytes_asymm hlt;rw [hlt] at h2;cases h2
   rw [hne];exact at_rise (List.pairwise_cons.1 h).2 hf
theorem Gone.open {S:Nat} (h:Gone d stride E S k) (ks:List Int) (hc:1≤segEv∧segEv≤512):
  ∃ j d1 s p,S≤j∧j≤E.length∧Lim d1 s (E.take j) (k+30)∧Big d1 s (k+1)∧(s.stride=stride∧s.segEv=segEv∧s.decoded=0)∧(B6 {d with files:=restF d.files ks,down:=false,fuse:=0}).1.1.snap≤0∧
   runR {d with files:=restF d.files ks,down:=false,fuse:=0}=((p,0),d1)∧p.man=s.man∧p.cut=(s.size:Int):=by
 have hro:=h.room;have hst:=h.steps;have hln:=h.len;obtain⟨m,fs0,h1,h2,h3,h4,h5,h6,h7,h8⟩:=h.lost;obtain⟨j,d1,s,a1,a2,a3,a4,a5,a6,a7,a8,a9,a10,a11,a12,p,a13,a14,a15⟩:=h1.open h.ok ks hc;obtain⟨u1,u2⟩:=used_le (A9 m) 6220 d1.files fs0 a3.ok.rise h6 fun f hf=>by
  obtain⟨b1,x0,b2,b3⟩:=a11 f.name f (at_rise a3.ok.rise hf);obtain⟨y0,c1,c2⟩:=h2 f.name x0 b1 b2;refine⟨y0,c1,η b3 (η c2 ?_)⟩;by_cases e:A9 m=f.name
  ·rw [κ e,κ e.symm];exact μ _
  ·rw [γ e];omega
 have u3:(if (Bf d1.files (A9 m)).isSome=true then 6220 else 0)≤6220:=by split<;>omega
 have g1:usedF d1.files≤100+(k+1)*17660:=by
  rw [Nat.add_mul,Nat.one_mul];refine η u1 (η (Nat.add_le_add h7 u3) ?_);generalize k*17660=z;omega
 have g2:d1.steps≤((k+30:Nat):Int)*50+50:=by
  have e:({d with files:=restF d.files ks,down:=false,fuse:=0}:Af).steps=d.steps:=rfl;push_cast;omega
 refine⟨j,d1,s,p,a1,a2,⟨a3,a8,by rw [a4];push_cast;omega,by rw [a4];push_cast;omega,g2,by rw [ω];omega⟩,⟨a9.trans hro,g1,by omega,by rw [a4];omega⟩,⟨a5,a6,a7⟩,a12,a13,a14,a15⟩
theorem new_live (h:1≤stride∧stride≤64) (h2:1≤segEv∧segEv≤512) {d1:Af} (h3:A0 d1) (h4:d1.down=false) (h6:d1.files=Gx []) (hr:d1.room=16777216) (h7:d1.steps≤50):G7 d1 ⟨0,22,[],stride,segEv,Ap,false,0⟩ [] 0∧F6 d1 ⟨0,22,[],stride,segEv,Ap,false,0⟩ [] 0:=by
 have hs:=new_sta h h2;refine⟨⟨⟨h3,h4,⟨[],⟨1,1,0,0⟩,[],by rw [h6];exact hs,rfl⟩,rfl,rfl⟩,[],⟨1,1,0,0⟩,[],by rw [h6];exact hs,rfl,?_⟩,⟨by show (2:Int)≤((0:Nat):Int)+2;decide,by show (1:Int)≤((0:Nat):Int)+1;decide,by omega,μ _,hr,by rw [h6,O4.1];decide,by rw [h6,O4.2];decide,μ _⟩⟩;rw [h6];have hm:Bf (Gx []) Aw=some ⟨Aw,Gw,29⟩:=rfl;have hg:Bf (Gx []) (Ad 1)=some ⟨Ad 1,Gk,22⟩:=by
  unfold Gx;rw [Gu (by rw [seg1];decide)];exact Ee (f:=⟨Ad 1,Gk,22⟩) (fun _ h=>(Ω h).elim)
 refine⟨fun x hx=> ?_,fun _ h=>(Ω h).elim,_,0,hg,?_,μ _,μ _,?_⟩
 ·rw [hm] at hx;obtain rfl:=φ hx;show (29:Int)=(Gw.length:Int);rw [show Gw.length=29 from G3.2];rfl
 ·show ((Hk ⟨1,1,0,0⟩).length:Int)≤22;rw [show (Hk ⟨1,1,0,0⟩).length=22 from G3.1];decide
 ·show ((Cl ⟨1,1,0,0⟩ []).length:Int)≤22;unfold Cl;rw [ζ];show (((Hk ⟨1,1,0,0⟩).length+0:Nat):Int)≤22;rw [show (Hk ⟨1,1,0,0⟩).length=22 from G3.1];decide
def Ij (v:Int) (e:Ev):Ev:=if v=1 then hunV e else if v=2 then Hg e else if v=3 then Lw e else Eg e
structure StepOk (v:Int) (e:Ev):Prop where
 ver:1≤v∧v≤5
 price:v=1→0≤e.price∧e.price≤100000000
 qty:v≤2→ -10000≤e.qty∧e.qty≤10000
 cur:v≤2→0≤e.cur∧e.cur≤3
 tax:v≤2→e.tax=0
theorem step_of {v:Int}  (h:Am v e=0):StepOk v e:=by
 have hf:=evFit h;have h1:=hf.price;have h2:=hf.cur;have h3:=hf.qty;have h4:=hf.tax;refine⟨hf.ver,fun _=>h1,fun hv=> ?_,fun hv=> ?_,fun hv=> ?_⟩
 ·split at h3<;>omega
 ·split at h2<;>omega
 ·split at h4<;>omega
theorem step_next {v:Int}  (hk:v<5) (h:StepOk v e):StepOk (v+1) (Ij v e):=by
 have h0:=h.ver;by_cases h1:v=1
 ·subst h1;exact⟨by decide,fun h=>by omega,fun _=>h.qty (by decide),fun _=>h.cur (by decide),fun _=>h.tax (by decide)⟩
 ·exact⟨by omega,fun h=>by omega,fun h=>by omega,fun h=>by omega,fun h=>by omega⟩
theorem rise_step {v:Int} (e:Ev) (hk:1≤v∧v≤4):Hy (v+1) (Ij v e)=Hy v e:=by
 rcases (show v=1∨v=2∨v=3∨v=4 by omega) with rfl|rfl|rfl|rfl<;>rfl
theorem Fu.but {X:Nat→Prop} {l:List Sg} (h:Fu A w v l) (hX: ∀ k,X k→ ¬ SegB w k):Fu (fun k=>A k∧ ¬ X k) w v l:=by
 obtain⟨oa,cap,h1,h2,h3,h4⟩:=h;exact⟨oa,cap,h1,h2,h3,fun i g hg=>by obtain⟨b,off,e,⟨ha,hs⟩,hc⟩:=h4 i g hg;exact⟨b,off,e,⟨⟨ha,fun hx=>hX b hx hs⟩,hs⟩,hc⟩⟩
section
variable {P X : Nat → Prop} {w w0 w' : World} {f m b : Nat} {L : List Aq} {d d' : Af} {s s' : C6} {mv sv : Value} {E E' : List (List UInt8)} {k k' : Nat}
theorem SJ.off (h:SJ w b f m L d s mv sv) (ht:Ab X w w') (hX: ∀ k,X k→ ¬ SegB w k∧ ¬ Br b mv f m L k∧4≤k):SJ w' b f m L d s mv sv:=by
 have hno: ∀ k,Br b mv f m L k→ ¬ X k:=fun k hk hx=>(hX k hx).2.1 hk;refine⟨h.blk.keep (ht.block b h.blk.lt (hno b (.inl rfl))),h.fs.turned ht (fun k hk=>hno k (.inr (.inr hk))),h.mks.kept' fun k hk=>ht.block k (mk_lt h.mks k hk) (hno k (.inr (.inl hk))),?_,?_,⟨η h.gl.1 ht.size,h.gl.2⟩,h.sep⟩
 ·exact((h.sg.but fun k hk=>(hX k hk).1).turned ht fun k hk=>hk.2).mono fun k hk=>hk.1
 ·exact h.nib.turned ht (fun hc=>by have:=(hX _ hc).2.2;revert this;decide) h.nib.lt
theorem AtS.mono {P':Nat→Prop} (h:AtS P w f m b d s E k) (hP: ∀ i,P i→P' i):AtS P' w f m b d s E k:=by
 obtain⟨L,mv,sv,h1,h2,h3,h4⟩:=h;exact⟨L,mv,sv,h1,fun i hi=>hP i (h2 i hi),fun i hi=>hP i (h3 i hi),h4⟩
end
def evRow (es:List Ev):List Value:=es.flatMap fun e=>(A8 e).toList
def Nc (w:World) (B:Nat) (v:Value) (es:List Ev):Prop:=w.ownsRow B 38 10 v es.length (evRow es)
theorem flat_at {α:Type} (f:α→List Value) (n:Nat) (hn: ∀ x,(f x).length=n): ∀ (l:List α) (i:Nat) (x:α),l[i]? =some x→ ∀ (j:Nat) u,(f x)[j]? =some u→(l.flatMap f)[i*n+j]? =some u
 | [],i,x,h=>by simp at h
 |y::l,0,x,h=>fun j u hj=>by
  simp only [List.getElem?_cons_zero,Option.some.injEq] at h
  subst h
  rw [Nat.zero_mul,Nat.zero_add]
  exact(List.getElem?_append_left (getElem?_lt hj)).trans hj
 |y::l,i+1,x,h=>fun j u hj=>by
  have ih:=flat_at f n hn l i x (by simpa using h) j u hj
  rw [List.flatMap_cons,List.getElem?_append_right (by rw [hn,Nat.succ_mul];omega),←ih,hn]
  congr 1
  rw [Nat.succ_mul]
  omega
theorem evOwn_no {es:List Ev} (h:Nc w B v es): ∀ k,v.ownBlock=some k→ ¬ SegB w k:=by
 rintro k hk ⟨cs,fr,e⟩;obtain⟨_,⟨rfl,_⟩|⟨g,cap,cur,rfl,_,e2,_⟩⟩:=h
 ·cases hk
 ·obtain rfl:=φ hk;rw [e2] at e;simp only [Option.some.injEq,Obj.cells.injEq] at e;exact absurd e.2.1 (by decide)
theorem evOwn_keep {es:List Ev} (h:Nc w B v es)  (ht:Ab S w w') (hS: ∀ k,v.ownBlock=some k→ ¬ S k):Nc w' B v es:=by
 refine⟨h.1,?_⟩;rcases h.2 with hn|⟨g,cap,cur,rfl,hb1,hg,rest⟩
 ·exact .inl hn
 ·exact .inr ⟨g,cap,cur,rfl,hb1,(ht.block g (δ.1 hg).1 (hS g rfl)).trans hg,rest⟩
def zeroEvA:Value:= .agg #[Vi Vk 0,Vi Vk 0,Vi Vk 0,Vi Vk 0,Vi Vk 0,Vi Vk 0,Vi Vk 0,.string ⟨#[]⟩,Vi Vk 0,.string ⟨#[]⟩]
theorem infoEvA:(prog.info? 38).map (fun i=>(i.zero,i.size,i.bytes))=some (some zeroEvA,10,96):=by kernel_rfl
theorem wpList_appEv (hgd:o.guard=none) (s y:Operand) (ho:o.op= .call {callee:= .builtin .append,args:= #[s,y],argTypes:= #[35,35]})  {es:List Ev} 
  (hs:a.eval s=v) (hN:N=w.heap.size) (hy:a.eval y= .slice (some ⟨N,0,none⟩) 1 1) (hown:Nc w B v es) (hB:B≤w.heap.size) (hl:es.length≤1000000)
  (h: ∀ v' w',Nc w' B v' (es++[e])→Ab (fun k=>v.ownBlock=some k) w w'→(∀ k,v'.ownBlock=some k→v.ownBlock=some k∨w.heap.size≤k)→wpList prog ops Q rest (a.put o.dst v') w'):
  wpList prog ops Q (o::rest) a (w.alloc (.cells #[Vi Vk e.kind,Vi Vk e.order,Vi Vk e.item,Vi Vk e.qty,Vi Vk e.price,Vi Vk e.cur,Vi Vk e.tax,.string ⟨e.who.toArray⟩,Vi Vk e.stamp,.string ⟨e.note.toArray⟩] 38)):=by
 subst hN;show wpList prog ops Q (o::rest) a (w.alloc (.cells (A8 e) 38));obtain⟨i0,hi,hz0,hz1,hz2⟩:=info_parts infoEvA;have hb:=Aa w (.cells (A8 e) 38);refine Em _ hgd s y 35 ho B 38 i0 zeroEvA 10 96 underlying35 hi hz0 hz1 hz2 rfl (by decide) v es.length (evRow es) hs (A2 hown hb) ⟨w.heap.size,0,none⟩ 1 1 (A8 e).toList hy rfl (fun j u hj=> ?_) (fun u hu=> ?_) (by unfold maxLen;omega) (by omega) (η hB hb.size) (by decide) ?_
 ·rw [Cr,Nat.zero_add,World.cell?_alloc_new];simpa using hj
 ·simp [A8] at hu;rcases hu with rfl|rfl|rfl|rfl|rfl|rfl|rfl|rfl|rfl|rfl<;>rfl
 ·intro v' w' hown' hg hnew;refine h v' w' ?_ ((Ab.below hb).trans (Ab.grown (S:=fun k=>v.ownBlock=some k) hg fun _ hk=>hk) fun _ h=> .inl h) fun k hk=> ?_
  ·unfold Nc;rw [ζ,show evRow (es++[e])=evRow es++(A8 e).toList by simp [evRow]];exact hown'
  ·rcases hnew with h|h
   ·exact .inl (h▸hk)
   ·rw [h] at hk;have hk2:=φ hk;have hsz:=hb.size;exact .inr (hk2▸hsz)
theorem upV_pack {v:Int}  (hc:Am v e=0):upV (Iy v e)=Hy v e:=by unfold upV;rw [Mf hc]
theorem numb_at: ∀ (E:List (List UInt8)) (n i:Nat) b,E[i]? =some b→(numb n E)[i]? =some (((n+i:Nat):Int),upV b)
 | [],n,i,b,h=>by simp at h
 |x::E,n,0,b,h=>by
  simp only [List.getElem?_cons_zero,Option.some.injEq] at h
  subst h
  rfl
 |x::E,n,i+1,b,h=>by
  have:=numb_at E (n+1) i b (by simpa using h)
  rw [show n+(i+1)=n+1+i by omega]
  exact this
theorem own_at {α:Type} {w:World} {B n size:Nat} {ty:TypeId} {v:Value} (f:α→List Value) (l:List α) (hn: ∀ x,(f x).length=size) (h:w.ownsRow B ty size v n (l.flatMap f)) {g l2 c2:Nat} (hv:v= .slice (some ⟨g,0,none⟩) l2 c2) {i:Nat} {x:α} (hx:l[i]? =some x):w.rangeAt g (i*size) (f x):=by
 have hll:(l.flatMap f).length=l.length*size:=by
  clear h hx
  induction l with
  |nil=>simp
  |cons y l ih=>rw [List.flatMap_cons,ζ,ih,hn,τ,Nat.succ_mul];omega
 intro j u hj;have hk:=flat_at f size hn l i x hx j u hj;have hlt:=getElem?_lt hk;have hpos:0<n:=by
  have:=h.1;rcases Nat.eq_zero_or_pos n with h0|h0
  ·rw [h0,Nat.zero_mul] at this;omega
  ·exact h0
 obtain⟨g2,cap,rfl,_,_,_,_,h3⟩:=Dr h hpos;simp only [Value.slice.injEq,Option.some.injEq,Addr.mk.injEq] at hv;obtain⟨⟨rfl,_⟩,_⟩:=hv;exact h3 _ u hk
theorem stoOpen_fail (stride segEv:Nat) (er:Int) (d1:Af) (w:World) (f m:Nat) (d:Af) (L:List Aq) (h:Bv w f m d L) (hn:Bh w) (hg:4≤w.heap.size∧ ∀ k,k<4→ ¬ foot f m L k) (hst:d.steps≤1152921504606846976) (h0:(B6 d).1.1.snap≤0)
  (hc1:1≤stride∧stride≤64) (hc2:1≤segEv∧segEv≤512) (hrun:runR d=((Ay,er),d1)) (he:er≠0):
  Calls prog 9 #[.pointer (some ⟨f,0,none⟩),.agg #[Vi Vk (stride:Int),Vi Vk (segEv:Int)]] w fun x w'=>x= .returned (.tuple #[.pointer none,Vi Vk er])∧ ∃ L',Bv w' f m d1 L'∧Ab (foot f m L) w w'∧ ∀ k,foot f m L' k→foot f m L k∨w.heap.size≤k:=by
 have HB0:=Qh (Aa w (.cells #[Vi Vk (stride:Int),Vi Vk (segEv:Int)] 24));have HC0:=Qs ((w.alloc (.cells #[Vi Vk (stride:Int),Vi Vk (segEv:Int)] 24)).heap[w.heap.size]? =some (.cells (cfCs stride segEv) 24 (0,0))) (σ w _);have HRU:=Qh (by have:=run_bookless _ f m d L (h.below HB0.out) (hn.below HB0.out) (hg.2 _ (by decide)) hst h0;rw [hrun] at this;exact this);have HER:=Qh he;have q0:(er==0)=false:=by simpa using he
 have q1:decide ((stride:Int)<1)=false:=ρ (by omega);have q2:decide (64<(stride:Int))=false:=ρ (by omega);have q3:decide ((segEv:Int)<1)=false:=ρ (by omega);have q4:decide (512<(segEv:Int))=false:=ρ (by omega);have a0:(w.alloc (.cells #[Vi Vk (stride:Int),Vi Vk (segEv:Int)] 24)).cell? ⟨w.heap.size,0,none⟩=some (Vi Vk (stride:Int)):=cell_of_row _ _ 0 _ _ _ HC0.out;have a1:(w.alloc (.cells #[Vi Vk (stride:Int),Vi Vk (segEv:Int)] 24)).cell? ⟨w.heap.size,1,none⟩=some (Vi Vk (segEv:Int)):=cell_of_row _ _ 1 _ _ _ HC0.out;unfold RunQ at HRU;dsimp only at HRU;clear h hn hg hst h0 hc1 hc2 hrun he HC0;go_enter func9,ntmps9;go_wp2_with fail;clear a0 a1;generalize w.alloc (.cells #[Vi Vk (stride:Int),Vi Vk (segEv:Int)] 24)=w0 at*;refine HRU.out.mono ?_;rintro e w1 ⟨sv,rv,L',rfl,hsg,hst1,hone,hrone,hf1,ht1,hl1⟩;obtain⟨osv,csv,rfl,_,_,_⟩:=hsg;obtain⟨orv,crv,rfl,_,_,_⟩:=hst1;have HBA:=Qh (fun v=>Aa w1 v);have HF1:=Qh hf1;have HT1:=Qs (Ab (foot f m L) w w1) ((Ab.below HB0.out).trans ht1 fun k hk=> .inl hk);have HL1:=Qs (∀ k,foot f m L' k→foot f m L k∨w.heap.size≤k) (fun k hk=>(hl1 k hk).imp id fun h=>η HB0.out.size h);clear hf1 ht1 hl1 HRU HB0;go_wp2;go_ret2;exact⟨rfl,L',HF1.out.below (HBA.out _),HT1.out.trans (Ab.below (S:=fun _=>False) (HBA.out _)) (fun _ h=>h.elim),HL1.out⟩
def opRestart (ks:List Int):Ls:=⟨8,[],[],[],0,0,ks⟩
theorem doD_restart (d:Af) (ks:List Int):Bi d (opRestart ks)=({d with files:=restF d.files ks,down:=false,fuse:=0},[],0,0):=rfl
def Mc (f:Bl) (k:Int):Bl:=⟨f.name,f.data.take (Jz f k).toNat,Jz f k⟩
theorem restF_snoc: ∀ (l:List Bl) (x:Bl) (ks:List Int),restF (l++[x]) ks=restF l ks++[Mc x (ks.getD l.length 0)]
 | [],x,ks=>by
  cases ks<;>rfl
 |y::l,x,ks=>by
  rw [List.cons_append,restF,restF,restF_snoc l x ks.tail,List.cons_append]
  congr 3
  cases ks with
  |nil=>simp
  |cons a r=>simp
def Fz (d:Af) (i:Nat) (ks:List Int):Af:={d with files:=restF (d.files.take i) ks++d.files.drop i}
theorem restI_zero (d:Af) (ks:List Int):Fz d 0 ks=d:=by unfold Fz;simp [restF]
theorem restI_all (d:Af) (ks:List Int):Fz d d.files.length ks={d with files:=restF d.files ks}:=by unfold Fz;simp
theorem setF_none {g:Bl→Bl}  (h: ∀ x∈fs,x.name≠n):Fd n g fs=fs:=by
 unfold Fd;rw [List.map_congr_left (g:=id) fun x hx=>by
  have:=h x hx;simp [this]]
 simp
theorem restI_parts (hr:Fs d.files)  (hx:d.files[i]? =some x) (ks:List Int):
  (∀ y∈restF (d.files.take i) ks,y.name≠x.name)∧d.files.drop i=x::d.files.drop (i+1)∧ ∀ y∈d.files.drop (i+1),y.name≠x.name:=by
 have hd:d.files.drop i=x::d.files.drop (i+1):=by
  obtain⟨h1,h2⟩:=List.getElem?_eq_some_iff.1 hx;rw [←h2];exact List.drop_eq_getElem_cons h1
 have hp:=hr;rw [←List.take_append_drop i d.files,hd] at hp;obtain⟨p1,p2,p3⟩:=List.pairwise_append.1 hp;refine⟨fun y hy=> ?_,hd,fun y hy=> ?_⟩
 ·have:y.name∈(restF (d.files.take i) ks).map (·.name):=List.mem_map_of_mem hy;rw [rest_names] at this;obtain⟨z,hz,e⟩:=List.mem_map.1 this;rw [←e];exact Ip (p3 z hz x (by simp))
 ·exact(Ip ((List.pairwise_cons.1 p2).1 y hy)).symm
theorem restI_at (hr:Fs d.files)  (hx:d.files[i]? =some x) (ks:List Int):Bf (Fz d i ks).files x.name=some x:=by
 obtain⟨h1,h2,_⟩:=restI_parts hr hx ks;unfold Fz Bf;dsimp only;rw [h2,List.find?_append,List.find?_eq_none.2 (fun y hy=>by simpa using h1 y hy),Option.none_or,List.find?_cons];simp
theorem restI_set (hr:Fs d.files)  (hx:d.files[i]? =some x) (ks:List Int):(Fz d (i+1) ks).files=Fd x.name (fun _=>Mc x (ks.getD i 0)) (Fz d i ks).files:=by
 obtain⟨h1,h2,h3⟩:=restI_parts hr hx ks;have hl:(d.files.take i).length=i:=by
  have:=(List.getElem?_eq_some_iff.1 hx).1;rw [ω];omega
 have ht:d.files.take (i+1)=d.files.take i++[x]:=by rw [List.take_add_one,hx];rfl
 unfold Fz;dsimp only;rw [ht,restF_snoc,hl,h2];unfold Fd;rw [List.map_append,List.map_cons];have e1:=setF_none (g:=fun _=>Mc x (ks.getD i 0)) h1;have e3:=setF_none (g:=fun _=>Mc x (ks.getD i 0)) h3;unfold Fd at e1 e3;rw [e1,e3,κ (by simp),List.append_assoc];rfl
theorem restI_ok {d:Af} (h:A0 d) (ks:List Int): ∀ i,i≤d.files.length→A0 (Fz d i ks)
 |0,_=>by rw [restI_zero];exact h
 |i+1,hi=>by
  obtain⟨x,hx⟩: ∃ x,d.files[i]? =some x:=⟨_,Θ (by omega)⟩
  have ih:=restI_ok h ks i (by omega)
  have ha:=restI_at h.rise hx ks
  have hs:=h.safe x (List.mem_of_getElem? hx)
  have hk:=keptN_bd hs (ks.getD i 0)
  have hl:(Mc x (ks.getD i 0)).data.length=(Jz x (ks.getD i 0)).toNat:=by unfold Mc;rw [ω];omega
  have:=A0.setFile ih (f':=Mc x (ks.getD i 0)) ha rfl (by rw [hl];show 0≤Jz x _∧Jz x _≤_;omega) (by rw [hl];have:=ih.used;omega)
  rw [←restI_set h.rise hx ks] at this
  exact this
def KpIn (A:Nat→Prop) (w:World) (v:Value) (l:List Int):Prop:=
 ∃ oa cap,v= .slice oa l.length cap∧l.length≤cap∧cap≤9223372036854775807∧ ∀ (i:Nat) x,l[i]? =some x→ ∃ b off,oa=some ⟨b,off,none⟩∧A b∧w.cell? ⟨b,off+i,none⟩=some (Vi Vk x)
theorem slotAt_of (h:Bv w f m d L)  (hx:Bf d.files n=some x): ∃ s,D9 L n=some s∧s.fil=x∧s∈L:=by
 have hat:=fils_at n L;rw [h.fil,hx] at hat;rcases hs:D9 L n with _|s
 ·rw [hs] at hat;cases hat
 ·rw [hs] at hat;simp only [Option.map_some,Option.some.injEq] at hat;exact⟨s,rfl,hat.symm,(Ji hs).1⟩
theorem restart_any (w:World) (f m:Nat) (d:Af) (L:List Aq) (h:Bv w f m d L) (ks:List Int) (kv:Value) (hk:KpIn (fun k=> ¬ foot f m L k) w kv ks):
  Calls prog 29 #[.pointer (some ⟨f,0,none⟩),kv] w fun e w'=>e= .returned (.tuple #[])∧A1 w f m L (Bi d (opRestart ks)).1 w':=by
 obtain⟨ko,kc,rfl,hkl,hkc,hkr⟩:=hk;have HKR:=Qh hkr;have hL:L.length≤700:=by have:=h.ok.count;rw [←h.fil] at this;simpa [Js] using this
 have HN:=Qh (fsNames_any w f m d L h (by omega));have HFI:=Qh h.fil;have HLT:=Qh h.lt;have hfw:=h.hd.lt;have HFW:=Qh hfw;have HLN:=Qs (d.files.length=L.length) (by rw [←h.fil];simp [Js]);have HH:=Qh h;clear h hkr hfw;go_enter func29,ntmps29;go_wp2_with fail;go_at_call 46;refine HN.out.mono ?_;rintro e w1 ⟨v1,rfl,hrow,hb1⟩;obtain⟨oa,cap,rfl,hl1,hl2⟩:=Aj hrow;have HROW:=Qh hrow;have HB1:=Qh hb1;have HP0:=Qs (A1 w1 f m L (Fz d 0 ks) w1) (by rw [restI_zero];exact A1.same (HH.out.below hb1));have hsz1:=hb1.size;clear hrow hb1 HN;go_wp2;go_loopw [4,5,6,7,13] (fun _ _ _ _ iv wr=> ∃ (k:Nat),k≤L.length∧iv= Vi Vk (k:Int)∧Hid (A1 w1 f m L (Fz d k ks) wr)) (fun _ _ _ _ iv _=>L.length - (intOf iv).toNat)
 case atStart=>exact⟨0,θ _,rfl,HP0⟩
 case round=>
  obtain⟨k,hk,rfl,HP⟩:=hrel;obtain⟨Li,hat,ht,hli⟩:=HP.out;have HAT:=Qh hat;have HT:=Qh ht;have HLI:=Qh hli;by_cases hlt:k<L.length
  ·have hkd:k<d.files.length:=by have:=HLN.out;omega
   obtain⟨x,hx⟩: ∃ x,d.files[k]? =some x:=⟨_,Θ hkd⟩;have q1:(k:Int)<(L.length:Int):=by omega
   have hrise:=HH.out.ok.rise;obtain⟨g,cap',e1,hgB,hgl,_,_,hcell⟩:=Dr HROW.out (by omega);simp only [Value.slice.injEq] at e1;obtain⟨rfl,_,rfl⟩:=e1;have hnk:(Cu L)[k]? =some x.name:=by
    have:(Js L)[k]? =some x:=by rw [HFI.out];exact hx
    unfold Js at this;unfold Cu;rw [List.getElem?_map] at this ⊢;obtain⟨t,ht1,ht2⟩:=Option.map_eq_some_iff.1 this;rw [ht1,←ht2];rfl
   have cn1:w1.cell? ⟨g,k,none⟩=some (.string ⟨x.name.toArray⟩):=hcell k _ (by rw [List.getElem?_map,hnk];rfl);have cn:wr.cell? ⟨g,k,none⟩=some (.string ⟨x.name.toArray⟩):=HT.out.cell cn1 (fun hc=>by have:=HLT.out g hc;omega);have c0:=HAT.out.hd.c0;have hrn:=HH.out.ok.names x (List.mem_of_getElem? hx);have hlook:=HAT.out.body.look (n:=x.name) (Ks hrn);obtain⟨s,hsa,hsx,hsm⟩:=slotAt_of HAT.out (restI_at hrise hx ks);rw [hsa] at hlook;simp only at hlook;subst hsx;have hsl:=HAT.out.body.slot s hsm;obtain⟨ao,dcap,hsh,hlc,_⟩:=hsl.2.shape;have hsf:=HH.out.ok.safe s.fil (List.mem_of_getElem? hx);have hkb:=keptN_bd hsf (ks.getD k 0);have hld:s.fil.data.length≤67108864:=by
    have h1:=Fg (List.mem_of_getElem? hx);have h2:=HH.out.ok.used;have h3:=HH.out.ok.room;omega
   obtain⟨q,hq⟩:=Int.eq_ofNat_of_zero_le (show 0≤Jz s.fil (ks.getD k 0) by omega);rw [hq] at hkb;have HQ:=Qh hq;have HSL:=Qs (D9 Li s.fil.name=some s∧s∈Li∧s.sl= .slice ao s.fil.data.length dcap) ⟨hsa,hsm,hsh⟩;have HX:=Qh hx;have HI:=Qs (Mc s.fil (ks.getD k 0)=⟨s.fil.name,s.fil.data.take q,(q:Int)⟩) (by unfold Mc;rw [hq];rfl);have HOK:=Qh (restI_ok HH.out.ok ks (k+1) (by have:=HLN.out;omega));have hus:=HAT.out.ok.used;have hrm:=HAT.out.ok.room;have hu:=If (f':=⟨s.fil.name,s.fil.data.take q,(q:Int)⟩) HAT.out.ok.rise (restI_at hrise hx ks) rfl;rw [←HI.out,←restI_set hrise hx ks,HI.out] at hu;have hlq:(s.fil.data.take q).length=q:=by rw [ω];omega
   have HU:=Qs ((usedF (Fz d (k+1) ks).files:Int)=(usedF (Fz d k ks).files:Int) - ((s.fil.data.length:Int) - s.fil.safe - ((q:Int) - s.fil.safe))) (by simp only [hlq] at hu;omega);have a1:IntKind.i64.wrap ((s.fil.data.length:Int) - s.fil.safe)=(s.fil.data.length:Int) - s.fil.safe:=by rw [ν];omega
   have a2:IntKind.i64.wrap ((s.fil.data.length:Int) - s.fil.safe - ((q:Int) - s.fil.safe))=(s.fil.data.length:Int) - s.fil.safe - ((q:Int) - s.fil.safe):=by rw [ν];omega
   have a3:IntKind.i64.wrap ((usedF (Fz d k ks).files:Int) - ((s.fil.data.length:Int) - s.fil.safe - ((q:Int) - s.fil.safe)))=(usedF (Fz d k ks).files:Int) - ((s.fil.data.length:Int) - s.fil.safe - ((q:Int) - s.fil.safe)):=by rw [ν];omega
   have a4:IntKind.i64.wrap (s.fil.safe+((q:Int) - s.fil.safe))=(q:Int):=by rw [ν];omega
   have HQL:=Qs (q≤s.fil.data.length) (by omega);have HSF:=Qs (0≤s.fil.safe∧s.fil.safe≤(s.fil.data.length:Int)) hsf;have k0:wr.cell? ⟨s.blk,0,none⟩=some (.slice ao s.fil.data.length dcap):=by rw [←hsh];exact hsl.c0
   have k1:=hsl.c1;have K0:=Qh k0;have K1:=Qh k1;have HLC:=Qh hlc;have HB1':=HB1;have HKX:=Qh (fun kk (hkk:ks[k]? =some kk)=>show ∃ b off,ko=some ⟨b,off,none⟩∧wr.cell? ⟨b,off+k,none⟩=some (Vi Vk kk) from by
    obtain⟨b,off,h1,h2,h3⟩:=HKR.out k kk hkk;exact⟨b,off,h1,HT.out.cell (cell_later HB1.out h3) h2⟩)
   clear hat ht hli hcell hnk cn1 hrn hsa hsm hsl hsh hsf hx hld hus hrm hu hlq hq hrise
   go_upto_if 27 with fail
   go_cut [7] from 24 to 43 (fun v wx=>v= Vi Vk ((q:Int) - s.fil.safe)∧Hid (Below wr.heap.size wr wx))
   case first=>
    by_cases hik:k<ks.length
    ·obtain⟨kk,hkk⟩: ∃ kk,ks[k]? =some kk:=⟨_,Θ hik⟩;obtain⟨b,off,rfl,hc⟩:=HKX.out kk hkk;have q3:(k:Int)<(ks.length:Int):=by omega
     have HV:=Qs (min (max 0 kk) ((s.fil.data.length:Int) - s.fil.safe)=(q:Int) - s.fil.safe) (by
      have h1:=HQ.out;rw [List.getD_eq_getElem?_getD,hkk,Option.getD_some] at h1;have h2:=HSF.out;unfold Jz at h1;split at h1
      ·split at h1<;>omega
      ·omega)
     clear hkk c0 cn hlook;go_wp2_with fail
     go_quiet (fail)
     go_wp2_with fail;go_meet;exact⟨by rw [HV.out],Qh (Ac _ _)⟩
    ·have q3: ¬ (k:Int)<(ks.length:Int):=by omega
     have HV:=Qs ((0:Int)=(q:Int) - s.fil.safe) (by
      have h1:=HQ.out;rw [List.getD_eq_getElem?_getD,List.getElem?_eq_none (by omega),Option.getD_none] at h1;unfold Jz at h1;rw [γ (by decide)] at h1;omega)
     clear c0 cn hlook k0 k1;go_wp2_with fail;go_meet;exact⟨by rw [←HV.out],Qh (χ _ _)⟩
   case rest=>
    obtain⟨rfl,HBX⟩:=hcut;have HAX:=Qh (HAT.out.below HBX.out);have HBD:=Qs (Below wr.heap.size wr wc.drew) (Below.next HBX.out (Ac wc 1));have HAD:=Qh (HAT.out.below HBD.out);have HSX:=Qh (HAX.out.body.slot s HSL.out.2.1);have HSD:=Qh (HAD.out.body.slot s HSL.out.2.1);have HAP:=Qh (HAD.out.body.apart.2.1 s HSL.out.2.1);have k0:=cell_later HBX.out K0.out;have k1:=cell_later HBX.out K1.out;have c2:wc.cell? ⟨f,2,none⟩=some (Vi Vk (usedF (Fz d k ks).files:Int)):=HAX.out.hd.c2;have f2:=HAX.out.hd.free 2;clear c0 cn hlook;go_wp2_with fail;go_still_tail 19,(by kernel_rfl);refine Cc rfl 3 (.tmp 62) (.tmp 60) rfl f 2 (Vi Vk ((usedF (Fz d k ks).files:Int) - ((s.fil.data.length:Int) - s.fil.safe - ((q:Int) - s.fil.safe)))) (Vi Vk (usedF (Fz d k ks).files:Int)) (by kernel_rfl) rfl rfl rfl c2 f2 ?_;intro w2 hw2;have HW2:=Qh (show E7 w2 f m (Ex (Fz d (k+1) ks))∧Dz w2 s∧Ab (fun i=>i=f) wc.drew w2 by
     rw [hw2.out];refine⟨?_,?_,Ab.setCell _ _ _ rfl⟩
     ·have:=HAD.out.hd.set 2 (Vi Vk ((usedF (Fz d k ks).files:Int) - ((s.fil.data.length:Int) - s.fil.safe - ((q:Int) - s.fil.safe)))) (h':=Ex (Fz d (k+1) ks)) (by rw [←HU.out];rfl);exact this
     ·have hb:=(F3.setHd HAD.out.body 2 (Vi Vk ((usedF (Fz d k ks).files:Int) - ((s.fil.data.length:Int) - s.fil.safe - ((q:Int) - s.fil.safe)))));exact hb.slot s HSL.out.2.1)
    clear hw2 c2 f2 k0 k1;have k1:=HW2.out.2.1.c1;have g1:=HW2.out.2.1.free 1;go_wp2_with (with_reducible refine Cc rfl 3 (.tmp 70) (.tmp 68) rfl s.blk 1 (Vi Vk (q:Int)) (Vi Vk s.fil.safe) (by kernel_rfl) rfl rfl rfl k1 g1 ?_);intro w3 hw3;have hdn:Be s.sl≠some s.blk:=HAP.out.2.2.2.2;have HW3:=Qs (Dz w3 ⟨{s.fil with safe:=(q:Int)},s.blk,s.sl⟩) (by rw [hw3.out];exact HW2.out.2.1.putSafe (q:Int) hdn);have HH3:=Qs (E7 w3 f m (Ex (Fz d (k+1) ks))) (by rw [hw3.out];exact HW2.out.1.otherCell HAP.out.1.symm 1 _);have HT3:=Qh (show Ab (fun i=>i=f∨i=s.blk∨Be s.sl=some i) wc w3.drew by
     have t1:Ab (fun i=>i=f∨i=s.blk∨Be s.sl=some i) wc w2:=(Ab.below (Ac wc 1)).trans (HW2.out.2.2.mono fun _ h=> .inl h) fun i h=> .inl h;have t2:Ab (fun i=>i=s.blk) w2 w3:=by rw [hw3.out];exact Ab.setCell _ _ _ rfl
     exact(t1.trans t2 fun i h=> .inl (.inr (.inl h))).trans (Ab.below (S:=fun i=>i=s.blk) (Ac w3 1)) fun i h=> .inl (.inr (.inl h)))
    clear hw3 k1 g1;have HD3:=Qs (Below w3.heap.size w3 w3.drew) (Ac w3 1);have HSD3:=Qh (HW3.out.kept (HD3.out.block _ HW3.out.lt) fun g hg=>HD3.out.block g (HW3.out.2.lt hg));have k0:w3.cell? ⟨s.blk,0,none⟩=some (.slice ao s.fil.data.length dcap):=by rw [←HSL.out.2.2];exact HW3.out.c0
    have k1:w3.cell? ⟨s.blk,1,none⟩=some (Vi Vk (q:Int)):=HW3.out.c1;have g0:=HW3.out.free 0;have q1:(q:Int)≤(s.fil.data.length:Int):=by have:=HQL.out;omega
    have q2:(s.fil.data.length:Int)≤(dcap:Int):=by have:=HLC.out;omega
    have q3:(q:Int)≤(dcap:Int):=by omega
    go_wp2_with fail;go_still_tail 16,(by kernel_rfl);refine Cc rfl 39 (.tmp 86) (.tmp 84) rfl s.blk 0 (.slice ao q q) (.slice ao s.fil.data.length dcap) (by kernel_rfl) rfl rfl rfl k0 g0 ?_;intro w5 hw5;obtain⟨ao',cap',hsh',hdc,hdb⟩:=datAt_cut HSD3.out.2 q HQL.out;have hao:ao'=ao:=by have:=HSL.out.2.2;simp only at hsh';rw [this] at hsh';cases hsh';rfl
    subst hao;have hdn2:Be (.slice ao' q q)≠some s.blk:=fun e=>hdn (hdb _ e);have HP2:=Qs (A1 wc f m Li (Fz d (k+1) ks) w5) (by
     refine A1.setFile (x:=⟨⟨s.fil.name,s.fil.data.take q,(q:Int)⟩,s.blk,.slice ao' q q⟩) HAX.out (Ab.refl _ _) HSL.out.1 rfl rfl ?_ (Dz.putData HSD3.out.1 hdc hdn2 hw5.out) (fun g hg=> .inl (hdb g hg)) ?_ ?_ HOK.out
     ·rw [hw5.out];exact HT3.out.trans (Ab.setCell (S:=fun i=>i=s.blk) _ ⟨s.blk,0,none⟩ _ rfl) fun i h=> .inl (.inr (.inl h))
     ·rw [hw5.out];exact(HH3.out.below HD3.out).otherCell HAP.out.1.symm 0 _
     ·rw [restI_set HH.out.ok.rise HX.out ks,HI.out])
    have HPE:=Qs (A1 w1 f m L (Fz d (k+1) ks) w5) (HP2.out.then (HT.out.trans (Ab.below (S:=foot f m L) HBX.out) fun i h=> .inl h) HLI.out);clear hw5 k0 k1 g0 hdc hdb hdn hdn2 hsh';go_wp2;go_roundw
    case rel=>exact⟨k+1,by omega,by go_num,HPE⟩
    case measure=>simp [intOf];omega
  ·obtain rfl:k=L.length:=by omega
   have HE:=Qs ((Bi d (opRestart ks)).1={Fz d L.length ks with down:=false,fuse:=0}) (by rw [doD_restart,←HLN.out,restI_all]);have c5:=HAT.out.hd.c5;have c6:=HAT.out.hd.c6;have f5:=HAT.out.hd.free 5;have f6:=HAT.out.hd.free 6;clear hat ht hli;go_wp2;go_end0;rw [HE.out];refine⟨rfl,A1.then (w1:=w1) (L1:=L) ?_ (Ab.below HB1.out) (fun _ h=> .inl h)⟩;refine⟨Li,⟨?_,(HAT.out.body.setHd 5 _).setHd 6 _,HAT.out.fil,?_⟩,(HT.out.trans (Ab.setCell (S:=foot f m L) _ _ _ foot_f) fun i h=> .inl h).trans (Ab.setCell (S:=foot f m L) _ _ _ foot_f) fun i h=> .inl h,HLI.out⟩
   ·exact(HAT.out.hd.set 5 (Vi Vk 0) (h':={Ex (Fz d L.length ks) with fuse:=0}) rfl).set 6 (.bool false) (h':={Ex (Fz d L.length ks) with fuse:=0,down:=false}) rfl
   ·have hk:=HAT.out.ok;exact⟨hk.rise,hk.names,hk.safe,hk.count,hk.room,hk.used,⟨Int.le_refl 0,by simp⟩,hk.steps,hk.reads⟩
def Ou (P:Nat→Prop) (w:World) (f m b:Nat) (d:Af) (s:C6) (E:List (List UInt8)) (S k:Nat):Prop:=
 ∃ L mv sv,SJ w b f m L d s mv sv∧(∀ i,Br b mv f m L i→P i)∧(∀ i,w.heap.size≤i→P i)∧G7 d s E S∧F6 d s E k
def J7 (P:Nat→Prop) (w:World) (f m:Nat) (d:Af) (stride:Nat) (E:List (List UInt8)) (S k:Nat):Prop:=
 ∃ L,Bv w f m d L∧(∀ i,foot f m L i→P i)∧Bh w∧(∀ i,w.heap.size≤i→P i)∧4≤w.heap.size∧Gone d stride E S k
def ShutF (P:Nat→Prop) (w:World) (f m:Nat) (d:Af) (s:C6) (E:List (List UInt8)) (S k:Nat):Prop:=
 ∃ L,Bv w f m d L∧(∀ i,foot f m L i→P i)∧Bh w∧(∀ i,w.heap.size≤i→P i)∧4≤w.heap.size∧G7 d s E S∧F6 d s E k
theorem F6.up {k':Nat} (h:F6 d s E k) (hk:k≤k'):F6 d s E k':=by
 have g5:usedF d.files≤100+k'*17660:=η h.used (Nat.add_le_add_left (Nat.mul_le_mul_right _ hk) _);have h1:=h.next;have h2:=h.gen;have h3:=h.steps;have h4:=h.len;have h6:=h.files;have h7:=h.segs;exact⟨by omega,by omega,by omega,by omega,h.room,g5,by omega,by omega⟩
theorem Gone.up {S k':Nat} (h:Gone d stride E S k) (hk:k≤k'):Gone d stride E S k':=by
 obtain⟨m,fs0,h1,h2,h3,h4,h5,h6,h7,h8⟩:=h.lost;have g5:usedF fs0≤100+k'*17660:=η h7 (Nat.add_le_add_left (Nat.mul_le_mul_right _ hk) _);have h9:=h.steps;have h10:=h.len;exact⟨h.ok,h.room,by omega,by omega,m,fs0,h1,h2,by omega,by omega,by omega,h6,g5,by omega⟩
theorem G7.rd {S:Nat} (h:G7 d s E S) (n:Nat):G7 (Df d n) s E S:=by
 obtain⟨ho,G,g,bs,h1,h2,h3⟩:=h;exact⟨ho.rd n,G,g,bs,h1,h2,h3⟩
theorem G7.dec {S:Nat} (h:G7 d s E S) (n:Nat):G7 d {s with decoded:=n} E S:=by
 obtain⟨ho,G,g,bs,hs,h2,h3⟩:=h;exact⟨ho.dec n,G,g,bs,⟨hs.ok,hs.snap,hs.segs,hs.man,hs.act,hs.cnt,hs.size,hs.marks,hs.seals,hs.body,hs.cfg,hs.clean,hs.top⟩,h2,h3⟩
theorem F6.rd (h:F6 d s E k) (n:Nat):F6 (Df d n) s E k:=⟨h.next,h.gen,h.steps,h.len,h.room,h.used,h.files,h.segs⟩
theorem F6.dec (h:F6 d s E k) (n:Nat):F6 d {s with decoded:=n} E k:=⟨h.next,h.gen,h.steps,h.len,h.room,h.used,h.files,h.segs⟩
section
variable {P P' : Nat → Prop} {w w0 w' : World} {f m b : Nat} {L : List Aq} {d d' : Af} {s s' : C6} {mv sv : Value} {E E' : List (List UInt8)} {S S' k k' stride : Nat}
theorem Ou.up (h:Ou P w f m b d s E S k) (hk:k≤k'):Ou P w f m b d s E S k':=by
 obtain⟨L,mv,sv,h1,h2,h3,h4,h5⟩:=h;exact⟨L,mv,sv,h1,h2,h3,h4,h5.up hk⟩
theorem J7.up (h:J7 P w f m d stride E S k) (hk:k≤k'):J7 P w f m d stride E S k':=by
 obtain⟨L,h1,h2,h3,h4,h5,h6⟩:=h;exact⟨L,h1,h2,h3,h4,h5,h6.up hk⟩
theorem Ou.mono (h:Ou P w f m b d s E S k) (hP: ∀ i,P i→P' i):Ou P' w f m b d s E S k:=by
 obtain⟨L,mv,sv,h1,h2,h3,h4⟩:=h;exact⟨L,mv,sv,h1,fun i hi=>hP i (h2 i hi),fun i hi=>hP i (h3 i hi),h4⟩
theorem J7.mono (h:J7 P w f m d stride E S k) (hP: ∀ i,P i→P' i):J7 P' w f m d stride E S k:=by
 obtain⟨L,h1,h2,h3,h4,h5,h6⟩:=h;exact⟨L,h1,fun i hi=>hP i (h2 i hi),h3,fun i hi=>hP i (h4 i hi),h5,h6⟩
theorem Ou.narrow (h:Ou P w f m b d s E S k) (hb:Below w.heap.size w w0):Ou (fun i=>P i∧(i<w.heap.size∨w0.heap.size≤i)) w0 f m b d s E S k:=by
 obtain⟨L,mv,sv,h1,h2,h3,h4⟩:=h;exact⟨L,mv,sv,h1.below hb,fun i hi=>⟨h2 i hi,.inl (h1.lt i hi)⟩,fun i hi=>⟨h3 i (η hb.size hi),.inr hi⟩,h4⟩
theorem Ou.toOff (h:Ou P w f m b d s E S k):J7 P w f m d s.stride E S k:=by
 obtain⟨L,mv,sv,h1,h2,h3,h4,h5⟩:=h;exact⟨L,h1.fs,fun i hi=>h2 i (.inr (.inr hi)),h1.nib,h3,h1.gl.1,h4.gone h5⟩
theorem Ou.sep {X:Nat→Prop} (h:Ou P w f m b d s E S k) (ht:Ab X w w') (hX: ∀ k,X k→ ¬ SegB w k∧ ¬ P k∧4≤k):Ou (fun i=>P i∧(i<w.heap.size∨w'.heap.size≤i)) w' f m b d s E S k:=by
 obtain⟨L,mv,sv,h1,h2,h3,h4⟩:=h;exact⟨L,mv,sv,h1.off ht fun k hk=>⟨(hX k hk).1,fun hc=>(hX k hk).2.1 (h2 k hc),(hX k hk).2.2⟩,fun i hi=>⟨h2 i hi,.inl (h1.lt i hi)⟩,fun i hi=>⟨h3 i (η ht.size hi),.inr hi⟩,h4⟩
theorem J7.sep {X:Nat→Prop} (h:J7 P w f m d stride E S k) (ht:Ab X w w') (hX: ∀ k,X k→ ¬ P k∧4≤k):J7 (fun i=>P i∧(i<w.heap.size∨w'.heap.size≤i)) w' f m d stride E S k:=by
 obtain⟨L,h1,h2,h3,h4,h5,h6⟩:=h;have hno: ∀ k,foot f m L k→ ¬ X k:=fun k hk hx=>(hX k hx).1 (h2 k hk);exact⟨L,h1.turned ht hno,fun i hi=>⟨h2 i hi,.inl (h1.lt i hi)⟩,h3.turned ht (fun hc=>by have:=(hX _ hc).2;revert this;decide) h3.lt,fun i hi=>⟨h4 i (η ht.size hi),.inr hi⟩,η h5 ht.size,h6⟩
theorem Ou.out (h1:E9 w b f m L mv d' s' w') (hB: ∀ i,w.heap.size≤i→P i) (h2: ∀ i,Br b mv f m L i→P i) (h4:G7 d' s' E' S'∧F6 d' s' E' k'):Ou P w' f m b d' s' E' S' k'∧Ab P w w':=by
 obtain⟨L',mv',sv',a1,a2,a3⟩:=h1;refine⟨⟨L',mv',sv',a1,fun i hi=> ?_,fun i hi=>hB i (η a2.size hi),h4⟩,a2.mono h2⟩;rcases a3 i hi with h|h
 ·exact h2 i h
 ·exact hB i h
theorem J7.out (h1:E9 w b f m L mv d' s' w') (hB: ∀ i,w.heap.size≤i→P i) (h2: ∀ i,Br b mv f m L i→P i) (h4:Gone d' stride E' S' k'):J7 P w' f m d' stride E' S' k'∧Ab P w w':=by
 obtain⟨L',mv',sv',a1,a2,a3⟩:=h1;refine⟨⟨L',a1.fs,fun i hi=> ?_,a1.nib,fun i hi=>hB i (η a2.size hi),a1.gl.1,h4⟩,a2.mono h2⟩;rcases a3 i (.inr (.inr hi)) with h|h
 ·exact h2 i h
 ·exact hB i h
def AppF (P:Nat→Prop) (w':World) (f m b:Nat) (d:Af) (s:C6) (E:List (List UInt8)) (S k:Nat) (v:Int) (e:Ev) (r:Int×Int):Prop:=
 (Am v e≠0∧r=(0,Am v e)∧Ou P w' f m b d s E S k)∨
 (Am v e=0∧r=((E.length:Int)+1,0)∧ ∃ d' s',Ou P w' f m b d' s' (E++[Iy v e]) S (k+2)∧s'.stride=s.stride∧s'.segEv=s.segEv)∨
 (Am v e=0∧r=(0,3)∧ ∃ d' E',d'.down=true∧(E'=E∨E'=E++[Iy v e])∧J7 P w' f m d' s.stride E' S (k+2))
theorem atAppendF {v:Int}  (h:Ou P w f m b d s E S k) (hk:k≤205) (hok:Lj 281474976710656 e):
  Calls prog 12 #[.pointer (some ⟨b,0,none⟩),Vi Vk v,Ga e] w fun x w'=> ∃ r:Int×Int,x= .returned (.tuple #[Vi Vk r.1,Vi Vk r.2])∧Ab P w w'∧AppF P w' f m b d s E S k v e r:=by
 obtain⟨L,mv,sv,h1,h2,h3,h4,h5⟩:=h;refine(stoAppendF v e hok h1 h4 h5 hk).mono ?_;rintro x w' ⟨rfl,hp⟩;by_cases hc:Am v e=0
 ·rw [κ hc] at hp ⊢;rcases live_push h4 h5 (by omega) (Kr hc) with⟨a1,a2,a3,a4⟩|⟨a1,a2,E',a3,a4⟩
  ·obtain⟨b1,b2⟩:=Ou.out hp h3 h2 ⟨a2,a3.up (Nat.le_succ _)⟩;exact⟨_,rfl,b2,.inr (.inl ⟨hc,a1,_,_,b1,a4⟩)⟩
  ·obtain⟨b1,b2⟩:=J7.out hp h3 h2 a4;exact⟨_,rfl,b2,.inr (.inr ⟨hc,a1,_,E',a2,a3,b1⟩)⟩
 ·rw [γ hc] at hp ⊢;obtain⟨b1,b2⟩:=Ou.out hp h3 h2 ⟨h4,h5⟩;exact⟨_,rfl,b2,.inl ⟨hc,rfl,b1⟩⟩
theorem syncF (h4:G7 d s E S) (h5:F6 d s E k):
  ((Bi d (Ag (A9 s.man))).2.2.2=0∧G7 (Bi d (Ag (A9 s.man))).1 s E E.length∧F6 (Bi d (Ag (A9 s.man))).1 s E (k+1))∨
   ((Bi d (Ag (A9 s.man))).2.2.2=3∧(Bi d (Ag (A9 s.man))).1.down=true∧Gone (Bi d (Ag (A9 s.man))).1 s.stride E S (k+1)):=by
 have hst:=(Bx d (Ag (A9 s.man))).1;rcases live_sync h4 with⟨a1,a2,a3⟩|⟨a1,a2,a3,a4,a5⟩
 ·exact .inl ⟨a1,a2,h5.like a3 (by omega)⟩
 ·refine .inr ⟨a1,a2,F6.gone h4 h5 a3 a4 (by omega) ?_ (by have:=h5.len;omega) (μ _)⟩;rw [a5];obtain⟨ho,G,g,bs,b1,rfl,b2⟩:=h4;exact⟨b1.lost ho.floor b2,Near.refl _ _⟩
theorem atSyncF (h:Ou P w f m b d s E S k) (hk:k≤205):
  Calls prog 27 #[.pointer (some ⟨b,0,none⟩)] w fun x w'=>Ab P w w'∧((x= .returned (Vi Vk 0)∧ ∃ d',Ou P w' f m b d' s E E.length (k+1))∨(x= .returned (Vi Vk 3)∧ ∃ d',d'.down=true∧J7 P w' f m d' s.stride E S (k+1))):=by
 obtain⟨L,mv,sv,h1,h2,h3,h4,h5⟩:=h;have hst:=h5.steps;refine(stoSync_any h1 h4.1.seg (by omega) h4.1.closed h4.1.up).mono ?_;rintro x w' hq;unfold SyncQ at hq;obtain⟨rfl,hp⟩:=hq;rcases syncF h4 h5 with⟨a1,a2,a3⟩|⟨a1,a2,a3⟩
 ·rw [a1] at hp ⊢;rw [show shutS s 0=s from by unfold shutS;rw [γ (by decide)]] at hp;obtain⟨b1,b2⟩:=Ou.out hp h3 h2 ⟨a2,a3⟩;exact⟨b2,.inl ⟨rfl,_,b1⟩⟩
 ·obtain⟨b1,b2⟩:=J7.out hp h3 h2 a3;exact⟨b2,.inr ⟨by rw [a1],_,a2,b1⟩⟩
theorem atRotateF (h:Ou P w f m b d s E S k) (hk:k≤205):
  Calls prog 23 #[.pointer (some ⟨b,0,none⟩)] w fun x w'=>Ab P w w'∧((x= .returned (Vi Vk 93)∧Ou P w' f m b d s E S k)∨(x= .returned (Vi Vk 0)∧ ∃ d' s',Ou P w' f m b d' s' E E.length (k+1)∧s'.stride=s.stride∧s'.segEv=s.segEv)∨(x= .returned (Vi Vk 3)∧ ∃ d',d'.down=true∧J7 P w' f m d' s.stride E S (k+1))):=by
 obtain⟨L,mv,sv,h1,h2,h3,h4,h5⟩:=h;refine(stoRotateF h1 h4 h5 hk).mono ?_;rintro x w' ⟨rfl,hp⟩;rcases live_rotate h4 h5 (by omega) with⟨_,a1⟩|⟨a1,a2,a3,a4⟩|⟨a1,a2,a3⟩
 ·rw [a1] at hp ⊢;obtain⟨b1,b2⟩:=Ou.out hp h3 h2 ⟨h4,h5⟩;exact⟨b2,.inl ⟨rfl,b1⟩⟩
 ·obtain⟨b1,b2⟩:=Ou.out hp h3 h2 ⟨a2,a3⟩;exact⟨b2,.inr (.inl ⟨by rw [a1],_,_,b1,a4⟩)⟩
 ·obtain⟨b1,b2⟩:=J7.out hp h3 h2 a3;exact⟨b2,.inr (.inr ⟨by rw [a1],_,a2,b1⟩)⟩
theorem atCloseF (h:Ou P w f m b d s E S k) (hk:k≤205):
  Calls prog 28 #[.pointer (some ⟨b,0,none⟩)] w fun x w'=>Ab P w w'∧((x= .returned (Vi Vk 0)∧ ∃ d',ShutF P w' f m d' s E E.length (k+1))∨(x= .returned (Vi Vk 3)∧ ∃ d',d'.down=true∧J7 P w' f m d' s.stride E S (k+1))):=by
 obtain⟨L,mv,sv,h1,h2,h3,h4,h5⟩:=h;have hst:=h5.steps;refine(stoClose_any h1 h4.1.seg (by omega) h4.1.closed h4.1.up).mono ?_;rintro x w' hq;unfold CloseQ at hq;obtain⟨rfl,hp⟩:=hq;rcases syncF h4 h5 with⟨a1,a2,a3⟩|⟨a1,a2,a3⟩
 ·obtain⟨L',mv',sv',b1,b2,b3⟩:=hp;refine⟨b2.mono h2,.inl ⟨by rw [a1],_,L',b1.fs,fun i hi=> ?_,b1.nib,fun i hi=>h3 i (η b2.size hi),b1.gl.1,a2,a3⟩⟩;rcases b3 i (.inr (.inr hi)) with h|h
  ·exact h2 i h
  ·exact h3 i h
 ·obtain⟨b1,b2⟩:=J7.out hp h3 h2 a3;exact⟨b2,.inr ⟨by rw [a1],_,a2,b1⟩⟩
theorem atOpenF (h:ShutF P w f m d s E S k) (hk:k≤1000) (hG: ∀ i,i<4→ ¬ P i):
  Calls prog 9 #[.pointer (some ⟨f,0,none⟩),.agg #[Vi Vk (s.stride:Int),Vi Vk (s.segEv:Int)]] w fun x w'=>Ab P w w'∧((∃ b d' s',x= .returned (.tuple #[.pointer (some ⟨b,0,none⟩),Vi Vk 0])∧Ou P w' f m b d' s' E E.length (k+1)∧s'.stride=s.stride∧s'.segEv=s.segEv)∨
   (x= .returned (.tuple #[.pointer none,Vi Vk 3])∧ ∃ d',d'.down=true∧J7 P w' f m d' s.stride E S (k+1))):=by
 obtain⟨L,h1,h2,h3,h5,h6,h7,h8⟩:=h;have hst:=h8.steps;have hcf:(1≤s.stride∧s.stride≤64)∧1≤s.segEv∧s.segEv≤512:=by
  obtain⟨G,g,bs,hs,_⟩:=h7.1.sta;exact hs.cfg
 have hgl:4≤w.heap.size∧ ∀ i,i<4→ ¬ foot f m L i:=⟨h6,fun i hi hc=>hG i hi (h2 i hc)⟩;rcases live_reopen h7 with⟨d1,a1,a2,a3,a4⟩|⟨d1,a1,a2,a3,a4,a5,a6⟩
 ·refine(open_calls (s:={s with decoded:=0}) (E:=E) h1 h3 hgl (by omega) (load_snap h7.1) a1 (a2.1.dec 0) ⟨rfl,rfl⟩ rfl).mono ?_;rintro x w' ⟨sb,mv,sv,L',n,rfl,b1,b2,b3,b4⟩;refine⟨b2.mono h2,.inl ⟨sb,_,_,rfl,⟨L',mv,sv,b1,fun i hi=> ?_,fun i hi=>h5 i (η b2.size hi),(a2.dec 0).rd n,((h8.like a3 (by omega)).dec 0).rd n⟩,rfl,rfl⟩⟩;rcases b4 i hi with h|h
  ·exact h2 i h
  ·exact h5 i h
 ·refine(stoOpen_fail s.stride s.segEv 3 d1 w f m d L h1 h3 hgl (by omega) (load_snap h7.1) hcf.1 hcf.2 a1 (by decide)).mono ?_;rintro x w' ⟨rfl,L',b1,b2,b3⟩;refine⟨b2.mono h2,.inr ⟨rfl,d1,a2,L',b1,fun i hi=> ?_,h3.turned b2 (fun hc=>hgl.2 _ (by decide) hc) h3.lt,fun i hi=>h5 i (η b2.size hi),η h6 b2.size,F6.gone h7 h8 a3 a4 (by omega) ?_ (by have:=h8.len;omega) (μ _)⟩⟩
  ·rcases b3 i hi with h|h
   ·exact h2 i h
   ·exact h5 i h
  ·rw [a5];obtain⟨ho,G,g,bs,c1,rfl,c2⟩:=h7;exact⟨c1.lost ho.floor c2,Near.refl _ _⟩
theorem Ou.down (h:Ou P w f m b d s E S k):Calls prog 26 #[.pointer (some ⟨f,0,none⟩)] w fun e w'=>e= .returned (.bool false)∧w=w':=by
 obtain⟨L,mv,sv,h1,h2,h3,h4,h5⟩:=h;have:=fsDown_any w f m d L h1.fs;rw [h4.1.up] at this;exact this
theorem J7.down (h:J7 P w f m d stride E S k) (hd:d.down=true):Calls prog 26 #[.pointer (some ⟨f,0,none⟩)] w fun e w'=>e= .returned (.bool true)∧w=w':=by
 obtain⟨L,h1,_⟩:=h;have:=fsDown_any w f m d L h1;rw [hd] at this;exact this
def BackF (P:Nat→Prop) (w:World) (f m:Nat) (d:Af) (stride:Nat) (E:List (List UInt8)) (S k:Nat) (ks:List Int):Prop:=
 ∃ L,Bv w f m {d with files:=restF d.files ks,down:=false,fuse:=0} L∧(∀ i,foot f m L i→P i)∧Bh w∧(∀ i,w.heap.size≤i→P i)∧4≤w.heap.size∧Gone d stride E S k
theorem atRestart {ks:List Int} {kv:Value} (h:J7 P w f m d stride E S k) (hk:KpIn (fun i=> ¬ P i) w kv ks) (hG: ∀ i,i<4→ ¬ P i):
  Calls prog 29 #[.pointer (some ⟨f,0,none⟩),kv] w fun e w'=>e= .returned (.tuple #[])∧BackF P w' f m d stride E S k ks∧Ab P w w':=by
 obtain⟨L,h1,h2,h3,h4,h5,h6⟩:=h;obtain⟨oa,cap,e1,e2,e3,e4⟩:=hk;refine(restart_any w f m d L h1 ks kv ⟨oa,cap,e1,e2,e3,fun i x hx=>by obtain⟨b,off,c1,c2,c3⟩:=e4 i x hx;exact⟨b,off,c1,fun hc=>c2 (h2 _ hc),c3⟩⟩).mono ?_;rintro x w' ⟨rfl,L',b1,b2,b3⟩;refine⟨rfl,⟨L',b1,fun i hi=> ?_,h3.turned b2 (fun hc=>hG _ (by decide) (h2 _ hc)) h3.lt,fun i hi=>h4 i (η b2.size hi),η h5 b2.size,h6⟩,b2.mono h2⟩;rcases b3 i hi with h|h
 ·exact h2 i h
 ·exact h4 i h
theorem atBack {ks:List Int}  (h:BackF P w f m d stride E S k ks) (hk:k≤1000) (hc:1≤segEv∧segEv≤512) (hG: ∀ i,i<4→ ¬ P i):
  Calls prog 9 #[.pointer (some ⟨f,0,none⟩),.agg #[Vi Vk (stride:Int),Vi Vk (segEv:Int)]] w fun x w'=> ∃ b d1 s j,x= .returned (.tuple #[.pointer (some ⟨b,0,none⟩),Vi Vk 0])∧OutS P w w' f m b d1 s (E.take j) (k+30)∧Big d1 s (k+1)∧S≤j∧j≤E.length:=by
 obtain⟨L,h1,h2,h3,h5,h6,h7⟩:=h;obtain⟨j,d1,s,p,a1,a2,a3,a4,⟨rfl,rfl,a7⟩,a8,a9,a10⟩:=h7.open ks hc;have hst:=h7.steps;refine(open_calls (s:=s) (E:=E.take j) h1 h3 ⟨h6,fun i hi hc=>hG i hi (h2 i hc)⟩ (by show d.steps≤_;omega) a8 a9 a3.ok a10 a7).mono ?_;rintro x w' ⟨sb,mv,sv,L',n,rfl,b1,b2,b3,b4⟩;refine⟨sb,_,s,j,rfl,⟨⟨L',mv,sv,b1,fun i hi=> ?_,fun i hi=>h5 i (η b2.size hi),a3.rd n⟩,b2.mono h2⟩,⟨a4.room,a4.used,a4.len,a4.segs⟩,a1,a2⟩;rcases b4 i hi with h|h
 ·exact h2 i h
 ·exact h5 i h
end
def OpRow (w:World) (v:Value) (ops:List OpS):Prop:=
 ∃ oa cap,v= .slice oa ops.length cap∧ops.length≤9223372036854775807∧ ∀ (i:Nat) o,ops[i]? =some o→OpOk o∧ ∃ b off rv,oa=some ⟨b,off,none⟩∧w.rangeAt b (off+i*16) (Lb o rv).toList∧B7 w rv o.raw
theorem oppInfo:(prog.info? 41).map (·.size)=some 16:=by kernel_rfl
section
open Go.RowKit Go.ChangeShapes Go.WideShapes
theorem bRow_ofF (h:Row 1 1 (RInt .u8) w v zs):B7 w v (zs.map fun z=>UInt8.ofNat z.toNat)∧zs.length≤140737488355328:=by
 obtain⟨oa,cap,rfl,h1,h2,hr,h3⟩:=h;have hw: ∀ z∈zs,(Lit.int .u8 z).wf=true:=fun z hzm=>by
  obtain⟨i,hi,he⟩:=List.getElem_of_mem hzm;obtain⟨b,off,_,h5⟩:=h3 (by rintro rfl;simp at hi);obtain⟨cs,_,_,hR⟩:=h5 i z (by rw [Θ hi,he]);exact hR.2
 refine⟨⟨oa,cap,by rw [List.length_map],by simpa using h1,fun hn=> ?_⟩,by unfold reachBytes at hr;omega⟩;obtain⟨b,off,h4,h5⟩:=h3 (by rintro rfl;exact hn rfl);refine⟨b,off,h4,fun i x hx=> ?_⟩;rw [List.getElem?_map] at hx;obtain⟨z,hz1,rfl⟩:=Option.map_eq_some_iff.1 hx;obtain⟨cs,_,hcs,hR⟩:=h5 i z hz1;have:=hcs 0 (.int .u8 z) (by rw [hR.1];rfl);rw [u8_of (hw z (List.mem_of_getElem? hz1))];simpa using this
end
section
open Go.RowKit Go.ChangeShapes Go.WideShapes
theorem i64_wf {n:Int} (h:(Lit.int .i64 n).wf=true):I64 n:=by
 simp [Lit.wf,show IntKind.i64.max=9223372036854775807 from by decide,show IntKind.i64.min= -9223372036854775808 from by decide] at h;exact⟨by omega,by omega⟩
def REvF (_:World) (cs:List Value) (e:Ev):Prop:=cs=(A8 e).toList∧Lj 281474976710656 e
theorem opensF_Event0:N8 prog 38 10 (In 1 (RInt .i64) (In 1 (RInt .i64) (In 1 (RInt .i64) (In 1 (RInt .i64) (In 1 (RInt .i64) (In 1 (RInt .i64) (In 1 (RInt .i64) (In 1 RStr (In 1 (RInt .i64) (In 1 RStr RNil)))))))))):=
 Pk underlying38 (by kernel_rfl) (Cp rfl (by kernel_rfl) (El underlying36) (Cp rfl (by kernel_rfl) (El underlying3) (Cp rfl (by kernel_rfl) (El underlying3) (Cp rfl (by kernel_rfl) (El underlying3) (Cp rfl (by kernel_rfl) (El underlying3) (Cp rfl (by kernel_rfl) (El underlying3) (Cp rfl (by kernel_rfl) (El underlying3) (Cp rfl (by kernel_rfl) (opens_str underlying9) (Cp rfl (by kernel_rfl) (El underlying3) (Cp rfl (by kernel_rfl) (opens_str underlying9) opens_nil))))))))))
theorem opensF_Event:N8 prog 38 10 REvF:=by
 intro H enc W fuel cs x hx hz;obtain⟨hl,⟨k0,k1,k2,k3,k4,k5,k6,k7,k8,k9,_⟩,h0,h1,h2,h3,h4,h5,h6,h7,h8,h9,_⟩:=opensF_Event0 enc W fuel cs x hx hz;refine⟨hl,⟨k0,k1,k2,k3,k4,k5,k6,k7,k8,k9⟩,?_,⟨i64_wf h0.2,i64_wf h1.2,i64_wf h2.2,i64_wf h3.2,i64_wf h4.2,i64_wf h5.2,i64_wf h6.2,i64_wf h8.2,η h7.2 (by decide),η h9.2 (by decide)⟩⟩
 match cs,hl with
 | [c0,c1,c2,c3,c4,c5,c6,c7,c8,c9],_=>
  have e0:=h0.1;have e1:=h1.1;have e2:=h2.1;have e3:=h3.1;have e4:=h4.1;have e5:=h5.1;have e6:=h6.1;have e7:=h7.1;have e8:=h8.1;have e9:=h9.1;simp at e0 e1 e2 e3 e4 e5 e6 e7 e8 e9;simp [A8,e0,e1,e2,e3,e4,e5,e6,e7,e8,e9]
theorem opensF_Config:N8 prog 24 2 (In 1 (RInt .i64) (In 1 (RInt .i64) RNil)):=
 Pk underlying24 (by kernel_rfl) (Cp rfl (by kernel_rfl) (El underlying3) (Cp rfl (by kernel_rfl) (El underlying3) opens_nil))
def RdCfg (_:World) (v:Value) (a:Int×Int):Prop:=v= .agg #[Vi Vk a.1,Vi Vk a.2]
theorem open_api_Config {H:Type} {enc:TypeId×Value→H} {W:World} {base:Nat} {v:Value} {d:DataW H} {p:List MemPlace}
  (hok:Value.okWide prog W .any base 24 v) (h:DataW.Trod enc prog W 0 (fun _=>true) true 24 v d p) (hz:(d.weights prog 24).all (· ≤reachBytes)=true):
  ∃ a,RdCfg W v a:=by
 obtain⟨cs,⟨a,c,_⟩,rfl,hl,h1,h2,_⟩:=open_struct_by (P:=prog) opensF_Config underlying24 hok h hz;refine⟨(a,c),?_⟩;obtain⟨l⟩:=cs
 match l,hl with
 | [x,y],_=>
  have e1:=h1.1;have e2:=h2.1;simp at e1 e2;simp [RdCfg,e1,e2]
def ROpF (w:World) (cs:List Value) (o:OpS):Prop:= ∃ rv,cs=(Lb o rv).toList∧B7 w rv o.raw∧OpOk o
theorem opensF_Op:N8 prog 41 16 ROpF:=by
 intro H enc W fuel cs x hx hz
 have ho:N8 prog 41 16 (In 1 (RInt .i64) (In 1 (RInt .i64) (In 10 REvF (In 1 (RRow 1 1 (RInt .u8)) (In 1 (RInt .i64) (In 2 (In 1 (RInt .i64) (In 1 (RInt .i64) RNil)) RNil)))))):=
  Pk underlying41 (by kernel_rfl) (Cp rfl (by kernel_rfl) (El underlying3) (Cp rfl (by kernel_rfl) (El underlying3) (Cp rfl (by kernel_rfl) opensF_Event
   (Cp rfl (by kernel_rfl) (opens_slice underlying39 (by kernel_rfl) (by kernel_rfl) (by decide) (El (k:= .u8) underlying5)) (Cp rfl (by kernel_rfl) (El underlying3) (Cp rfl (by kernel_rfl) opensF_Config opens_nil))))))
 obtain⟨hl,⟨k,v,e,zs,n,⟨st,se,_⟩,_⟩,h0,h1,h2,h3,h4,⟨h5,h6,_⟩,_⟩:=ho enc W fuel cs x hx hz;obtain⟨rv,e3,r3⟩:=h3;obtain⟨a1,a2⟩:=bRow_ofF r3;refine⟨hl,⟨k,v,e,zs.map fun z=>UInt8.ofNat z.toNat,n,st,se⟩,rv,?_,a1,h2.2,by rw [List.length_map];exact a2⟩
 match cs,hl with
 | [c0,c1,c2,c3,c4,c5,c6,c7,c8,c9,c10,c11,c12,c13,c14,c15],_=>
  have e0:=h0.1;have e1:=h1.1;have e2:=h2.1;have e4:=h4.1;have e5:=h5.1;have e6:=h6.1;simp [A8] at e0 e1 e2 e3 e4 e5 e6;simp [Lb,e0,e1,e2,e3,e4,e5,e6]
structure RdOps (w:World) (v:Value) (ops:List OpS):Prop where
 row:OpRow w v ops
theorem open_sl_daybookref19_Op {H:Type} {enc:TypeId×Value→H}  {d:DataW H} {p:List MemPlace}
  (hok:Value.okWide prog W .any base 22 v) (h:DataW.Trod enc prog W 0 (fun _=>true) true 22 v d p) (hz:(d.weights prog 22).all (· ≤reachBytes)=true):
  ∃ a,RdOps W v a:=by
 obtain⟨rs,oa,cap,rfl,h1,h2,hr,h3⟩:=open_slice_by (P:=prog) (opens_slice (bytes:=160) underlying22 (by kernel_rfl) (by kernel_rfl) (by decide) opensF_Op) underlying22 hok h hz;refine⟨rs,⟨oa,cap,rfl,by unfold maxLen at h2;omega,fun i o hi=> ?_⟩⟩;obtain⟨b,off,h4,h5⟩:=h3 (by rintro rfl;simp at hi);obtain⟨cs,_,hc,rv,hR,hB,hO⟩:=h5 i o hi;exact⟨hO,b,off,rv,h4,fun j u hj=>hc j u (by rw [hR];exact hj),hB⟩
theorem nib_of2 {l:List (String×DataW Unit)} {d2:DataW Unit} (hl:l=[("daybook/crc.nibbles",Rows.laid_daybook_crc_nibbles),("daybook/upcast.taxes",d2)]) (h:laidMet prog l w):Bh w:=by
 subst hl;exact Lib.tabIs_of_head (g:=1) (t:=308) (e:=181) (by kernel_rfl) (by kernel_rfl) underlying308 underlying181 (by kernel_rfl) (by kernel_rfl) h
theorem tax_of2 {l:List (String×DataW Unit)} {d1:DataW Unit} (hl:l=[("daybook/crc.nibbles",d1),("daybook/upcast.taxes",Rows.laid_daybook_upcast_taxes)]) (h:laidMet prog l w):Dn w:=by
 subst hl;exact Lib.tabIs_of_head (g:=0) (t:=241) (e:=3) (by kernel_rfl) (by kernel_rfl) underlying241 underlying3 (by kernel_rfl) (by kernel_rfl) h.tail
theorem glob_of (h:w.ShapedOpen prog):4≤w.heap.size:=by
 obtain⟨⟨z,t⟩,hz⟩:=Option.isSome_iff_exists.1 (show ((((begin prog (fun _ _=>0) default).world).heap[4 - 1]?).bind Obj.row?).isSome=true by kernel_rfl);obtain⟨cs,hh,_⟩:=h.1 (4 - 1) z t (ψ (by kernel_rfl)) hz;have:=(δ.1 hh).1;omega
end
section
open Go.RowKit Go.ChangeShapes Go.WideShapes
structure RdInts (w:World) (v:Value) (zs:List Int):Prop where
 row:zs.length≤17592186044416∧((v= .slice none 0 0∧zs=[])∨ ∃ (a:Addr) (cap:Nat),v= .slice (some a) zs.length cap∧ ∀ (i:Nat) x,zs[i]? =some x→w.cell? (a.add i)=some (Vi Vk x))
theorem RdInts.below (h:RdInts w v zs) (hb:Below w.heap.size w w'):RdInts w' v zs:=by
 refine⟨h.row.1,?_⟩;rcases h.row.2 with h|⟨a,cap,h1,h3⟩
 ·exact .inl h
 ·exact .inr ⟨a,cap,h1,fun i x hx=>cell_later hb (h3 i x hx)⟩
theorem open_sl_ints {H:Type} {enc:TypeId×Value→H}  {d:DataW H} {p:List MemPlace}
  (hok:Value.okWide prog W .any base 63 v) (h:DataW.Trod enc prog W 0 (fun _=>true) true 63 v d p) (hz:(d.weights prog 63).all (· ≤reachBytes)=true): ∃ a,RdInts W v a:=by
 obtain⟨zs,oa,cap,rfl,h1,h2,hr,h3⟩:=open_slice_by (P:=prog) (opens_slice (bytes:=8) underlying63 (by kernel_rfl) (by kernel_rfl) (by decide) (El (k:= .i64) underlying3)) underlying63 hok h hz;refine⟨zs,by unfold reachBytes at hr;omega,?_⟩;obtain⟨mm,hm⟩:=h;rcases DataW.trod_slice underlying63 hm with⟨e1,_⟩|⟨a,len,cap',_,_,_,_,e1,_⟩
 ·left;simp only [Value.cells,List.cons.injEq,Value.slice.injEq,and_true] at e1;obtain⟨rfl,e2,rfl⟩:=e1;have:zs=[]:=List.length_eq_zero_iff.1 e2;subst this;exact⟨rfl,rfl⟩
 ·right;simp only [Value.cells,List.cons.injEq,Value.slice.injEq,and_true] at e1;obtain⟨rfl,_,_⟩:=e1;refine⟨a,cap,rfl,fun i y hy=> ?_⟩;obtain⟨b,off,e,hc⟩:=h3 (by rintro rfl;simp at hy);simp only [Option.some.injEq] at e;subst e;obtain⟨cs',_,hcs,hR⟩:=hc i y hy;have:=hcs 0 (Vi Vk y) (by rw [hR.1];rfl);rw [Addr.add];split
  ·rename_i h;subst h;simpa using this
  ·simpa using this
theorem kpIn_row (h:w.ownsRow B 3 1 v zs.length (zs.map fun z=>Value.int .i64 z)) (hA: ∀ b,B≤b→b<w.heap.size→A b):KpIn A w v zs:=by
 obtain⟨oa,cap,rfl,h1,h2⟩:=Aj h;refine⟨oa,cap,rfl,h1,by unfold maxLen at h2;omega,fun i x hx=> ?_⟩;obtain⟨g,cap',e,_,_,_,_,hc⟩:=Dr h (by have:=(List.getElem?_eq_some_iff.1 hx).1;omega);simp only [Value.slice.injEq] at e;obtain⟨rfl,_,_⟩:=e;obtain⟨a1,a2⟩:=World.ownsRow.lt h g rfl;exact⟨g,0,rfl,hA g a1 a2,by rw [Nat.zero_add];exact hc i _ (by rw [List.getElem?_map,hx];rfl)⟩
theorem atFuse {P:Nat→Prop}  {b q:Nat} {n:Int} (h:AtS P w f m b d ⟨0,22,[],p,q,Ap,false,0⟩ [] 0) (hc1:1≤p∧p≤64) (hc2:1≤q∧q≤512) (hf:d.files=Gx []) (hr:d.room=16777216) (hn:n≤9223372036854775807):
  Calls prog 25 #[.pointer (some ⟨f,0,none⟩),Vi Vk n] w fun x w'=>x= .returned (.tuple #[])∧ ∃ d',Ou P w' f m b d' ⟨0,22,[],p,q,Ap,false,0⟩ [] 0 0∧Ab P w w':=by
 obtain⟨L,mv,sv,h1,h2,h3,h4⟩:=h;have hst:=h4.steps;refine(fuse_any w f m d L h1.fs n hn).mono ?_;rintro x w' ⟨rfl,hp⟩;have hok:A0 (Bi d (opFuse n)).1:=by obtain⟨L',b1,_⟩:=hp;exact b1.ok
 obtain⟨L',a1,a2,a3⟩:=h1.disk hp;rw [doD_fuse] at a1 hok;obtain⟨c1,c2⟩:=new_live hc1 hc2 hok h4.ok.up hf hr (by show d.steps≤_;omega);refine⟨rfl,_,⟨L',mv,sv,a1,fun i hi=> ?_,fun i hi=>h3 i (η a2.size hi),c1,c2⟩,a2.mono h2⟩;rcases a3 i hi with h|h
 ·exact h2 i h
 ·exact h3 i h
structure LvI (w2:World) (f m p q i S:Nat) (X:List (List UInt8)) (sp kv:Value) (wr:World):Prop where
 bl:Below w2.heap.size w2 wr
 row:Nc wr w2.heap.size kv (X.map upV)
 len:X.length≤2*i
 st:(∃ b d s,sp= .pointer (some ⟨b,0,none⟩)∧Ou (fun j=>w2.heap.size≤j∧kv.ownBlock≠some j) wr f m b d s X S (2*i)∧s.stride=p∧s.segEv=q)∨
  (∃ d E',d.down=true∧E' <+: X∧J7 (fun j=>w2.heap.size≤j∧kv.ownBlock≠some j) wr f m d p E' S (2*i))
section
variable {w2 wr w7 w8 wn : World} {f m p q i S S' b k : Nat} {X E' : List (List UInt8)} {sp sp' kv kn : Value} {d : Af} {s : C6} {raw : List UInt8}
theorem LvI.off (h:LvI w2 f m p q i S X sp kv wr): ∃ d E',E' <+: X∧J7 (fun j=>w2.heap.size≤j∧kv.ownBlock≠some j) wr f m d p E' S (2*i):=by
 rcases h.st with⟨b,d,s,_,h1,rfl,_⟩|⟨d,E',_,h1,h2⟩
 ·exact⟨d,X,List.prefix_refl _,h1.toOff⟩
 ·exact⟨d,E',h1,h2⟩
theorem LvI.lo (h:LvI w2 f m p q i S X sp kv wr) (hb:Below wr.heap.size wr w7) (ht:Ab (fun j=>(w2.heap.size≤j∧kv.ownBlock≠some j)∧(j<wr.heap.size∨w7.heap.size≤j)) w7 w8):Below w2.heap.size w2 w8∧Nc w8 w2.heap.size kv (X.map upV):=
 ⟨(h.bl.trans (hb.mono h.bl.size)).trans (Ie (ht.mono fun _ hj=>hj.1.1) (η h.bl.size hb.size)),evOwn_keep (A2 h.row hb) ht fun _ hj hc=>hc.1.2 hj⟩
theorem LvI.live (h:LvI w2 f m p q i S X sp kv wr) (hb:Below wr.heap.size wr w7) (ht:Ab (fun j=>(w2.heap.size≤j∧kv.ownBlock≠some j)∧(j<wr.heap.size∨w7.heap.size≤j)) w7 w8)
  (hA:Ou (fun j=>(w2.heap.size≤j∧kv.ownBlock≠some j)∧(j<wr.heap.size∨w7.heap.size≤j)) w8 f m b d s X S' k) (hk:k≤2*(i+1)) (hc:s.stride=p∧s.segEv=q):LvI w2 f m p q (i+1) S' X (.pointer (some ⟨b,0,none⟩)) kv w8:=by
 obtain⟨a1,a2⟩:=h.lo hb ht;have:=h.len;exact⟨a1,a2,by omega,.inl ⟨b,d,s,rfl,(hA.mono fun _ hj=>hj.1).up hk,hc⟩⟩
theorem LvI.dead (h:LvI w2 f m p q i S X sp kv wr) (hb:Below wr.heap.size wr w7) (ht:Ab (fun j=>(w2.heap.size≤j∧kv.ownBlock≠some j)∧(j<wr.heap.size∨w7.heap.size≤j)) w7 w8)
  (hA:J7 (fun j=>(w2.heap.size≤j∧kv.ownBlock≠some j)∧(j<wr.heap.size∨w7.heap.size≤j)) w8 f m d p E' S' k) (hk:k≤2*(i+1)) (hd:d.down=true) (hE:E' <+: X):LvI w2 f m p q (i+1) S' X sp' kv w8:=by
 obtain⟨a1,a2⟩:=h.lo hb ht;have:=h.len;exact⟨a1,a2,by omega,.inr ⟨d,E',hd,hE,(hA.mono fun _ hj=>hj.1).up hk⟩⟩
structure KvN (w2 w8 wn:World) (kv kn:Value) (Y:List (List UInt8)):Prop where
 row:Nc wn w2.heap.size kn (Y.map upV)
 trn:Ab (fun j=>kv.ownBlock=some j) w8 wn
 new: ∀ j,kn.ownBlock=some j→kv.ownBlock=some j∨w8.heap.size≤j
theorem LvI.lost (h:LvI w2 f m p q i S X sp kv wr) (hb:Below wr.heap.size wr w7) (ht:Ab (fun j=>(w2.heap.size≤j∧kv.ownBlock≠some j)∧(j<wr.heap.size∨w7.heap.size≤j)) w7 w8) (hN:KvN w2 w8 wn kv kn (X++[raw])) (hG:4≤w2.heap.size)
  (hA:(∃ b d s,sp'= .pointer (some ⟨b,0,none⟩)∧Ou (fun j=>(w2.heap.size≤j∧kv.ownBlock≠some j)∧(j<wr.heap.size∨w7.heap.size≤j)) w8 f m b d s (X++[raw]) S' (2*i+2)∧s.stride=p∧s.segEv=q)∨
   ∃ d E',d.down=true∧E' <+: X++[raw]∧J7 (fun j=>(w2.heap.size≤j∧kv.ownBlock≠some j)∧(j<wr.heap.size∨w7.heap.size≤j)) w8 f m d p E' S' (2*i+2)):LvI w2 f m p q (i+1) S' (X++[raw]) sp' kn wn:=by
 obtain⟨a1,a2⟩:=h.lo hb ht;have hl:=h.len;have hlt:=World.ownsRow.lt a2;have hP: ∀ j,((((w2.heap.size≤j∧kv.ownBlock≠some j)∧(j<wr.heap.size∨w7.heap.size≤j)))∧(j<w8.heap.size∨wn.heap.size≤j))→w2.heap.size≤j∧kn.ownBlock≠some j:=fun j hj=>⟨hj.1.1.1,fun hc=>by
  rcases hN.new j hc with h|h
  ·exact hj.1.1.2 h
  ·have h1:=(World.ownsRow.lt hN.row j hc).2;have h2:=hj.2;omega⟩
 refine⟨Al a1 hN.trn (fun j hj=>(hlt j hj).1) a1.size,hN.row,by rw [ζ,List.length_singleton];omega,?_⟩;rcases hA with⟨b,d,s,h1,h2,h3⟩|⟨d,E',h1,h2,h3⟩
 ·exact .inl ⟨b,d,s,h1,((h2.sep hN.trn fun j hj=>⟨evOwn_no a2 j hj,fun hc=>hc.1.2 hj,η hG (hlt j hj).1⟩).mono hP).up (by omega),h3⟩
 ·exact .inr ⟨d,E',h1,h2,((h3.sep hN.trn fun j hj=>⟨fun hc=>hc.1.2 hj,η hG (hlt j hj).1⟩).mono hP).up (by omega)⟩
theorem LvI.start {q:Nat} {w3 w5:World} (hb:Below w2.heap.size w2 w3) (hA:Ou (fun j=>w2.heap.size≤j∧(Value.slice (some ⟨w3.heap.size,0,none⟩) 0 0).ownBlock≠some j) w5 f m b d s [] 0 0) (ht:Ab (fun j=>w2.heap.size≤j∧(Value.slice (some ⟨w3.heap.size,0,none⟩) 0 0).ownBlock≠some j) (w3.alloc (.cells #[] 38)) w5) (hc:s.stride=p∧s.segEv=q):
  LvI w2 f m p q 0 0 [] (.pointer (some ⟨b,0,none⟩)) (.slice (some ⟨w3.heap.size,0,none⟩) 0 0) w5:=by
 have hbn:=Aa w3 (.cells #[] 38);have hb4:Below w2.heap.size w2 (w3.alloc (.cells #[] 38)):=hb.trans (hbn.mono hb.size);exact⟨hb4.trans (Ie (ht.mono fun _ hj=>hj.1) hb4.size),evOwn_keep (show Nc (w3.alloc (.cells #[] 38)) w2.heap.size _ ([]:List Ev) from own_fresh w3 _ 10 _ hb.size) ht fun _ hj hc=>hc.2 hj,μ _,.inl ⟨b,d,s,rfl,hA,hc⟩⟩
end
end
theorem refCheck_rest (v:Int) (e:Ev) (w:World) (h0:1≤v) (h1:v≤5) (h2:1≤e.kind) (h3:e.kind≤Dw v) (hw:e.who.length≤16) (hn:e.note.length≤120):
  Calls prog 20 #[Vi Vk v,Ga e] w (Hf (Am v e) w):=by
 have hf:=Qh (chkRest (e:=e) (show ¬ (v<1∨5<v) by omega) (show ¬ (e.kind<1∨Dw v<e.kind) by omega) (show ¬ (16<e.who.length∨120<e.note.length) by omega));have hfit:=Qh (fits_iff v e h0 h1 h2 h3);unfold Ga;have d1:decide (e.kind<1)=false:=by simpa using h2
 have d2:decide (Dw v<e.kind)=false:=by simpa using h3
 have HL:=Qh (fun W=>refLast_any v W h0 h1);have HH:=Qh (fun W=>refHas_any v W h0 h1);have HNm:=Qh (refNums_any e);go_enter func20,ntmps20;go_wp2;have hE:=Mx w e 38;have hb1:Below w.heap.size w (w.alloc (.cells #[Vi Vk e.kind,Vi Vk e.order,Vi Vk e.item,Vi Vk e.qty,Vi Vk e.price,Vi Vk e.cur,Vi Vk e.tax,.string ⟨e.who.toArray⟩,Vi Vk e.stamp,.string ⟨e.note.toArray⟩] 38)):=(χ _ _).alloc (μ _) _;have hsz0:w.heap.size<(w.alloc (.cells #[Vi Vk e.kind,Vi Vk e.order,Vi Vk e.item,Vi Vk e.qty,Vi Vk e.price,Vi Vk e.cur,Vi Vk e.tax,.string ⟨e.who.toArray⟩,Vi Vk e.stamp,.string ⟨e.note.toArray⟩] 38)).heap.size:=by simp
 generalize w.alloc (.cells #[Vi Vk e.kind,Vi Vk e.order,Vi Vk e.item,Vi Vk e.qty,Vi Vk e.price,Vi Vk e.cur,Vi Vk e.tax,.string ⟨e.who.toArray⟩,Vi Vk e.stamp,.string ⟨e.note.toArray⟩] 38)=w1 at*;have HE:=Qh hE;have HB1:=Qh hb1;have c0:=hE.c0;clear hE hb1
 go_region_held3 (fun w'=>w'.cell? ⟨w.heap.size,0,none⟩=some (Vi Vk e.kind)) (first|assumption|exact cell_later hb2 c0|go_keep)
  (first|(go_at_call 48;refine(HL.out _).mono ?_;rintro x w2 ⟨rfl,hb2⟩))
 rename_i hHeld;have HB2:=Qs (Below w.heap.size w w2) (Below.next HB1.out (Below.next ((χ _ _).drew) hb2));have HE2:=Qh (HE.out.below (Below.next ((χ _ _).drew) hb2));have hsz2:w.heap.size<w2.heap.size:=by have:=(Below.next ((χ _ w1).drew) hb2).size;omega
 clear hb2 c0 HB1 HE hsz0;obtain⟨c0,c1,c2,c3,c4,c5,c6,c7,c8,c9⟩:=HE2.out;by_cases hv3:v<3;by_cases hv1:v=1
 focus
  have dv1:(v==1)=true:=by simpa using hv1
  have hlw:=Qs (Nb v=[0,1,1,0,-10000,0,0,0,0,0,0]) (by unfold Nb;rw [κ hv3]);have hhg:=Qs (Ii v=[0,10,1099511627776,65535,10000,1000000,3,5000,0,1099511627776,0]) (by unfold Ii;rw [κ hv1]);clear hv1;go_wp2_with fail;refine(HNm.out _).mono ?_;rintro x w3 ⟨bn,rfl,hbn,hNums,hb3⟩;have hbA:=Below.next ((χ _ w2).alloc (μ _) (.cells #[Vi Vk 0,Vi Vk 1,Vi Vk 1,Vi Vk 0,Vi Vk (-10000),Vi Vk 0,Vi Vk 0,Vi Vk 0,Vi Vk 0,Vi Vk 0,Vi Vk 0] 3)) (Below.next (((χ _ _).alloc (μ _) (.cells #[Vi Vk 0,Vi Vk 10,Vi Vk 1099511627776,Vi Vk 65535,Vi Vk 10000,Vi Vk 1000000,Vi Vk 3,Vi Vk 5000,Vi Vk 0,Vi Vk 1099511627776,Vi Vk 0] 3))) hb3);have HLow:=Qs (F5 w3 w2.heap.size (Nb v)) (F5.below (F5.below (Kl rfl (by rw [hlw.out];rfl)) (((χ _ _).alloc (μ _) _))) hb3);have HHigh:=Qs (F5 w3 (w2.heap.size+1) (Ii v)) (F5.below (Kl (by simp) (by rw [hhg.out];rfl)) hb3);have HNums:=Qh hNums;have HE3:=Qh (HE2.out.below hbA);have HB3:=Qh (Below.next HB2.out hbA);clear hbA hb3 hNums hbn hHeld HE2 HB2 HNm HL hlw hhg c0 c1 c2 c3 c4 c5 c6 c7 c8 c9;obtain⟨bl,hbl⟩: ∃ bl,bl=w2.heap.size:=⟨_,rfl⟩;rw [←hbl] at HLow HHigh ⊢;clear hbl hsz2;go_wp2_with fail
 rotate_left
 focus
  have dv1:(v==1)=false:=by simpa using hv1
  have hlw:=Qs (Nb v=[0,1,1,0,-10000,0,0,0,0,0,0]) (by unfold Nb;rw [κ hv3]);have hhg:=Qs (Ii v=[0,10,1099511627776,65535,10000,100000000,3,5000,0,1099511627776,0]) (by unfold Ii;rw [γ hv1]);clear hv1;go_wp2_with fail;refine(HNm.out _).mono ?_;rintro x w3 ⟨bn,rfl,hbn,hNums,hb3⟩;have hbA:=Below.next ((χ _ w2).alloc (μ _) (.cells #[Vi Vk 0,Vi Vk 1,Vi Vk 1,Vi Vk 0,Vi Vk (-10000),Vi Vk 0,Vi Vk 0,Vi Vk 0,Vi Vk 0,Vi Vk 0,Vi Vk 0] 3)) (Below.next (((χ _ _).alloc (μ _) (.cells #[Vi Vk 0,Vi Vk 10,Vi Vk 1099511627776,Vi Vk 65535,Vi Vk 10000,Vi Vk 100000000,Vi Vk 3,Vi Vk 5000,Vi Vk 0,Vi Vk 1099511627776,Vi Vk 0] 3))) hb3);have HLow:=Qs (F5 w3 w2.heap.size (Nb v)) (F5.below (F5.below (Kl rfl (by rw [hlw.out];rfl)) (((χ _ _).alloc (μ _) _))) hb3);have HHigh:=Qs (F5 w3 (w2.heap.size+1) (Ii v)) (F5.below (Kl (by simp) (by rw [hhg.out];rfl)) hb3);have HNums:=Qh hNums;have HE3:=Qh (HE2.out.below hbA);have HB3:=Qh (Below.next HB2.out hbA);clear hbA hb3 hNums hbn hHeld HE2 HB2 HNm HL hlw hhg c0 c1 c2 c3 c4 c5 c6 c7 c8 c9;obtain⟨bl,hbl⟩: ∃ bl,bl=w2.heap.size:=⟨_,rfl⟩;rw [←hbl] at HLow HHigh ⊢;clear hbl hsz2;go_wp2_with fail
 rotate_left
 focus
  have dv1:(v==1)=false:=by simp;omega
  have hlw:=Qs (Nb v=[0,1,1,0,0,0,0,0,0,0,0]) (by unfold Nb;rw [γ hv3]);have hhg:=Qs (Ii v=[0,10,1099511627776,65535,10000,100000000,3,5000,0,1099511627776,0]) (by unfold Ii;rw [γ (by omega)]);go_wp2_with fail;refine(HNm.out _).mono ?_;rintro x w3 ⟨bn,rfl,hbn,hNums,hb3⟩;have hbA:=Below.next ((χ _ w2).alloc (μ _) (.cells #[Vi Vk 0,Vi Vk 1,Vi Vk 1,Vi Vk 0,Vi Vk 0,Vi Vk 0,Vi Vk 0,Vi Vk 0,Vi Vk 0,Vi Vk 0,Vi Vk 0] 3)) (Below.next (((χ _ _).alloc (μ _) (.cells #[Vi Vk 0,Vi Vk 10,Vi Vk 1099511627776,Vi Vk 65535,Vi Vk 10000,Vi Vk 100000000,Vi Vk 3,Vi Vk 5000,Vi Vk 0,Vi Vk 1099511627776,Vi Vk 0] 3))) hb3);have HLow:=Qs (F5 w3 w2.heap.size (Nb v)) (F5.below (F5.below (Kl rfl (by rw [hlw.out];rfl)) (((χ _ _).alloc (μ _) _))) hb3);have HHigh:=Qs (F5 w3 (w2.heap.size+1) (Ii v)) (F5.below (Kl (by simp) (by rw [hhg.out];rfl)) hb3);have HNums:=Qh hNums;have HE3:=Qh (HE2.out.below hbA);have HB3:=Qh (Below.next HB2.out hbA);clear hbA hb3 hNums hbn hHeld HE2 HB2 HNm HL hlw hhg c0 c1 c2 c3 c4 c5 c6 c7 c8 c9;obtain⟨bl,hbl⟩: ∃ bl,bl=w2.heap.size:=⟨_,rfl⟩;rw [←hbl] at HLow HHigh ⊢;clear hbl hsz2;go_wp2_with fail
 rotate_left
 all_goals
  go_loopw [8] (fun t wr=> ∃ k:Nat,1≤k∧k≤11∧t= Vi Vk k∧Hid (∀ j,1≤j→j<k→ ¬ N5 v e j)∧Below w3.heap.size w3 wr) (fun t _=>11 - (intOf t).toNat)
  case atStart=>exact⟨1,by omega,by omega,rfl,Qh (fun j h1 h2=>by omega),χ _ _⟩
  case round=>
   obtain⟨k,hk1,hk2,rfl,HT,hb⟩:=hrel;have HB:=Qh hb;clear hb;by_cases hk:k≤10
   ·obtain⟨N,hN⟩: ∃ N,N=(Lu e).getD k 0:=⟨_,rfl⟩;obtain⟨L,hL⟩: ∃ L,L=(Nb v).getD k 0:=⟨_,rfl⟩;obtain⟨H,hH⟩: ∃ H,H=(Ii v).getD k 0:=⟨_,rfl⟩;have hbad:Hid (N5 v e k↔hasOf v<k∧N≠0∨N<L∨H<N):=Qh (by rw [N5,←hN,←hL,←hH]);have gN:Hid (∀ W,Below w3.heap.size w3 W→W.cell? ⟨bn,k,none⟩=some (Vi Vk N)):=Qh fun W h=>cell_later h (HNums.out k N (by rw [hN,List.getD_eq_getElem?_getD,Θ (by show k<11;omega)];rfl));have gL:Hid (∀ W,Below w3.heap.size w3 W→W.cell? ⟨bl,k,none⟩=some (Vi Vk L)):=Qh fun W h=>cell_later h (HLow.out k L (by rw [hL,List.getD_eq_getElem?_getD,Θ (by show k<11;omega)];rfl));have gH:Hid (∀ W,Below w3.heap.size w3 W→W.cell? ⟨bl+1,k,none⟩=some (Vi Vk H)):=Qh fun W h=>cell_later h (HHigh.out k H (by rw [hH,List.getD_eq_getElem?_getD,Θ (by show k<11;omega)];rfl));have q1:(0:Int)≤(k:Int):=by omega
    have q2:(k:Int)<11:=by omega
    have hok:Hid (¬ N5 v e k→ ∀ j,1≤j→j<k+1→ ¬ N5 v e j):=Qh fun hb j h1 h2=>by
     by_cases hj:j=k
     ·subst hj;exact hb
     ·exact HT.out j h1 (by omega)
    have h32:Hid (N5 v e k→Am v e=32):=Qh fun hb=>by
     rw [hf.out,γ];intro hfit2;exact(hfit.out.1 hfit2).1 k hk1 hk hb
    clear hN hL hH;go_wp2_with fail;refine(HH.out _).mono ?_;rintro x w4 ⟨rfl,hb4⟩;have HB4:=Qh (Below.next HB.out hb4);have cN:=gN.out w4 HB4.out;have cL:=gL.out w4 HB4.out;have cH:=gH.out w4 HB4.out;clear hb4;by_cases hA:hasOf v<k∧N≠0
    ·have dA:=ξ hA.1;have dN:(N != 0)=true:=by rw [bne_iff_ne];exact hA.2
     have hfin:=Qh (h32.out (hbad.out.2 (.inl hA)));clear hA;go_wp2;go_ret;exact⟨by rw [hfin.out];rfl,Below.next HB3.out HB4.out⟩
    ·have HA:=Qh hA;by_cases hLt:N<L
     ·have dL:=ξ hLt;have hfin:=Qh (h32.out (hbad.out.2 (.inr (.inl hLt))));clear hA hLt;by_cases hB:hasOf v<k
      ·have dB:=ξ hB;have dN:(N != 0)=false:=by
        rw [bne_eq_false_iff_eq];exact Classical.byContradiction fun h=>HA.out ⟨hB,h⟩
       clear hB;go_wp2
       go_quiet (fail)
       go_wp2;go_ret;exact⟨by rw [hfin.out];rfl,Below.next HB3.out (Below.next HB4.out (Ac _ _))⟩
      ·have dB:=ρ hB;clear hB;go_wp2
       go_quiet (fail)
       go_wp2;go_ret;exact⟨by rw [hfin.out];rfl,Below.next HB3.out (Below.next HB4.out (Ac _ _))⟩
     ·have dL:=ρ hLt;by_cases hHt:H<N
      ·have dH:=ξ hHt;have hfin:=Qh (h32.out (hbad.out.2 (.inr (.inr hHt))));clear hA hLt hHt;by_cases hB:hasOf v<k
       ·have dB:=ξ hB;have dN:(N != 0)=false:=by
         rw [bne_eq_false_iff_eq];exact Classical.byContradiction fun h=>HA.out ⟨hB,h⟩
        clear hB;go_wp2
        go_quiet (fail)
        go_wp2;go_ret;exact⟨by rw [hfin.out];rfl,Below.next HB3.out (Below.next HB4.out (Ac _ _))⟩
       ·have dB:=ρ hB;clear hB;go_wp2
        go_quiet (fail)
        go_wp2;go_ret;exact⟨by rw [hfin.out];rfl,Below.next HB3.out (Below.next HB4.out (Ac _ _))⟩
      ·have dH:=ρ hHt;have hgo:=Qh (hok.out (fun h=>by
        rcases hbad.out.1 h with h|h|h
        ·exact hA h
        ·exact hLt h
        ·exact hHt h))
       clear hA hLt hHt;by_cases hB:hasOf v<k
       ·have dB:=ξ hB;have dN:(N != 0)=false:=by
         rw [bne_eq_false_iff_eq];exact Classical.byContradiction fun h=>HA.out ⟨hB,h⟩
        clear hB;go_wp2
        go_quiet (fail)
        go_wp2;go_roundw
        case rel=>exact⟨k+1,by omega,by omega,by go_num,hgo,Below.next HB4.out (Ac _ _)⟩
        case measure=>simp [intOf];omega
       ·have dB:=ρ hB;clear hB;go_wp2
        go_quiet (fail)
        go_wp2;go_roundw
        case rel=>exact⟨k+1,by omega,by omega,by go_num,hgo,Below.next HB4.out (Ac _ _)⟩
        case measure=>simp [intOf];omega
   ·obtain rfl:k=11:=by omega
    have hAll:=Qs (∀ j,1≤j→j≤10→ ¬ N5 v e j) (fun j h1 h2=>HT.out j h1 (by omega));have HBw:=Qh (Below.next HB3.out HB.out);have HEw:=Qh (HE3.out.below HB.out);clear HE3 HB3 HLow HHigh HNums HH HT HB;by_cases hv4:v<4
    ·have c7:=HEw.out.c7;have c9:=HEw.out.c9;have dv4:decide (v<4)=true:=by simp;omega
     have dv5:decide (v<5)=true:=by simp;omega
     by_cases hwho:e.who=[]
     ·by_cases hnote:e.note=[]
      ·have hfin:=Qs (Am v e=0) (by
        rw [hf.out,κ];exact hfit.out.2 ⟨hAll.out,by rintro(⟨_,h⟩|⟨_,h⟩);exact h hwho;exact h hnote,by rw [hwho];rfl⟩)
       have kn:(!e.note.isEmpty)=false:=by rw [hnote];rfl
       have kl:e.who.length≤0:=by rw [hwho];exact μ _
       have kn2:e.note.isEmpty=true:=by rw [hnote];rfl
       have kw2:e.who.isEmpty=true:=by rw [hwho];rfl
       clear hnote;go_wp2;refine wp_loop_rounds 1 ?_;rw [rounds_succ];go_wp2;go_ret;exact⟨by rw [hfin.out];rfl,HBw.out⟩
      ·have hfin:=Qs (Am v e=32) (by
        rw [hf.out,γ];intro h;exact(hfit.out.1 h).2.1 (.inr ⟨by omega,hnote⟩))
       have kn:(!e.note.isEmpty)=true:=by simpa using hnote
       have kn2:e.note.isEmpty=false:=by simpa using hnote
       clear hnote;go_wp2;go_ret;exact⟨by rw [hfin.out];rfl,HBw.out⟩
     ·have hfin:=Qs (Am v e=32) (by
       rw [hf.out,γ];intro h;exact(hfit.out.1 h).2.1 (.inl ⟨by omega,hwho⟩))
      go_wp2;go_ret;exact⟨by rw [hfin.out];rfl,HBw.out⟩
    ·first
     |exfalso;omega
     |have c7:=HEw.out.c7
      have c9:=HEw.out.c9;have dv4:decide (v<4)=false:=by simp;omega
      by_cases hbad:v<5∧e.note≠ []
      ·have hfin:=Qs (Am v e=32) (by
        rw [hf.out,γ];intro h;exact(hfit.out.1 h).2.1 (.inr hbad))
       have dv5:=ξ hbad.1;have kn:(!e.note.isEmpty)=true:=by simpa using hbad.2
       have kn2:e.note.isEmpty=false:=by simpa using hbad.2
       clear hbad;go_wp2;go_ret;exact⟨by rw [hfin.out];rfl,HBw.out⟩
      ·have hplain:Hid (Am v e=if Hc e.who=true then 0 else 32):=Qh (by
        rw [hf.out];by_cases hp:Hc e.who=true
        ·rw [κ hp,κ];exact hfit.out.2 ⟨hAll.out,by rintro(⟨h,_⟩|h);omega;exact hbad h,hp⟩
        ·rw [γ hp,γ];intro h;exact hp (hfit.out.1 h).2.2)
       by_cases hv5:v<5
       focus
        have dv5:=ξ hv5;have hnote:e.note=[]:=Classical.byContradiction fun h=>hbad ⟨hv5,h⟩;have kn:(!e.note.isEmpty)=false:=by rw [hnote];rfl
        have kn2:e.note.isEmpty=true:=by rw [hnote];rfl
        clear hnote hbad;go_wp2
       rotate_left
       focus
        have dv5:=ρ hv5;clear hbad;go_wp2
       rotate_left
       all_goals
        go_loopw [9] (fun i w5=> ∃ k:Nat,k≤e.who.length∧i= Vi Vk k∧Hid (Hc (e.who.take k)=true)∧Below wr.heap.size wr w5) (fun i _=>e.who.length - (intOf i).toNat)
        case atStart=>exact⟨0,by omega,rfl,Qh rfl,χ _ _⟩
        case round=>
         clear c7 c9;obtain⟨k,hk,rfl,HP,hb⟩:=hrel;have HB5:=Qh hb;have c7:=(HEw.out.below hb).c7;clear hb;by_cases hlt:k<e.who.length
         ·obtain⟨x,hx,ht,hmem⟩:=Pj e.who k hlt;have gx: ∀ hh,(⟨e.who.toArray⟩:ByteArray)[k]'hh=x:=ba_get hx;have HX:=Qs (Hc (e.who.take (k+1))=M3 x) (by
           rw [ht];unfold Hc;rw [List.all_append];have:=HP.out;unfold Hc at this;rw [this];simp)
          have hxl:=x.toNat_lt;have hno:Hid (M3 x=false→Am v e=32):=Qh fun h=>by
           rw [hplain.out,γ];intro h2;have:=List.all_eq_true.1 h2 x hmem;rw [h] at this;cases this
          clear hx ht hmem;have hpc:Hid (M3 x=true↔x.toNat=45∨(48≤x.toNat∧x.toNat≤57)∨(97≤x.toNat∧x.toNat≤122)):=Qh (by
           simp only [M3,Bool.or_eq_true,Bool.and_eq_true,beq_iff_eq,decide_eq_true_eq];omega)
          by_cases hp:M3 x=true
          ·have hpa:=hpc.out.1 hp;have HP2:=Qh (HX.out.trans hp);clear hp;by_cases h45:x.toNat=45
           ·have k45:((x.toNat:Int)==45)=true:=by rw [beq_iff_eq];omega
            clear hpa h45;go_wp2;go_roundw
            case rel=>exact⟨k+1,by omega,by go_num,HP2,HB5.out⟩
            case measure=>simp [intOf];omega
           ·have k45:((x.toNat:Int)==45)=false:=by rw [beq_eq_false_iff_ne];omega
            by_cases h57:x.toNat≤57
            ·have hr:48≤x.toNat:=by omega
             have t48:decide ((48:Int)≤x.toNat)=true:=by simp;omega
             have t57:decide ((x.toNat:Int)≤57)=true:=by simp;omega
             have t97:decide ((97:Int)≤x.toNat)=false:=by simp;omega
             have t122:decide ((x.toNat:Int)≤122)=true:=by simp;omega
             clear hpa h45 h57 hr;go_wp2;go_roundw
             case rel=>exact⟨k+1,by omega,by go_num,HP2,HB5.out⟩
             case measure=>simp [intOf];omega
            ·have hr:97≤x.toNat∧x.toNat≤122:=by omega
             have t48:decide ((48:Int)≤x.toNat)=true:=by simp;omega
             have t57:decide ((x.toNat:Int)≤57)=false:=by simp;omega
             have t97:decide ((97:Int)≤x.toNat)=true:=by simp;omega
             have t122:decide ((x.toNat:Int)≤122)=true:=by simp;omega
             clear hpa h45 h57 hr;go_wp2;go_roundw
             case rel=>exact⟨k+1,by omega,by go_num,HP2,HB5.out⟩
             case measure=>simp [intOf];omega
          ·have hpa: ¬ (x.toNat=45∨(48≤x.toNat∧x.toNat≤57)∨(97≤x.toNat∧x.toNat≤122)):=fun h=>hp (hpc.out.2 h);have hfin:=Qh (hno.out (by simpa using hp));have k45:((x.toNat:Int)==45)=false:=by rw [beq_eq_false_iff_ne];omega
           clear hp;by_cases h48:x.toNat<48
           ·have hr:x.toNat<48:=h48;have t48:decide ((48:Int)≤x.toNat)=false:=by simp;omega
            have t57:decide ((x.toNat:Int)≤57)=true:=by simp;omega
            have t97:decide ((97:Int)≤x.toNat)=false:=by simp;omega
            have t122:decide ((x.toNat:Int)≤122)=true:=by simp;omega
            clear hpa h48 hr;go_wp2;go_ret;exact⟨by rw [hfin.out];rfl,Below.next HBw.out HB5.out⟩
           ·by_cases h97:x.toNat<97
            ·have hr:57<x.toNat:=by omega
             have t48:decide ((48:Int)≤x.toNat)=true:=by simp;omega
             have t57:decide ((x.toNat:Int)≤57)=false:=by simp;omega
             have t97:decide ((97:Int)≤x.toNat)=false:=by simp;omega
             have t122:decide ((x.toNat:Int)≤122)=true:=by simp;omega
             clear hpa h48 h97 hr;go_wp2;go_ret;exact⟨by rw [hfin.out];rfl,Below.next HBw.out HB5.out⟩
            ·have hr:122<x.toNat:=by omega
             have t48:decide ((48:Int)≤x.toNat)=true:=by simp;omega
             have t57:decide ((x.toNat:Int)≤57)=false:=by simp;omega
             have t97:decide ((97:Int)≤x.toNat)=true:=by simp;omega
             have t122:decide ((x.toNat:Int)≤122)=false:=by simp;omega
             clear hpa h48 h97 hr;go_wp2;go_ret;exact⟨by rw [hfin.out];rfl,Below.next HBw.out HB5.out⟩
         ·obtain rfl:k=e.who.length:=by omega
          have hfin:=Qs (Am v e=0) (by rw [hplain.out,κ];simpa using HP.out);go_wp2;go_ret;exact⟨by rw [hfin.out];rfl,Below.next HBw.out HB5.out⟩
theorem refCheckB_any (v:Int) (e:Ev) (w:World) (hok:Lj 281474976710656 e):Calls prog 20 #[Vi Vk v,Ga e] w (Hf (Am v e) w):=by
 by_cases h1:v<1∨5<v
 ·exact refCheck_version v e w h1
 ·by_cases h2:e.kind<1∨Dw v<e.kind
  ·exact refCheck_kind v e w (by omega) (by omega) h2
  ·by_cases h3:16<e.who.length∨120<e.note.length
   ·exact refCheck_long v e w ⟨hok.who,hok.note⟩ (by omega) (by omega) (by omega) (by omega) h3
   ·exact refCheck_rest v e w (by omega) (by omega) (by omega) (by omega) (by omega) (by omega)
def StpI (w:World) (e e':Ev) (W:World):Prop:=Au W w.heap.size e∧Au W (w.heap.size+1) Ai∧Au W (w.heap.size+1+1) e'∧Below w.heap.size w W
theorem drop_eq {c t:Int} (hc:e.cur=c) (ht:taxL.getD c.toNat 0=t):Hg e=if e.qty<0 then (if e.kind=2 then {e with kind:=6,qty:= -e.qty,tax:=t} else {e with qty:=0,tax:=t}) else {e with tax:=t}:=by
 unfold Hg;rw [hc,ht];by_cases q:e.qty<0
 ·by_cases k:e.kind=2
  ·rw [κ ⟨q,k⟩,κ q,κ k]
  ·rw [γ (fun h=>k h.2),κ q,γ k,show max 0 e.qty=0 by omega]
 ·rw [γ (fun h=>q h.1),γ q,show max 0 e.qty=e.qty by omega]
section
variable {w W W' : World} {e e' e2 : Ev}
theorem StpI.set (h:StpI w e e' W) (j:Nat) (v:Value) (he:(A8 e').setIfInBounds j v=A8 e2):StpI w e e2 (W.setCell ⟨w.heap.size+1+1,j,none⟩ v):=by
 obtain⟨h1,h2⟩:=h.2.2.1.put j v he;exact⟨(h2.block _ h.1.lt (by omega)).trans h.1,(h2.block _ h.2.1.lt (by omega)).trans h.2.1,h1,Al h.2.2.2 h2 (fun k hk=>by omega) h.2.2.2.size⟩
theorem StpI.start (w:World) (e:Ev) (W:World) (h:Au W (w.heap.size+1+1) e∧Ab (fun k=>k=w.heap.size+1+1) (((w.alloc (.cells (A8 e) 38)).alloc (.cells (A8 Ai) 38)).alloc (.cells (A8 Ai) 38)) W):StpI w e e W:=by
 have hb1:=Aa w (.cells (A8 e) 38);have hb2:=Aa (w.alloc (.cells (A8 e) 38)) (.cells (A8 Ai) 38);have hb3:=Aa ((w.alloc (.cells (A8 e) 38)).alloc (.cells (A8 Ai) 38)) (.cells (A8 Ai) 38);have z1:(w.alloc (.cells (A8 e) 38)).heap.size=w.heap.size+1:=World.size_alloc _ _;have x1:Au (((w.alloc (.cells (A8 e) 38)).alloc (.cells (A8 Ai) 38)).alloc (.cells (A8 Ai) 38)) w.heap.size e:=Au.below (Au.below (σ w _) hb2) hb3;have x2:Au (((w.alloc (.cells (A8 e) 38)).alloc (.cells (A8 Ai) 38)).alloc (.cells (A8 Ai) 38)) (w.heap.size+1) Ai:=Au.below (by rw [←z1];exact σ _ _) hb3;have x3:=Below.next (Below.next hb1 hb2) hb3;exact⟨(h.2.block _ x1.lt (by omega)).trans x1,(h.2.block _ x2.lt (by omega)).trans x2,h.1,Al x3 h.2 (fun k hk=>by omega) x3.size⟩
end
theorem ref7Step_any (v:Int) (e:Ev) (w:World) (hv:v<5) (h:StepOk v e):Calls prog 41 #[Vi Vk v,Ga e] w (RiseQ w (Ij v e)):=by
 have z1:(w.alloc (.cells (A8 e) 38)).heap.size=w.heap.size+1:=World.size_alloc _ _;have z2:((w.alloc (.cells (A8 e) 38)).alloc (.cells (A8 Ai) 38)).heap.size=w.heap.size+1+1:=by rw [World.size_alloc,z1]
 have HE0:=Qs (Au ((w.alloc (.cells (A8 e) 38)).alloc (.cells (A8 Ai) 38)) w.heap.size e) (Au.below (σ w _) (Aa _ _));have HZ:=Qs (Au (((w.alloc (.cells (A8 e) 38)).alloc (.cells (A8 Ai) 38)).alloc (.cells (A8 Ai) 38)) (w.heap.size+1+1) Ai) (by rw [←z2];exact σ _ _);have HS:=Qh (StpI.start w e);have HOK:=Qh h;clear z1 z2 h;simp only [A8,Ai] at HE0 HZ HS;have HZ1:=Qh (show Au _ (w.heap.size+1+1) Ai from HZ.out);go_enter func41,ntmps41;go_wp2_with (first|(with_reducible refine A6 rfl (.tmp 3) rfl w.heap.size e rfl HE0.out ?_)|(with_reducible refine Bd rfl (.tmp 5) (.tmp 6) rfl (w.heap.size+1+1) Ai e rfl rfl HZ1.out ?_));intro W hz;have HW:=Qh (HS.out W hz.out);clear hz HS HE0 HZ HZ1;obtain⟨hv1,_⟩:=HOK.out.ver;have C:=fun j=>HW.out.1.cell j;have D:=fun j=>HW.out.2.2.1.cell j;have F:=fun j=>HW.out.2.2.1.free j;rcases (show v=1∨v=2∨v=3∨v=4 by omega) with rfl|rfl|rfl|rfl
 focus
  have hp:=HOK.out.price rfl;have c4:W.cell? ⟨w.heap.size,4,none⟩=some (Vi Vk e.price):=C 4;have d4:W.cell? ⟨w.heap.size+1+1,4,none⟩=some (Vi Vk e.price):=D 4;have f4:=F 4;have hw:IntKind.i64.wrap (100*e.price)=100*e.price:=by rw [ν];omega
  have HX:=Qh (HW.out.set (e2:={e with price:=100*e.price}) 4 (Vi Vk (100*e.price)) rfl);have HR:=Qs (Ij 1 e={e with price:=100*e.price}) (by rw [Int.mul_comm];rfl);clear C D F HOK hp
 rotate_left
 focus
  have c0:W.cell? ⟨w.heap.size,0,none⟩=some (Vi Vk e.kind):=C 0;have c3:W.cell? ⟨w.heap.size,3,none⟩=some (Vi Vk e.qty):=C 3;have c5:W.cell? ⟨w.heap.size,5,none⟩=some (Vi Vk e.cur):=C 5;have d0:W.cell? ⟨w.heap.size+1+1,0,none⟩=some (Vi Vk e.kind):=D 0;have d3:W.cell? ⟨w.heap.size+1+1,3,none⟩=some (Vi Vk e.qty):=D 3;have d6:W.cell? ⟨w.heap.size+1+1,6,none⟩=some (Vi Vk e.tax):=D 6;have f0:=F 0;have f3:=F 3;have f6:=F 6;have hq:=HOK.out.qty (by decide);have hc:=HOK.out.cur (by decide);have hw:IntKind.i64.wrap (0 - e.qty)= -e.qty:=by rw [ν];omega
  have hw':IntKind.i64.wrap (-e.qty)= -e.qty:=by rw [ν];omega
  have h0:=HOK.out.tax (by decide);have HDR:=Qh (fun c t (h:e.cur=c) (ht:taxL.getD c.toNat 0=t)=>show Ij 2 e=_ from drop_eq h ht);have h1:=HW.out.set (e2:={e with qty:=0}) 3 (Vi Vk 0) rfl;have h2:=h1.set (e2:={e with qty:=0,kind:=6}) 0 (Vi Vk 6) rfl;have h3:=h2.set (e2:={e with kind:=6,qty:= -e.qty}) 3 (Vi Vk (-e.qty)) rfl;clear C D F HOK;rcases q:decide (e.qty<0) with _|_
  all_goals rcases kk:(e.kind==2) with _|_
  all_goals rcases (show e.cur=0∨e.cur=1∨e.cur=2∨e.cur=3 by omega) with hcu|hcu|hcu|hcu
  all_goals first
  |(have HX:=Qh (HW.out);have HR:=Qs (Ij 2 e=e) (by rw [HDR.out 0 0 hcu rfl,γ (Γ q)];exact congrArg (fun t=>{e with tax:=t}) h0.symm))
  |(have HX:=Qh (HW.out.set (e2:={e with tax:=1900}) 6 (Vi Vk 1900) rfl);have HR:=Qs (Ij 2 e={e with tax:=1900}) (by rw [HDR.out 1 1900 hcu rfl,γ (Γ q)]))
  |(have HX:=Qh (HW.out.set (e2:={e with tax:=2000}) 6 (Vi Vk 2000) rfl);have HR:=Qs (Ij 2 e={e with tax:=2000}) (by rw [HDR.out 2 2000 hcu rfl,γ (Γ q)]))
  |(have HX:=Qh (HW.out.set (e2:={e with tax:=700}) 6 (Vi Vk 700) rfl);have HR:=Qs (Ij 2 e={e with tax:=700}) (by rw [HDR.out 3 700 hcu rfl,γ (Γ q)]))
  |(have HX:=Qh (h1);have HR:=Qs (Ij 2 e={e with qty:=0}) (by rw [HDR.out 0 0 hcu rfl,κ (ψ q),γ (show ¬ e.kind=2 by simpa using kk)];exact congrArg (fun t=>{e with qty:=0,tax:=t}) h0.symm))
  |(have HX:=Qh (h1.set (e2:={e with qty:=0,tax:=1900}) 6 (Vi Vk 1900) rfl);have HR:=Qs (Ij 2 e={e with qty:=0,tax:=1900}) (by rw [HDR.out 1 1900 hcu rfl,κ (ψ q),γ (show ¬ e.kind=2 by simpa using kk)]))
  |(have HX:=Qh (h1.set (e2:={e with qty:=0,tax:=2000}) 6 (Vi Vk 2000) rfl);have HR:=Qs (Ij 2 e={e with qty:=0,tax:=2000}) (by rw [HDR.out 2 2000 hcu rfl,κ (ψ q),γ (show ¬ e.kind=2 by simpa using kk)]))
  |(have HX:=Qh (h1.set (e2:={e with qty:=0,tax:=700}) 6 (Vi Vk 700) rfl);have HR:=Qs (Ij 2 e={e with qty:=0,tax:=700}) (by rw [HDR.out 3 700 hcu rfl,κ (ψ q),γ (show ¬ e.kind=2 by simpa using kk)]))
  |(have HX:=Qh (h3);have HR:=Qs (Ij 2 e={e with kind:=6,qty:= -e.qty}) (by rw [HDR.out 0 0 hcu rfl,κ (ψ q),κ (show e.kind=2 by simpa using kk)];exact congrArg (fun t=>{e with kind:=6,qty:= -e.qty,tax:=t}) h0.symm))
  |(have HX:=Qh (h3.set (e2:={e with kind:=6,qty:= -e.qty,tax:=1900}) 6 (Vi Vk 1900) rfl);have HR:=Qs (Ij 2 e={e with kind:=6,qty:= -e.qty,tax:=1900}) (by rw [HDR.out 1 1900 hcu rfl,κ (ψ q),κ (show e.kind=2 by simpa using kk)]))
  |(have HX:=Qh (h3.set (e2:={e with kind:=6,qty:= -e.qty,tax:=2000}) 6 (Vi Vk 2000) rfl);have HR:=Qs (Ij 2 e={e with kind:=6,qty:= -e.qty,tax:=2000}) (by rw [HDR.out 2 2000 hcu rfl,κ (ψ q),κ (show e.kind=2 by simpa using kk)]))
  |(have HX:=Qh (h3.set (e2:={e with kind:=6,qty:= -e.qty,tax:=700}) 6 (Vi Vk 700) rfl);have HR:=Qs (Ij 2 e={e with kind:=6,qty:= -e.qty,tax:=700}) (by rw [HDR.out 3 700 hcu rfl,κ (ψ q),κ (show e.kind=2 by simpa using kk)]))
  all_goals
   clear h1 h2 h3 HDR h0 hq hc;rw [hcu] at c5;clear hcu
 iterate 16 rotate_left
 focus
  have d7:W.cell? ⟨w.heap.size+1+1,7,none⟩=some (.string ⟨e.who.toArray⟩):=D 7;have f7:=F 7;have HX:=Qh (HW.out.set (e2:={e with who:=[111,108,100]}) 7 (.string ⟨#[111,108,100]⟩) rfl);have HR:=Qs (Ij 3 e={e with who:=[111,108,100]}) rfl;clear C D F HOK
 rotate_left
 focus
  have c0:W.cell? ⟨w.heap.size,0,none⟩=some (Vi Vk e.kind):=C 0;have c3:W.cell? ⟨w.heap.size,3,none⟩=some (Vi Vk e.qty):=C 3;have d0:W.cell? ⟨w.heap.size+1+1,0,none⟩=some (Vi Vk e.kind):=D 0;have d2:W.cell? ⟨w.heap.size+1+1,2,none⟩=some (Vi Vk e.item):=D 2;have f0:=F 0;have f2:=F 2;have h1:=(HW.out.set (e2:={e with kind:=10}) 0 (Vi Vk 10) rfl).set (e2:={e with kind:=10,item:=0}) 2 (Vi Vk 0) rfl;clear C D F HOK;rcases kk:(e.kind==4) with _|_
  all_goals rcases qq:(e.qty==0) with _|_
  all_goals first
  |(have HX:=Qh HW.out;clear d0 d2 f0 f2;have HR:=Qs (Ij 4 e=e) (by show Eg e=e;unfold Eg;rw [γ (fun h=>(show ¬ e.kind=4 by simpa using kk) h.1)]))
  |(have HX:=Qh HW.out;clear d0 d2 f0 f2;have HR:=Qs (Ij 4 e=e) (by show Eg e=e;unfold Eg;rw [γ (fun h=>(show ¬ e.qty=0 by simpa using qq) h.2)]))
  |(have HX:=Qh h1;have HR:=Qs (Ij 4 e={e with kind:=10,item:=0}) (by show Eg e=_;unfold Eg;rw [κ ⟨by simpa using kk,by simpa using qq⟩]))
  all_goals clear h1
 all_goals
  have HY1:=Qh HX.out.2.2.1;have HY2:=Qh HX.out.2.1;go_wp2_with (first|(with_reducible refine A6 rfl (.tmp 5) rfl (w.heap.size+1+1) _ rfl HY1.out ?_)|(with_reducible refine Bd rfl (.tmp 4) (.tmp 61) rfl (w.heap.size+1) Ai _ rfl rfl HY2.out ?_));intro W2 hz;have HZ:=Qh (And.intro hz.out.1 (Al HX.out.2.2.2 hz.out.2 (fun k hk=>by omega) HX.out.2.2.2.size));clear hz;go_wp2;exact π (Jq rfl _ _ (w.heap.size+1) _ rfl HZ.out.1) rfl ⟨by rw [HR.out],HZ.out.2⟩
def toV (v:Int) (e:Ev):Ev:=if Am v e=0 then Hy v e else Ai
def TopI (w:World) (e:Ev) (W:World):Prop:=Au W w.heap.size e∧Au W (w.heap.size+1) Ai∧Below w.heap.size w W
theorem TopI.start (w:World) (e:Ev):TopI w e ((w.alloc (.cells (A8 e) 38)).alloc (.cells (A8 Ai) 38)):=by
 have hb1:=Aa w (.cells (A8 e) 38);have hb2:=Aa (w.alloc (.cells (A8 e) 38)) (.cells (A8 Ai) 38);have z1:(w.alloc (.cells (A8 e) 38)).heap.size=w.heap.size+1:=World.size_alloc _ _;exact⟨Au.below (σ w _) hb2,by rw [←z1];exact σ _ _,Below.next hb1 hb2⟩
theorem TopI.below (h:TopI w e W) (hb:Below W.heap.size W W'):TopI w e W':=⟨h.1.below hb,h.2.1.below hb,Below.next h.2.2 hb⟩
theorem ref7To_any (v:Int) (e:Ev) (w:World) (hok:Lj 281474976710656 e):Calls prog 13 #[Vi Vk v,Vi Vk 5,Ga e] w fun x w'=>x= .returned (.tuple #[Ga (toV v e),Vi Vk (Am v e)])∧Below w.heap.size w w':=by
 have HI:=Qh (TopI.start w e);have HCK:=Qh (fun W=>refCheckB_any v e W hok);simp only [A8,Ai] at HI;have HI2:=Qh HI.out.2.1;have HI3:=Qh HI.out.1;clear hok;rcases q1:decide (v<1) with _|_;rotate_left
 focus
  have HC:=Qs (Am v e=30) (chk30 (.inl (ψ q1)))
 rotate_left;rcases q2:decide (5<v) with _|_;rotate_left
 focus
  have HC:=Qs (Am v e=30) (chk30 (.inr (ψ q2)))
 iterate 2
  focus
   go_enter func13,ntmps13;go_upto_region 2 with fail;generalize (w.alloc (.cells #[Vi Vk e.kind,Vi Vk e.order,Vi Vk e.item,Vi Vk e.qty,Vi Vk e.price,Vi Vk e.cur,Vi Vk e.tax,.string ⟨e.who.toArray⟩,Vi Vk e.stamp,.string ⟨e.note.toArray⟩] 38)).alloc (.cells #[Vi Vk 0,Vi Vk 0,Vi Vk 0,Vi Vk 0,Vi Vk 0,Vi Vk 0,Vi Vk 0,.string ⟨#[]⟩,Vi Vk 0,.string ⟨#[]⟩] 38)=w0 at*;go_wp2_with (with_reducible refine Bd rfl (.tmp 6) (.tmp 25) rfl (w.heap.size+1) Ai Ai rfl rfl HI2.out ?_);intro W2 hz;have HZ:=Qh (And.intro hz.out.1 (Al HI.out.2.2 hz.out.2 (fun k hk=>by omega) HI.out.2.2.size));clear hz;go_wp2;exact π (Fh rfl _ _ (w.heap.size+1) _ _ rfl rfl HZ.out.1) rfl ⟨by unfold toV;rw [HC.out,γ (by decide)];rfl,HZ.out.2⟩
 go_enter func13,ntmps13;go_wp2_with (with_reducible refine A6 rfl (.tmp 5) rfl w.heap.size e rfl HI3.out ?_);generalize (w.alloc (.cells #[Vi Vk e.kind,Vi Vk e.order,Vi Vk e.item,Vi Vk e.qty,Vi Vk e.price,Vi Vk e.cur,Vi Vk e.tax,.string ⟨e.who.toArray⟩,Vi Vk e.stamp,.string ⟨e.note.toArray⟩] 38)).alloc (.cells #[Vi Vk 0,Vi Vk 0,Vi Vk 0,Vi Vk 0,Vi Vk 0,Vi Vk 0,Vi Vk 0,.string ⟨#[]⟩,Vi Vk 0,.string ⟨#[]⟩] 38)=w0 at*;refine(HCK.out w0).mono ?_;rintro x w1 ⟨rfl,hb1⟩;have HI1:=Qh (HI.out.below hb1);have HI4:=Qh HI1.out.2.1;clear hb1 HI HI2 HI3 HCK;obtain⟨c,hc⟩: ∃ c,c=Am v e:=⟨_,rfl⟩;have HCE:=Qh hc;have HTV:=Qs (toV v e=if c=0 then Hy v e else Ai) (by rw [hc];rfl);rw [←hc];rcases q0:(c==0) with _|_
 ·have HN:=Qs (¬ c=0) (by simpa using q0);clear hc;go_wp2_with (with_reducible refine Bd rfl (.tmp 6) (.tmp 31) rfl (w.heap.size+1) Ai Ai rfl rfl HI4.out ?_);intro W2 hz;have HZ:=Qh (And.intro hz.out.1 (Al HI1.out.2.2 hz.out.2 (fun k hk=>by omega) HI1.out.2.2.size));clear hz;go_wp2;exact π (Fh rfl _ _ (w.heap.size+1) _ _ rfl rfl HZ.out.1) rfl ⟨by rw [HTV.out,γ HN.out,←HCE.out];rfl,HZ.out.2⟩
 obtain rfl:c=0:=by simpa using q0
 have HST:=Qh (step_of hc.symm);clear hc q0;go_wp2;go_loopw [9] (fun iv wr=> ∃ (u:Int) (e':Ev),iv= Vi Vk u∧Hid (TopI w e' wr∧StepOk u e'∧Hy u e'=Hy v e)) (fun iv _=>5 - (intOf iv).toNat)
 case atStart=>exact⟨v,e,rfl,Qh ⟨HI1.out,HST.out,rfl⟩⟩
 case round=>
  obtain⟨u,e',rfl,HR⟩:=hrel;have hu:=HR.out.2.1.ver;have HR1:=Qh HR.out.1.1;have HR2:=Qh HR.out.1.2.1;clear HI1 HST HI4;by_cases h5:u<5
  ·have hw:IntKind.i64.wrap (u+1)=u+1:=by rw [ν];omega
   go_wp2_with (with_reducible refine A6 rfl (.tmp 5) rfl w.heap.size e' rfl HR1.out ?_);refine(ref7Step_any u e' wr h5 HR.out.2.1).mono ?_;rintro x w2 ⟨rfl,hb2⟩;have HI2:=Qh (HR.out.1.below hb2);have HI5:=Qh HI2.out.1;clear hb2;obtain⟨E,hE⟩: ∃ E,E=Ij u e':=⟨_,rfl⟩;have HN:=Qs (StepOk (u+1) E∧Hy (u+1) E=Hy v e) (by rw [hE];exact⟨step_next h5 HR.out.2.1,(rise_step e' ⟨hu.1,by omega⟩).trans HR.out.2.2⟩);rw [←hE];clear hE HR;go_wp2_with (with_reducible refine Bd rfl (.tmp 5) (.tmp 41) rfl w.heap.size e' E rfl rfl HI5.out ?_);intro W2 hz;have HZ:=Qs (TopI w E W2) ⟨hz.out.1,(hz.out.2.block _ HI2.out.2.1.lt (by omega)).trans HI2.out.2.1,Al HI2.out.2.2 hz.out.2 (fun k hk=>by omega) HI2.out.2.2.size⟩;clear hz;go_wp2;go_roundw
   case rel=>exact⟨u+1,E,by go_num,Qh ⟨HZ.out,HN.out⟩⟩
   case measure=>simp [intOf];omega
  ·obtain rfl:u=5:=by omega
   have HE:=Qs (e'=Hy v e) HR.out.2.2;go_wp2_with (first|(with_reducible refine A6 rfl (.tmp 5) rfl w.heap.size e' rfl HR1.out ?_)|(with_reducible refine Bd rfl (.tmp 6) (.tmp 42) rfl (w.heap.size+1) Ai e' rfl rfl HR2.out ?_));intro W2 hz;have HZ:=Qh (And.intro hz.out.1 (Al HR.out.1.2.2 hz.out.2 (fun k hk=>by omega) HR.out.1.2.2.size));clear hz;go_wp2;exact π (Fh rfl _ _ (w.heap.size+1) _ _ rfl rfl HZ.out.1) rfl ⟨by rw [HTV.out,κ True.intro,HE.out,←HCE.out];rfl,HZ.out.2⟩
theorem brow_one (h:B7 w v l):v.oneCell'=true:=by
 obtain⟨oa,cap,rfl,_⟩:=h;rfl
theorem oppCs_all (o:OpS) {rv:Value} (h:rv.oneCell'=true):(Lb o rv).all (·.oneCell')=true:=
 Array.all_eq_true_iff_forall_mem.2 (by
  intro u hu
  simp only [Lb,List.mem_toArray,Δ,Ω,or_false] at hu
  rcases hu with rfl|rfl|rfl|rfl|rfl|rfl|rfl|rfl|rfl|rfl|rfl|rfl|rfl|rfl|rfl|rfl
  all_goals first
  |rfl
  |exact h)
def Pm:OpS:=⟨0,0,Ai,[],0,0,0⟩
def OppBlk (w:World) (g:Nat) (o:OpS) (rv:Value):Prop:=w.heap[g]? =some (.cells (Lb o rv) 41 (0,0))
theorem wpList_load_opp {q:Oper}  (hgd:q.guard=none) (x:Operand) (ho:q.op= .load 41 x)
  (b off:Nat) (o:OpS) (rv:Value) (hx:a.eval x= .pointer (some ⟨b,off,none⟩)) (hE:w.rangeAt b off (Lb o rv).toList)
  (h:wpList prog ops Q rest (a.put q.dst (.agg (Lb o rv))) w):wpList prog ops Q (q::rest) a w:=
 wpList_load_mid hgd 41 x ho b off hx (Lb o rv).toList _ hE underlying41 rfl (by rw [oppInfo];rfl) h
theorem wpList_store_opp {q:Oper}  (hgd:q.guard=none) (x y:Operand) (ho:q.op= .store 41 x y)
  (g:Nat) (o o':OpS) (rv rv':Value) (hr:rv'.oneCell'=true) (hx:a.eval x= .pointer (some ⟨g,0,none⟩)) (hy:a.eval y= .agg (Lb o' rv')) (hE:OppBlk w g o rv)
  (h: ∀ W,Hid (OppBlk W g o' rv'∧Ab (fun k=>k=g) w W)→wpList prog ops Q rest (a.put q.dst undef) W):wpList prog ops Q (q::rest) a w:=
 wpList_store_row hgd 41 x y ho g (Lb o' rv') hx hy 41 (Lb o rv) hE (by rw [oppInfo];rfl) rfl (oppCs_all o' hr) (h _ (Qh ⟨setRow_heap w g _ _ _ _ hE,Jh _ _ _⟩))
end Go.Proofs.YtgkdenejkcngnaaGreatDoor
