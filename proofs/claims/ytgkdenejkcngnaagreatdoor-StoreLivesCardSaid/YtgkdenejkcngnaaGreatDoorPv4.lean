import Derived.StillTailTactics
import Derived.Test.YtgkdenejkcngnaaGreatDoorPv3
set_option maxRecDepth 100000
set_option maxHeartbeats 8000000
namespace Go.Proofs.YtgkdenejkcngnaaGreatDoor
open Go.RowKit
open Value renaming int→Vi
open IntKind renaming i64→Vk
open Go.Proofs.Tryz
variable {a:Act}{K:Act→World→Prop}{d d':Af}{listed:Array Bool}{af:Array Edge}{ops:Array Oper}{x:Bl}{D:DataW Value}{Q:Exit→Act→World→Prop}{fn:Func}{h:Hd}{bad from_ num:Int}{E bs:List (List UInt8)}{L:List Aq}{fs fs':List Bl}{ps:List I3}{zs:List Int}{us vs:List Nat}{rest:List Oper}{b body l n raw t:List UInt8}{cs:List Value}{B N base c f first g i j k m more most p r segEv size stride u:Nat}{A A' S:Nat→Prop}{o:Oper}{P:Program}{q:Tmp}{bv mv rv sv v v' v1:Value}{W W' X w w' w0 w1 w2:World}
def iCells (vs:List Nat):List Value:=vs.map fun(u:Nat)=>Value.int .i64 (u:Int)
def OwnI (w:World) (B:Nat) (v:Value) (vs:List Nat):Prop:=w.ownsRow B 3 1 v vs.length (iCells vs)
theorem OwnI.later (h:OwnI w B v vs) (hb:Below w.heap.size w w'):OwnI w' B v vs:=A2 h hb
theorem ownI_nil (w:World) (B:Nat):OwnI w B (.slice none 0 0) []:=⟨rfl,.inl ⟨rfl,rfl⟩⟩
theorem OwnI.at (h:OwnI w B v vs) (hn:0<vs.length): ∃ g cap,v= .slice (some ⟨g,0,none⟩) vs.length cap∧vs.length≤cap∧B≤g∧ ∀ (i:Nat) u,vs[i]? =some u→w.cell? ⟨g,i,none⟩=some (Vi Vk (u:Int)):=by
 obtain⟨g,cap,e,hB,_,h1,_,h3⟩:=Dr h hn;exact⟨g,cap,e,h1,hB,fun i u hu=>h3 i _ (by rw [iCells,List.getElem?_map,hu];rfl)⟩
theorem infoI64:(prog.info? 3).map (fun i=>(i.zero,i.size,i.bytes))=some (some (Vi Vk 0),1,8):=by kernel_rfl
theorem wpList_appI1 (hgd:o.guard=none) (s y:Operand) (ho:o.op= .call {callee:= .builtin .append,args:= #[s,y],argTypes:= #[63,63]})  {pv:Int}
  (hs:a.eval s=v) (hN:N=w.heap.size) (hy:a.eval y= .slice (some ⟨N,0,none⟩) 1 1) (hown:OwnI w B v us) (hB:B≤w.heap.size) (h1:pv=(p:Int)) (hl:us.length≤100000)
  (h: ∀ v' w',OwnI w' B v' (us++[p])→Below B w w'→w.heap.size≤w'.heap.size→wpList prog ops Q rest (a.put o.dst v') w'):wpList prog ops Q (o::rest) a (w.alloc (.cells #[Vi Vk pv] 3)):=by
 subst h1 hN;obtain⟨i0,hi,hz0,hz1,hz2⟩:=info_parts infoI64;have hb:=Aa w (.cells #[Vi Vk (p:Int)] 3);refine wpList_append_own _ hgd s y 63 ho B 3 i0 (Vi Vk 0) 1 8 underlying63 hi hz0 hz1 hz2 rfl (by decide) v us.length (iCells us) hs (A2 hown hb) ⟨w.heap.size,0,none⟩ 1 1 [Vi Vk (p:Int)] hy rfl (fun j u hj=> ?_) (fun u hu=> ?_) (by unfold maxLen;omega) (by omega) (η hB hb.size) ?_
 ·rw [Cr,Nat.zero_add,World.cell?_alloc_new];simpa using hj
 ·simp at hu;rcases hu with rfl;rfl
 ·intro v' w' hown' hg _;refine h v' w' ?_ ((hb.mono hB).trans (Cm (A2 hown hb) (η hB hb.size) hg)) (η hb.size hg.size);unfold OwnI;rw [ζ,show iCells (us++[p])=iCells us++[Vi Vk (p:Int)] by simp [iCells]];exact hown'
theorem wpList_cut_lU {U:World} (hgd:o.guard=none) (x y:Operand) (ho:o.op= .slice 39 x (some y) none none) (oa:Option Addr) (cap n:Nat) (l:List UInt8) (hx:a.eval x= .slice oa l.length cap) (hy:a.eval y= Vi Vk (n:Int))
  (hv:B7 U (.slice oa l.length cap) l) (hn:n≤l.length) (h: ∀ oa' cap',B7 U (.slice oa' (l.length - n) cap') (l.drop n)→wpList prog ops Q rest (a.put o.dst (.slice oa' (l.length - n) cap')) w):wpList prog ops Q (o::rest) a w:=by
 have hv':=hv;obtain⟨_,c',e,hl',_⟩:=hv';simp only [Value.slice.injEq,true_and] at e;obtain⟨rfl,rfl⟩:=e;have hb:=Jv (lo:=n) (hi:=l.length) (mx:=cap) hv hn (μ _) hl';rw [List.take_length] at hb;refine wpList_plain hgd fun K hK=> ?_;unfold Oper.wp execOp;simp only [ho,hx,hy,Option.map_some,Option.map_none,Id,Ok oa l.length cap n hn,Sem.run_bind,Sem.run_pure,Result.andThen_ok];exact hK _ _ (h _ _ hb)
def Ck:Nat→List UInt8→List Nat→Option (List Nat×List UInt8)
 |0,b,vs=>some (vs,b)
 |n+1,b,vs=>if (A3 b).2.2≠0∨2199023255552<(A3 b).1 then none else Ck n (b.drop (A3 b).2.1) (vs++[(A3 b).1])
theorem unnums_stop {n:Nat} {b:List UInt8} {vs:List Nat} (h:(A3 b).2.2≠0∨2199023255552<(A3 b).1):Ck (n+1) b vs=none:=by rw [Ck,κ h]
theorem Jr {n:Nat} {b:List UInt8} {vs:List Nat} (h: ¬ ((A3 b).2.2≠0∨2199023255552<(A3 b).1)):Ck (n+1) b vs=Ck n (b.drop (A3 b).2.1) (vs++[(A3 b).1]):=by rw [Ck,γ h]
theorem unnums_len: ∀ {n:Nat} {b:List UInt8} {vs:List Nat} {r:List Nat×List UInt8},Ck n b vs=some r→r.1.length=vs.length+n∧r.2.length≤b.length
 |0,b,vs,r=>by
  intro h
  simp only [Ck,Option.some.injEq] at h
  subst h
  exact⟨rfl,μ _⟩
 |n+1,b,vs,r=>by
  intro h
  by_cases hc:(A3 b).2.2≠0∨2199023255552<(A3 b).1
  ·rw [unnums_stop hc] at h;cases h
  ·rw [Jr hc] at h
   have:=unnums_len h
   simp only [ζ,τ,Φ,Λ] at this
   omega
theorem unnums_le: ∀ {n:Nat} {b:List UInt8} {vs:List Nat} {r:List Nat×List UInt8},Ck n b vs=some r→(∀ u∈vs,u≤2199023255552)→ ∀ u∈r.1,u≤2199023255552
 |0,b,vs,r=>by
  intro h hv
  simp only [Ck,Option.some.injEq] at h
  subst h
  exact hv
 |n+1,b,vs,r=>by
  intro h hv
  by_cases hc:(A3 b).2.2≠0∨2199023255552<(A3 b).1
  ·rw [unnums_stop hc] at h;cases h
  ·rw [Jr hc] at h
   refine unnums_le h fun u hu=> ?_
   rcases List.mem_append.1 hu with hu|hu
   ·exact hv u hu
   ·simp at hu;omega
def UnPost (w:World) (r:Option (List Nat×List UInt8)) (e:Ending) (w':World):Prop:=Below w.heap.size w w'∧
 match r with
 |none=>e= .returned (.tuple #[.slice none 0 0,.slice none 0 0,.bool false])
 |some r=> ∃ vv rv,e= .returned (.tuple #[vv,rv,.bool true])∧OwnI w' w.heap.size vv r.1∧B7 w' rv r.2
theorem unnums_any (b:List UInt8) (v:Value) (n:Nat) (w:World) (hv:B7 w v b) (hl:b.length≤140737488355328) (hn:n≤1000):
  Calls prog 62 #[v,Vi Vk (n:Int)] w (UnPost w (Ck n b [])):=by
 have HV:=Qh hv;clear hv;go_enter func62,ntmps62;go_wp2;go_loopw [0,7,12] (fun sv vv iv wr=> ∃ (k:Nat) (c:List UInt8) (vs:List Nat),k≤n∧iv= Vi Vk (k:Int)∧Hid (vs.length=k)∧Hid (c.length≤b.length)∧Hid (OwnI wr w.heap.size vv vs)∧Hid (B7 w sv c)∧Hid (Ck n b []=Ck (n - k) c vs)∧Hid (Below w.heap.size w wr)) (fun _ _ iv _=>n - (intOf iv).toNat)
 case atStart=>exact⟨0,b,[],θ _,rfl,Qh rfl,Qh (μ _),Qh (ownI_nil _ _),HV,Qh rfl,Qh (χ _ _)⟩
 case round=>
  obtain⟨k,c,vs,hk,rfl,HVL,HCL,HO,HC,HU,HB⟩:=hrel;clear HV;obtain⟨oa,cap,hsh,hcc,_⟩:=HC.out;subst hsh;by_cases hlt:k<n
  ·have q1:(k:Int)<(n:Int):=by omega
   have HNK:=Qs (n - k=(n - (k+1))+1) (by omega);rw [HNK.out] at HU;have HD:=Qh (I1 c _ wr (HC.out.below HB.out) (by have:=HCL.out;omega));have HLT:=Qh (decV_lt c);have HLN:=Qh (@Jw c);have HST:=Qh (@unnums_stop (n - (k+1)) c vs);have HGO:=Qh (@Jr (n - (k+1)) c vs);obtain⟨r,hr⟩: ∃ r,r=A3 c:=⟨_,rfl⟩;rw [←hr] at HD HLT HLN HST HGO;clear hr HNK hcc;obtain⟨u,n1,e1⟩:=r;unfold VarPost at HD;go_wp2_with fail;refine HD.out.mono ?_;rintro e w2 ⟨rfl,hb2⟩;have HB2:=Qh (Below.next HB.out hb2);have HO2:=Qh (HO.out.later hb2);clear hb2 HD HO HB;rcases he1:(e1 != 0) with _|_
   ·have HE1:=Qs (e1=0) (by simpa using he1);rcases hu1:decide (2199023255552<u) with _|_
    ·have hu2: ¬ 2199023255552<u:=Γ hu1;have t1:decide ((2199023255552:Int)<(u:Int))=false:=by simp;omega
     have hw1:IntKind.i64.wrap (u:Int)=(u:Int):=by rw [ν];omega
     have hn1:n1≤c.length:=(HLN.out HE1.out).2;have HG:=Qh (HGO.out (by rintro(h|h);exact h HE1.out;exact hu2 h));have hsz:=HB2.out.size;have hvl:vs.length≤100000:=by have:=HVL.out;omega
     have hk1:IntKind.i64.wrap ((k:Int)+1)=(k:Int)+1:=by rw [ν];omega
     clear HLN HLT HST HGO he1 hu1 hu2;go_wp2_with (with_reducible refine wpList_appI1 (p:=u) rfl (.tmp 26) (.tmp 29) rfl rfl rfl rfl HO2.out hsz rfl hvl ?_);intro v' w3 ho3 hb3 hs3;have HO3:=Qh ho3;have HB3:=Qh (HB2.out.trans hb3);clear ho3 hb3 HO2 HB2 hsz;go_wp2_with (with_reducible refine wpList_cut_lU rfl (.tmp 31) (.tmp 32) rfl oa cap n1 c rfl rfl HC.out hn1 ?_);intro oa' cap' hbr;have HBR:=Qh hbr;clear hbr;go_wp2;go_roundw
     case rel=>exact⟨k+1,c.drop n1,vs++[u],by omega,by go_num,Qh (by have:=HVL.out;simp;omega),Qh (by have:=HCL.out;rw [Λ];omega),HO3,HBR,Qh (by rw [HU.out];exact HG.out),HB3⟩
     case measure=>simp [intOf];omega
    ·have hu2:2199023255552<u:=ψ hu1;have t1:decide ((2199023255552:Int)<(u:Int))=true:=by simp;omega
     have HE:=Qs (Ck n b []=none) (by rw [HU.out];exact HST.out (.inr hu2));clear hu2 HLT HST HGO HLN hu1;go_wp2;refine π (v:= .tuple #[.slice none 0 0,.slice none 0 0,.bool false]) (by simp [results,results62,go_sem]) rfl ⟨HB2.out,by rw [HE.out]⟩
   ·have HE:=Qs (Ck n b []=none) (by rw [HU.out];exact HST.out (.inl (by simpa using he1)));clear HLT HST HGO HLN;go_wp2;refine π (v:= .tuple #[.slice none 0 0,.slice none 0 0,.bool false]) (by simp [results,results62,go_sem]) rfl ⟨HB2.out,by rw [HE.out]⟩
  ·obtain rfl:k=n:=by omega
   have HE:=Qs (Ck k b []=some (vs,c)) (by rw [HU.out,Nat.sub_self];rfl);clear hcc;go_wp2;refine π (v:= .tuple #[_,.slice oa c.length cap,.bool true]) (by simp [results,results62,go_sem];first|rfl|skip) rfl ⟨HB.out,by rw [HE.out];exact⟨_,_,rfl,HO.out,HC.out.below HB.out⟩⟩
def rightB (num first:Int):Bool:=decide (1≤num)&&decide (num≤999999)&&decide (1≤first)&&decide (first≤1099511627777)
def hdrIn (vs:List Nat) (rest:List UInt8) (s n:Nat):Nat×Nat×Nat×Int:=
 match vs with
 | [a,c]=>if rest≠ []∨a≠s∨rightB a c=false then (0,0,0,71) else (a,c,n,0)
 |_=>(0,0,0,71)
def B5 (b:List UInt8):Nat×Nat×Nat×Int:=
 if (Cg b).2.2≠0∨(Cg b).1.k≠2 then (0,0,0,71)
 else match Ck 2 (Cg b).1.body [] with
  |none=>(0,0,0,71)
  |some r=>hdrIn r.1 r.2 (Cg b).1.s (Cg b).2.1
theorem list2 {vs:List Nat} (h:vs.length=2): ∃ a c,vs=[a,c]:=by
 match vs,h with
 | [a,c],_=>exact⟨a,c,rfl⟩
theorem OwnI.two {a:Nat} (h:OwnI w B v [a,c]): ∃ g cap,v= .slice (some ⟨g,0,none⟩) 2 cap∧2≤cap∧w.cell? ⟨g,0,none⟩=some (Vi Vk (a:Int))∧w.cell? ⟨g,1,none⟩=some (Vi Vk (c:Int)):=by
 obtain⟨g,cap,e,h1,_,h3⟩:=h.at (by simp);exact⟨g,cap,e,h1,h3 0 a rfl,h3 1 c rfl⟩
def HdrPost (w:World) (r:Nat×Nat×Nat×Int) (e:Ending) (w':World):Prop:=e= .returned (.tuple #[Vi Vk (r.1:Int),Vi Vk (r.2.1:Int),Vi Vk (r.2.2.1:Int),Vi Vk r.2.2.2])∧Below w.heap.size w w'
theorem hdrOf_any (l:List UInt8) (v:Value) (w:World) (hv:B7 w v l) (hl:l.length≤140737488355328) (hn:Bh w):
  Calls prog 35 #[v] w (HdrPost w (B5 l)):=by
 have HD:=Qh (L6 l v w hv (by omega) hn);have HFN:=Qh (@Jn l)
 have HH:=Qh (show B5 l=if (Cg l).2.2≠0∨(Cg l).1.k≠2 then (0,0,0,71) else match Ck 2 (Cg l).1.body [] with
  |none=>(0,0,0,71)
  |some r=>hdrIn r.1 r.2 (Cg l).1.s (Cg l).2.1 from rfl)
 obtain⟨oa,cap,rfl,hlc,hc⟩:=hv;obtain⟨r,hr⟩: ∃ r,r=Cg l:=⟨_,rfl⟩;rw [←hr] at HD HH HFN;clear hc hr hn hlc;obtain⟨⟨k,s,body⟩,sz,e0⟩:=r;unfold DecPost at HD;go_enter func35,ntmps35;go_wp2_with fail;refine HD.out.mono ?_;rintro e w1 ⟨bv,rfl,hbv,hb1⟩;have HB1:=Qh hb1;have HBV:=Qh hbv.low1;have HFz:=Qh (Ff w1 0 0 (.slice none 0 0));have HBz:=Qh (Aa w1 (.cells (Ha 0 0 (.slice none 0 0)) 101));have hone:=hbv.one;simp only [Ha] at HFz HBz;clear hbv hb1 HD;go_wp2_with (with_reducible refine C9 rfl (.tmp 6) (.tmp 15) rfl w1.heap.size 0 0 (k:Int) (s:Int) (.slice none 0 0) bv rfl rfl HFz.out hone ?_);intro w2 hf2 ht2;have HF2:=Qh hf2;have HB2:=Qh (Ba (HB1.out.trans (HBz.out.mono HB1.out.size)) ht2 (fun x hx=>by have:=HB1.out.size;omega) (by have:=HB1.out.size;have:=HBz.out.size;omega));have HV2:=Qh (((HBV.out.below HBz.out).turned ht2 (fun x hx he=>by have:=hx.2;omega)).brow);have c0:w2.cell? ⟨w1.heap.size,0,none⟩=some (Vi Vk (k:Int)):=HF2.out.c0;clear hf2 ht2 HB1 HFz HBz HBV;generalize w1.heap.size=g at*;rcases he0:(e0 != 0) with _|_
 ·have he00:e0=0:=by simpa using he0
  subst he00;rcases hk:((k:Int) != 2) with _|_
  ·have HK:=Qs (k=2) (by simp at hk;omega);have hbl:body.length≤16384:=(HFN.out rfl).2.1;have HU:=Qh (fun W (hb:B7 W bv body)=>unnums_any body bv 2 W hb (by omega) (by omega));have HUL:=Qh (fun r (h:Ck 2 body []=some r)=>unnums_len h);have HUM:=Qh (fun r (h:Ck 2 body []=some r)=>unnums_le h (fun _ h=>by cases h))
   have HH2:=Qh (show B5 l=match Ck 2 body [] with
    |none=>(0,0,0,71)
    |some r=>hdrIn r.1 r.2 s sz by rw [HH.out];simp [HK.out])
   obtain⟨r,hr⟩: ∃ r,r=Ck 2 body []:=⟨_,rfl⟩;rw [←hr] at HU HUL HUM HH2;clear hr HH HFN;have c2:=HF2.out.c2;go_wp2_with fail;refine(HU.out w2 HV2.out).mono ?_;rintro e w3 ⟨hb3,hpost⟩;have HB3:=Qh (Below.next HB2.out hb3);have HF3:=Qh (HF2.out.below hb3);clear hb3 HU HB2 HF2 HV2 c0 c2;rcases r with _|⟨vs,rest⟩
   ·simp only at hpost;subst hpost;go_wp2
    go_quiet (fail)
    go_wp2;refine π (v:= .tuple #[Vi Vk 0,Vi Vk 0,Vi Vk 0,Vi Vk 71]) (by simp [results,results35,go_sem]) rfl ⟨by rw [HH2.out];rfl,Below.next HB3.out (Ac _ _)⟩
   ·obtain⟨vv,rv,rfl,hov,hrv⟩:=hpost;obtain⟨a,c,hvs⟩:=list2 (by have:=(HUL.out _ rfl).1;simpa using this);subst hvs;have ha:a≤2199023255552:=HUM.out _ rfl a (by simp);have hc:c≤2199023255552:=HUM.out _ rfl c (by simp);obtain⟨gv,vcap,rfl,hvc,d0,d1⟩:=hov.two;obtain⟨ra,rcap,rfl,_,_⟩:=hrv;have c1:=HF3.out.c1;have HR:=Qh (fun W=>right_any (a:Int) (c:Int) W);have HH3:=Qs (B5 l=if rest≠ []∨a≠s∨rightB a c=false then (0,0,0,71) else (a,c,sz,0)) (by rw [HH2.out];rfl);clear HUL HUM hov HH2;rcases hrl:decide (0<rest.length) with _|_
    ·have HRN:=Qs (rest=[]) (by simpa using hrl);rcases has:((a:Int) != (s:Int)) with _|_
     ·have HAS:=Qs (a=s) (by simp at has;omega);rcases hri:rightB (a:Int) (c:Int) with _|_
      ·have HG:=Qs (B5 l=(0,0,0,71)) (by rw [HH3.out,κ (.inr (.inr hri))]);have HR2:=Qh (fun W=>HR.out W);rw [show (decide (1≤(a:Int))&&decide ((a:Int)≤999999)&&decide (1≤(c:Int))&&decide ((c:Int)≤1099511627777))=false from hri] at HR2;go_wp2
       go_quiet ((go_at_call 63;exact Calls.quiet_of_same ((HR2.out _).mono fun e w1 h=>⟨h.1,h.2.symm⟩)))
       go_wp2;refine π (v:= .tuple #[Vi Vk 0,Vi Vk 0,Vi Vk 0,Vi Vk 71]) (by simp [results,results35,go_sem]) rfl ⟨by rw [HG.out];rfl,Below.next HB3.out (Ac _ _)⟩
      ·have HG:=Qs (B5 l=(a,c,sz,0)) (by rw [HH3.out,γ (by rintro(h|h|h);exact h HRN.out;exact h HAS.out;rw [hri] at h;cases h)]);have HR2:=Qh (fun W=>HR.out W);rw [show (decide (1≤(a:Int))&&decide ((a:Int)≤999999)&&decide (1≤(c:Int))&&decide ((c:Int)≤1099511627777))=true from hri] at HR2;go_wp2
       go_quiet ((go_at_call 63;exact Calls.quiet_of_same ((HR2.out _).mono fun e w1 h=>⟨h.1,h.2.symm⟩)))
       go_wp2
       go_quiet (fail)
       go_wp2;refine π (v:= .tuple #[Vi Vk (a:Int),Vi Vk (c:Int),Vi Vk (sz:Int),Vi Vk 0]) (by simp [results,results35,go_sem]) rfl ⟨by rw [HG.out],?_⟩;exact Below.next (Below.next HB3.out (Ac _ _)) (Ac _ _)
     ·have HG:=Qs (B5 l=(0,0,0,71)) (by rw [HH3.out,κ (.inr (.inl (by rintro rfl;simp at has)))]);go_wp2
      go_quiet (fail)
      go_wp2;refine π (v:= .tuple #[Vi Vk 0,Vi Vk 0,Vi Vk 0,Vi Vk 71]) (by simp [results,results35,go_sem]) rfl ⟨by rw [HG.out];rfl,Below.next HB3.out (Ac _ _)⟩
    ·have HG:=Qs (B5 l=(0,0,0,71)) (by rw [HH3.out,κ (.inl (by rintro rfl;simp at hrl))]);go_wp2
     go_quiet (fail)
     go_wp2;refine π (v:= .tuple #[Vi Vk 0,Vi Vk 0,Vi Vk 0,Vi Vk 71]) (by simp [results,results35,go_sem]) rfl ⟨by rw [HG.out];rfl,Below.next HB3.out (Ac _ _)⟩
  ·have HE:=Qs (B5 l=(0,0,0,71)) (by rw [HH.out,κ (.inr (by simp at hk;omega))]);go_wp2;refine π (v:= .tuple #[Vi Vk 0,Vi Vk 0,Vi Vk 0,Vi Vk 71]) (by simp [results,results35,go_sem]) rfl ⟨by rw [HE.out];rfl,HB2.out⟩
 ·have HE:=Qs (B5 l=(0,0,0,71)) (by rw [HH.out,κ (.inl (by simpa using he0))]);go_wp2;refine π (v:= .tuple #[Vi Vk 0,Vi Vk 0,Vi Vk 0,Vi Vk 71]) (by simp [results,results35,go_sem]) rfl ⟨by rw [HE.out];rfl,HB2.out⟩
theorem Al (hb:Below B w0 w) (ht:Ab S w w') (hS: ∀ k,S k→B≤k) (hB:B≤w.heap.size):Below B w0 w':=
 ⟨ht.os.trans hb.os,ht.tape.trans hb.tape,ht.output.trans hb.output,η hb.size ht.size,fun k hk=>(ht.block k (by omega) (fun h=>by have:=hS k h;omega)).trans (hb.block k hk)⟩
theorem Jh (w:World) (g:Nat) (cs:Array Value):Ab (fun k=>k=g) w (w.setRow g cs):=⟨rfl,rfl,rfl,by simp,fun k _ hn=>setRow_other _ _ _ _ hn⟩
structure Mk where
 s:Int
 p:Int
def Gl (m:Mk):Array Value:= #[Vi Vk m.s,Vi Vk m.p]
@[reducible] def mkV (m : Mk) : Value := .agg #[Vi Vk m.s, Vi Vk m.p]
theorem mkInfo:(prog.info? 135).map (·.size)=some 2:=by kernel_rfl
def Er (w:World) (g:Nat) (m:Mk):Prop:=w.heap[g]? =some (.cells (Gl m) 135 (0,0))
theorem Er.lt {m:Mk} (h:Er w g m):g<w.heap.size:=(δ.1 h).1
theorem Er.keep {m:Mk} (h:Er w g m) (hb:Below B w w') (hB:g<B):Er w' g m:=by
 unfold Er at *;rw [hb.block g hB];exact h
theorem Er.below {m:Mk} (h:Er w g m) (hb:Below w.heap.size w w'):Er w' g m:=h.keep hb h.lt
theorem Er.cell {m:Mk} (h:Er w g m) (j:Nat):w.cell? ⟨g,j,none⟩=(Gl m)[j]? :=by
 unfold Er at h;simp [World.cell?,h]
theorem Er.c0 {m:Mk} (h:Er w g m):w.cell? ⟨g,0,none⟩=some (Vi Vk m.s):=h.cell 0
theorem Er.c1 {m:Mk} (h:Er w g m):w.cell? ⟨g,1,none⟩=some (Vi Vk m.p):=h.cell 1
theorem Hu (w:World) (m:Mk):Er (w.alloc (.cells (Gl m) 135)) w.heap.size m:=σ w _
theorem Er.row {m m':Mk} (h:Er w g m):Er (w.setRow g (Gl m')) g m':=setRow_heap w g _ _ _ _ h
theorem mkCs_all (m:Mk):(Gl m).all (·.oneCell')=true:=
 Array.all_eq_true_iff_forall_mem.2 (by
  intro u hu
  simp only [Gl,List.mem_toArray,Δ,Ω,or_false] at hu
  rcases hu with rfl|rfl<;>rfl)
theorem Ef (hgd:o.guard=none) (x y:Operand) (ho:o.op= .store 135 x y)
  (g:Nat) (m m':Mk) (hx:a.eval x= .pointer (some ⟨g,0,none⟩)) (hy:a.eval y=mkV m') (hE:Er w g m)
  (h: ∀ W,Er W g m'→Ab (fun k=>k=g) w W→wpList prog ops Q rest (a.put o.dst undef) W):wpList prog ops Q (o::rest) a w:=
 wpList_store_row hgd 135 x y ho g (Gl m') hx hy 135 (Gl m) hE mkInfo rfl (mkCs_all m') (h _ hE.row (Jh _ _ _))
theorem M9 (hgd:o.guard=none) (x:Operand) (ho:o.op= .load 135 x)
  (g:Nat) (m:Mk) (hx:a.eval x= .pointer (some ⟨g,0,none⟩)) (hE:Er w g m)
  (h:wpList prog ops Q rest (a.put o.dst (mkV m)) w):wpList prog ops Q (o::rest) a w:=
 wpList_load_row hgd 135 x ho g hx 135 (Gl m) (0,0) _ hE underlying135 rfl mkInfo h
theorem En (hgd:o.guard=none) (x:Operand) (ho:o.op= .load 135 x)
  (b off:Nat) (m:Mk) (hx:a.eval x= .pointer (some ⟨b,off,none⟩)) (hE:w.rangeAt b off (Gl m).toList)
  (h:wpList prog ops Q rest (a.put o.dst (mkV m)) w):wpList prog ops Q (o::rest) a w:=
 wpList_load_mid hgd 135 x ho b off hx (Gl m).toList _ hE underlying135 rfl mkInfo h
def MkRow (w:World) (v:Value) (ms:List Mk):Prop:=
 ∃ oa cap,v= .slice oa ms.length cap∧ms.length≤cap∧cap≤9223372036854775807∧ ∀ (i:Nat) m,ms[i]? =some m→ ∃ b off,oa=some ⟨b,off,none⟩∧w.rangeAt b (off+i*2) (Gl m).toList
theorem MkRow.below {l:List Mk} (h:MkRow w v l) (hb:Below w.heap.size w w'):MkRow w' v l:=by
 obtain⟨oa,cap,h1,h2,h3,h4⟩:=h;exact⟨oa,cap,h1,h2,h3,fun i g hg=>by obtain⟨b,off,e,hc⟩:=h4 i g hg;exact⟨b,off,e,Bs hc hb⟩⟩
def E5:Int→Int→List Mk→Bool
 |_,_,[]=>true
 |s,p,m::r=>if m.s≤s∨m.p≤p∨1099511627776<m.s∨1099511627776<m.p then false else E5 m.s m.p r
def Dv (ms:List Mk):Bool:=decide (ms.length≤512)&&E5 0 (-1) ms
theorem marks_bad {s p:Int} {m:Mk} {r:List Mk} (h:m.s≤s∨m.p≤p∨1099511627776<m.s∨1099511627776<m.p):E5 s p (m::r)=false:=by rw [E5,κ h]
theorem marks_go {s p:Int} {m:Mk} {r:List Mk} (h: ¬ (m.s≤s∨m.p≤p∨1099511627776<m.s∨1099511627776<m.p)):E5 s p (m::r)=E5 m.s m.p r:=by rw [E5,γ h]
theorem marksValid_any (ms:List Mk) (v:Value) (w:World) (hv:MkRow w v ms):
  Calls prog 175 #[v] w fun e w'=>e= .returned (.bool (Dv ms))∧Below w.heap.size w w':=by
 obtain⟨oa,cap,rfl,hl1,hl2,hc⟩:=hv;have HC:=Qh hc;clear hc;rcases ht:decide ((512:Int)<(ms.length:Int)) with _|_
 ·have hle:ms.length≤512:=by simp at ht;omega
  have HV:=Qs (Dv ms=E5 0 (-1) ms) (by unfold Dv;rw [ξ hle];rfl);have HA:=Qh (Hu w ⟨0,0⟩);have HB0:=Qh (Aa w (.cells (Gl ⟨0,0⟩) 135));simp only [Gl] at HA HB0;go_enter func175,ntmps175;go_wp2_with (with_reducible refine Ef rfl (.tmp 3) (.tmp 9) rfl w.heap.size ⟨0,0⟩ ⟨0,-1⟩ rfl rfl HA.out ?_);intro w1 hm1 ht1;have HM1:=Qh hm1;have HB1:=Qh (Al HB0.out ht1 (fun k hk=>by omega) HB0.out.size);clear hm1 ht1 HA HB0;go_wp2;go_loopw [12] (fun iv wr=> ∃ (k:Nat) (x:Mk),k≤ms.length∧iv= Vi Vk (k:Int)∧Hid (Er wr w.heap.size x)∧Hid (Dv ms=E5 x.s x.p (ms.drop k))∧Hid (Below w.heap.size w wr)) (fun iv _=>ms.length - (intOf iv).toNat)
  case atStart=>exact⟨0,⟨0,-1⟩,θ _,rfl,HM1,Qh HV.out,HB1⟩
  case round=>
   clear HM1 HB1;obtain⟨k,x,hk,rfl,HX,HE,HB⟩:=hrel;by_cases hlt:k<ms.length
   ·obtain⟨m,hm,_,_⟩:=Pj ms k hlt;obtain⟨b,off,rfl,hcell⟩:=HC.out k m hm;have q1:(k:Int)<(ms.length:Int):=by omega
    have HCE:=Qh (Bs (Bs hcell HB.out) (Aa wr (.cells (Gl ⟨0,0⟩) 135)));have HCE0:=Qh (Bs hcell HB.out);have HD:=Qh (drop_cons hm);have HN:=Qh (Hu wr ⟨0,0⟩);have HBN:=Qh (Aa wr (.cells (Gl ⟨0,0⟩) 135));have HXN:=Qh (HX.out.below HBN.out);have hgl:=HX.out.lt;have HBD:=Qh (@marks_bad x.s x.p m (ms.drop (k+1)));have HGO:=Qh (@marks_go x.s x.p m (ms.drop (k+1)));rw [HD.out] at HE;have hk1:IntKind.i64.wrap ((k:Int)+1)=(k:Int)+1:=by rw [ν];omega
    clear hcell hm HD;simp only [Gl] at HN HBN HXN;go_wp2_with (first|(with_reducible refine En rfl (.tmp 14) rfl b (off+k*2) m rfl HCE0.out ?_)|(with_reducible refine Ef rfl (.tmp 5) (.tmp 15) rfl wr.heap.size ⟨0,0⟩ m rfl rfl HN.out ?_));intro w2 hm2 ht2;have HM2:=Qh hm2;have HX2:=Qs (Er w2 w.heap.size x) (by
     unfold Er;rw [ht2.block _ (Nat.lt_of_lt_of_le hgl HBN.out.size) (by omega)];exact HXN.out)
    have HB2:=Qh (Al (HB.out.trans (HBN.out.mono HB.out.size)) ht2 (fun i hi=>by have:=HB.out.size;omega) (by have:=HB.out.size;have:=HBN.out.size;omega));have hne: ¬ w.heap.size=wr.heap.size:=by omega
    clear hm2 ht2 HN HBN HXN HX HB HCE HCE0;generalize wr.heap.size=g at*;have c0:=HM2.out.c0;have c1:=HM2.out.c1;have d0:=HX2.out.c0;have d1:=HX2.out.c1;rcases t1:decide (m.s≤x.s) with _|_
    ·rcases t2:decide (m.p≤x.p) with _|_
     ·rcases t3:decide ((1099511627776:Int)<m.s) with _|_
      ·rcases t4:decide ((1099511627776:Int)<m.p) with _|_
       ·have HG:=Qh (HGO.out (by simp at t1 t2 t3 t4;omega));go_wp2_with (first|(with_reducible refine M9 rfl (.tmp 5) rfl g m rfl HM2.out ?_)|(with_reducible refine Ef rfl (.tmp 3) (.tmp 38) rfl w.heap.size x m rfl rfl HX2.out ?_));intro w3 hm3 ht3;have HM3:=Qh hm3;have HB3:=Qh (Al HB2.out ht3 (fun i hi=>by omega) HB2.out.size);clear hm3 ht3;go_wp2;go_roundw
        case rel=>exact⟨k+1,m,by omega,by go_num,HM3,Qh (HE.out.trans HG.out),HB3⟩
        case measure=>simp [intOf];omega
       ·have HG:=Qh (HBD.out (by simp at t4;omega));go_wp2;go_ret;exact⟨by rw [HE.out,HG.out];rfl,HB2.out⟩
      ·have HG:=Qh (HBD.out (by simp at t3;omega));go_wp2;go_ret;exact⟨by rw [HE.out,HG.out];rfl,HB2.out⟩
     ·have HG:=Qh (HBD.out (by simp at t2;omega));go_wp2;go_ret;exact⟨by rw [HE.out,HG.out];rfl,HB2.out⟩
    ·have HG:=Qh (HBD.out (by simp at t1;omega));go_wp2;go_ret;exact⟨by rw [HE.out,HG.out];rfl,HB2.out⟩
   ·obtain rfl:k=ms.length:=by omega
    have HE2:=Qs (Dv ms=true) (by rw [HE.out,List.drop_length];rfl);go_wp2;go_ret;exact⟨by rw [HE2.out];rfl,HB.out⟩
 ·have HV:=Qs (Dv ms=false) (by unfold Dv;rw [ρ (by simp at ht;omega)];rfl);go_enter func175,ntmps175;go_wp2;go_ret;exact⟨by rw [HV.out];rfl,χ _ _⟩
def Mb (ms:List Mk):List Value:=ms.flatMap fun m=>(Gl m).toList
theorem mkCells_snoc (ms:List Mk) (m:Mk):Mb (ms++[m])=Mb ms++(Gl m).toList:=by simp [Mb]
theorem mkCells_at: ∀ (ms:List Mk) (i:Nat) (m:Mk),ms[i]? =some m→ ∀ (j:Nat) u,(Gl m)[j]? =some u→(Mb ms)[i*2+j]? =some u
 | [],i,x,h=>by simp at h
 |y::ys,0,x,h=>by
  intro j u hj
  simp at h;subst h
  have hl:j<2:=by have:=(δ.1 hj).1;simpa [Gl] using this
  unfold Mb
  rw [List.flatMap_cons,Nat.zero_mul,Nat.zero_add,List.getElem?_append_left (by simpa [Gl] using hl)]
  simpa using hj
 |y::ys,i+1,x,h=>by
  intro j u hj
  have:=mkCells_at ys i x (by simpa using h) j u hj
  unfold Mb at this ⊢
  rw [List.flatMap_cons,List.getElem?_append_right (by simp [Gl];omega)]
  rw [←this]
  congr 1
  simp [Gl];omega
def Es (w:World) (B:Nat) (v:Value) (ms:List Mk):Prop:=w.ownsRow B 135 2 v ms.length (Mb ms)
theorem Es.later {ms:List Mk} (h:Es w B v ms) (hb:Below w.heap.size w w'):Es w' B v ms:=A2 h hb
theorem G6 (w:World) (B:Nat):Es w B (.slice none 0 0) []:=⟨rfl,.inl ⟨rfl,rfl⟩⟩
theorem Es.row {ms:List Mk} (h:Es w B v ms):MkRow w v ms:=by
 by_cases hn:ms=[]
 ·subst hn;obtain⟨oa,cap,rfl,h1,h2⟩:=Aj h;exact⟨oa,cap,rfl,h1,by unfold maxLen at h2;omega,fun i u hu=>by simp at hu⟩
 ·obtain⟨g,cap,rfl,_,_,h1,h2,h3⟩:=Dr h (Ψ.2 hn);exact⟨_,cap,rfl,h1,by unfold maxLen at h2;omega,fun i m hm=>⟨g,0,rfl,fun j u hj=>by rw [Nat.zero_add];exact h3 _ _ (mkCells_at ms i m hm j u (by simpa using hj))⟩⟩
theorem Es.mono {B':Nat} {ms:List Mk} (h:Es w B v ms) (hB:B'≤B):Es w B' v ms:=by
 refine⟨h.1,?_⟩;rcases h.2 with hn|⟨g,cap,cur,e,hb1,rest⟩
 ·exact .inl hn
 ·exact .inr ⟨g,cap,cur,e,η hB hb1,rest⟩
theorem Es.turned {ms:List Mk} (h:Es w B v ms) (ht:Ab (fun k=>k=g) w w') (hg:g<B):Es w' B v ms:=by
 refine⟨h.1,?_⟩;rcases h.2 with hn|⟨g',cap,cur,rfl,hb1,hg',rest⟩
 ·exact .inl hn
 ·exact .inr ⟨g',cap,cur,rfl,hb1,by rw [ht.block _ (δ.1 hg').1 (by omega)];exact hg',rest⟩
theorem infoMk:(prog.info? 135).map (fun i=>(i.zero,i.size,i.bytes))=some (some (mkV ⟨0,0⟩),2,16):=by kernel_rfl
theorem wpList_appMk (hgd:o.guard=none) (s y:Operand) (ho:o.op= .call {callee:= .builtin .append,args:= #[s,y],argTypes:= #[78,78]})  {ms:List Mk} {m:Mk} 
  (hs:a.eval s=v) (hN:N=w.heap.size) (hy:a.eval y= .slice (some ⟨N,0,none⟩) 1 1) (hown:Es w B v ms) (hB:B≤w.heap.size) (hl:ms.length≤100000)
  (h: ∀ v' w',Es w' B v' (ms++[m])→Below B w w'→w.heap.size≤w'.heap.size→wpList prog ops Q rest (a.put o.dst v') w'):wpList prog ops Q (o::rest) a (w.alloc (.cells #[Vi Vk m.s,Vi Vk m.p] 135)):=by
 subst hN;obtain⟨i0,hi,hz0,hz1,hz2⟩:=info_parts infoMk;have hb:=Aa w (.cells #[Vi Vk m.s,Vi Vk m.p] 135);refine wpList_append_own _ hgd s y 78 ho B 135 i0 (mkV ⟨0,0⟩) 2 16 underlying78 hi hz0 hz1 hz2 rfl (by decide) v ms.length (Mb ms) hs (A2 hown hb) ⟨w.heap.size,0,none⟩ 1 1 (Gl m).toList hy rfl (fun j u hj=> ?_) (fun u hu=> ?_) (by unfold maxLen;omega) (by omega) (η hB hb.size) ?_
 ·rw [Cr,Nat.zero_add,World.cell?_alloc_new];simpa [Gl] using hj
 ·simp [Gl] at hu;rcases hu with rfl|rfl<;>rfl
 ·intro v' w' hown' hg _;refine h v' w' ?_ ((hb.mono hB).trans (Cm (A2 hown hb) (η hB hb.size) hg)) (η hb.size hg.size);unfold Es;rw [ζ,mkCells_snoc];exact hown'
def Nn:List Nat→Int→Int→List Mk→Option (List Mk)
 |a::c::r,s,p,acc=>if 1099511627776<a∨1099511627776<c then none else Nn r (s+a) (p+c) (acc++[⟨s+a,p+c⟩])
 |_,_,_,acc=>some acc
def Hb (b:List UInt8):List Mk×Int:=
 if (Dd b 1024).2.2≠0 then ([],(Dd b 1024).2.2) else if (Dd b 1024).2.1≠b.length∨(Dd b 1024).1.length % 2≠0 then ([],70)
 else match Nn (Dd b 1024).1 0 0 [] with
  |none=>([],70)
  |some ms=>if Dv ms then (ms,0) else ([],70)
theorem drop_two {a:Nat} (h1:us[i]? =some a) (h2:us[i+1]? =some c):us.drop i=a::c::us.drop (i+2):=by rw [Hr h1,Hr h2]
theorem idx_bad {a c:Nat} {r:List Nat} {s p:Int} {acc:List Mk} (h:1099511627776<a∨1099511627776<c):Nn (a::c::r) s p acc=none:=by rw [Nn,κ h]
theorem idx_go {a c:Nat} {r:List Nat} {s p:Int} {acc:List Mk} (h: ¬ (1099511627776<a∨1099511627776<c)):Nn (a::c::r) s p acc=Nn r (s+a) (p+c) (acc++[⟨s+a,p+c⟩]):=by rw [Nn,γ h]
theorem decNs_len: ∀ (n:Nat) (b:List UInt8) (a:Nat) (us:List Nat),(Lt n b a us).1.length≤us.length+n
 |0,_,_,us=>by simp [Lt]
 |n+1,b,a,us=>by
  rw [Lt]
  split
  ·simp
  ·have:=decNs_len n b (a+(A3 (b.drop a)).2.1) (us++[(A3 (b.drop a)).1])
   simp only [ζ,τ,Φ] at this
   omega
theorem decAll_len (b:List UInt8) (most:Nat):(Dd b most).1.length≤most:=by
 unfold Dd;split
 ·simp
 ·split
  ·simp
  ·have:=decNs_len (A3 b).1 b (A3 b).2.1 [];simp only [Φ] at this;omega
def IdxPost (w:World) (r:List Mk×Int) (e:Ending) (w':World):Prop:= ∃ v,e= .returned (.tuple #[v,Vi Vk r.2])∧Es w' w.heap.size v r.1∧Below w.heap.size w w'
theorem idxDec_any (l:List UInt8) (v:Value) (w:World) (hv:B7 w v l) (hl:l.length≤140737488355328):
  Calls prog 140 #[v] w (IdxPost w (Hb l)):=by
 have HD0:=Qh (decodeAll_any l v 1024 w hv hl (by decide) (by decide));obtain⟨oa,cap,rfl,hlc,hc⟩:=hv
 have HI:=Qh (show Hb l=if (Dd l 1024).2.2≠0 then ([],(Dd l 1024).2.2) else if (Dd l 1024).2.1≠l.length∨(Dd l 1024).1.length % 2≠0 then ([],70)
  else match Nn (Dd l 1024).1 0 0 [] with
  |none=>([],70)
  |some ms=>if Dv ms then (ms,0) else ([],70) from rfl)
 have HLEN:=Qh (decAll_len l 1024);obtain⟨r,hr⟩: ∃ r,r=Dd l 1024:=⟨_,rfl⟩;rw [←hr] at HD0 HI HLEN;clear hc hr;obtain⟨us,at0,e0⟩:=r;unfold AllPost at HD0;go_enter func140,ntmps140;go_wp2_with fail;refine HD0.out.mono ?_;rintro e w1 ⟨v1,rfl,ho1,hb1⟩;have HUR:=Qh (Lx.row ho1);obtain⟨ob,bcap,hsh,hbl,_⟩:=Aj ho1;have HB1:=Qh hb1;subst hsh;clear hb1 HD0 ho1 hbl hlc;rcases he0:(e0 != 0) with _|_
 ·have HE0:=Qs (e0=0) (by simpa using he0);rcases hz:((at0:Int) != (l.length:Int)) with _|_
  ·rcases hp2:((us.length:Int) % 2 != 0) with _|_
   ·have HEV:=Qs (us.length % 2=0) (by simp at hp2;omega)
    have HI2:=Qh (show Hb l=match Nn us 0 0 [] with
     |none=>([],70)
     |some ms=>if Dv ms then (ms,0) else ([],70) by
     rw [HI.out,γ (fun h=>h HE0.out),γ (by rintro(h|h);exact h (by simp at hz;omega);exact h HEV.out)])
    have HA:=Qh (Hu w1 ⟨0,0⟩);have HB2:=Qh (Below.next HB1.out (Aa w1 (.cells (Gl ⟨0,0⟩) 135)));have HUB:=Qh (fun W (h:Below w1.heap.size w1 W)=>HUR.out.below h);have HU2:=Qh (Aa w1 (.cells (Gl ⟨0,0⟩) 135));have HW1:=Qs ((w1.alloc (.cells (Gl ⟨0,0⟩) 135)).heap.size=w1.heap.size+1) (by simp);have HSW:=Qh HB1.out.size;simp only [Gl] at HA HB2 HU2 HW1;clear HI HUR HB1;go_wp2;clear hz hp2 he0;generalize w1.alloc (.cells #[Vi Vk 0,Vi Vk 0] 135)=w2 at*;generalize w1.heap.size=g at*;go_loopw [7,9] (fun mv iv wr=> ∃ (k:Nat) (x:Mk) (acc:List Mk),2*k≤us.length∧iv= Vi Vk ((2*k:Nat):Int)∧Hid (acc.length=k)∧Hid (Er wr g x)∧Hid (0≤x.s∧x.s≤1099511627776*(k:Int)∧0≤x.p∧x.p≤1099511627776*(k:Int))∧Hid (Es wr (g+1) mv acc)∧Hid (Nn us 0 0 []=Nn (us.drop (2*k)) x.s x.p acc)∧Hid (Below g w1 wr)∧Hid (Below w.heap.size w wr)∧Hid (g+1≤wr.heap.size)) (fun _ iv _=>us.length - (intOf iv).toNat)
    case atStart=>exact⟨0,⟨0,0⟩,[],θ _,rfl,Qh rfl,HA,Qh ⟨by decide,by decide,by decide,by decide⟩,Qh (G6 _ _),Qh rfl,HU2,HB2,Qh (by rw [HW1.out];exact μ _)⟩
    case round=>
     clear HA HU2 HB2 HW1;obtain⟨k,x,acc,hk,rfl,HAL,HX,HXB,HO,HG,HU1,HB,HSZ⟩:=hrel;have HU:=Qh (HUB.out wr HU1.out);obtain⟨i,hi⟩: ∃ i,i=2*k:=⟨_,rfl⟩;have HIK:=Qh hi;rw [←hi] at hk HG ⊢;clear hi;by_cases hlt:i<us.length
     ·have hlt1:i+1<us.length:=by have:=HEV.out;have:=HIK.out;omega
      obtain⟨va,hva,_,_⟩:=Pj us i hlt;obtain⟨vb,hvb,_,_⟩:=Pj us (i+1) hlt1;have HDR:=Qh (drop_two hva hvb);obtain⟨ob',bc',eqs,_,huc⟩:=HU.out;simp only [Value.slice.injEq,true_and] at eqs;obtain⟨rfl,rfl⟩:=eqs;obtain⟨b,off,rfl,ca⟩:=huc i va hva;obtain⟨b',off',e2,cb⟩:=huc (i+1) vb hvb;simp only [Option.some.injEq,Addr.mk.injEq,and_true] at e2;obtain⟨rfl,rfl⟩:=e2;have HLEN2:=Qs (i+1<1024) (by have:=HLEN.out;omega);have q1:(i:Int)<(us.length:Int):=by omega
      obtain⟨j,hj⟩: ∃ j,j=i+1:=⟨_,rfl⟩;have hwi:IntKind.i64.wrap ((i:Int)+1)=(j:Int):=by have:=HLEN2.out;rw [ν];omega
      have q2:(j:Int)<(us.length:Int):=by omega
      rw [←hj] at cb;clear hj;have hwi2:IntKind.i64.wrap ((i:Int)+2)=(i:Int)+2:=by have:=HLEN2.out;rw [ν];omega
      rw [HDR.out] at HG;have HBD:=Qh (@idx_bad va vb (us.drop (i+2)) x.s x.p acc);have HGO:=Qh (@idx_go va vb (us.drop (i+2)) x.s x.p acc);have c0:=HX.out.c0;have c1:=HX.out.c1;clear hva hvb huc HDR;rcases t1:decide ((1099511627776:Int)<(va:Int)) with _|_
      ·rcases t2:decide ((1099511627776:Int)<(vb:Int)) with _|_
       ·have ha:va≤1099511627776:=by simp at t1;omega
        have hb:vb≤1099511627776:=by simp at t2;omega
        have hwa:IntKind.i64.wrap (va:Int)=(va:Int):=by rw [ν];omega
        have hwb:IntKind.i64.wrap (vb:Int)=(vb:Int):=by rw [ν];omega
        have hwsa:IntKind.i64.wrap (x.s+(va:Int))=x.s+(va:Int):=by have:=HXB.out;have:=HLEN2.out;have:=HIK.out;rw [ν];omega
        have hwsb:IntKind.i64.wrap (x.p+(vb:Int))=x.p+(vb:Int):=by have:=HXB.out;have:=HLEN2.out;have:=HIK.out;rw [ν];omega
        have HG2:=Qh (HGO.out (by omega));go_wp2;go_still_tail 18,(by kernel_rfl);refine Ef rfl (.tmp 8) (.tmp 67) rfl g x ⟨x.s+(va:Int),x.p+(vb:Int)⟩ rfl rfl (HX.out.below (Ac wr 1)) ?_;intro w4 hm4 ht4;have HM4:=Qh hm4;have HO4:=Qh ((HO.out.later (Ac wr 1)).turned ht4 (Nat.lt_succ_self g));have HB4:=Qh (Ba (Below.next HB.out (Ac wr 1)) ht4 (fun y hy=>by have:=HSW.out;omega) HB.out.size);have HU4:=Qh (Ba (HU1.out.trans ((Ac wr 1).mono (by have:=HSZ.out;omega))) ht4 (fun y hy=>by omega) (show g≤wr.heap.size by have:=HSZ.out;omega));have hs4:g+1≤w4.heap.size:=η HSZ.out ht4.size;have HAL2:=Qs (acc.length≤100000) (by have:=HAL.out;have:=HIK.out;have:=HLEN2.out;omega);clear hm4 ht4 HX HO HB HU c0 c1 ca cb;go_wp2_with (first|(with_reducible refine M9 rfl (.tmp 8) rfl g ⟨x.s+(va:Int),x.p+(vb:Int)⟩ rfl HM4.out ?_)|(refine wpList_appMk (m:=⟨x.s+(va:Int),x.p+(vb:Int)⟩) rfl (.tmp 68) (.tmp 70) rfl rfl rfl rfl HO4.out hs4 HAL2.out ?_));intro v5 w5 ho5 hb5 hs5;have HO5:=Qh ho5;have HM5:=Qh (HM4.out.keep hb5 (Nat.lt_succ_self g));have HB5:=Qh (HB4.out.trans (hb5.mono (by have:=HSW.out;omega)));have HU5:=Qh (HU4.out.trans (hb5.mono (Nat.le_succ g)));have HS5:=Qh (η hs4 hs5);clear ho5 hb5 hs5 hs4 HM4 HO4 HB4 HU4;go_wp2;go_roundw
        case rel=>exact⟨k+1,⟨x.s+(va:Int),x.p+(vb:Int)⟩,acc++[⟨x.s+(va:Int),x.p+(vb:Int)⟩],by have:=HIK.out;omega,by have:=HIK.out;first|(congr 1;omega)|(simp;omega),Qh (by have:=HAL.out;simp;omega),HM5,Qh (by have:=HXB.out;simp only;omega),HO5,Qh (by rw [HG.out,HG2.out];have:=HIK.out;subst this;rfl),HU5,HB5,HS5⟩
        case measure=>simp [intOf];omega
       ·have HE:=Qs (Hb l=([],70)) (by rw [HI2.out,HG.out,HBD.out (.inr (by simp at t2;omega))]);go_wp2;refine π (v:= .tuple #[.slice none 0 0,Vi Vk 70]) (by simp [results,results140,go_sem]) rfl ⟨_,by rw [HE.out],by rw [HE.out];exact G6 _ _,HB.out⟩
      ·have HE:=Qs (Hb l=([],70)) (by rw [HI2.out,HG.out,HBD.out (.inl (by simp at t1;omega))]);go_wp2;refine π (v:= .tuple #[.slice none 0 0,Vi Vk 70]) (by simp [results,results140,go_sem]) rfl ⟨_,by rw [HE.out],by rw [HE.out];exact G6 _ _,HB.out⟩
     ·obtain rfl:i=us.length:=by omega
      have HG3:=Qs (Hb l=if Dv acc then (acc,0) else ([],70)) (by rw [HI2.out,HG.out,List.drop_length];rfl);have HMV:=Qh (marksValid_any acc _ wr HO.out.row);have HO2:=Qh (HO.out.mono (B':=w.heap.size) (by have:=HSW.out;omega));obtain⟨m,hm⟩: ∃ m,m=Dv acc:=⟨_,rfl⟩;rw [←hm] at HMV HG3;clear hm HX;go_wp2_with fail;refine HMV.out.mono ?_;rintro e w4 ⟨rfl,hb4⟩;have HO4:=Qh (HO2.out.later hb4);have HB4:=Qh (Below.next HB.out hb4);clear hb4 HMV;rcases m with _|_
      ·go_wp2;refine π (v:= .tuple #[.slice none 0 0,Vi Vk 70]) (by simp [results,results140,go_sem]) rfl ⟨_,by rw [HG3.out];rfl,by rw [HG3.out];exact G6 _ _,HB4.out⟩
      ·go_wp2;refine π (v:= .tuple #[_,Vi Vk 0]) (by simp [results,results140,go_sem];first|rfl|skip) rfl ⟨_,by rw [HG3.out];rfl,by rw [HG3.out];exact HO4.out,HB4.out⟩
   ·have HE:=Qs (Hb l=([],70)) (by rw [HI.out,γ (fun h=>h HE0.out),κ (.inr (by simp at hp2;omega))]);go_wp2;refine π (v:= .tuple #[.slice none 0 0,Vi Vk 70]) (by simp [results,results140,go_sem]) rfl ⟨_,by rw [HE.out],by rw [HE.out];exact G6 _ _,HB1.out⟩
  ·have HE:=Qs (Hb l=([],70)) (by rw [HI.out,γ (fun h=>h HE0.out),κ (.inl (by intro e;simp [e] at hz))]);go_wp2;refine π (v:= .tuple #[.slice none 0 0,Vi Vk 70]) (by simp [results,results140,go_sem]) rfl ⟨_,by rw [HE.out],by rw [HE.out];exact G6 _ _,HB1.out⟩
 ·have HE:=Qs (Hb l=([],e0)) (by rw [HI.out,κ (show e0≠0 by simpa using he0)]);go_wp2;refine π (v:= .tuple #[.slice none 0 0,Vi Vk e0]) (by simp [results,results140,go_sem]) rfl ⟨_,by rw [HE.out],by rw [HE.out];exact G6 _ _,HB1.out⟩
def Hp (a c d:Int) (mv:Value):Array Value:= #[Vi Vk a,Vi Vk c,Vi Vk d,mv]
@[reducible] def clV (a c d : Int) (mv : Value) : Value := .agg #[Vi Vk a, Vi Vk c, Vi Vk d, mv]
theorem clInfo:(prog.info? 186).map (·.size)=some 4:=by kernel_rfl
def Ig (w:World) (g:Nat) (a c d:Int) (mv:Value):Prop:=w.heap[g]? =some (.cells (Hp a c d mv) 186 (0,0))
theorem Ig.lt {a c d:Int}  (h:Ig w g a c d mv):g<w.heap.size:=(δ.1 h).1
theorem Ig.below {a c d:Int}  (h:Ig w g a c d mv) (hb:Below w.heap.size w w'):Ig w' g a c d mv:=by
 unfold Ig at *;rw [hb.block g (δ.1 h).1];exact h
theorem Ig.cell {a c d:Int}  (h:Ig w g a c d mv) (j:Nat):w.cell? ⟨g,j,none⟩=(Hp a c d mv)[j]? :=by
 unfold Ig at h;simp [World.cell?,h]
theorem clBlk_alloc (w:World) (a c d:Int) (mv:Value):Ig (w.alloc (.cells (Hp a c d mv) 186)) w.heap.size a c d mv:=σ w _
theorem clCs_all (a c d:Int) (v:Value) (h:v.oneCell'=true):(Hp a c d v).all (·.oneCell')=true:=
 Array.all_eq_true_iff_forall_mem.2 (by
  intro u hu
  simp only [Hp,List.mem_toArray,Δ,Ω,or_false] at hu
  rcases hu with rfl|rfl|rfl|rfl<;>first|rfl|assumption)
theorem I7 (hgd:o.guard=none) (x y:Operand) (ho:o.op= .store 186 x y)
  (g:Nat) (p q r p' q' r':Int) (mv mv':Value) (hx:a.eval x= .pointer (some ⟨g,0,none⟩)) (hy:a.eval y=clV p' q' r' mv') (hE:Ig w g p q r mv) (h1:mv'.oneCell'=true)
  (h: ∀ W,Ig W g p' q' r' mv'→Ab (fun k=>k=g) w W→wpList prog ops Q rest (a.put o.dst undef) W):wpList prog ops Q (o::rest) a w:=
 wpList_store_row hgd 186 x y ho g (Hp p' q' r' mv') hx hy 186 (Hp p q r mv) hE clInfo rfl (clCs_all p' q' r' mv' h1) (h _ (setRow_heap w g _ _ _ _ hE) (Ax _ _ _))
theorem Jp {p:Tmp} (h:fn.results= #[.cell p 186,.tmp q]) (tmps:Array Value) (w:World) (g:Nat) (a c d:Int) (mv x:Value)
  (hp:tmps.getD p undef= .pointer (some ⟨g,0,none⟩)) (hq:tmps.getD q undef=x) (hE:Ig w g a c d mv):(results fn tmps).run prog w= .ok (.tuple #[clV a c d mv,x]) w:=by
 have hl:(loadVar 186 ⟨g,0,none⟩).run prog w= .ok (clV a c d mv) w:=run_loadVar_row (P:=prog) w g 186 186 (Hp a c d mv) (0,0) _ hE underlying186 rfl clInfo;have hp':tmps[p]?.getD undef= .pointer (some ⟨g,0,none⟩):=by simpa using hp
 have hq':tmps[q]?.getD undef=x:=by simpa using hq
 simp [results,h,hp',hq',asAddr,hl]
structure Cls where
 first:Nat
 count:Nat
 stride:Nat
 marks:List Mk
def clsIn (vs:List Nat) (rest:List UInt8):Option Cls:=
 match vs with
 | [a,c,d]=>if d<1∨64<d∨c<1 then none else if (Hb rest).2=0 then some ⟨a,c,d,(Hb rest).1⟩ else none
 |_=>none
def Fb (b:List UInt8):Option Cls:=match Ck 3 b [] with
 |none=>none
 |some r=>clsIn r.1 r.2
theorem list3 {vs:List Nat} (h:vs.length=3): ∃ a c d,vs=[a,c,d]:=by
 match vs,h with
 | [a,c,d],_=>exact⟨a,c,d,rfl⟩
theorem OwnI.three {a d:Nat} (h:OwnI w B v [a,c,d]): ∃ g cap,v= .slice (some ⟨g,0,none⟩) 3 cap∧3≤cap∧B≤g∧w.cell? ⟨g,0,none⟩=some (Vi Vk (a:Int))∧w.cell? ⟨g,1,none⟩=some (Vi Vk (c:Int))∧w.cell? ⟨g,2,none⟩=some (Vi Vk (d:Int)):=by
 obtain⟨g,cap,e,h1,hB,h3⟩:=h.at (by simp);exact⟨g,cap,e,h1,hB,h3 0 a rfl,h3 1 c rfl,h3 2 d rfl⟩
def ClPost (w:World) (r:Option Cls) (e:Ending) (w':World):Prop:=Below w.heap.size w w'∧
 match r with
 |none=> ∃ (a c d:Int) (oa:Option Addr) (n cap:Nat),e= .returned (.tuple #[clV a c d (.slice oa n cap),.bool false])
 |some r=> ∃ mv,e= .returned (.tuple #[clV (r.first:Int) (r.count:Int) (r.stride:Int) mv,.bool true])∧Es w' w.heap.size mv r.marks∧1≤r.count∧r.count≤2199023255552∧1≤r.stride∧r.stride≤64∧r.first≤2199023255552
theorem unclose_any (l:List UInt8) (v:Value) (w:World) (hv:B7 w v l) (hl:l.length≤140737488355328):
  Calls prog 108 #[v] w (ClPost w (Fb l)):=by
 have HB0:=Qh (Aa w (.cells (Hp 0 0 0 (.slice none 0 0)) 186));have HF0:=Qh (clBlk_alloc w 0 0 0 (.slice none 0 0));have HU:=Qh (unnums_any l v 3 _ (hv.below HB0.out) hl (by decide));have HSZ0:=Qs ((w.alloc (.cells (Hp 0 0 0 (.slice none 0 0)) 186)).heap.size=w.heap.size+1) (by simp);have HUL:=Qh (fun r (h:Ck 3 l []=some r)=>unnums_len h);have HUM:=Qh (fun r (h:Ck 3 l []=some r)=>unnums_le h (fun _ h=>by cases h))
 have HH:=Qh (show Fb l=match Ck 3 l [] with
  |none=>none
  |some r=>clsIn r.1 r.2 from rfl)
 obtain⟨oa,cap,rfl,_,_⟩:=hv;obtain⟨r,hr⟩: ∃ r,r=Ck 3 l []:=⟨_,rfl⟩;rw [←hr] at HU HUL HUM HH;clear hr;simp only [Hp] at HB0 HF0 HU HSZ0;go_enter func108,ntmps108;go_wp2_with fail;refine HU.out.mono ?_;rintro e w1 ⟨hb1,hpost⟩;have HB1:=Qh (Below.next HB0.out hb1);have HF1:=Qh (Ig.below HF0.out hb1);clear hb1 HU HF0 HB0;rcases r with _|⟨vs,rest⟩
 ·simp only at hpost;subst hpost;go_wp2_with (with_reducible refine I7 rfl (.tmp 2) (.tmp 35) rfl w.heap.size 0 0 0 0 0 0 (.slice none 0 0) (.slice none 0 0) rfl rfl HF1.out rfl ?_);intro w3 hf3 ht3;have HF3:=Qh hf3;have HB3:=Qh (Ba HB1.out ht3 (fun k hk=>by omega) HB1.out.size);clear hf3 ht3;go_wp2;refine π (v:= .tuple #[clV 0 0 0 (.slice none 0 0),.bool false]) (Jp rfl _ _ w.heap.size 0 0 0 (.slice none 0 0) _ rfl rfl HF3.out) rfl ⟨HB3.out,by rw [HH.out];exact⟨0,0,0,none,0,0,rfl⟩⟩
 ·obtain⟨vv,rv,rfl,hov,hrv⟩:=hpost;obtain⟨a,c,d,hvs⟩:=list3 (by have:=(HUL.out _ rfl).1;simpa using this);subst hvs;have ha:a≤2199023255552:=HUM.out _ rfl a (by simp);have hc:c≤2199023255552:=HUM.out _ rfl c (by simp);have hrl:rest.length≤l.length:=(HUL.out _ rfl).2;have HOV:=Qh hov;obtain⟨gv,vcap,rfl,hvc,hgv,d0,d1,d2⟩:=hov.three;rw [HSZ0.out] at hgv;have HID:=Qh (idxDec_any rest rv w1 hrv (by omega));have HH3:=Qs (Fb l=if d<1∨64<d∨c<1 then none else if (Hb rest).2=0 then some ⟨a,c,d,(Hb rest).1⟩ else none) (by rw [HH.out];rfl);obtain⟨ra,rcap,rfl,_,_⟩:=hrv;clear HUL HUM hov HH HOV hrl HSZ0;rcases t1:decide ((d:Int)<1) with _|_
  ·rcases t2:decide ((64:Int)<(d:Int)) with _|_
   ·rcases t3:decide ((c:Int)<1) with _|_
    ·have HH4:=Qs (Fb l=if (Hb rest).2=0 then some ⟨a,c,d,(Hb rest).1⟩ else none) (by rw [HH3.out,γ (by simp at t1 t2 t3;omega)]);have HBDS:=Qs (1≤c∧1≤d∧d≤64) (by simp at t1 t2 t3;omega);obtain⟨r,hr⟩: ∃ r,r=Hb rest:=⟨_,rfl⟩;rw [←hr] at HID HH4;clear hr HH3;obtain⟨ms,e0⟩:=r;unfold IdxPost at HID;go_wp2_with fail;refine HID.out.mono ?_;rintro e w2 ⟨mv,rfl,hmo,hb2⟩;obtain⟨om,mcap,hsh,_,_⟩:=Aj hmo;subst hsh;have HMO:=Qh hmo;have HB2:=Qh (Below.next HB1.out hb2);have HF2:=Qh (Ig.below HF1.out hb2);have hlt:=HF1.out.lt;have D0:=Qh (cell_later hb2 d0);have D1:=Qh (cell_later hb2 d1);have D2:=Qh (cell_later hb2 d2);have hneq: ¬ gv=w.heap.size:=by omega
     clear hb2 hmo d0 d1 d2 HID HB1 HF1;go_wp2_with fail;refine ε (S:=fun w'=>Ab (fun k=>k=w.heap.size) w2 w') (by kernel_rfl) (Ab.below (Ac _ 1)) (fun hHeld=> ?_);have FX1:=Qh (fun(wF:World) (hSw:(fun w'=>Ab (fun k=>k=w.heap.size) w2 w') wF)=>And.intro ((hSw.cell D0.out hneq)) (And.intro ((hSw.cell D1.out hneq)) ((hSw.cell D2.out hneq))));refine tf FX1 0 rfl ?_;refine tf FX1 1 rfl ?_;refine tf FX1 2 rfl ?_;refine tf FX1 3 rfl ?_;refine tf FX1 4 rfl ?_;refine tf FX1 5 rfl ?_;refine tf FX1 6 rfl ?_;refine tf FX1 7 rfl ?_;refine tf FX1 8 rfl ?_;refine tf FX1 9 rfl ?_;refine tf FX1 10 rfl ?_;refine tf FX1 11 rfl ?_;refine tf FX1 12 rfl ?_;clear FX1;have HF3:=Qh (Ig.below HF2.out (Ac w2 1));refine Rd 13 rfl fun K hK=> ?_;rw [κ (by kernel_rfl)];refine wp_store_row 186 (.tmp 2) (.tmp 51) rfl w.heap.size (Hp (a:Int) (c:Int) (d:Int) (.slice om ms.length mcap)) rfl rfl 186 (Hp 0 0 0 (.slice none 0 0)) HF3.out clInfo rfl (clCs_all _ _ _ _ rfl) ?_;have HT4:=Qh (hHeld.trans (Ax (w2.drewN 1) w.heap.size (Hp (a:Int) (c:Int) (d:Int) (.slice om ms.length mcap))) (fun i hi=> .inl hi));have HF4:=Qs (Ig ((w2.drewN 1).setRow w.heap.size (Hp (a:Int) (c:Int) (d:Int) (.slice om ms.length mcap))) w.heap.size (a:Int) (c:Int) (d:Int) (.slice om ms.length mcap)) (setRow_heap _ _ _ _ _ _ HF3.out);refine hK.out _ _ HT4.out (fun hHeld=> ?_);clear hK K;have HB4:=Qh (Ba HB2.out HT4.out (fun k hk=>by omega) HB2.out.size);have HM4:=Qh ((HMO.out.turned HT4.out hlt).mono (Nat.le_of_lt hlt));refine tk 14 rfl ?v_2 ?hy_2 ?r_2
     case hy_2=>intro w hSw;go_simp;try with_reducible rfl
     simp only [pA];refine Ξ (by kernel_rfl) ?_ _;rcases he:(e0==0) with _|_
     ·have HG:=Qs (Fb l=none) (by rw [HH4.out,γ (by simpa using he)]);go_wp2;refine π (v:= .tuple #[clV (a:Int) (c:Int) (d:Int) (.slice om ms.length mcap),.bool false]) (Jp rfl _ _ w.heap.size _ _ _ _ _ rfl rfl HF4.out) rfl ⟨HB4.out,by rw [HG.out];exact⟨_,_,_,_,_,_,rfl⟩⟩
     ·have HG:=Qs (Fb l=some ⟨a,c,d,ms⟩) (by rw [HH4.out,κ (by simpa using he)]);go_wp2;refine π (v:= .tuple #[clV (a:Int) (c:Int) (d:Int) (.slice om ms.length mcap),.bool true]) (Jp rfl _ _ w.heap.size _ _ _ _ _ rfl rfl HF4.out) rfl ⟨HB4.out,by rw [HG.out];exact⟨_,rfl,HM4.out,HBDS.out.1,hc,HBDS.out.2.1,HBDS.out.2.2,ha⟩⟩
    ·have HG:=Qs (Fb l=none) (by rw [HH3.out,κ (.inr (.inr (by simp at t3;omega)))]);go_wp2_with (with_reducible refine I7 rfl (.tmp 2) (.tmp 35) rfl w.heap.size 0 0 0 0 0 0 (.slice none 0 0) (.slice none 0 0) rfl rfl HF1.out rfl ?_);intro w3 hf3 ht3;have HF3:=Qh hf3;have HB3:=Qh (Ba HB1.out ht3 (fun k hk=>by omega) HB1.out.size);clear hf3 ht3;go_wp2;refine π (v:= .tuple #[clV 0 0 0 (.slice none 0 0),.bool false]) (Jp rfl _ _ w.heap.size 0 0 0 (.slice none 0 0) _ rfl rfl HF3.out) rfl ⟨HB3.out,by rw [HG.out];exact⟨0,0,0,none,0,0,rfl⟩⟩
   ·have HG:=Qs (Fb l=none) (by rw [HH3.out,κ (.inr (.inl (by simp at t2;omega)))]);go_wp2_with (with_reducible refine I7 rfl (.tmp 2) (.tmp 35) rfl w.heap.size 0 0 0 0 0 0 (.slice none 0 0) (.slice none 0 0) rfl rfl HF1.out rfl ?_);intro w3 hf3 ht3;have HF3:=Qh hf3;have HB3:=Qh (Ba HB1.out ht3 (fun k hk=>by omega) HB1.out.size);clear hf3 ht3;go_wp2;refine π (v:= .tuple #[clV 0 0 0 (.slice none 0 0),.bool false]) (Jp rfl _ _ w.heap.size 0 0 0 (.slice none 0 0) _ rfl rfl HF3.out) rfl ⟨HB3.out,by rw [HG.out];exact⟨0,0,0,none,0,0,rfl⟩⟩
  ·have HG:=Qs (Fb l=none) (by rw [HH3.out,κ (.inl (by simp at t1;omega))]);go_wp2_with (with_reducible refine I7 rfl (.tmp 2) (.tmp 35) rfl w.heap.size 0 0 0 0 0 0 (.slice none 0 0) (.slice none 0 0) rfl rfl HF1.out rfl ?_);intro w3 hf3 ht3;have HF3:=Qh hf3;have HB3:=Qh (Ba HB1.out ht3 (fun k hk=>by omega) HB1.out.size);clear hf3 ht3;go_wp2;refine π (v:= .tuple #[clV 0 0 0 (.slice none 0 0),.bool false]) (Jp rfl _ _ w.heap.size 0 0 0 (.slice none 0 0) _ rfl rfl HF3.out) rfl ⟨HB3.out,by rw [HG.out];exact⟨0,0,0,none,0,0,rfl⟩⟩
def H9 (first stride:Nat) (foot:Int):Nat→List Mk→Bool
 |_,[]=>true
 |i,m::r=>if m.s≠((first+i*stride:Nat):Int)∨foot≤m.p then false else H9 first stride foot (i+1) r
def closeIn (c:Cls) (g:Sg):Option (List Mk×Nat):=
 if (c.first:Int)≠g.first∨(c.count:Int)≠g.count∨c.marks.length≠(c.count+c.stride - 1) / c.stride then none
 else if H9 c.first c.stride g.foot 0 c.marks then some (c.marks,c.stride) else none
def Cn (b:List UInt8) (g:Sg):Option (List Mk×Nat):=
 if (Dq b 3).2≠0∨((Dq b 3).1.s:Int)≠g.num then none
 else match Fb (Dq b 3).1.body with
  |none=>none
  |some c=>closeIn c g
theorem wholeF_len (b:List UInt8) (k:Nat):(Dq b k).1.body.length≤16384:=by
 unfold Dq;split
 ·simp [N7]
 ·rename_i h;split
  ·simp [N7]
  ·exact(Jn (by simpa using h)).2.1
def ClosP (w:World) (r:Option (List Mk×Nat)) (e:Ending) (w':World):Prop:=Below w.heap.size w w'∧
 match r with
 |none=>e= .returned (.tuple #[.slice none 0 0,Vi Vk 0,Vi Vk 70])
 |some r=> ∃ mv,e= .returned (.tuple #[mv,Vi Vk (r.2:Int),Vi Vk 0])∧Es w' w.heap.size mv r.1
theorem close_bad {first stride i:Nat} {foot:Int} {m:Mk} {r:List Mk} (h:m.s≠((first+i*stride:Nat):Int)∨foot≤m.p):H9 first stride foot i (m::r)=false:=by rw [H9,κ h]
theorem close_go {first stride i:Nat} {foot:Int} {m:Mk} {r:List Mk} (h: ¬ (m.s≠((first+i*stride:Nat):Int)∨foot≤m.p)):H9 first stride foot i (m::r)=H9 first stride foot (i+1) r:=by rw [H9,γ h]
theorem closing_any (l:List UInt8) (v:Value) (g:Sg) (w:World) (hv:B7 w v l) (hl:l.length≤140737488355328) (hn:Bh w):
  Calls prog 72 #[v,sgV g] w (ClosP w (Cn l g)):=by
 have HB0:=Qh (Aa w (.cells (B4 g) 72));have HG0:=Qs ((w.alloc (.cells (B4 g) 72)).heap[w.heap.size]? =some (.cells (B4 g) 72 (0,0))) (σ w _);have HWH:=Qh (whole_any l v 3 _ (hv.below HB0.out) (by omega) (hn.below HB0.out))
 have HH:=Qh (show Cn l g=if (Dq l 3).2≠0∨((Dq l 3).1.s:Int)≠g.num then none
  else match Fb (Dq l 3).1.body with
  |none=>none
  |some c=>closeIn c g from rfl)
 have HBL:=Qh (wholeF_len l 3);have HSZ0:=Qs ((w.alloc (.cells (B4 g) 72)).heap.size=w.heap.size+1) (by simp);obtain⟨oa,cap,rfl,_,_⟩:=hv;obtain⟨r,hr⟩: ∃ r,r=Dq l 3:=⟨_,rfl⟩;rw [←hr] at HWH HH HBL;clear hr hn;obtain⟨⟨k,s,body⟩,e0⟩:=r;unfold WholePost at HWH;simp only [B4] at HB0 HG0 HWH HSZ0;go_enter func72,ntmps72;go_wp2_with fail;refine HWH.out.mono ?_;rintro e w1 ⟨bv,rfl,hbv,hb1⟩;have HB1:=Qh (Below.next HB0.out hb1);have HG1:=Qh ((hb1.block _ (δ.1 HG0.out).1).trans HG0.out);have HBV:=Qh hbv.brow;obtain⟨ob,bcap,rfl,_,_⟩:=hbv;have HB2:=Qh (Below.next HB1.out (Aa w1 (.cells (Ha (k:Int) (s:Int) (.slice ob body.length bcap)) 101)));have HF2:=Qh (Ff w1 (k:Int) (s:Int) (.slice ob body.length bcap));have HV2:=Qh (HBV.out.below (Aa w1 (.cells (Ha (k:Int) (s:Int) (.slice ob body.length bcap)) 101)));have HG2:=Qh (((Aa w1 (.cells (Ha (k:Int) (s:Int) (.slice ob body.length bcap)) 101)).block _ (δ.1 HG1.out).1).trans HG1.out);simp only [Ha] at HB2 HF2 HV2 HG2;have c1:=HF2.out.c1;have g0:=cell_of_row _ _ 0 _ _ _ HG2.out;simp only [List.getElem?_toArray,List.getElem?_cons_zero] at g0;clear hb1 HB0 HG0 HWH HB1 HG1 HBV HSZ0;rcases he0:(e0 != 0) with _|_
 ·rcases hs:((s:Int) != g.num) with _|_
  ·have HH2:=Qh (show Cn l g=match Fb body with
    |none=>none
    |some c=>closeIn c g by
    rw [HH.out,γ (by rintro(h|h);exact h (by simpa using he0);exact h (by simpa using hs))])
   have HUC:=Qh (fun W (hb:B7 W (.slice ob body.length bcap) body)=>unclose_any body _ W hb (by have:=HBL.out;omega));obtain⟨r,hr⟩: ∃ r,r=Fb body:=⟨_,rfl⟩;rw [←hr] at HUC HH2;clear hr HH;go_wp2_with fail;generalize w1.alloc (.cells #[Vi Vk (k:Int),Vi Vk (s:Int),.slice ob body.length bcap] 101)=w2 at*;generalize w1.heap.size=gf at*;refine(HUC.out w2 HV2.out).mono ?_;rintro e w3 ⟨hb3,hpost⟩;have HB3:=Qh (Below.next HB2.out hb3);have HG3:=Qh ((hb3.block _ (δ.1 HG2.out).1).trans HG2.out);clear HUC HV2 HF2 c1 g0;rcases r with _|c
   ·obtain⟨a',c',d',oa',n',cap',rfl⟩:=hpost;have HB4:=Qh (Below.next HB3.out (Aa w3 (.cells (Hp a' c' d' (.slice oa' n' cap')) 186)));simp only [Hp] at HB4;clear hb3;go_wp2_with fail
    go_quiet (fail)
    go_wp2;refine π (v:= .tuple #[.slice none 0 0,Vi Vk 0,Vi Vk 70]) (by simp [results,results72,go_sem]) rfl ⟨Below.next HB4.out (Ac _ _),by rw [HH2.out]⟩
   ·obtain⟨cf,cc,cs,ms⟩:=c;obtain⟨mv,rfl,hmo,hc1,hc2,hs1,hs2,hf1⟩:=hpost;dsimp only at hmo hc1 hc2 hs1 hs2 hf1;obtain⟨om,mcap,hsh,hml,_⟩:=Aj hmo;subst hsh;have HMO:=Qh hmo;have HB4:=Qh (Below.next HB3.out (Aa w3 (.cells (Hp (cf:Int) (cc:Int) (cs:Int) (.slice om ms.length mcap)) 186)));have HC4:=Qh (clBlk_alloc w3 (cf:Int) (cc:Int) (cs:Int) (.slice om ms.length mcap));have HMO4:=Qh ((HMO.out.later (Aa w3 (.cells (Hp (cf:Int) (cc:Int) (cs:Int) (.slice om ms.length mcap)) 186))).mono (B':=w.heap.size) HB2.out.size);have HG4:=Qh (((Aa w3 (.cells (Hp (cf:Int) (cc:Int) (cs:Int) (.slice om ms.length mcap)) 186)).block _ (δ.1 HG3.out).1).trans HG3.out);simp only [Hp] at HB4 HC4 HMO4 HG4
    have HH3:=Qh (show Cn l g=if (cf:Int)≠g.first∨(cc:Int)≠g.count∨ms.length≠(cc+cs - 1) / cs then none
     else if H9 cf cs g.foot 0 ms then some (ms,cs) else none by rw [HH2.out];rfl)
    clear hmo HH2 HB3 HG3 HMO hb3;go_wp2_with fail;generalize w3.alloc (.cells #[Vi Vk (cf:Int),Vi Vk (cc:Int),Vi Vk (cs:Int),.slice om ms.length mcap] 186)=w4 at*;generalize w3.heap.size=gc at*;have k0:=HC4.out.cell 0;have k1:=HC4.out.cell 1;have k2:=HC4.out.cell 2;have k3:=HC4.out.cell 3;have j1:=cell_of_row w4 _ 1 _ _ _ HG4.out;have j2:=cell_of_row w4 _ 2 _ _ _ HG4.out;have j3:=cell_of_row w4 _ 3 _ _ _ HG4.out;simp only [Hp,List.getElem?_toArray,List.getElem?_cons_zero,List.getElem?_cons_succ] at k0 k1 k2 k3 j1 j2 j3;obtain⟨N,hN⟩: ∃ N,N=cc+cs - 1:=⟨_,rfl⟩;have HN:=Qh hN;have hw1:IntKind.i64.wrap ((cc:Int)+(cs:Int))=(cc:Int)+(cs:Int):=by rw [ν];omega
    have hw2:IntKind.i64.wrap ((cc:Int)+(cs:Int) - 1)=(N:Int):=by rw [ν];omega
    have hcs0: ¬ cs=0:=by omega
    clear hN;rcases hcf:((cf:Int) != g.first) with _|_
    ·rcases hcc:((cc:Int) != g.count) with _|_
     ·obtain⟨Q,hQ⟩: ∃ Q,Q=N / cs:=⟨_,rfl⟩;have HQQ:=Qh hQ;have hQN:Q≤N:=by rw [hQ];exact Nat.div_le_self _ _
      have hN3:N≤2199023255616:=by have:=HN.out;omega
      have hwq:wrap64 ((N:Int) / (cs:Int))=(Q:Int):=by
       have e:(N:Int) / (cs:Int)=(Q:Int):=by rw [hQ];exact(Int.natCast_ediv N cs).symm
       rw [e];have h1:(0:Int)≤(Q:Int):=Int.natCast_nonneg Q;have h2:(Q:Int)≤2199023255616:=by omega
       unfold wrap64;omega
      clear hQ;rcases hqm:((ms.length:Int) != (Q:Int)) with _|_
      ·have HQ:=Qs (ms.length=N / cs) (by rw [←HQQ.out];exact Int.ofNat.inj (by simpa using hqm));have HH4:=Qs (Cn l g=if H9 cf cs g.foot 0 ms then some (ms,cs) else none) (by
        rw [HH3.out,γ (by rintro(h|h|h);exact h (by simpa using hcf);exact h (by simpa using hcc);exact h (by rw [HQ.out,HN.out]))])
       go_quiet (fail)
       have HB5:=Qh (Below.next HB4.out (Ac w4 nq));have HC5:=Qh (HC4.out.below (Ac w4 nq));have HMO5:=Qh (HMO4.out.later (Ac w4 nq));have HG5:=Qh (((Ac w4 nq).block _ (δ.1 HG4.out).1).trans HG4.out);generalize w4.drewN nq=w5 at*;have k3:=HC5.out.cell 3;simp only [Hp,List.getElem?_toArray,List.getElem?_cons_zero,List.getElem?_cons_succ] at k3;clear HB4 HC4 HMO4 HG4 HH3 hw1 hw2 hwq;go_wp2;clear hqm hcf hcc;go_loopw [67] (fun iv wr=> ∃ k:Nat,k≤ms.length∧iv= Vi Vk (k:Int)∧Hid (Below w5.heap.size w5 wr)∧Hid (H9 cf cs g.foot 0 ms=H9 cf cs g.foot k (ms.drop k))) (fun iv _=>ms.length - (intOf iv).toNat)
       case atStart=>exact⟨0,θ _,rfl,Qh (χ _ _),Qh rfl⟩
       case round=>
        obtain⟨i,hk,rfl,HBR,HCO⟩:=hrel;by_cases hlt:i<ms.length
        ·obtain⟨m,hm,_,_⟩:=Pj ms i hlt;obtain⟨_,_,eqs,_,_,hrow⟩:=HMO5.out.row;simp only [Value.slice.injEq,true_and] at eqs;obtain⟨rfl,rfl⟩:=eqs;obtain⟨b,off,rfl,hcell⟩:=hrow i m hm;have q1:(i:Int)<(ms.length:Int):=by omega
         have HCE:=Qh (Bs hcell HBR.out);have HAL:=Qh (Below.next HBR.out (Aa wr (.cells (Gl m) 135)));have HMB:=Qh (Hu wr m);have HDR:=Qh (Hr hm);have hiq:i*cs≤N:=by
          have h1:=HQ.out;have h2:i*cs≤N / cs*cs:=Nat.mul_le_mul_right _ (by omega);exact η h2 (Nat.div_mul_le_self _ _)
         have hN2:N≤2199023255616:=by have:=HN.out;omega
         obtain⟨q,hq⟩: ∃ q,q=i*cs:=⟨_,rfl⟩;obtain⟨u,hu⟩: ∃ u,u=cf+i*cs:=⟨_,rfl⟩;have hcast:(i:Int)*(cs:Int)=(q:Int):=by rw [hq];exact(Int.natCast_mul i cs).symm
         rw [←hq] at hiq;have hwm:IntKind.i64.wrap ((i:Int)*(cs:Int))=(q:Int):=by rw [hcast,ν];omega
         have hwa:IntKind.i64.wrap ((cf:Int)+(q:Int))=(u:Int):=by rw [hu,←hq,ν];omega
         have hwi:IntKind.i64.wrap ((i:Int)+1)=(i:Int)+1:=by have:=HQ.out;have:N / cs≤N:=Nat.div_le_self _ _;rw [ν];omega
         have HBD:=Qh (@close_bad cf cs i g.foot m (ms.drop (i+1)));have HGO:=Qh (@close_go cf cs i g.foot m (ms.drop (i+1)));rw [←hu] at HBD HGO;rw [HDR.out] at HCO;simp only [Gl] at HAL HMB;clear hm hrow hcell HDR hcast hiq hq hu;have k0:=cell_later HAL.out (HC5.out.cell 0);have k2:=cell_later HAL.out (HC5.out.cell 2);have j3:=cell_later HAL.out (cell_of_row w5 _ 3 _ _ _ HG5.out);have d0:=HMB.out.c0;have d1:=HMB.out.c1;simp only [Hp] at k0 k2;have HB6:=Qh (Below.next HB5.out HAL.out);rcases t1:(m.s != (u:Int)) with _|_
         ·rcases t2:decide (g.foot≤m.p) with _|_
          ·have HG:=Qh (HGO.out (by simp at t1 t2;omega));go_wp2_with (with_reducible refine En rfl (.tmp 70) rfl b (off+i*2) m rfl HCE.out ?_);go_roundw
           case rel=>exact⟨i+1,by omega,by go_num,HAL,Qh (by rw [HCO.out,HG.out])⟩
           case measure=>simp [intOf];omega
          ·have HE:=Qs (Cn l g=none) (by rw [HH4.out,HCO.out,HBD.out (.inr (by simpa using t2))];rfl);go_wp2_with (with_reducible refine En rfl (.tmp 70) rfl b (off+i*2) m rfl HCE.out ?_);refine π (v:= .tuple #[.slice none 0 0,Vi Vk 0,Vi Vk 70]) (by simp [results,results72,go_sem]) rfl ⟨HB6.out,by rw [HE.out]⟩
         ·have HE:=Qs (Cn l g=none) (by rw [HH4.out,HCO.out,HBD.out (.inl (by simpa using t1))];rfl);go_wp2_with (with_reducible refine En rfl (.tmp 70) rfl b (off+i*2) m rfl HCE.out ?_);refine π (v:= .tuple #[.slice none 0 0,Vi Vk 0,Vi Vk 70]) (by simp [results,results72,go_sem]) rfl ⟨HB6.out,by rw [HE.out]⟩
        ·obtain rfl:i=ms.length:=by omega
         have HE:=Qs (Cn l g=some (ms,cs)) (by rw [HH4.out,HCO.out,List.drop_length];rfl);have k2:=cell_later HBR.out (HC5.out.cell 2);have k3':=cell_later HBR.out (HC5.out.cell 3);simp only [Hp] at k2 k3';go_wp2
         go_quiet (fail)
         go_wp2;refine π (v:= .tuple #[.slice om ms.length mcap,Vi Vk (cs:Int),Vi Vk 0]) (by simp [results,results72,go_sem]) rfl ⟨Below.next (Below.next HB5.out HBR.out) (Ac _ _),by rw [HE.out];exact⟨_,rfl,(HMO5.out.later HBR.out).later (Ac _ _)⟩⟩
      ·have HE:=Qs (Cn l g=none) (by rw [HH3.out,κ (.inr (.inr (by rw [←HN.out,←HQQ.out];intro e;simp [e] at hqm)))])
       go_quiet (fail)
       go_wp2;refine π (v:= .tuple #[.slice none 0 0,Vi Vk 0,Vi Vk 70]) (by simp [results,results72,go_sem]) rfl ⟨Below.next HB4.out (Ac _ _),by rw [HE.out]⟩
     ·have HE:=Qs (Cn l g=none) (by rw [HH3.out,κ (.inr (.inl (by simpa using hcc)))])
      go_quiet (fail)
      go_wp2;refine π (v:= .tuple #[.slice none 0 0,Vi Vk 0,Vi Vk 70]) (by simp [results,results72,go_sem]) rfl ⟨Below.next HB4.out (Ac _ _),by rw [HE.out]⟩
    ·have HE:=Qs (Cn l g=none) (by rw [HH3.out,κ (.inl (by simpa using hcf))])
     go_quiet (fail)
     go_wp2;refine π (v:= .tuple #[.slice none 0 0,Vi Vk 0,Vi Vk 70]) (by simp [results,results72,go_sem]) rfl ⟨Below.next HB4.out (Ac _ _),by rw [HE.out]⟩
  ·have HE:=Qs (Cn l g=none) (by rw [HH.out,κ (.inr (by simpa using hs))]);go_wp2;refine π (v:= .tuple #[.slice none 0 0,Vi Vk 0,Vi Vk 70]) (by simp [results,results72,go_sem]) rfl ⟨HB2.out,by rw [HE.out]⟩
 ·have HE:=Qs (Cn l g=none) (by rw [HH.out,κ (.inl (by simpa using he0))]);go_wp2;refine π (v:= .tuple #[.slice none 0 0,Vi Vk 0,Vi Vk 70]) (by simp [results,results72,go_sem]) rfl ⟨HB2.out,by rw [HE.out]⟩
attribute [local go_sem] Oper.semAt_some
def segOf (x:List Nat):Sg:=match x with
 | [a,b,c,d]=>⟨(a:Int),(b:Int),(c:Int),(d:Int)⟩
 |_=>⟨0,0,0,0⟩
def manOf (s:Nat) (us:List Nat):Da:=⟨(s:Int),(us.getD 0 0:Nat),(us.getD 1 0:Nat),(us.getD 2 0:Nat),(us.getD 3 0:Nat),(G1 (us.drop 4)).map segOf⟩
def Gi (b:List UInt8) (r:List Nat×Nat×Int):Prop:=r.2.2≠0∨r.2.1≠b.length∨r.1.length<8∨r.1.length % 4≠0∨2199023255552<maxU r.1
instance (b:List UInt8) (r:List Nat×Nat×Int):Decidable (Gi b r):=by unfold Gi;infer_instance
def B2 (b:List UInt8):Da×Int:=
 if (Dq b 4).2≠0 then (zeroM,80)
 else if Gi (Dq b 4).1.body (Dd (Dq b 4).1.body 1028) then (zeroM,80)
 else if Cy (manOf (Dq b 4).1.s (Dd (Dq b 4).1.body 1028).1) then (manOf (Dq b 4).1.s (Dd (Dq b 4).1.body 1028).1,0) else (zeroM,80)
theorem Gr {p:Tmp} (h:fn.results= #[.cell p 69,.tmp q]) (tmps:Array Value) (w:World) (g:Nat) (m:Da) (sv x:Value)
  (hp:tmps.getD p undef= .pointer (some ⟨g,0,none⟩)) (hq:tmps.getD q undef=x) (hE:At w g m sv):(results fn tmps).run prog w= .ok (.tuple #[mnV m sv,x]) w:=by
 have hl:=run_load_mn hE;have hp':tmps[p]?.getD undef= .pointer (some ⟨g,0,none⟩):=by simpa using hp
 have hq':tmps[q]?.getD undef=x:=by simpa using hq
 simp [results,h,hp',hq',asAddr,hl]
theorem At.segsAny {m m':Da}  (h:At w g m sv) (e:B3 m sv=B3 m' sv):At w g m' sv:=by unfold At at *;rw [←e];exact h
theorem list4 {vs:List Nat} (h:vs.length=4): ∃ a b c d,vs=[a,b,c,d]:=by
 match vs,h with
 | [a,b,c,d],_=>exact⟨a,b,c,d,rfl⟩
def TuS (g:Nat) (ov0:Value) (W2 W:World):Prop:=Ab (fun j=>j=g∨ov0.ownBlock=some j) W2 W
theorem TuS.sck {ov0:Value} {W2:World} (h:TuS g ov0 W2 W) (ho: ∀ j,ov0.ownBlock=some j→B≤j):ScK B g g W2 W:=Ab.mono h fun j hj=>by
 rcases hj with h|h
 ·exact .inl h
 ·exact .inr (.inr (ho j h))
def MaS (B g:Nat) (m0:Da) (n:Nat) (cs:List Value) (W2:World) (ov0 ov:Value) (W:World):Prop:=At W g m0 ov∧W.ownsRow B 72 4 ov n cs∧TuS g ov0 W2 W∧B≤W.heap.size
theorem MaS.next {n:Nat} {m0:Da}  {W2:World} {ov0 ov:Value} (h:MaS B g m0 n cs W2 ov0 ov W) (hb:Below W.heap.size W W'):MaS B g m0 n cs W2 ov0 ov W':=
 ⟨h.1.below hb,A2 h.2.1 hb,Ab.trans h.2.2.1 (Ab.below hb) fun _ h=> .inl h,η h.2.2.2 hb.size⟩
theorem MaS.step {n n':Nat} {m0:Da} {cs':List Value} {W2:World} {ov:Value} (h:MaS B g m0 n cs W2 ov ov W) (hg:W.grownBy W' ov.ownBlock) (ho:W'.ownsRow B 72 4 v' n' cs') (hgB:g<B):
  At W' g m0 ov∧W'.ownsRow B 72 4 v' n' cs'∧TuS g ov W2 W':=
 ⟨h.1.keep (Cm h.2.1 h.2.2.2 hg) hgB,ho,Ab.trans h.2.2.1 (⟨hg.os,hg.tape,hg.output,hg.size,fun k hk hs=>hg.block k hk fun e=>hs (.inr e.symm)⟩:Ab (fun j=>j=g∨ov.ownBlock=some j) W W') fun _ h=> .inl h⟩
theorem MaS.store {n:Nat} {m0:Da}  {W2:World} {ov:Value} (h:At W g m0 ov∧W.ownsRow B 72 4 v' n cs∧TuS g ov W2 W) (hgB:g<B):
  At (W.setCell ⟨g,5,none⟩ v') g m0 v'∧(W.setCell ⟨g,5,none⟩ v').ownsRow B 72 4 v' n cs∧TuS g ov W2 (W.setCell ⟨g,5,none⟩ v'):=
 ⟨h.1.set rfl,own_set h.2.1 hgB,Ab.trans h.2.2 (Ab.setCell (S:=fun j=>j=g) _ ⟨g,5,none⟩ _ rfl) fun _ hi=> .inl (.inl hi)⟩
def MaI (B g:Nat) (m0:Da) (us:List Nat) (X:World) (pre:List ChX) (W:World):Prop:=
 ∃ ov,At W g m0 ov∧W.ownsRow B 72 4 ov pre.length (sgCells (pre.map fun x=>segOf x.1))∧pre.map (·.1) <+: G1 us∧Ab (fun k=>k=g∨k=g) X W
theorem own_kept {B' n:Nat} {e:TypeId}  {xs:List Value} (h:w.ownsRow B e size v n xs) (hk:Fr B' w w'):w'.ownsRow B e size v n xs:=by
 refine⟨h.1,?_⟩;rcases h.2 with hn|⟨g,cap,cur,rfl,hb1,hg,rest⟩
 ·exact .inl hn
 ·exact .inr ⟨g,cap,cur,rfl,hb1,hk.blk hg,rest⟩
theorem own_turnedB {n:Nat} {e:TypeId}  {xs:List Value} (h:w.ownsRow B e size v n xs) (ht:Ab S w w') (hS: ∀ k,S k→k<B):w'.ownsRow B e size v n xs:=by
 refine⟨h.1,?_⟩;rcases h.2 with hn|⟨g,cap,cur,rfl,hb1,hg,rest⟩
 ·exact .inl hn
 ·exact .inr ⟨g,cap,cur,rfl,hb1,by rw [ht.block _ (δ.1 hg).1 (fun hs=>by have:=hS _ hs;omega)];exact hg,rest⟩
theorem MaI.kept {m0:Da}  (hB:X.heap.size≤B):Kw B (MaI B g m0 us X):=fun _ _ _ ⟨ov,h1,h2,h3,h4⟩ hk=>⟨ov,hk.blk h1,own_kept h2 hk,h3,h4.kept hk hB⟩
theorem wp_noexit {c:Code}  (h:c.wp P (Exit.then K (fun _ _ _=>False)) a w):c.wp P (Exit.then K Q) a w:=
 wp_mono h fun e a w he=>by cases e<;>first|exact he|exact he.elim
theorem maxU_bound {vs:List Nat} {M:Nat} (h: ∀ x∈vs,x≤M):maxU vs≤M:=by
 suffices hs: ∀ (vs:List Nat) (a:Nat),a≤M→(∀ x∈vs,x≤M)→vs.foldl Nat.max a≤M from hs vs 0 (θ _) h
 intro vs
 induction vs with
 |nil=>intro a ha _;exact ha
 |cons y ys ih=>intro a ha hy;exact ih _ (Nat.max_le.2 ⟨ha,hy y List.mem_cons_self⟩) fun x hx=>hy x (List.mem_cons_of_mem _ hx)
def DecMP (w:World) (r:Da×Int) (e:Ending) (w':World):Prop:= ∃ sv,e= .returned (.tuple #[mnV r.1 sv,Vi Vk r.2])∧Fu (fun k=>w.heap.size≤k) w' sv r.1.segs∧sv.oneCell'=true∧Below w.heap.size w w'
theorem D8 (A:Nat→Prop) (w:World):Fu A w (.slice none 0 0) []:=⟨none,0,rfl,μ _,by decide,fun i g hg=>by simp at hg⟩
theorem manDecode_any (l:List UInt8) (v:Value) (w:World) (hv:B7 w v l) (hl:l.length≤67108864) (hn:Bh w):
  Calls prog 128 #[v] w (DecMP w (B2 l)):=by
 have HB0:=Qh (Aa w (.cells (B3 zeroM (.slice none 0 0)) 69));have HM0:=Qh (Ca w zeroM (.slice none 0 0));have HWH:=Qh (whole_any l v 4 _ (hv.below HB0.out) (by omega) (hn.below HB0.out))
 have HE:=Qh (show B2 l=if (Dq l 4).2≠0 then (zeroM,80)
  else if Gi (Dq l 4).1.body (Dd (Dq l 4).1.body 1028) then (zeroM,80)
  else if Cy (manOf (Dq l 4).1.s (Dd (Dq l 4).1.body 1028).1) then (manOf (Dq l 4).1.s (Dd (Dq l 4).1.body 1028).1,0) else (zeroM,80) from rfl)
 have HBL:=Qh (wholeF_len l 4);obtain⟨oa,cap,rfl,_,_⟩:=hv;obtain⟨r,hr⟩: ∃ r,r=Dq l 4:=⟨_,rfl⟩;rw [←hr] at HWH HE HBL;clear hr hn;obtain⟨⟨k,s,body⟩,e0⟩:=r;unfold WholePost at HWH;dsimp only at HE HBL;simp only [B3,zeroM] at HB0 HM0 HWH;refine(callsIn_wide (n:=3)).1 (callsIn_of_wp_marks func128 rfl trivial (wpIn_wide.2 ?_) rfl);simp only [ntmps128,List.size_toArray,τ,Φ,Nat.reduceAdd,Nat.reduceSub,Array.replicate_succ,Array.replicate_zero,List.push_toArray,List.append_toArray,List.nil_append,List.cons_append];go_wp2_with fail;refine HWH.out.mono ?_;rintro e w1 ⟨bv,rfl,hbv,hb1⟩;have HB1:=Qh (Below.next HB0.out hb1);have HM1:=Qh (HM0.out.below hb1);have HBV:=Qh hbv.brow;obtain⟨ob,bcap,rfl,_,_⟩:=hbv;have HBA:=Qh (Aa w1 (.cells (Ha (k:Int) (s:Int) (.slice ob body.length bcap)) 101));have HB2:=Qh (Below.next HB1.out HBA.out);have HM2:=Qh (HM1.out.below HBA.out);have HV2:=Qh (HBV.out.below HBA.out);have HF2:=Qh (Ff w1 (k:Int) (s:Int) (.slice ob body.length bcap));simp only [Ha] at HBA HB2 HM2 HV2 HF2;clear hb1 HWH HM0 HB0 HB1 HM1 HBV;rcases he0:(e0 != 0) with _|_
 ·have he00:e0=0:=by simpa using he0
  have HE2:=Qh (show B2 l=if Gi body (Dd body 1028) then (zeroM,80)
   else if Cy (manOf s (Dd body 1028).1) then (manOf s (Dd body 1028).1,0) else (zeroM,80) by rw [HE.out,γ (fun h=>h he00)])
  have HDA:=Qh (fun W (hb:B7 W (.slice ob body.length bcap) body)=>decodeAll_any body _ 1028 W hb (by have:=HBL.out;omega) (by decide) (by decide));have HLE:=Qh (decAll_len body 1028);obtain⟨r,hr⟩: ∃ r,r=Dd body 1028:=⟨_,rfl⟩;rw [←hr] at HDA HE2 HLE;clear hr HE he00;obtain⟨us,at0,e1⟩:=r;unfold AllPost at HDA;dsimp only at HE2 HLE;have c2:=HF2.out.c2;go_wp2_with fail;generalize w1.alloc (.cells #[Vi Vk (k:Int),Vi Vk (s:Int),.slice ob body.length bcap] 101)=w2 at*;generalize w1.heap.size=gf at*;refine(HDA.out w2 HV2.out).mono ?_;rintro e w3 ⟨uv,rfl,hou,hb3⟩;have HB3:=Qh (Below.next HB2.out hb3);have HM3:=Qh (HM2.out.below hb3);have HF3:=Qh (HF2.out.below hb3);have HO3:=Qh hou;have HUR:=Qh hou.row;obtain⟨ou,ucap,hsh,hul,_⟩:=Aj hou;subst hsh;have c1:=HF3.out.c1;have c2:=HF3.out.c2;clear hou hb3 HDA HV2 HB2 HM2 HF2 HBA;rcases h1:(e1 != 0) with _|_
  ·rcases h2:((at0:Int) != (body.length:Int)) with _|_
   ·rcases h3:decide ((us.length:Int)<8) with _|_
    ·rcases h4:((us.length:Int) % 4 != 0) with _|_
     ·have hl8:8≤us.length:=by simp at h3;omega
      have HMX:=Qh (max_any us _ w3 HUR.out (by omega) (by have:=HLE.out;omega));obtain⟨mx,hmx⟩: ∃ mx,mx=maxU us:=⟨_,rfl⟩;rw [←hmx] at HMX;have HXX:=Qh hmx;clear hmx;rcases h5:decide ((2199023255552:Int)<(mx:Int)) with _|_
      ·have HE3:=Qs (B2 l=if Cy (manOf s us) then (manOf s us,0) else (zeroM,80)) (by
        rw [HE2.out,γ];intro hbad;have hbad':e1≠0∨at0≠body.length∨us.length<8∨us.length % 4≠0∨2199023255552<maxU us:=hbad;rcases hbad' with h|h|h|h|h
        ·exact h (by simpa using h1)
        ·exact h (by simp at h2;omega)
        ·omega
        ·exact h (by simp at h4;omega)
        ·rw [←HXX.out] at h;simp at h5;omega)
       have HMB:=Qs (maxU us≤2199023255552) (by rw [←HXX.out];simp at h5;omega);have HM4:=Qs (us.length % 4=0) (by simp at h4;omega);go_wp2_with (first|(go_at_call 159;refine HMX.out.mono ?_;rintro e wx ⟨rfl,rfl⟩)|fail);obtain⟨bu,ucap',hse,hbu1,hbu2,_,_,hcu⟩:=Dr HO3.out (show 0<us.length by omega);simp only [Value.slice.injEq,true_and] at hse;obtain⟨rfl,rfl⟩:=hse;obtain⟨u0,hu0,_,hm0⟩:=Pj us 0 (by omega);obtain⟨u1,hu1,_,hm1⟩:=Pj us 1 (by omega);obtain⟨u2,hu2,_,hm2⟩:=Pj us 2 (by omega);obtain⟨u3,hu3,_,hm3⟩:=Pj us 3 (by omega);have HMO:=Qs (manOf s us=⟨(s:Int),(u0:Int),(u1:Int),(u2:Int),(u3:Int),(G1 (us.drop 4)).map segOf⟩) (by
        unfold manOf;simp only [List.getD_eq_getElem?_getD,hu0,hu1,hu2,hu3,Option.getD_some])
       have HCU:=Qh (fun(i u:Nat) (h:us[i]? =some u)=>hcu i (.int .u64 (u:Int)) (by rw [Jk,List.getElem?_map,h];rfl));have D0:=Qh (HCU.out 0 u0 hu0);have D1:=Qh (HCU.out 1 u1 hu1);have D2:=Qh (HCU.out 2 u2 hu2);have D3:=Qh (HCU.out 3 u3 hu3);have F1:=Qh c1;have hw0:IntKind.i64.wrap (u0:Int)=(u0:Int):=by have:=Ma hm0;have:=HMB.out;rw [ν];omega
       have hw1:IntKind.i64.wrap (u1:Int)=(u1:Int):=by have:=Ma hm1;have:=HMB.out;rw [ν];omega
       have hw2:IntKind.i64.wrap (u2:Int)=(u2:Int):=by have:=Ma hm2;have:=HMB.out;rw [ν];omega
       have hw3:IntKind.i64.wrap (u3:Int)=(u3:Int):=by have:=Ma hm3;have:=HMB.out;rw [ν];omega
       clear hcu hu0 hu1 hu2 hu3 hm0 hm1 hm2 hm3 c1 c2 HMX h1 h2 h3 h4 h5 he0;have q0:0<us.length:=by omega
       have q1:(1:Int)<(us.length:Int):=by omega
       have q2:(2:Int)<(us.length:Int):=by omega
       have q3:(3:Int)<(us.length:Int):=by omega
       refine wp_noexit ?_;refine ε (S:=fun w'=>Below w3.heap.size w3 w') (by kernel_rfl) (Ac _ 1) (fun hHeld=> ?_);have FX1:=Qh (fun(wF:World) (hSw:(fun w'=>Below w3.heap.size w3 w') wF)=>And.intro ((cell_later hSw D0.out)) (And.intro ((cell_later hSw D1.out)) (And.intro ((cell_later hSw D2.out)) (And.intro ((cell_later hSw D3.out)) ((cell_later hSw F1.out))))));refine tf FX1 0 rfl ?_;refine tf FX1 1 rfl ?_;refine tf FX1 2 rfl ?_;refine tf FX1 3 rfl ?_;refine tf FX1 4 rfl ?_;refine tf FX1 5 rfl ?_;refine tf FX1 6 rfl ?_;refine tf FX1 7 rfl ?_;refine tf FX1 8 rfl ?_;refine tf FX1 9 rfl ?_;refine tf FX1 10 rfl ?_;refine tf FX1 11 rfl ?_;refine tf FX1 12 rfl ?_;refine tf FX1 13 rfl ?_;refine tf FX1 14 rfl ?_;refine tf FX1 15 rfl ?_;refine tf FX1 16 rfl ?_;refine tf FX1 17 rfl ?_;refine tf FX1 18 rfl ?_;clear FX1;have HBZ:=Qh (Below.next hHeld (Aa (World.drew w3) (.cells (B3 zeroM (.slice none 0 0)) 69)));have HZ:=Qs (At ((World.drew w3).alloc (.cells (B3 zeroM (.slice none 0 0)) 69)) w3.heap.size zeroM (.slice none 0 0)) (Ca (World.drew w3) zeroM (.slice none 0 0));have HSZ4:=Qs (((World.drew w3).alloc (.cells (B3 zeroM (.slice none 0 0)) 69)).heap.size=w3.heap.size+1) (by simp);simp only [B3,zeroM] at HBZ HZ HSZ4;refine Rd 19 rfl fun K hK=> ?_;go_simp;refine hK.out _ _ HBZ.out (fun hHeld=> ?_);clear hK K;refine Rd 20 rfl fun K hK=> ?_;rw [κ (by kernel_rfl)];refine wp_store_row 69 (.tmp 8) (.tmp 69) rfl w3.heap.size (B3 ⟨(s:Int),(u0:Int),(u1:Int),(u2:Int),(u3:Int),[]⟩ (.slice none 0 0)) rfl rfl 69 (B3 ⟨0,0,0,0,0,[]⟩ (.slice none 0 0)) HZ.out Ko rfl (mnCs_all _ _ rfl) ?_;have HB5:=Qs (Below w3.heap.size w3 ((World.drew (w3.alloc (.cells #[Vi Vk 0,Vi Vk 0,Vi Vk 0,Vi Vk 0,Vi Vk 0,.slice none 0 0] 69))).setRow w3.heap.size (B3 ⟨(s:Int),(u0:Int),(u1:Int),(u2:Int),(u3:Int),[]⟩ (.slice none 0 0)))) (Bw HBZ.out (μ _) _);have HM5:=Qs (At ((World.drew (w3.alloc (.cells #[Vi Vk 0,Vi Vk 0,Vi Vk 0,Vi Vk 0,Vi Vk 0,.slice none 0 0] 69))).setRow w3.heap.size (B3 ⟨(s:Int),(u0:Int),(u1:Int),(u2:Int),(u3:Int),[]⟩ (.slice none 0 0))) w3.heap.size ⟨(s:Int),(u0:Int),(u1:Int),(u2:Int),(u3:Int),[]⟩ (.slice none 0 0)) HZ.out.row;refine hK.out _ _ HB5.out (fun _=> ?_);clear hK K;have HSZ5:=Qs (((World.drew (w3.alloc (.cells #[Vi Vk 0,Vi Vk 0,Vi Vk 0,Vi Vk 0,Vi Vk 0,.slice none 0 0] 69))).setRow w3.heap.size (B3 ⟨(s:Int),(u0:Int),(u1:Int),(u2:Int),(u3:Int),[]⟩ (.slice none 0 0))).heap.size=w3.heap.size+1) (by simp);refine Ξ (by kernel_rfl) ?_ _;generalize (World.drew (w3.alloc (.cells #[Vi Vk 0,Vi Vk 0,Vi Vk 0,Vi Vk 0,Vi Vk 0,.slice none 0 0] 69))).setRow w3.heap.size (B3 ⟨(s:Int),(u0:Int),(u1:Int),(u2:Int),(u3:Int),[]⟩ (.slice none 0 0))=W5 at*;obtain⟨vs,hvs⟩: ∃ vs,vs=us.drop 4:=⟨_,rfl⟩;rw [←hvs] at HMO;have HVL:=Qs (us.length - 4=vs.length) (by rw [hvs,Λ]);have HCV:=Qh (fun W (hW:Below w3.heap.size w3 W) (i u:Nat) (h:vs[i]? =some u)=>(show W.cell? ⟨bu,4+i,none⟩=some (.int .u64 (u:Int)) from cell_later hW (HCU.out (4+i) u (by rw [hvs,List.getElem?_drop] at h;exact h))));have HMV:=Qs (maxU vs≤2199023255552) (by
        refine η ?_ HMB.out;have hx: ∀ x∈vs,x≤maxU us:=fun x hx=>Ma (List.mem_of_mem_drop (by rw [←hvs];exact hx));exact maxU_bound hx)
       have htail: ∀ W,(Instr.sliceAt 262 (.slice (some ⟨bu,0,none⟩) us.length ucap) (some (Vi Vk 4)) none none).run prog W= .ok (.slice (some ⟨bu,4,none⟩) vs.length (ucap - 4)) W:=fun W=>by
        have h:=run_ch_tail bu 0 us.length ucap 4 (by omega) hul W;rw [HVL.out] at h;simpa using h
       have HV4:=Qs (vs.length=4*(vs.length / 4)) (by have:=HM4.out;have:=HVL.out;omega);have HVC:=Qs (vs.length≤1028∧vs.length≤ucap - 4) (by have:=HLE.out;have:=HVL.out;omega);have hgb:w.heap.size≤w3.heap.size:=HB3.out.size;have hg0:=HM3.out.lt;clear hvs HCU D0 D1 D2 D3 F1 HBZ HZ HSZ4 hw0 hw1 hw2 hw3 HO3 HUR;go_wp2_with fail;refine(chunk_any bu 4 vs.length (ucap - 4) W5).mono ?_;rintro e w6 ⟨rfl,rfl⟩;obtain⟨X0,hX⟩: ∃ X0,X0=(W5.alloc (.cells #[.slice (some ⟨bu,4,none⟩) vs.length (ucap - 4)] 262)).alloc (.cells #[Vi Vk 4] 3):=⟨_,rfl⟩;have HBX5:=Qs (Below W5.heap.size W5 X0) (by rw [hX];exact Below.next (Aa _ _) (Aa _ _));have HBX:=Qs (Below w3.heap.size w3 X0) (Below.next HB5.out HBX5.out);have HSX:=Qs (X0.heap.size=w3.heap.size+3) (by rw [hX];simp;rw [HSZ5.out]);have HMX:=Qs (At X0 w3.heap.size ⟨(s:Int),(u0:Int),(u1:Int),(u2:Int),(u3:Int),[]⟩ (.slice none 0 0)) (HM5.out.below HBX5.out);have HCA:=Qs (X0.cell? ⟨w3.heap.size+1,0,none⟩=some (.slice (some ⟨bu,4,none⟩) vs.length (ucap - 4))) (by
        rw [hX,←HSZ5.out];exact cell_later (Aa _ _) (by rw [World.cell?_alloc_new];rfl))
       have HCB:=Qs (X0.cell? ⟨w3.heap.size+1+1,0,none⟩=some (Vi Vk 4)) (by
        rw [hX,←HSZ5.out];have h:=World.cell?_alloc_new (W5.alloc (.cells #[.slice (some ⟨bu,4,none⟩) vs.length (ucap - 4)] 262)) #[Vi Vk 4] 3 0;rw [World.size_alloc] at h;rw [h];rfl)
       have HXX0:=Qh hX;have HKE:=Qs (Ov (w3.heap.size+1) (w3.heap.size+1+1) bu 4 (ucap - 4) vs X0) ⟨HCA.out,HCB.out,fun i u hu=>HCV.out X0 HBX.out i u hu⟩;clear hX htail HCA HCB HBX5;go_wp2_with fail;rw [HSZ5.out,←HXX0.out]
       refine wp_rangeFuncR (gf:=184) (lb:= #[.pointer (some ⟨w3.heap.size+1,0,none⟩),.pointer (some ⟨w3.heap.size+1+1,0,none⟩)]) (encs:=chEnc) (R:=ChR vs bu) (Kp:=ScK X0.heap.size w3.heap.size w3.heap.size) (S:=fun xs=>xs.map (·.1)=G1 vs) (Sp:=fun _=>True) rfl (enters_of func184 (by kernel_rfl) rfl)
        (chunk1_seq vs (vs.length / 4) (w3.heap.size+1) (w3.heap.size+1+1) bu 4 (ucap - 4) HV4.out (by have:=HVC.out;omega) HVC.out.2 X0 _ HKE.out ?hK)
        ScK.trans ScK.put (fun _=>rfl) (MaI X0.heap.size w3.heap.size ⟨(s:Int),(u0:Int),(u1:Int),(u2:Int),(u3:Int),[]⟩ vs X0) (fun _ _ _=>False) (MaI.kept (μ _)) (fun _ _ _ _ h _=>h) ?h0 ?hround ?hdone ?hstop
       case hK=>
        intro W W' _ ⟨h1,h2,h3⟩ hk;have hsx:=HSX.out;refine⟨⟨Ab.cell hk h1 (by rintro(h|h|h)<;>simp only at h<;>omega),Ab.cell hk h2 (by rintro(h|h|h)<;>simp only at h<;>omega),fun i u hu=>Ab.cell hk (h3 i u hu) (by rintro(h|h|h)<;>simp only at h<;>omega)⟩,hk.size⟩
       case h0=>exact⟨.slice none 0 0,HMX.out,World.ownsRow_nil _ _ _ _,List.nil_prefix,Ab.refl _ _⟩
       case hstop=>
        intro D c pre W _ _ h _;exact h.elim
       case hround=>
        rintro l' pre ⟨xs,xv⟩ Wo W hl0 hszo hI hko hR;obtain⟨hpf,hxm,hx4,ox,hxv,hxc⟩:=hR;dsimp only at hxm hx4 hxv hxc;subst hxv;simp only [chEnc]
        gi_wp2
        refine⟨KeepsFrom.refl _ _,Ab.refl _ _,fun W2 hk2=> ?_⟩;obtain⟨a,b,c,d,rfl⟩:=list4 hx4;obtain⟨ov,hmo,howno,_,htno⟩:=hI;have hKK:=hko.trans hk2;have hm:At W2 w3.heap.size ⟨(s:Int),(u0:Int),(u1:Int),(u2:Int),(u3:Int),[]⟩ ov:=hKK.blk hmo;have hown:=own_kept howno hKK;have htn:=htno.kept hKK (μ _);have hsz2:X0.heap.size≤W2.heap.size:=η hszo hKK.size;have hsx:=HSX.out;have hg8lt:w3.heap.size<X0.heap.size:=by omega
        have E0:=Qs (W2.cell? ⟨bu,ox,none⟩=some (.int .u64 (a:Int))) (by have:=hxc 0 a rfl;rw [Nat.add_zero] at this;exact hk2.cell this);have E1:=Qh (hk2.cell (hxc 1 b rfl));have E2:=Qh (hk2.cell (hxc 2 c rfl));have E3:=Qh (hk2.cell (hxc 3 d rfl));have hNB: ¬ (bu=w3.heap.size∨bu=w3.heap.size∨X0.heap.size≤bu):=by omega
        have hw0:IntKind.i64.wrap (a:Int)=(a:Int):=by have:=hxm a (by simp);have:=HMV.out;rw [ν];omega
        have hw1:IntKind.i64.wrap (b:Int)=(b:Int):=by have:=hxm b (by simp);have:=HMV.out;rw [ν];omega
        have hw2:IntKind.i64.wrap (c:Int)=(c:Int):=by have:=hxm c (by simp);have:=HMV.out;rw [ν];omega
        have hw3:IntKind.i64.wrap (d:Int)=(d:Int):=by have:=hxm d (by simp);have:=HMV.out;rw [ν];omega
        have HPL:=Qs (pre.length≤100000) (by
         have h1:=hpf.length_le;have h2:=fours_len vs;have h3:=HVC.out;simp only [List.length_map,ζ,τ,Φ] at h1;omega)
        have HOB:=Qh (fun j (e:ov.ownBlock=some j)=>(hown.lt j e).1);obtain⟨i0,hi,hz0,hz1,hz2⟩:=info_parts infoSg;have HW2:=Qh (show MaS X0.heap.size w3.heap.size ⟨(s:Int),(u0:Int),(u1:Int),(u2:Int),(u3:Int),[]⟩ pre.length (sgCells (pre.map fun x=>segOf x.1)) W2 ov ov W2.drew from⟨hm,hown,Ab.below (Ac W2 1),η hsz2 (Ac W2 1).size⟩);clear hxc hxm hmo howno htno hko hk2 hKK hm;refine wpIn_block (wpIn_region_held (S:=fun w'=>ScK X0.heap.size w3.heap.size w3.heap.size W2 w') (by kernel_rfl) (by rfl) (Eo Ib) (Ab.below (Ac W2 1)) (fun hHeld=> ?_));have FX2:=Qh (fun(wF:World) (hSw:(fun w'=>ScK X0.heap.size w3.heap.size w3.heap.size W2 w') wF)=>And.intro ((hSw.cell E0.out hNB)) (And.intro ((hSw.cell E1.out hNB)) (And.intro ((hSw.cell E2.out hNB)) ((hSw.cell E3.out hNB)))));refine tf FX2 0 rfl ?_;refine tf FX2 2 rfl ?_;refine tf FX2 3 rfl ?_;refine tf FX2 4 rfl ?_;refine tf FX2 5 rfl ?_;refine tf FX2 6 rfl ?_;refine tf FX2 7 rfl ?_;refine tf FX2 8 rfl ?_;refine tf FX2 9 rfl ?_;refine tf FX2 10 rfl ?_;refine tf FX2 11 rfl ?_;refine tf FX2 12 rfl ?_;refine tf FX2 13 rfl ?_;refine tf FX2 14 rfl ?_;refine tf FX2 15 rfl ?_;refine tf FX2 16 rfl ?_;refine tf FX2 17 rfl ?_;refine tf FX2 18 rfl ?_;clear FX2;generalize World.drew W2=Wd at*;have c5:Wd.cell? ⟨w3.heap.size,5,none⟩=some ov:=HW2.out.1.c5;have HWA:=Qh (HW2.out.next (Aa Wd (.cells (B4 ⟨(a:Int),(b:Int),(c:Int),(d:Int)⟩) 72)));simp only [B4] at HWA;refine wpAnyH_ready (rs:=[1,19]) (by kernel_rfl) (by simp) ?_;refine AllReadyH.cons rfl (fun K hK=> ?_) (AllReadyH.cons rfl (fun K hK=> ?_) AllReadyH.nil)
        ·go_simp;refine hK.out _ _ hHeld (fun hHeld=> ?_);clear hK K;refine Rd 19 rfl fun K hK=> ?_;go_simp;refine hK.out _ _ (TuS.sck HWA.out.2.2.1 HOB.out) (fun hHeld=> ?_);clear hK K c5;refine Rd 20 rfl fun K hK=> ?_;rw [κ (by kernel_rfl)];refine wp_append_own _ (.tmp 75) (.tmp 93) 67 rfl X0.heap.size 72 i0 zeroSg 4 32 underlying67 hi hz0 hz1 hz2 rfl (by decide) ov pre.length _ rfl HWA.out.2.1 ⟨Wd.heap.size,0,none⟩ 1 1 (B4 ⟨(a:Int),(b:Int),(c:Int),(d:Int)⟩).toList rfl rfl (fun j u hj=> ?c1_1) (fun u hu=> ?c2_1) (by have:=HPL.out;unfold maxLen;omega) (by have:=HPL.out;omega) HWA.out.2.2.2 ?_
         case c1_1=>
          rw [Cr,Nat.zero_add,World.cell?_alloc_new];simpa [B4] using hj
         case c2_1=>simp [B4] at hu;rcases hu with rfl|rfl|rfl|rfl<;>rfl
         intro v' W3 hown3 hgrow _;have HST:=Qh (MaS.step HWA.out hgrow hown3 hg8lt);have h1v:v'.oneCell'=true:=by obtain⟨o1,c1,e,_,_⟩:=Aj hown3;rw [e];rfl
         clear hown3 hgrow;refine hK.out _ _ (TuS.sck HST.out.2.2 HOB.out) (fun hHeld=> ?_);clear hK K;have d5:=HST.out.1.c5;have f5:=HST.out.1.free 5;refine tk 21 rfl ?v_3 ?hy_3 ?r_3
         case hy_3=>intro w hSw;go_simp;try with_reducible rfl
         simp only [pA];refine Rd 22 rfl fun K hK=> ?_;rw [κ (by kernel_rfl)];refine Fi 67 (.tmp 95) (.tmp 94) rfl w3.heap.size 5 v' ov (by kernel_rfl) h1v rfl rfl d5 f5 ?_;have HFI:=Qh (MaS.store HST.out hg8lt);clear d5 f5 h1v HST;refine hK.out _ _ (TuS.sck HFI.out.2.2 HOB.out) (fun _=> ?_);clear hK K;generalize World.setCell _ _ _=W4 at*;refine Ξ (by kernel_rfl) ?_ _;refine⟨Ia HFI.out.2.2 fun j o hj hs ho=> ?_,TuS.sck HFI.out.2.2 HOB.out,v',HFI.out.1,?_,hpf,htn.trans HFI.out.2.2 fun j hj=> ?_⟩
         ·rcases hs with h|h
          ·omega
          ·rcases hown.2 with⟨rfl,_⟩|⟨g,gcap,cur,rfl,_,hg,_⟩
           ·cases h
           ·have e:g=j:=φ h;subst e;rw [hg] at ho;cases ho;rfl
         ·rw [ζ,List.map_append];have h:=HFI.out.2.1;unfold sgCells at h ⊢;rw [List.flatMap_append];exact h
         ·rcases hj with h|h
          ·exact .inl (.inl h)
          ·exact .inr (hown.lt j h).1
        ·go_simp;refine hK.out _ _ (TuS.sck HWA.out.2.2.1 HOB.out) (fun hHeld=> ?_);clear hK K c5;have c5:=HWA.out.1.c5;refine Rd 1 rfl fun K hK=> ?_;go_simp;refine hK.out _ _ (TuS.sck HWA.out.2.2.1 HOB.out) (fun hHeld=> ?_);clear hK K c5;refine Rd 20 rfl fun K hK=> ?_;rw [κ (by kernel_rfl)];refine wp_append_own _ (.tmp 75) (.tmp 93) 67 rfl X0.heap.size 72 i0 zeroSg 4 32 underlying67 hi hz0 hz1 hz2 rfl (by decide) ov pre.length _ rfl HWA.out.2.1 ⟨Wd.heap.size,0,none⟩ 1 1 (B4 ⟨(a:Int),(b:Int),(c:Int),(d:Int)⟩).toList rfl rfl (fun j u hj=> ?c1_2) (fun u hu=> ?c2_2) (by have:=HPL.out;unfold maxLen;omega) (by have:=HPL.out;omega) HWA.out.2.2.2 ?_
         case c1_2=>
          rw [Cr,Nat.zero_add,World.cell?_alloc_new];simpa [B4] using hj
         case c2_2=>simp [B4] at hu;rcases hu with rfl|rfl|rfl|rfl<;>rfl
         intro v' W3 hown3 hgrow _;have HST:=Qh (MaS.step HWA.out hgrow hown3 hg8lt);have h1v:v'.oneCell'=true:=by obtain⟨o1,c1,e,_,_⟩:=Aj hown3;rw [e];rfl
         clear hown3 hgrow;refine hK.out _ _ (TuS.sck HST.out.2.2 HOB.out) (fun hHeld=> ?_);clear hK K;have d5:=HST.out.1.c5;have f5:=HST.out.1.free 5;refine tk 21 rfl ?v_4 ?hy_4 ?r_4
         case hy_4=>intro w hSw;go_simp;try with_reducible rfl
         simp only [pA];refine Rd 22 rfl fun K hK=> ?_;rw [κ (by kernel_rfl)];refine Fi 67 (.tmp 95) (.tmp 94) rfl w3.heap.size 5 v' ov (by kernel_rfl) h1v rfl rfl d5 f5 ?_;have HFI:=Qh (MaS.store HST.out hg8lt);clear d5 f5 h1v HST;refine hK.out _ _ (TuS.sck HFI.out.2.2 HOB.out) (fun _=> ?_);clear hK K;generalize World.setCell _ _ _=W4 at*;refine Ξ (by kernel_rfl) ?_ _;refine⟨Ia HFI.out.2.2 fun j o hj hs ho=> ?_,TuS.sck HFI.out.2.2 HOB.out,v',HFI.out.1,?_,hpf,htn.trans HFI.out.2.2 fun j hj=> ?_⟩
         ·rcases hs with h|h
          ·omega
          ·rcases hown.2 with⟨rfl,_⟩|⟨g,gcap,cur,rfl,_,hg,_⟩
           ·cases h
           ·have e:g=j:=φ h;subst e;rw [hg] at ho;cases ho;rfl
         ·rw [ζ,List.map_append];have h:=HFI.out.2.1;unfold sgCells at h ⊢;rw [List.flatMap_append];exact h
         ·rcases hj with h|h
          ·exact .inl (.inl h)
          ·exact .inr (hown.lt j h).1
       case hdone=>
        rintro D xs W hD hxs ⟨ov,hm,hown,_,htn⟩ hdf;have HSG:=Qh (show xs.map (fun x=>segOf x.1)=(G1 vs).map segOf by rw [←hxs,List.map_map];rfl);obtain⟨mn,hmn⟩: ∃ mn:Da,mn=⟨(s:Int),(u0:Int),(u1:Int),(u2:Int),(u3:Int),(G1 vs).map segOf⟩:=⟨_,rfl⟩;have HMW:=Qs (At W w3.heap.size mn ov) (hm.segsAny (by rw [hmn];rfl));have HOW:=Qs (W.ownsRow X0.heap.size 72 4 ov mn.segs.length (sgCells mn.segs)) (by
         have e:mn.segs=xs.map (fun x=>segOf x.1):=by rw [hmn,HSG.out]
         rw [e,List.length_map];exact hown)
        have HE4:=Qs (B2 l=if Cy mn then (mn,0) else (zeroM,80)) (by rw [HE3.out,HMO.out,hmn]);have hsx:=HSX.out;have HMT:=Qs (At W w.heap.size ⟨0,0,0,0,0,[]⟩ (.slice none 0 0)) (by
         have h:=HM3.out.below HBX.out;unfold At at h ⊢;rw [htn.block _ (δ.1 h).1 (by omega)];exact h)
        have HBW:=Qh (Ba (Below.next HB3.out HBX.out) htn (fun j hj=>by omega) (η hgb HBX.out.size));have HDF:=Qh hdf;have HMV2:=Qh (Pf mn ov W (sgIn_own (A:=fun _=>True) HOW.out (fun _ _=>trivial)).row);have hov:ov.oneCell'=true:=by obtain⟨_,_,e,_,_⟩:=Aj HOW.out;rw [e];rfl
        obtain⟨vb,hvb⟩: ∃ vb,vb=Cy mn:=⟨_,rfl⟩;rw [←hvb] at HMV2 HE4;clear hm hown htn hdf hxs hvb hmn;go_wp2_with (with_reducible refine Co rfl (.tmp 8) rfl w3.heap.size mn ov rfl HMW.out ?_);refine HMV2.out.mono ?_;rintro e W6 ⟨rfl,hb6⟩;have HMW6:=Qh (HMW.out.below hb6);have HOW6:=Qh (A2 HOW.out hb6);have HMT6:=Qh (HMT.out.below hb6);have HBW6:=Qh (Below.next HBW.out hb6);have HDF6:=Qh ((hb6.block D (δ.1 HDF.out).1).trans HDF.out);have hDg: ¬ D=w.heap.size:=by omega
        clear hb6 HMV2 HMW HOW HMT HBW HDF;rcases vb with _|_
        ·go_wp2_with (with_reducible refine Bp rfl (.tmp 2) (.tmp 99) rfl w.heap.size ⟨0,0,0,0,0,[]⟩ zeroM (.slice none 0 0) (.slice none 0 0) rfl rfl HMT6.out rfl ?_);intro W7 hw7;have HM7:=Qs (At W7 w.heap.size zeroM (.slice none 0 0)) (by rw [hw7.out];exact HMT6.out.row);have HT7:=Qh (show Ab (fun k=>k=w.heap.size) W6 W7 by rw [hw7.out];exact Ax _ _ _);have HB7:=Qh (Ba HBW6.out HT7.out (fun k hk=>by omega) HBW6.out.size);have hdf7:=(HT7.out.block D (δ.1 HDF6.out).1 hDg).trans HDF6.out;clear hw7;go_wp2;have HKF:=Qh (Fr.putObj (B:=X0.heap.size) (.deferred none) hD hdf7 rfl);refine⟨by simp,.inl ⟨_,_,rfl,run_takeDeferred hdf7,?_⟩⟩;exact⟨.tuple #[mnV zeroM (.slice none 0 0),Vi Vk 80],Gr rfl _ _ w.heap.size zeroM _ _ rfl rfl (HKF.out.blk HM7.out),_,by rw [HE4.out];rfl,by rw [HE4.out];exact D8 _ _,rfl,HKF.out.after HB7.out (by omega)⟩
        ·go_wp2_with (first|(with_reducible refine Co rfl (.tmp 8) rfl w3.heap.size mn ov rfl HMW6.out ?_)|(with_reducible refine Bp rfl (.tmp 2) (.tmp 100) rfl w.heap.size ⟨0,0,0,0,0,[]⟩ mn (.slice none 0 0) ov rfl rfl HMT6.out hov ?_));intro W7 hw7;have HM7:=Qs (At W7 w.heap.size mn ov) (by rw [hw7.out];exact HMT6.out.row);have HT7:=Qh (show Ab (fun k=>k=w.heap.size) W6 W7 by rw [hw7.out];exact Ax _ _ _);have HB7:=Qh (Ba HBW6.out HT7.out (fun k hk=>by omega) HBW6.out.size);have HO7:=Qh (own_turnedB HOW6.out HT7.out (fun k hk=>by omega));have hdf7:=(HT7.out.block D (δ.1 HDF6.out).1 hDg).trans HDF6.out;clear hw7;go_wp2;have HKF:=Qh (Fr.putObj (B:=X0.heap.size) (.deferred none) hD hdf7 rfl);refine⟨by simp,.inl ⟨_,_,rfl,run_takeDeferred hdf7,?_⟩⟩;refine⟨.tuple #[mnV mn ov,Vi Vk 0],Gr rfl _ _ w.heap.size mn _ _ rfl rfl (HKF.out.blk HM7.out),ov,by rw [HE4.out];rfl,?_,hov,HKF.out.after HB7.out (by omega)⟩;rw [HE4.out];exact sgIn_own (own_kept HO7.out HKF.out) (fun k hk=>by omega)
      ·
       have HG:=Qs (B2 l=(zeroM,80)) (by rw [HE2.out,κ (show Gi body (us,at0,e1) from show (e1≠0∨at0≠body.length∨us.length<8∨us.length % 4≠0∨2199023255552<maxU us) from .inr (.inr (.inr (.inr (by rw [←HXX.out];simp at h5;omega)))))]);go_wp2_with (first|(go_at_call 159;refine HMX.out.mono ?_;rintro e wx ⟨rfl,rfl⟩)|(with_reducible refine Bp rfl (.tmp 2) (.tmp 50) rfl w.heap.size ⟨0,0,0,0,0,[]⟩ zeroM (.slice none 0 0) (.slice none 0 0) rfl rfl HM3.out rfl ?_));intro w4 hw4;have HM4:=Qs (At w4 w.heap.size zeroM (.slice none 0 0)) (by rw [hw4.out];exact HM3.out.row);have HB4:=Qs (Below w.heap.size w w4) (by rw [hw4.out];exact Bw HB3.out (μ _) _);clear hw4;go_wp2;exact⟨.tuple #[mnV zeroM (.slice none 0 0),Vi Vk 80],Gr rfl _ _ w.heap.size zeroM _ _ rfl rfl HM4.out,_,by rw [HG.out],by rw [HG.out];exact D8 _ _,rfl,HB4.out⟩
     ·
      have HG:=Qs (B2 l=(zeroM,80)) (by rw [HE2.out,κ (show Gi body (us,at0,e1) from show (e1≠0∨at0≠body.length∨us.length<8∨us.length % 4≠0∨2199023255552<maxU us) from .inr (.inr (.inr (.inl (by simp at h4;omega)))))]);go_wp2_with (first|(with_reducible refine Bp rfl (.tmp 2) (.tmp 50) rfl w.heap.size ⟨0,0,0,0,0,[]⟩ zeroM (.slice none 0 0) (.slice none 0 0) rfl rfl HM3.out rfl ?_));intro w4 hw4;have HM4:=Qs (At w4 w.heap.size zeroM (.slice none 0 0)) (by rw [hw4.out];exact HM3.out.row);have HB4:=Qs (Below w.heap.size w w4) (by rw [hw4.out];exact Bw HB3.out (μ _) _);clear hw4;go_wp2;exact⟨.tuple #[mnV zeroM (.slice none 0 0),Vi Vk 80],Gr rfl _ _ w.heap.size zeroM _ _ rfl rfl HM4.out,_,by rw [HG.out],by rw [HG.out];exact D8 _ _,rfl,HB4.out⟩
    ·
     have HG:=Qs (B2 l=(zeroM,80)) (by rw [HE2.out,κ (show Gi body (us,at0,e1) from show (e1≠0∨at0≠body.length∨us.length<8∨us.length % 4≠0∨2199023255552<maxU us) from .inr (.inr (.inl (by simp at h3;omega))))]);go_wp2_with (first|(with_reducible refine Bp rfl (.tmp 2) (.tmp 50) rfl w.heap.size ⟨0,0,0,0,0,[]⟩ zeroM (.slice none 0 0) (.slice none 0 0) rfl rfl HM3.out rfl ?_));intro w4 hw4;have HM4:=Qs (At w4 w.heap.size zeroM (.slice none 0 0)) (by rw [hw4.out];exact HM3.out.row);have HB4:=Qs (Below w.heap.size w w4) (by rw [hw4.out];exact Bw HB3.out (μ _) _);clear hw4;go_wp2;exact⟨.tuple #[mnV zeroM (.slice none 0 0),Vi Vk 80],Gr rfl _ _ w.heap.size zeroM _ _ rfl rfl HM4.out,_,by rw [HG.out],by rw [HG.out];exact D8 _ _,rfl,HB4.out⟩
   ·
    have HG:=Qs (B2 l=(zeroM,80)) (by rw [HE2.out,κ (show Gi body (us,at0,e1) from show (e1≠0∨at0≠body.length∨us.length<8∨us.length % 4≠0∨2199023255552<maxU us) from .inr (.inl (by intro e;simp [e] at h2)))]);go_wp2_with (first|(with_reducible refine Bp rfl (.tmp 2) (.tmp 50) rfl w.heap.size ⟨0,0,0,0,0,[]⟩ zeroM (.slice none 0 0) (.slice none 0 0) rfl rfl HM3.out rfl ?_));intro w4 hw4;have HM4:=Qs (At w4 w.heap.size zeroM (.slice none 0 0)) (by rw [hw4.out];exact HM3.out.row);have HB4:=Qs (Below w.heap.size w w4) (by rw [hw4.out];exact Bw HB3.out (μ _) _);clear hw4;go_wp2;exact⟨.tuple #[mnV zeroM (.slice none 0 0),Vi Vk 80],Gr rfl _ _ w.heap.size zeroM _ _ rfl rfl HM4.out,_,by rw [HG.out],by rw [HG.out];exact D8 _ _,rfl,HB4.out⟩
  ·
   have HG:=Qs (B2 l=(zeroM,80)) (by rw [HE2.out,κ (show Gi body (us,at0,e1) from show (e1≠0∨at0≠body.length∨us.length<8∨us.length % 4≠0∨2199023255552<maxU us) from .inl (by simpa using h1))]);go_wp2_with (first|(with_reducible refine Bp rfl (.tmp 2) (.tmp 50) rfl w.heap.size ⟨0,0,0,0,0,[]⟩ zeroM (.slice none 0 0) (.slice none 0 0) rfl rfl HM3.out rfl ?_));intro w4 hw4;have HM4:=Qs (At w4 w.heap.size zeroM (.slice none 0 0)) (by rw [hw4.out];exact HM3.out.row);have HB4:=Qs (Below w.heap.size w w4) (by rw [hw4.out];exact Bw HB3.out (μ _) _);clear hw4;go_wp2;exact⟨.tuple #[mnV zeroM (.slice none 0 0),Vi Vk 80],Gr rfl _ _ w.heap.size zeroM _ _ rfl rfl HM4.out,_,by rw [HG.out],by rw [HG.out];exact D8 _ _,rfl,HB4.out⟩
 ·have HG:=Qs (B2 l=(zeroM,80)) (by rw [HE.out,κ (by simpa using he0)]);go_wp2_with (with_reducible refine Bp rfl (.tmp 2) (.tmp 17) rfl w.heap.size ⟨0,0,0,0,0,[]⟩ zeroM (.slice none 0 0) (.slice none 0 0) rfl rfl HM2.out rfl ?_);intro w3 hw3;have HM3:=Qs (At w3 w.heap.size zeroM (.slice none 0 0)) (by rw [hw3.out];exact HM2.out.row);have HB3:=Qs (Below w.heap.size w w3) (by rw [hw3.out];exact Bw HB2.out (μ _) _);clear hw3;go_wp2;exact⟨.tuple #[mnV zeroM (.slice none 0 0),Vi Vk 80],Gr rfl _ _ w.heap.size zeroM _ _ rfl rfl HM3.out,_,by rw [HG.out],by rw [HG.out];exact D8 _ _,rfl,HB3.out⟩
theorem wpList_cut_lh (hgd:o.guard=none) (x y z:Operand) (ho:o.op= .slice 39 x (some y) (some z) none) (oa:Option Addr) (cap lo hi:Nat) (l:List UInt8) (hx:a.eval x= .slice oa l.length cap) (hy:a.eval y= Vi Vk (lo:Int)) (hz:a.eval z= Vi Vk (hi:Int))
  (hv:B7 w (.slice oa l.length cap) l) (h1:lo≤hi) (h2:hi≤l.length) (h: ∀ v',B7 w v' ((l.take hi).drop lo)→v'.oneCell'=true→wpList prog ops Q rest (a.put o.dst v') w):wpList prog ops Q (o::rest) a w:=by
 have hv':=hv;obtain⟨_,c',e,hl',_⟩:=hv';simp only [Value.slice.injEq,true_and] at e;obtain⟨rfl,rfl⟩:=e;have hb:=Jv (lo:=lo) (hi:=hi) (mx:=cap) hv h1 h2 (by omega);refine wpList_plain hgd fun K hK=> ?_;unfold Oper.wp execOp;simp only [ho,hx,hy,hz,Option.map_some,Option.map_none,Id,run_cut_lh oa l.length cap lo hi h1 (η h2 hl'),Sem.run_bind,Sem.run_pure,Result.andThen_ok];exact hK _ _ (h _ hb (by unfold sliced;rfl))
def Df (d:Af) (k:Nat):Af:={d with reads:=IntKind.i64.wrap (d.reads+(k:Int))}
theorem Ld (w:World) (f m:Nat) (d:Af) (L:List Aq) (h:Bv w f m d L) (n:List UInt8) (x:Bl) (he:Av d n=0) (hx:Bf d.files n=some x) (p k:Nat) (hk:p+k≤x.data.length):
  Calls prog 32 #[.pointer (some ⟨f,0,none⟩),.string ⟨n.toArray⟩,Vi Vk (p:Int),Vi Vk (k:Int)] w fun e w'=> ∃ v,e= .returned (.tuple #[v,Vi Vk 0])∧Cw w' w.heap.size v ((x.data.drop p).take k)∧Bv w' f m (Df d k) L∧Ab (fun i=>i=f) w w':=by
 have HO:=Qh (La w f m d L h n);obtain⟨s,hs1,ha,hv,hr,hsm,hsn⟩:=Ps h he;have hxs:x=s.fil:=by rw [hx] at ha;exact φ ha
 subst hxs;have hsl:=h.body.slot s hsm;obtain⟨ao,cap,hsh,hlc,_⟩:=hsl.2.shape;have hlen:=Fg (B8 hx).2;have hus:=h.ok.used;have hrm:=h.ok.room;rw [he,hv] at HO;have c0:=hsl.c0;rw [hsh] at c0;have c4:=h.hd.c4;have f4:=h.hd.free 4;have t1:decide ((p:Int)<0)=false:=by simp
 have t2:decide ((k:Int)<0)=false:=by simp
 have t3:decide (s.fil.data.length<p)=false:=by simp;omega
 have hpl:p≤s.fil.data.length:=by omega
 have t4:decide ((s.fil.data.length:Int) - (p:Int)<(k:Int))=false:=by simp;omega
 have hw1:IntKind.i64.wrap ((s.fil.data.length:Int) - (p:Int))=(s.fil.data.length:Int) - (p:Int):=by rw [ν];omega
 have hw2:IntKind.i64.wrap ((p:Int)+(k:Int))=((p+k:Nat):Int):=by rw [ν];omega
 obtain⟨R,hR⟩: ∃ R,R=IntKind.i64.wrap (d.reads+(k:Int)):=⟨_,rfl⟩;have hw3:IntKind.i64.wrap ((Ex d).reads+(k:Int))=R:=hR.symm;have HRR:=Qh hR;have HH:=Qh h;have HSM:=Qh hsm;have HK:=Qh hk;have hko:p≤p+k:=by omega
 have hdl:s.fil.data.length≤67108864:=by omega
 have F4:=Qh f4;have HSH:=Qh hsh;have HLC:=Qh hlc;have HCL:=Qh (fun W v (hb:B7 W v ((s.fil.data.take (p+k)).drop p))=>clone_any _ v W hb (by rw [Λ,ω];omega));have HTD:=Qs ((s.fil.data.take (p+k)).drop p=(s.fil.data.drop p).take k) (by rw [List.drop_take,Nat.add_sub_cancel_left]);clear h he hs1 ha hv hr hsm hsn hsl hx hlen hus hrm hk hsh hlc hR;go_enter func32,ntmps32;obtain⟨w2,hw⟩: ∃ w2,w2=w.setCell ⟨f,4,none⟩ (Vi Vk R):=⟨_,rfl⟩;have HF2:=Qs (Bv w2 f m (Df d k) L) (by
  rw [hw,HRR.out];have hk:=HH.out.ok;exact⟨HH.out.hd.set 4 _ rfl,HH.out.body.setHd' 4 _,HH.out.fil,⟨hk.rise,hk.names,hk.safe,hk.count,hk.room,hk.used,hk.fuse,hk.steps,by show -9223372036854775808≤IntKind.i64.wrap (d.reads+(k:Int))∧IntKind.i64.wrap (d.reads+(k:Int))≤9223372036854775807;rw [ν];omega⟩⟩)
 have HT2:=Qh (show Ab (fun i=>i=f) w w2 by rw [hw];exact Ab.setCell (S:=fun i=>i=f) _ ⟨f,4,none⟩ _ rfl);have HSZ:=Qs (w2.heap.size=w.heap.size) (by rw [hw];simp);have HBR:=Qh (HF2.out.body.slot s HSM.out).2.brow;rw [HSH.out,hw] at HBR;have HW:=Qh hw;clear hw;go_wp2_with (first|(go_at_call 59;refine HO.out.mono ?_;rintro e w1 ⟨rfl,rfl⟩)|(with_reducible refine wpList_cut_lh rfl (.tmp 58) (.tmp 59) (.tmp 62) rfl ao cap p (p+k) s.fil.data rfl rfl rfl HBR.out hko HK.out ?_));rw [←HW.out];intro v' hb' h1';go_wp2_with fail;refine(HCL.out w2 v' hb').mono ?_;rintro e w3 ⟨v3,rfl,ho3,hb3⟩;go_wp2;refine π (v:= .tuple #[v3,Vi Vk 0]) (by simp [results,results32,go_sem]) rfl ⟨_,rfl,?_,HF2.out.below hb3,HT2.out.trans (Ab.below hb3) fun _ h=> .inl h⟩;rw [←HTD.out,←HSZ.out];exact ho3
attribute [local go_sem] Oper.semAt_some
def takeRun (first most:Nat):Nat→List (Nat×J6)→List (Nat×J6)
 |_,[]=>[]
 |c,x::r=>if x.2.k≠1∨(x.2.s:Int) - c≠first then [] else if c+1=most then [x] else x::takeRun first most (c+1) r
def Bt (b:List UInt8) (p first most:Nat):List I3×Nat:=(Jt p (takeRun first most 0 (frs (b.drop p))),p+Cd 0 (takeRun first most 0 (frs (b.drop p))))
theorem take_stop {x:Nat×J6} {r:List (Nat×J6)} (h:x.2.k≠1∨(x.2.s:Int) - c≠first):takeRun first most c (x::r)=[]:=by rw [takeRun,κ h]
theorem take_full {x:Nat×J6} {r:List (Nat×J6)} (h: ¬ (x.2.k≠1∨(x.2.s:Int) - c≠first)) (h2:c+1=most):takeRun first most c (x::r)=[x]:=by rw [takeRun,γ h,κ h2]
theorem take_go {x:Nat×J6} {r:List (Nat×J6)} (h: ¬ (x.2.k≠1∨(x.2.s:Int) - c≠first)) (h2: ¬ c+1=most):takeRun first most c (x::r)=x::takeRun first most (c+1) r:=by rw [takeRun,γ h,γ h2]
theorem Nw {first most:Nat}: ∀ (xs:List (Nat×J6)) (c:Nat),c<most→(takeRun first most c xs).length+c≤most
 | [],c,h=>by simp only [takeRun,Φ];omega
 |x::r,c,h=>by
  rw [takeRun]
  split
  ·simp only [Φ];omega
  ·split
   ·simp only [τ,Φ];omega
   ·have:=Nw (first:=first) (most:=most) r (c+1) (by omega)
    simp only [τ];omega
theorem G5 (w:World) (o:Obj) (k:Nat) (h:k=w.heap.size):(w.alloc o).heap[k]? =some o:=by subst h;exact σ w o
def RunI (B g5 g6 b0 first most:Nat) (b:List UInt8) (X:World) (pre:List FrX) (W:World):Prop:=
 ScI B g5 g6 b0 b X pre W∧(∀ rest,takeRun first most 0 (Jc pre++rest)=Jc pre++takeRun first most pre.length rest)∧pre.length<most
def RunX (B g5 g6 b0 first most:Nat) (b:List UInt8) (X:World) (c:Code) (_:List FrX) (W:World):Prop:=
 c= .exit 0∧ ∃ ys,ScI B g5 g6 b0 b X ys W∧takeRun first most 0 (frs b)=Jc ys
theorem RunI.kept {g5 g6 b0:Nat} (hB:X.heap.size≤B):Kw B (RunI B g5 g6 b0 first most b X):=fun s W W' h hk=>⟨ScI.kept hB s W W' h.1 hk,h.2⟩
theorem RunX.kept {g5 g6 b0:Nat} (hB:X.heap.size≤B) (c:Code):Kw B (RunX B g5 g6 b0 first most b X c):=fun _ W W' ⟨h,ys,h1,h2⟩ hk=>⟨h,ys,ScI.kept hB ys W W' h1 hk,h2⟩
def RunP (w:World) (r:List I3×Nat) (e:Ending) (w':World):Prop:= ∃ v,e= .returned (.tuple #[v,Vi Vk (r.2:Int)])∧Ny (fun k=>w.heap.size≤k) w' v r.1∧Below w.heap.size w w'
theorem Nv (b:List UInt8) (v:Value) (p first most:Nat) (w:World) (hv:B7 w v b) (hl:b.length≤67108864) (hn:Bh w) (hp:p≤b.length) (hm:0<most) (hm2:most≤1000000):
  Calls prog 36 #[v,Vi Vk (p:Int),Vi Vk (first:Int),Vi Vk (most:Int)] w (RunP w (Bt b p first most)):=by
 have HV:=Qh hv;have HN:=Qh hn;have hv2:=hv;obtain⟨oa,cap,rfl,hlc,hcc⟩:=hv2;clear hn hcc;have t1:decide ((b.length:Nat)<p)=false:=by simp;omega
 have t2:decide ((most:Int)≤0)=false:=by simp;omega
 have HP:=Qh hp;obtain⟨c,hc⟩: ∃ c,c=b.drop p:=⟨_,rfl⟩;have HCL:=Qs (b.length - p=c.length) (by rw [hc,Λ]);have hcl:c.length≤67108864:=by rw [hc,Λ];omega
 have HCB:=Qs (p+c.length≤67108864) (by rw [hc,Λ];omega);have HSR:=Qs (Bt b p first most=(Jt p (takeRun first most 0 (frs c)),p+Cd 0 (takeRun first most 0 (frs c)))) (by rw [hc];rfl);obtain⟨oa',cap',hs,hbr⟩: ∃ oa' cap',(∀ W,(Instr.sliceAt 39 (.slice oa b.length cap) (some (Vi Vk (p:Int))) none none).run prog W= .ok (.slice oa' c.length cap') W)∧B7 w (.slice oa' c.length cap') c:=by
  have h:=Jv (lo:=p) (hi:=b.length) (mx:=cap) hv hp (μ _) hlc;rw [List.take_length,←hc] at h;unfold sliced at h;rw [HCL.out] at h;refine⟨_,_,fun W=> ?_,h⟩;rw [Id,Ok oa b.length cap p hp W,←HCL.out];rfl
 have HBR:=Qh hbr;clear hp hc hbr hv hlc;refine(callsIn_wide (n:=3)).1 (callsIn_of_wp_marks func36 rfl trivial (wpIn_wide.2 ?_) rfl);simp only [ntmps36,List.size_toArray,τ,Φ,Nat.reduceAdd,Nat.reduceSub,Array.replicate_succ,Array.replicate_zero,List.push_toArray,List.append_toArray,List.nil_append,List.cons_append];obtain⟨W0,hW0⟩: ∃ W0,W0=((((((w.alloc (.cells #[Vi Vk (p:Int)] 3)).alloc (.cells #[Vi Vk (first:Int)] 3)).alloc (.cells #[Vi Vk (most:Int)] 3)).alloc (.cells #[.slice none 0 0] 89)).alloc (.cells #[Vi Vk (p:Int)] 3)).alloc (.cells #[.slice oa' c.length cap'] 39)):=⟨_,rfl⟩;have HSZ:=Qs (W0.heap.size=w.heap.size+6) (by rw [hW0];simp);have HB0:=Qs (Below w.heap.size w W0) (by rw [hW0];exact((((((χ _ w).alloc (μ _) _).alloc (by simp) _).alloc (by simp;omega) _).alloc (by simp;omega) _).alloc (by simp;omega) _).alloc (by simp;omega) _);have HG0:=Qs (W0.heap[w.heap.size]? =some (.cells #[Vi Vk (p:Int)] 3 (0,0))) (by
  rw [hW0]
  iterate 5 rw [Below.heap_alloc _ _ _ (by simp<;>omega)]
  exact G5 _ _ _ (by simp<;>omega))
 have HG1:=Qs (W0.heap[w.heap.size+1]? =some (.cells #[Vi Vk (first:Int)] 3 (0,0))) (by
  rw [hW0]
  iterate 4 rw [Below.heap_alloc _ _ _ (by simp<;>omega)]
  exact G5 _ _ _ (by simp<;>omega))
 have HG2:=Qs (W0.heap[w.heap.size+1+1]? =some (.cells #[Vi Vk (most:Int)] 3 (0,0))) (by
  rw [hW0]
  iterate 3 rw [Below.heap_alloc _ _ _ (by simp<;>omega)]
  exact G5 _ _ _ (by simp<;>omega))
 have HG3:=Qs (W0.heap[w.heap.size+1+1+1]? =some (.cells #[.slice none 0 0] 89 (0,0))) (by
  rw [hW0]
  iterate 2 rw [Below.heap_alloc _ _ _ (by simp<;>omega)]
  exact G5 _ _ _ (by simp<;>omega))
 have HG4:=Qs (W0.heap[w.heap.size+1+1+1+1]? =some (.cells #[Vi Vk (p:Int)] 3 (0,0))) (by
  rw [hW0]
  iterate 1 rw [Below.heap_alloc _ _ _ (by simp<;>omega)]
  exact G5 _ _ _ (by simp<;>omega))
 have HG5:=Qs (W0.heap[w.heap.size+1+1+1+1+1]? =some (.cells #[.slice oa' c.length cap'] 39 (0,0))) (by rw [hW0];exact G5 _ _ _ (by simp<;>omega));have HW0:=Qh hW0;clear hW0;go_wp2_with fail;refine(each_any oa' c.length cap' _).mono ?_;rintro e w1 ⟨rfl,rfl⟩;go_wp2_with fail;rw [show (((((w.alloc (.cells #[Vi Vk (p:Int)] 3)).alloc (.cells #[Vi Vk (first:Int)] 3)).alloc (.cells #[Vi Vk (most:Int)] 3)).alloc (.cells #[.slice none 0 0] 89)).alloc (.cells #[Vi Vk (p:Int)] 3)).alloc (.cells #[.slice oa' c.length cap'] 39)=W0 from HW0.out.symm]
 refine wp_rangeFuncR (gf:=99) (lb:= #[.pointer (some ⟨w.heap.size+1+1+1+1+1,0,none⟩)]) (encs:=frEnc) (R:=FrR c) (Kp:=ScK W0.heap.size (w.heap.size+1+1+1) (w.heap.size+1+1+1+1)) (S:=fun xs=>Jc xs=frs c) (Sp:=fun pre=>pre≠ []∧Jc pre <+: frs c) rfl (enters_of func99 (by kernel_rfl) rfl)
  (each1_seq c oa' cap' (w.heap.size+1+1+1+1+1) W0 _ (by omega) (fun W=>Below w.heap.size w W∧W.cell? ⟨w.heap.size+1+1+1+1+1,0,none⟩=some (.slice oa' c.length cap')) ⟨HB0.out,cell_of_row W0 _ 0 _ _ _ HG5.out⟩ (fun W h=>⟨h.2,HBR.out.below h.1,HN.out.below h.1⟩) (fun W W' h hb=>⟨Below.next h.1 hb,cell_later hb h.2⟩) ?hK)
  ScK.trans ScK.put (fun _=>rfl) (RunI W0.heap.size (w.heap.size+1+1+1) (w.heap.size+1+1+1+1) p first most c W0) (RunX W0.heap.size (w.heap.size+1+1+1) (w.heap.size+1+1+1+1) p first most c W0) (RunI.kept (μ _)) (RunX.kept (μ _)) ?h0 ?hround ?hdone ?hstop
 case hK=>
  intro W W' hs ⟨h1,h2⟩ hk;refine⟨⟨Ba h1 hk (fun k hk'=>by have:=HSZ.out;omega) h1.size,?_⟩,hk.size⟩;exact Ab.cell hk h2 (by have:=HSZ.out;rintro(h|h|h)<;>simp only at h<;>omega)
 case h0=>exact⟨⟨.slice none 0 0,HG3.out,HG4.out,pcOwn_nil _ _,List.nil_prefix,Ab.refl _ _⟩,fun _=>rfl,hm⟩
 case hround=>
  rintro l pre ⟨x0,⟨k,s,body⟩,bv⟩ Wo W hl0 hszo hI hko hR;obtain⟨hpx,hbv,hbl,_,_,hs1⟩:=hR;dsimp only at hbv hbl hs1;have HI:=Qh hI;have HKO:=Qh hko;have hsz:W0.heap.size≤W.heap.size:=η hszo hko.size;clear hko;have HPX:=Qh hpx;have HBV:=Qh hbv;obtain⟨ob,bcap,rfl,_,_⟩:=hbv;clear hI hpx;simp only [frEnc]
  gi_wp2
  refine⟨Ia (S:=fun _=>False) (Ab.below (Aa W _)) (fun _ _ _ h=>h.elim),Ab.below (Aa W _),fun W2 hk2=> ?_⟩;have HKW:=Qh ((Fr.ofBelow (B:=W0.heap.size) (Aa W (.cells #[Vi Vk (k:Int),Vi Vk (s:Int),.slice ob body.length bcap] 101))).trans hk2);have HKK:=Qh (HKO.out.trans HKW.out);obtain⟨⟨v,h5o,h6o,howno,hprf,htno⟩,htk,hpm⟩:=HI.out;have h5:=HKK.out.blk h5o;have h6:=HKK.out.blk h6o;have hown:=howno.kept HKK.out;have htn:=htno.kept HKK.out (μ _);have HTK:=Qh htk;have HPM:=Qh hpm;have HPR:=Qh hprf;have HF:=Qs (Eq W2 W.heap.size (k:Int) (s:Int) (.slice ob body.length bcap)) (hk2.blk (Ff W (k:Int) (s:Int) (.slice ob body.length bcap)))
  have HBV2:=Qh (show As (fun j=>W0.heap.size≤j∧j<W2.heap.size∧v.ownBlock≠some j) W2 (.slice ob body.length bcap) body from
   (HBV.out.kept HKW.out).mono fun j hj=>⟨η hszo hj.1,by have:=hj.2;have:=(Aa W (.cells (Ha (k:Int) (s:Int) (.slice ob body.length bcap)) 101)).size;have:=hk2.size;simp only [Ha] at *;omega,fun e=>by have:=(howno.1.lt j e).2;have:=hj.1;omega⟩)
  clear h5o h6o howno htno htk hpm hprf;obtain⟨ov,capv,hvs,_,_⟩:=Aj hown.1;obtain⟨n,hn⟩: ∃ n,n=(plX p pre).length:=⟨_,rfl⟩;rw [←hn] at hvs;have HNL:=Qs (n=pre.length) (by rw [hn];simp [plX]);subst hvs;have HO2:=Qh hown;have HT2:=Qh htn;have H52:=Qh h5;have H62:=Qh h6;obtain⟨z,hz⟩: ∃ z,z=body.length+20:=⟨_,rfl⟩;have HZ:=Qh hz;have hsz2:W0.heap.size≤W2.heap.size:=η hsz HKW.out.size;have HA2:=Qh ((HT2.out.block w.heap.size (by have:=HSZ.out;omega) (by omega)).trans HG0.out);have HFI2:=Qh ((HT2.out.block (w.heap.size+1) (by have:=HSZ.out;omega) (by omega)).trans HG1.out);have HM2:=Qh ((HT2.out.block (w.heap.size+1+1) (by have:=HSZ.out;omega) (by omega)).trans HG2.out);have hlen:=HPX.out.length_le;have hfl:=frs_len c;rw [Jo] at hlen;simp only [ζ,τ,Φ,Jc,List.length_map] at hlen;have hnb:n≤67108863:=by have:=HNL.out;omega
  have HLEN:=Qs ((plX p pre).length+1≤1000000000) (by rw [←hn];omega)
  have HTX:Hid ((k≠1∨(s:Int) - pre.length≠first→takeRun first most 0 (frs c)=Jc pre)∧(¬ (k≠1∨(s:Int) - pre.length≠first)→pre.length+1=most→takeRun first most 0 (frs c)=Jc (pre++[(x0,⟨k,s,body⟩,.slice ob body.length bcap)]))∧
    (¬ (k≠1∨(s:Int) - pre.length≠first)→ ¬ pre.length+1=most→ ∀ rest,takeRun first most 0 (Jc (pre++[(x0,⟨k,s,body⟩,.slice ob body.length bcap)])++rest)=Jc (pre++[(x0,⟨k,s,body⟩,.slice ob body.length bcap)])++takeRun first most (pre.length+1) rest)):=Qh (by
   obtain⟨rest,hrest⟩:=HPX.out;rw [Jo] at hrest;refine⟨fun h=> ?_,fun h h2=> ?_,fun h h2 rest=> ?_⟩
   ·rw [←hrest,List.append_assoc,HTK.out,List.singleton_append,take_stop h,List.append_nil]
   ·rw [←hrest,List.append_assoc,HTK.out,List.singleton_append,take_full h h2,Jo]
   ·rw [Jo,List.append_assoc,HTK.out,List.singleton_append,take_go h h2,List.append_assoc,List.singleton_append])
  have hpz:x0+z≤c.length:=by
   have h1:=frs_mem (b:=c) (x:=(x0,⟨k,s,body⟩)) (HPX.out.mem (by rw [Jo];simp));simp only at h1;omega
  have HPZ:=Qh hpz;have hg8:W0.heap.size≤W.heap.size:=hsz;clear h5 h6 hown htn hk2 HKK HI HBV hz hn hlen hfl hpz;generalize W.heap.size=g8 at*;have c80:=HF.out.c0;have c81:=HF.out.c1;have cA:=cell_of_row W2 _ 0 _ _ _ HA2.out;have cF:=cell_of_row W2 _ 0 _ _ _ HFI2.out;have cV:=cell_of_row W2 _ 0 _ _ _ H52.out;simp only [List.getElem?_toArray,List.getElem?_cons_zero] at cA cF cV;have hws:IntKind.i64.wrap ((s:Int) - (n:Int))=(s:Int) - (n:Int):=by rw [ν];omega
  rcases hk:((k:Int) != 1) with _|_
  ·rcases hsf:((s:Int) - (n:Int) != (first:Int)) with _|_
   ·have hk1:k=1:=by simp at hk;omega
    have hcond: ¬ (k≠1∨(s:Int) - pre.length≠first):=by have:=HNL.out;subst this;rintro(h|h);exact h hk1;simp at hsf;exact h hsf
    have HTF:=Qh (HTX.out.2.1 hcond);have HTG:=Qh (HTX.out.2.2 hcond);obtain⟨q,hq⟩: ∃ q,q=p+x0:=⟨_,rfl⟩;have HQ:=Qh hq;have hwq:IntKind.i64.wrap ((p:Int)+(x0:Int))=(q:Int):=by have:=HPZ.out;have:=HCB.out;rw [ν];omega
    have hqz:q+z≤67108864:=by have:=HPZ.out;have:=HCB.out;omega
    have hwz:IntKind.i64.wrap ((q:Int)+(z:Int))=(q:Int)+(z:Int):=by rw [ν];omega
    clear hcond hk1 hq HTX;refine wpIn_block (wpIn_seq (wpIn_seq (Dl (by rfl) (D7 (D7 (Eo Ib))) ?_)));go_wp2_with fail;refine wpIn_cond_false rfl (wpIn_skip ?_);refine wpIn_seq (Dl (by rfl) (D7 (Eo Ib)) ?_);go_wp2_with (with_reducible refine wpList_load_fr rfl (.tmp 13) rfl g8 (k:Int) (s:Int) (.slice ob body.length bcap) rfl HF.out ?_);refine(placed_any q z k s body ob bcap W2 hbl HZ).mono ?_;rintro e W3 ⟨rfl,hb3⟩;have HF9:=Qh (σ W3 (.cells (Im ⟨q,z,⟨k,s,body⟩⟩ (.slice ob body.length bcap)) 103));have HB4:=Qh (Below.next hb3 (Aa W3 (.cells (Im ⟨q,z,⟨k,s,body⟩⟩ (.slice ob body.length bcap)) 103)));have hg9:W2.heap.size≤W3.heap.size:=hb3.size;simp only [Im] at HF9 HB4;clear hb3;go_wp2_with fail;generalize W3.alloc (.cells #[Vi Vk (q:Int),Vi Vk (z:Int),Vi Vk (k:Int),Vi Vk (s:Int),.slice ob body.length bcap] 103)=W4 at*;generalize W3.heap.size=g9 at*;have HPB:=Qs (Hm W4 g9 ⟨q,z,⟨k,s,body⟩⟩ (.slice ob body.length bcap)) HF9.out;have HO4:=Qh (HO2.out.below HB4.out);have HBV4:=Qh ((HBV2.out.below HB4.out).mono fun j hj=>(⟨hj.1,Nat.lt_of_lt_of_le hj.2.1 HB4.out.size,hj.2.2⟩:W0.heap.size≤j∧j<W4.heap.size∧(Value.slice ov n capv).ownBlock≠some j));have H54:=Qh ((HB4.out.block _ (δ.1 H52.out).1).trans H52.out);have H64:=Qh ((HB4.out.block _ (δ.1 H62.out).1).trans H62.out);have HM4:=Qh ((HB4.out.block _ (δ.1 HM2.out).1).trans HM2.out);have hsz4:W0.heap.size≤W4.heap.size:=η hsz2 HB4.out.size;have c5:=cell_of_row W4 _ 0 _ _ _ H54.out;simp only [List.getElem?_toArray,List.getElem?_cons_zero] at c5;have HLT:=Qh (fun j (e:(Value.slice ov n capv).ownBlock=some j)=>(HO2.out.1.lt j e).2);clear HF9;refine wpIn_seq (Dl (by rfl) (D7 (Eo Ib)) ?_);go_wp2_with (first|(with_reducible refine wpList_load_plc rfl (.tmp 14) rfl g9 ⟨q,z,⟨k,s,body⟩⟩ (.slice ob body.length bcap) rfl HPB.out ?_)|(refine wpList_appPl (p:=⟨q,z,⟨k,s,body⟩⟩) (dv:= .slice ob body.length bcap) rfl (.tmp 50) (.tmp 52) rfl rfl rfl HO4.out hsz4 HBV4.out HLEN.out ?_));intro v5 W5 ho5 hb5 ht5 h15;have HO5:=Qh ho5;have HT5:=Qh ht5;have H55:=Qh ((hb5.block (w.heap.size+1+1+1) (by have:=HSZ.out;omega)).trans H54.out);have H65:=Qh ((hb5.block (w.heap.size+1+1+1+1) (by have:=HSZ.out;omega)).trans H64.out);have HM5:=Qh ((hb5.block (w.heap.size+1+1) (by have:=HSZ.out;omega)).trans HM4.out);have HPB5:=Qs (Hm W5 g9 ⟨q,z,⟨k,s,body⟩⟩ (.slice ob body.length bcap)) ((ht5.block g9 HPB.out.lt (fun e=>by have:=HLT.out _ e;omega)).trans HPB.out);have c55:=cell_of_row W5 _ 0 _ _ _ H55.out;simp only [List.getElem?_toArray,List.getElem?_cons_zero] at c55;have f55:W5.frozen? ⟨w.heap.size+1+1+1,0,none⟩=false:=by have:=H55.out;simp [World.frozen?,this]
    clear ho5 hb5 ht5 HO4 HBV4 HPB H54 H64 c5;go_wp2_with (with_reducible refine Cc rfl 89 (.tmp 10) (.tmp 53) rfl (w.heap.size+1+1+1) 0 v5 (.slice ov n capv) (by kernel_rfl) h15 rfl rfl c55 f55 ?_);intro W6 hw6;have HT6:=Qh (show Ab (fun j=>j=w.heap.size+1+1+1) W5 W6 by rw [hw6.out];exact Ab.setCell (S:=fun j=>j=w.heap.size+1+1+1) _ ⟨w.heap.size+1+1+1,0,none⟩ _ rfl);have H56:=Qs (W6.heap[w.heap.size+1+1+1]? =some (.cells #[v5] 89 (0,0))) (by rw [hw6.out];exact row_setCell H55.out 0 v5);have H66:=Qh ((HT6.out.block _ (δ.1 H65.out).1 (by omega)).trans H65.out);have HM6:=Qh ((HT6.out.block _ (δ.1 HM5.out).1 (by omega)).trans HM5.out);have HPB6:=Qs (Hm W6 g9 ⟨q,z,⟨k,s,body⟩⟩ (.slice ob body.length bcap)) ((HT6.out.block g9 HPB5.out.lt (by have:=HSZ.out;omega)).trans HPB5.out);have HO6:=Qh (HO5.out.turned HT6.out (fun j hj=>by have:=HSZ.out;omega));clear hw6 c55 f55 HO5;have c6:=cell_of_row W6 _ 0 _ _ _ H66.out;simp only [List.getElem?_toArray,List.getElem?_cons_zero] at c6;have f6:W6.frozen? ⟨w.heap.size+1+1+1+1,0,none⟩=false:=by have:=H66.out;simp [World.frozen?,this]
    have c90:W6.cell? ⟨g9,0,none⟩=some (Vi Vk (q:Int)):=HPB6.out.cell 0;have c91:W6.cell? ⟨g9,1,none⟩=some (Vi Vk (z:Int)):=HPB6.out.cell 1;refine wpIn_seq (Dl (by rfl) (D7 (Eo Ib)) ?_);go_wp2_with fail;have HT7:=Qh (Ab.setCell (S:=fun j=>j=w.heap.size+1+1+1+1) W6 ⟨w.heap.size+1+1+1+1,0,none⟩ (Vi Vk ((q:Int)+(z:Int))) rfl);have H57:=Qh ((HT7.out.block _ (δ.1 H56.out).1 (by omega)).trans H56.out);have HM7:=Qh ((HT7.out.block _ (δ.1 HM6.out).1 (by omega)).trans HM6.out);have H67:=Qh (row_setCell H66.out 0 (Vi Vk ((q:Int)+(z:Int))));have HO7:=Qh (HO6.out.turned HT7.out (fun j hj=>by have:=HSZ.out;omega));generalize W6.setCell ⟨w.heap.size+1+1+1+1,0,none⟩ (Vi Vk ((q:Int)+(z:Int)))=W7 at*
    have HTT:=Qh (show Ab (fun j=>j=w.heap.size+1+1+1∨j=w.heap.size+1+1+1+1∨(Value.slice ov n capv).ownBlock=some j) W2 W7 from
     (((Ab.below HB4.out).trans HT5.out (fun i hi=> .inl (.inr (.inr hi)))).trans HT6.out (fun i hi=> .inl (.inl hi))).trans HT7.out (fun i hi=> .inl (.inr (.inl hi))))
    have HKF:=Qh (Ia (B:=W0.heap.size) HTT.out fun j o hj hs ho=>by
     rcases hs with h|h|h
     ·have:=HSZ.out;omega
     ·have:=HSZ.out;omega
     ·rcases HO2.out.1.2 with⟨e,_⟩|⟨g,gcap,cur,e,_,hg,_⟩
      ·rw [e] at h;cases h
      ·rw [e] at h;have e:g=j:=φ h;subst e;rw [hg] at ho;cases ho;rfl)
    have HSC:=Qh (show ScI W0.heap.size (w.heap.size+1+1+1) (w.heap.size+1+1+1+1) p c W0 (pre++[(x0,⟨k,s,body⟩,.slice ob body.length bcap)]) W7 from
     ⟨v5,H57.out,by
      have e:(q:Int)+(z:Int)=((p+(x0+body.length+20):Nat):Int):=by have:=HZ.out;have:=HQ.out;omega
      rw [H67.out,Jo,lastEnd_snoc,e];rfl,by rw [plX_snoc,←HQ.out,←HZ.out];exact HO7.out,HPX.out,HT2.out.trans HTT.out fun j hj=>by
      rcases hj with h|h|h
      ·exact .inl (.inl h)
      ·exact .inl (.inr h)
      ·exact .inr (HO2.out.1.lt j h).1⟩)
    have HKP:=Qh (show ScK W0.heap.size (w.heap.size+1+1+1) (w.heap.size+1+1+1+1) W2 W7 from HTT.out.mono fun j hj=>by
     rcases hj with h|h|h
     ·exact .inl h
     ·exact .inr (.inl h)
     ·exact .inr (.inr (HO2.out.1.lt j h).1))
    obtain⟨o5,cap5,hs5,_,_⟩:=Aj HO7.out.1;have HN5:=Qs ((plX p pre++[((⟨q,z,⟨k,s,body⟩⟩:I3),Value.slice ob body.length bcap)]).length=n+1) (by have:=HNL.out;simp [plX,this]);rw [HN5.out] at hs5;have d5:=cell_of_row W7 _ 0 _ _ _ H57.out;have dM:=cell_of_row W7 _ 0 _ _ _ HM7.out;simp only [List.getElem?_toArray,List.getElem?_cons_zero,hs5] at d5 dM;clear c6 f6 c90 c91 HT5 HT6 HT7 H56 H66 H57 H67 HO6 HO7 HPB5 HPB6 HM6 HM7 hs5;rcases hnm:(((n:Int)+1)==(most:Int)) with _|_
    ·have HNM:=Qs (¬ pre.length+1=most) (by have:=HNL.out;subst this;simp at hnm;omega);refine wpIn_seq (Dl (by rfl) (D7 (Eo Ib)) ?_);go_wp2_with fail
     gi_wp2
     exact⟨HKF.out,HKP.out,HSC.out,fun rest=>by rw [HTG.out HNM.out rest];simp,by have:=HPM.out;have:=HNM.out;simp;omega⟩
    ·have HNM:=Qs (pre.length+1=most) (by have:=HNL.out;subst this;simp at hnm;omega);refine wpIn_seq (Dl (by rfl) (D7 (Eo Ib)) ?_);go_wp2_with fail
     gi_wp2
     exact⟨HKF.out,rfl,_,HSC.out,HTF.out HNM.out⟩
   ·refine wpIn_block (wpIn_seq (wpIn_seq (Dl (by rfl) (D7 (D7 (Eo Ib))) ?_)));go_wp2_with fail
    gi_wp2
    exact⟨KeepsFrom.refl _ _,rfl,pre,⟨_,H52.out,H62.out,HO2.out,HPR.out,HT2.out⟩,HTX.out.1 (.inr (by have:=HNL.out;subst this;simpa using hsf))⟩
  ·refine wpIn_block (wpIn_seq (wpIn_seq (Dl (by rfl) (D7 (D7 (Eo Ib))) ?_)));go_wp2_with fail
   gi_wp2
   exact⟨KeepsFrom.refl _ _,rfl,pre,⟨_,H52.out,H62.out,HO2.out,HPR.out,HT2.out⟩,HTX.out.1 (.inl (by simp at hk;omega))⟩
 case hdone=>
  rintro D xs W hD hxs ⟨⟨v,h5,h6,hown,_,htn⟩,htk,_⟩ hdf;have hty:takeRun first most 0 (frs c)=Jc xs:=by
   have h:=htk [];rw [List.append_nil,hxs] at h;rw [h,hxs,takeRun,List.append_nil]
  clear htk hxs;have HFST:=Qh (plX_fst p xs);have HSE:=Qs (Bt b p first most=(Jt p (Jc xs),p+Cd 0 (Jc xs))) (by rw [HSR.out,hty]);obtain⟨n,hn⟩: ∃ n,n=p+Cd 0 (Jc xs):=⟨_,rfl⟩;rw [←hn] at h6 HSE;have HBW:=Qh (Ba HB0.out htn (fun j hj=>by omega) HB0.out.size);have HO:=Qh hown;have HDF:=Qh hdf;have c5:=cell_of_row W _ 0 _ _ _ h5;have c6:=cell_of_row W _ 0 _ _ _ h6;have hDlt:w.heap.size≤D:=by have:=HSZ.out;omega
  have HSZW:=Qs (w.heap.size≤W0.heap.size) (by have:=HSZ.out;omega);simp only [List.getElem?_toArray,List.getElem?_cons_zero] at c5 c6;clear hn h5 h6 hown htn hdf hty HSZ HB0 HG0 HG1 HG2 HG3 HG4 HG5 HW0 hs;go_wp2_with fail
  go_quiet (fail)
  go_wp2;have HBF:=Qh (Ac W nq);have hdf:=(HBF.out.block D (δ.1 HDF.out).1).trans HDF.out;have HKF:=Qh (Fr.putObj (B:=W0.heap.size) (.deferred none) hD hdf rfl);refine⟨by simp,.inl ⟨_,_,rfl,run_takeDeferred hdf,?_⟩⟩;refine⟨.tuple #[v,Vi Vk (n:Int)],by simp [results,results36,go_sem],v,by rw [HSE.out],?_,HKF.out.after (HBW.out.trans (HBF.out.mono HBW.out.size)) HSZW.out⟩;rw [HSE.out];have h:=((HO.out.below HBF.out).kept HKF.out).pcIn (A:=fun k=>w.heap.size≤k) (fun k hk=>η HSZW.out hk);rw [HFST.out] at h;exact h
 case hstop=>
  rintro D _ pre W hD _ ⟨rfl,ys,⟨v,h5,h6,hown,_,htn⟩,hty⟩ hdf;have HFST:=Qh (plX_fst p ys);have HSE:=Qs (Bt b p first most=(Jt p (Jc ys),p+Cd 0 (Jc ys))) (by rw [HSR.out,hty]);obtain⟨n,hn⟩: ∃ n,n=p+Cd 0 (Jc ys):=⟨_,rfl⟩;rw [←hn] at h6 HSE;have HBW:=Qh (Ba HB0.out htn (fun j hj=>by omega) HB0.out.size);have HO:=Qh hown;have HDF:=Qh hdf;have c5:=cell_of_row W _ 0 _ _ _ h5;have c6:=cell_of_row W _ 0 _ _ _ h6;have hDlt:w.heap.size≤D:=by have:=HSZ.out;omega
  have HSZW:=Qs (w.heap.size≤W0.heap.size) (by have:=HSZ.out;omega);simp only [List.getElem?_toArray,List.getElem?_cons_zero] at c5 c6;clear hn h5 h6 hown htn hdf hty HSZ HB0 HG0 HG1 HG2 HG3 HG4 HG5 HW0 hs;go_wp2_with fail
  go_quiet (fail)
  go_wp2;have HBF:=Qh (Ac W nq);have hdf:=(HBF.out.block D (δ.1 HDF.out).1).trans HDF.out;have HKF:=Qh (Fr.putObj (B:=W0.heap.size) (.deferred none) hD hdf rfl);refine⟨by simp,.inl ⟨_,_,rfl,run_takeDeferred hdf,?_⟩⟩;refine⟨.tuple #[v,Vi Vk (n:Int)],by simp [results,results36,go_sem],v,by rw [HSE.out],?_,HKF.out.after (HBW.out.trans (HBF.out.mono HBW.out.size)) HSZW.out⟩;rw [HSE.out];have h:=((HO.out.below HBF.out).kept HKF.out).pcIn (A:=fun k=>w.heap.size≤k) (fun k hk=>η HSZW.out hk);rw [HFST.out] at h;exact h
def D4 (b:List UInt8) (g:Sg):Nat×Bool:=((B5 b).2.2.1,decide ((B5 b).2.2.2=0)&&decide (((B5 b).1:Int)=g.num)&&decide (((B5 b).2.1:Int)=g.first))
theorem fs_nib (h:Bv w f m d L) (hn:Bh w): ¬ 1=f:=by
 intro e;have h1:=h.hd.c0;rw [←e] at h1;have h2:=hn.at 0 (by decide);rw [h1] at h2;cases h2
theorem begins_any (l:List UInt8) (v:Value) (g:Sg) (w:World) (hv:B7 w v l) (hl:l.length≤140737488355328) (hn:Bh w):
  Calls prog 132 #[v,sgV g] w fun e w'=>e= .returned (.tuple #[Vi Vk ((D4 l g).1:Int),.bool (D4 l g).2])∧Below w.heap.size w w':=by
 have HB0:=Qh (Aa w (.cells (B4 g) 72));have HG0:=Qs ((w.alloc (.cells (B4 g) 72)).heap[w.heap.size]? =some (.cells (B4 g) 72 (0,0))) (σ w _);have HHO:=Qh (hdrOf_any l v _ (hv.below HB0.out) hl (hn.below HB0.out));have HE:=Qs (D4 l g=((B5 l).2.2.1,decide ((B5 l).2.2.2=0)&&decide (((B5 l).1:Int)=g.num)&&decide (((B5 l).2.1:Int)=g.first))) rfl;obtain⟨oa,cap,rfl,_,_⟩:=hv;obtain⟨r,hr⟩: ∃ r,r=B5 l:=⟨_,rfl⟩;rw [←hr] at HHO HE;clear hr hn;obtain⟨num,first,n,e0⟩:=r;unfold HdrPost at HHO;simp only [B4] at HB0 HG0 HHO;go_enter func132,ntmps132;go_wp2_with fail;refine HHO.out.mono ?_;rintro e w1 ⟨rfl,hb1⟩;have HB1:=Qh (Below.next HB0.out hb1);have HG1:=Qh ((hb1.block _ (δ.1 HG0.out).1).trans HG0.out);have g0:=cell_of_row w1 _ 0 _ _ _ HG1.out;have g1:=cell_of_row w1 _ 1 _ _ _ HG1.out;simp only [List.getElem?_toArray,List.getElem?_cons_zero,List.getElem?_cons_succ] at g0 g1;clear hb1 HB0 HG0 HHO;rcases h1:(e0==0) with _|_
 ·have HE2:=Qh (show D4 l g=(n,false) by rw [HE.out];have: ¬ e0=0:=by simpa using h1
                                         simp [this])
  go_wp2_with fail
  go_quiet (fail)
  go_wp2;refine π (v:= .tuple #[Vi Vk (n:Int),.bool false]) (by simp [results,results132,go_sem]) rfl ⟨by rw [HE2.out],Below.next HB1.out (Ac _ _)⟩
 ·have h1':e0=0:=by simpa using h1
  rcases h2:((num:Int)==g.num) with _|_
  ·have HE2:=Qh (show D4 l g=(n,false) by rw [HE.out];have: ¬ (num:Int)=g.num:=by simpa using h2
                                          simp [this])
   clear h1';go_wp2_with fail
   go_quiet (fail)
   go_wp2;refine π (v:= .tuple #[Vi Vk (n:Int),.bool false]) (by simp [results,results132,go_sem]) rfl ⟨by rw [HE2.out],Below.next HB1.out (Ac _ _)⟩
  ·have h2':(num:Int)=g.num:=by simpa using h2
   rcases h3:((first:Int)==g.first) with _|_
   ·have HE2:=Qh (show D4 l g=(n,false) by rw [HE.out];have: ¬ (first:Int)=g.first:=by simpa using h3
                                           simp [this])
    clear h1' h2';go_wp2_with fail
    go_quiet (fail)
    go_wp2;refine π (v:= .tuple #[Vi Vk (n:Int),.bool false]) (by simp [results,results132,go_sem]) rfl ⟨by rw [HE2.out],Below.next HB1.out (Ac _ _)⟩
   ·have HE2:=Qh (show D4 l g=(n,true) by rw [HE.out];have h3':(first:Int)=g.first:=by simpa using h3
                                          simp [h1',h2',h3'])
    clear h1' h2';go_wp2_with fail
    go_quiet (fail)
    go_wp2;refine π (v:= .tuple #[Vi Vk (n:Int),.bool true]) (by simp [results,results132,go_sem]) rfl ⟨by rw [HE2.out],Below.next HB1.out (Ac _ _)⟩
theorem rdD_rdD (d:Af) (a b:Nat):Df (Df d a) b=Df d (a+b):=by
 unfold Df;have:IntKind.i64.wrap (IntKind.i64.wrap (d.reads+(a:Int))+(b:Int))=IntKind.i64.wrap (d.reads+((a+b:Nat):Int)):=by
  rw [ν,ν,ν];omega
 simp only [this]
theorem Lc (h:A0 d):Df d 0=d:=by
 have hr:=h.reads;have:IntKind.i64.wrap (d.reads+((0:Nat):Int))=d.reads:=by rw [ν];omega
 unfold Df;rw [this]
def Kk (d:Af) (n:List UInt8):Option Bl:=if Av d n=0 then Bf d.files n else none
theorem filD_some (h:Av d n=0): ∃ x,Bf d.files n=some x∧Kk d n=some x:=by
 obtain⟨_,_,x,hx⟩:=Kq h;exact⟨x,hx,by unfold Kk;rw [κ h,hx]⟩
theorem filD_none (h: ¬ Av d n=0):Kk d n=none:=by unfold Kk;rw [γ h]
theorem hdrOf_fine (h:(B5 b).2.2.2=0):20≤(B5 b).2.2.1∧(B5 b).2.2.1≤b.length∧(B5 b).2.1≤1099511627777:=by
 unfold B5 at h ⊢;split at h
 ·exact absurd h (by decide)
 ·rename_i hc;rw [γ hc];have hd:=Jn (b:=b) (by
   rcases Decidable.em ((Cg b).2.2=0) with h|h
   ·exact h
   ·exact absurd (.inl h) hc)
  split at h
  ·exact absurd h (by decide)
  ·unfold hdrIn at h ⊢;split at h
   ·rename_i a c _;split at h
    ·exact absurd h (by decide)
    ·rename_i hcc;rw [γ hcc];have hb:rightB (a:Int) (c:Int)=true:=by
      rcases hx:rightB (a:Int) (c:Int)
      ·exact absurd (.inr (.inr hx)) hcc
      ·rfl
     unfold rightB at hb;simp only [Bool.and_eq_true,decide_eq_true_eq] at hb;simp only;omega
   ·exact absurd h (by decide)
def Bn (d:Af) (g:Sg):(Nat×Nat×Bool)×Nat:=
 match Kk d (Ad g.num) with
 |none=>((0,0,false),0)
 |some x=>if (D4 x.data g).2=false then ((0,0,false),x.data.length)
  else (((Bt x.data (D4 x.data g).1 (B5 x.data).2.1 512).2,(Bt x.data (D4 x.data g).1 (B5 x.data).2.1 512).1.length,true),x.data.length)
theorem sizeE (h: ¬ Av d n=0):Bi d (Ek n)=(d,[],0,Av d n):=by rw [Mw,κ h]
theorem sizeO (h:Av d n=0) (hx:Bf d.files n=some x):Bi d (Ek n)=(d,[],(x.data.length:Int),0):=by rw [Mw,γ (fun k=>k h),hx]
theorem fil_len (h:Bv w f m d L)  (hx:Bf d.files n=some x):x.data.length≤67108864:=by
 have h1:=Fg (B8 hx).2;have h2:=h.ok.used;have h3:=h.ok.room;omega
theorem active_any (w:World) (f m:Nat) (d:Af) (L:List Aq) (h:Bv w f m d L) (hn:Bh w) (g:Sg):
  Calls prog 89 #[.pointer (some ⟨f,0,none⟩),sgV g] w fun e w'=>e= .returned (.tuple #[Vi Vk ((Bn d g).1.1:Int),Vi Vk ((Bn d g).1.2.1:Int),.bool (Bn d g).1.2.2])∧Bv w' f m (Df d (Bn d g).2) L∧Ab (fun i=>i=f) w w':=by
 have HB0:=Qh (Aa w (.cells (B4 g) 72));have HG0:=Qs (Ft (w.alloc (.cells (B4 g) 72)) w.heap.size g) (σ w _);have HF0:=Qh (h.below HB0.out);have HN0:=Qh (hn.below HB0.out)
 have HA:=Qh (show Bn d g=match Kk d (Ad g.num) with
  |none=>((0,0,false),0)
  |some x=>if (D4 x.data g).2=false then ((0,0,false),x.data.length)
   else (((Bt x.data (D4 x.data g).1 (B5 x.data).2.1 512).2,(Bt x.data (D4 x.data g).1 (B5 x.data).2.1 512).1.length,true),x.data.length) from rfl)
 have hfl:=h.hd.lt;have g0:=HG0.out.c0;have HSZ0:=Qs ((w.alloc (.cells (B4 g) 72)).heap.size=w.heap.size+1) (by simp);simp only [B4] at HB0 HG0 HF0 HN0 g0 HSZ0;obtain⟨nm,hnm⟩: ∃ nm,nm=Ad g.num:=⟨_,rfl⟩;have HSN:=Qh (fun W=>Jm g.num W);rw [←hnm] at HSN HA;clear h hn hnm;go_enter func89,ntmps89;go_wp2_with fail;refine(HSN.out _).mono ?_;rintro e w1 ⟨rfl,hb1⟩;have HB1:=Qh (Below.next HB0.out hb1);have HF1:=Qh (HF0.out.below hb1);have HN1:=Qh (HN0.out.below hb1);have HG1:=Qh ((hb1.block _ (δ.1 HG0.out).1).trans HG0.out);have HS1:=Qs (w.heap.size+1≤w1.heap.size) (by have:=hb1.size;rw [HSZ0.out] at this;exact this);have HSI:=Qh (Ol w1 f m d L HF1.out nm);clear hb1 HB0 HF0 HN0 HG0 HSN g0 HSZ0;by_cases he:Av d nm=0
 ·obtain⟨x,hx,hfx⟩:=filD_some he;rw [sizeO he hx] at HSI;have HLX:=Qh (fil_len HF1.out hx);have HRD:=Qh (show Calls prog 32 #[.pointer (some ⟨f,0,none⟩),.string ⟨nm.toArray⟩,Vi Vk 0,Vi Vk (x.data.length:Int)] w1 fun e w'=> ∃ v,e= .returned (.tuple #[v,Vi Vk 0])∧Cw w' w1.heap.size v x.data∧Bv w' f m (Df d x.data.length) L∧Ab (fun i=>i=f) w1 w' by
   have:=Ld w1 f m d L HF1.out nm x he hx 0 x.data.length (by omega);rw [List.drop_zero,List.take_length] at this;exact this)
  have HA2:=Qh (show Bn d g=if (D4 x.data g).2=false then ((0,0,false),x.data.length)
   else (((Bt x.data (D4 x.data g).1 (B5 x.data).2.1 512).2,(Bt x.data (D4 x.data g).1 (B5 x.data).2.1 512).1.length,true),x.data.length) by rw [HA.out,hfx])
  clear HA he hx hfx;go_wp2_with fail;refine HSI.out.mono ?_;rintro e w1' ⟨rfl,rfl⟩;go_wp2_with fail;refine HRD.out.mono ?_;rintro e w2 ⟨v2,rfl,ho2,hf2,ht2⟩;have HNE:=fs_nib HF1.out HN1.out;have HN2:=Qh (HN1.out.turned ht2 HNE HN1.out.lt);have HT2:=Qh (show Ab (fun i=>i=f) w w2 from(Ab.below HB1.out).trans ht2 fun i hi=> .inl hi);have HG2:=Qs (Ft w2 w.heap.size g) ((ht2.block _ (by have:=HS1.out;omega) (by omega)).trans HG1.out);have HF2:=Qh hf2;have HO2:=Qh ho2;have HBG:=Qh (begins_any x.data v2 g w2 ho2.brow (by have:=HLX.out;omega) HN2.out);obtain⟨o2,cap2,hsh,_,_⟩:=Aj ho2;subst hsh;clear hf2 ho2 ht2 HRD HSI HF1 HG1 HN1;go_wp2_with (with_reducible refine Bc rfl (.tmp 3) rfl w.heap.size 0 g rfl HG2.out.range ?_);refine HBG.out.mono ?_;rintro e w3 ⟨rfl,hb3⟩;have HF3:=Qh (HF2.out.below hb3);have HO3:=Qh (HO2.out.later hb3);have HN3:=Qh (HN2.out.below hb3);have HT3:=Qh (show Ab (fun i=>i=f) w w3 from HT2.out.trans (Ab.below hb3) fun i hi=> .inl hi);have HG3:=Qs (Ft w3 w.heap.size g) ((hb3.block _ (δ.1 HG2.out).1).trans HG2.out);clear hb3 HBG HF2 HO2 HN2 HT2 HG2;rcases hbg:(D4 x.data g).2 with _|_
  ·have HE:=Qs (Bn d g=((0,0,false),x.data.length)) (by rw [HA2.out,κ hbg]);go_wp2;refine π (v:= .tuple #[Vi Vk 0,Vi Vk 0,.bool false]) (by simp [results,results89,go_sem]) rfl ⟨by rw [HE.out];rfl,by rw [HE.out];exact HF3.out,HT3.out⟩
  ·have hh:(B5 x.data).2.2.2=0∧(((B5 x.data).2.1:Nat):Int)=g.first:=by
    unfold D4 at hbg;simp only [Bool.and_eq_true,decide_eq_true_eq] at hbg;exact⟨hbg.1.1,hbg.2⟩
   have hfine:=hdrOf_fine hh.1;have HE:=Qs (Bn d g=(((Bt x.data (D4 x.data g).1 (B5 x.data).2.1 512).2,(Bt x.data (D4 x.data g).1 (B5 x.data).2.1 512).1.length,true),x.data.length)) (by rw [HA2.out,γ (by rw [hbg];decide)]);have HRU:=Qh (Nv x.data _ (D4 x.data g).1 (B5 x.data).2.1 512 w3 HO3.out.brow HLX.out HN3.out hfine.2.1 (by decide) (by decide));rw [hh.2] at HRU;obtain⟨r,hr⟩: ∃ r,r=Bt x.data (D4 x.data g).1 (B5 x.data).2.1 512:=⟨_,rfl⟩;rw [←hr] at HRU HE;obtain⟨n0,hn0⟩: ∃ n0,n0=(D4 x.data g).1:=⟨_,rfl⟩;rw [←hn0] at HRU;rw [←hn0];have c1:=HG3.out.c1;clear hr hn0 hh hfine hbg;obtain⟨ps,en⟩:=r;unfold RunP at HRU;go_wp2_with fail;refine HRU.out.mono ?_;rintro e w4 ⟨v4,rfl,hp4,hb4⟩;obtain⟨o4,cap4,hs4,_,_,_⟩:=hp4.shape;subst hs4;have HF4:=Qh (HF3.out.below hb4);have HT4:=Qh (show Ab (fun i=>i=f) w w4 from HT3.out.trans (Ab.below hb4) fun i hi=> .inl hi);clear hb4 hp4 HRU;go_wp2;refine π (v:= .tuple #[Vi Vk (en:Int),Vi Vk (ps.length:Int),.bool true]) (by simp [results,results89,go_sem]) rfl ⟨by rw [HE.out],by rw [HE.out];exact HF4.out,HT4.out⟩
 ·rw [sizeE he] at HSI;have HE:=Qs (Bn d g=((0,0,false),0)) (by rw [HA.out,filD_none he]);have t1:(Av d nm != 0)=true:=by simpa using he
  generalize Av d nm=e0 at*;clear he HA;go_wp2_with fail;refine HSI.out.mono ?_;rintro e w1' ⟨rfl,rfl⟩;go_wp2;refine π (v:= .tuple #[Vi Vk 0,Vi Vk 0,.bool false]) (by simp [results,results89,go_sem]) rfl ⟨by rw [HE.out];rfl,by rw [HE.out,Lc HF1.out.ok];exact HF1.out,Ab.below HB1.out⟩
end Go.Proofs.YtgkdenejkcngnaaGreatDoor
