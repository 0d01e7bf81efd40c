import Derived.ProofKit
import Derived.OpenShut
import Derived.ShutString
import Derived.SizedLaws
import Derived.LaidLaws
import Derived.Lay
import Derived.LaidMore
import Derived.Stop.LaidErr
import Derived.Test.YtlobohpbgghleaaGreatDoorPt2
namespace Go.Proofs.YtlobohpbgghleaaGreatDoor
open Go.RowKit Go.ChangeShapes Go.WideShapes
def Opens (P:Program) (t:TypeId) (n:Nat) {α:Type} (R:World→List Value→α→Prop):Prop:=
 ∀ {H:Type} (enc:TypeId×Value→H) (W:World) (fuel:Nat) (cs:List Value) (x:DataW H×List MemPlace),
  DataW.trod enc P W 0 (fun _=>true) true fuel t cs=some x→(x.1.weights P t).all (· ≤reachBytes)=true→cs.length=n∧ ∃ a,R W cs a
def RInt (k:IntKind) (_:World) (cs:List Value) (a:Int):Prop:=cs=[.int k a]∧(Lit.int k a).wf=true
def RStr (_:World) (cs:List Value) (l:List UInt8):Prop:=cs=[.string ⟨l.toArray⟩]∧l.length≤reachBytes
def Row {α:Type} (n bytes:Nat) (R:World→List Value→α→Prop) (w:World) (v:Value) (xs:List α):Prop:=
 ∃ oa cap,v= .slice oa xs.length cap∧xs.length≤cap∧cap≤maxLen∧cap*bytes≤reachBytes∧
  (xs≠ []→ ∃ b off,oa=some ⟨b,off,none⟩∧ ∀ (i:Nat) x,xs[i]? =some x→ ∃ cs,cs.length=n∧(∀ (j:Nat) u,cs[j]? =some u→w.cell? ⟨b,off+i*n+j,none⟩=some u)∧R w cs x)
def RRow {α:Type} (n bytes:Nat) (R:World→List Value→α→Prop) (w:World) (cs:List Value) (xs:List α):Prop:= ∃ v,cs=[v]∧Row n bytes R w v xs
theorem opens_int {P:Program} {t:TypeId} {k:IntKind} (h:P.underlying t=some (.int k)):Opens P t 1 (RInt k):=by
 intro H enc W fuel cs x hx _
 obtain⟨n,rfl,rfl,hw⟩:=DataW.trod_int h hx
 exact⟨rfl,n,rfl,hw⟩
theorem opens_str {P:Program} {t:TypeId} (h:P.underlying t=some .string):Opens P t 1 RStr:=by
 intro H enc W fuel cs x hx hz
 obtain⟨s,rfl,rfl,_⟩:=DataW.trod_string h hx
 refine⟨rfl,s.data.toList,by simp,?_⟩
 simpa [DataW.weights] using hz
theorem cells?_spec {W:World} {base:Nat} {a:Addr} {n:Nat} {cs:List Value} (h:W.cells? base a n=some cs):cs.length=n∧ ∀ (j:Nat) u,cs[j]? =some u→W.cell? (a.add j)=some u:=by
 obtain⟨_,hl,hc⟩:=World.cells?_some h
 refine⟨hl,fun j u hj=> ?_⟩
 rw [←hj]
 exact hc j (by have:=getElem?_lt hj;omega)
theorem weightsAll_mem {H:Type} {P:Program} {e:TypeId}: ∀ {ds:List (DataW H)} {d:DataW H},d∈ds→ ∀ n∈d.weights P e,n∈DataW.weightsAll P e ds
 | d0::ds,d,hm,n,hn=>by
  simp only [DataW.weightsAll,List.mem_append]
  rcases List.mem_cons.1 hm with rfl | hm
  ·exact .inl hn
  ·exact .inr (weightsAll_mem hm n hn)
theorem opens_slice {P:Program} {t e:TypeId} {n bytes:Nat} {α:Type} {R:World→List Value→α→Prop} (ht:P.underlying t=some (.slice e)) (hc:P.cellsOf e=n) (hb:P.bytesOf e=bytes) (hn:0<n)
  (he:Opens P e n R):Opens P t 1 (RRow n bytes R):=by
 intro H enc W fuel cs x hx hz
 rcases DataW.trod_slice ht hx with⟨rfl,rfl⟩ | ⟨a,len,cap,elems,rest,m,_,rfl,rfl,_,hl,hm,hel,hat,hsp,_⟩
 ·exact⟨rfl,[],_,rfl,none,0,rfl,Nat.le_refl _,by decide,by simp,fun h=>absurd rfl h⟩
 ·obtain⟨hrest,_⟩:=hsp rfl
  simp only [DataW.weights,ht,List.all_cons,List.all_append,Bool.and_eq_true,decide_eq_true_eq,List.length_map] at hz
  obtain⟨hz0,hz1,_⟩:=hz
  have key: ∀ i,i<len→ ∃ (a':α) (cs':List Value),cs'.length=n∧(∀ (j:Nat) u,cs'[j]? =some u→W.cell? ((a.add (i*n)).add j)=some u)∧R W cs' a':=by
   intro i hi
   have h1:=hat i hi
   rw [hc] at h1
   have hlt:i<elems.length:=by omega
   rw [List.getElem?_eq_getElem hlt] at h1
   obtain⟨cs',hcs',hx'⟩:=Option.bind_eq_some_iff.1 h1
   obtain⟨_,hs2⟩:=cells?_spec hcs'
   obtain⟨h3,a',h4⟩:=he enc W m cs' elems[i] hx' (by
    rw [List.all_eq_true]
    intro k hk
    exact List.all_eq_true.1 hz1 k (weightsAll_mem (List.mem_map.2 ⟨elems[i],List.getElem_mem hlt,rfl⟩) k hk))
   exact⟨a',cs',h3,hs2,h4⟩
  obtain⟨xs,hxl,hxs⟩: ∃ xs:List α,xs.length=len∧ ∀ (i:Nat) x,xs[i]? =some x→ ∃ cs':List Value,cs'.length=n∧(∀ (j:Nat) u,cs'[j]? =some u→W.cell? ((a.add (i*n)).add j)=some u)∧R W cs' x:=by
   have: ∀ k,k≤len→ ∃ xs:List α,xs.length=k∧ ∀ (i:Nat) x,xs[i]? =some x→ ∃ cs':List Value,cs'.length=n∧(∀ (j:Nat) u,cs'[j]? =some u→W.cell? ((a.add (i*n)).add j)=some u)∧R W cs' x:=by
    intro k
    induction k with
    | zero=>intro _;exact⟨[],rfl,by simp⟩
    | succ k ih=>
     intro hk
     obtain⟨xs,h1,h2⟩:=ih (by omega)
     obtain⟨x,cs',h3⟩:=key k (by omega)
     refine⟨xs++[x],by simp [h1],fun i y hy=> ?_⟩
     by_cases hi:i<xs.length
     ·rw [List.getElem?_append_left hi] at hy;exact h2 i y hy
     ·have hik:i=k:=by have:=getElem?_lt hy;simp at this;omega
      subst hik
      rw [List.getElem?_append_right (by omega),h1] at hy
      simp at hy
      subst hy
      exact⟨cs',h3⟩
   exact this len (Nat.le_refl _)
  refine⟨rfl,xs,_,rfl,some a,cap,by rw [hxl],by omega,hm,by rw [←hb];rw [hel,hrest,show len+(cap - len)=cap by omega] at hz0;exact hz0,fun hne=> ?_⟩
  obtain⟨b,off,spot⟩:=a
  have hpos:0<xs.length:=List.length_pos_iff.2 hne
  have hspot:spot=none:=by
   obtain⟨cs',h1,h2,_⟩:=hxs 0 _ (List.getElem?_eq_getElem hpos)
   have h3:=h2 0 _ (List.getElem?_eq_getElem (show 0<cs'.length by omega))
   have:=World.cell?_spot h3
   simpa [Addr.add] using this
  subst hspot
  refine⟨b,off,rfl,fun i x hi=> ?_⟩
  obtain⟨cs',h1,h2,h3⟩:=hxs i x hi
  refine⟨cs',h1,fun j u hj=> ?_,h3⟩
  have:=h2 j u hj
  rwa [addr_add,addr_add] at this
def OpensAll (P:Program) (off:Nat) (fs:List Field) {α:Type} (R:World→List Value→α→Prop):Prop:=
 ∀ {H:Type} (enc:TypeId×Value→H) (W:World) (fuel:Nat) (cs:List Value) (xs:List (DataW H×List MemPlace)),
  (∀ (i:Nat) (f:Field),fs[i]? =some f→DataW.trod enc P W 0 (fun _=>true) true fuel f.type ((cs.drop f.offset).take (P.cellsOf f.type))=xs[i]?)→xs.length=fs.length→
  (DataW.weightsEach P (fs.map (·.type)) (xs.map (·.1))).all (· ≤reachBytes)=true→ ∃ a,R W (cs.drop off) a
def RNil (_:World) (_:List Value) (_:Unit):Prop:=True
def RCons {α β:Type} (n:Nat) (R:World→List Value→α→Prop) (S:World→List Value→β→Prop) (w:World) (cs:List Value) (x:α×β):Prop:=R w (cs.take n) x.1∧S w (cs.drop n) x.2
theorem opens_nil {P:Program} {off:Nat}:OpensAll P off [] RNil:=fun _ _ _ _ _ _ _ _=>⟨(),trivial⟩
theorem opens_cons {P:Program} {off n:Nat} {f:Field} {fs:List Field} {α β:Type} {R:World→List Value→α→Prop} {S:World→List Value→β→Prop} (ho:f.offset=off) (hn:P.cellsOf f.type=n)
  (h:Opens P f.type n R) (hs:OpensAll P (off+n) fs S):OpensAll P off (f::fs) (RCons n R S):=by
 intro H enc W fuel cs xs hx hl hz
 cases xs with
 | nil=>simp at hl
 | cons x xs=>
  simp only [List.map_cons,DataW.weightsEach,List.all_append,Bool.and_eq_true] at hz
  have h0:=hx 0 f rfl
  rw [ho,hn] at h0
  obtain⟨_,a,ha⟩:=h enc W fuel _ x (by simpa using h0) hz.1
  obtain⟨b,hb⟩:=hs enc W fuel cs xs (fun i g hg=>by simpa using hx (i+1) g (by simpa using hg)) (by simpa using hl) hz.2
  exact⟨(a,b),ha,by rw [List.drop_drop];exact hb⟩
theorem opens_struct {P:Program} {t:TypeId} {n:Nat} {fs:Array Field} {α:Type} {R:World→List Value→α→Prop} (ht:P.underlying t=some (.struct fs)) (hc:P.cellsOf t=n) (h:OpensAll P 0 fs.toList R):
  Opens P t n R:=by
 intro H enc W fuel cs x hx hz
 obtain⟨xs,m,rfl,rfl,hl,hxl,hat⟩:=DataW.trod_struct ht hx
 simp only [DataW.weights,ht] at hz
 obtain⟨a,ha⟩:=h enc W m cs xs (fun i f hf=>hat i f (by simpa using hf)) (by simpa using hxl) hz
 exact⟨hl.trans hc,a,by simpa using ha⟩
end Go.Proofs.YtlobohpbgghleaaGreatDoor

namespace Go.Proofs.YtlobohpbgghleaaGreatDoor
open Go.RowKit Go.ChangeShapes Go.WideShapes
theorem open_slice_by {P:Program} {H:Type} {enc:TypeId×Value→H} {W:World} {base n bytes:Nat} {t e:TypeId} {v:Value} {d:DataW H} {p:List MemPlace} {α:Type} {R:World→List Value→α→Prop}
  (ho:Opens P t 1 (RRow n bytes R)) (ht:P.underlying t=some (.slice e)) (hok:Value.okWide P W .any base t v) (h:DataW.Trod enc P W 0 (fun _=>true) true t v d p) (hz:(d.weights P t).all (· ≤reachBytes)=true):
  ∃ xs,Row n bytes R W v xs:=by
 obtain⟨a,len,cap,rfl⟩:=okWide_slice ht hok
 obtain⟨fuel,hf⟩:=h
 obtain⟨_,xs,v',hv,hr⟩:=ho enc W fuel _ _ hf hz
 simp [Value.cells] at hv
 exact⟨xs,by rw [hv];exact hr⟩
end Go.Proofs.YtlobohpbgghleaaGreatDoor

namespace Go.Proofs.YtlobohpbgghleaaGreatDoor
structure Pl where
 fresh:Bool
 man:Man
 remove:List (List UInt8)
 cut:Int
 last:Int
def runD:Disk→List DOp→Disk×Int
 | d,[]=>(d,0)
 | d,o::r=>if (doD d o).2.2.2=0 then runD (doD d o).1 r else ((doD d o).1,(doD d o).2.2.2)
theorem runD_append: ∀ (a b:List DOp) (d:Disk),runD d (a++b)=if (runD d a).2=0 then runD (runD d a).1 b else runD d a
 | [],b,d=>by simp [runD]
 | o::a,b,d=>by
  rw [List.cons_append,runD,runD]
  by_cases h:(doD d o).2.2.2=0
  ·rw [if_pos h,if_pos h,runD_append a b]
  ·rw [if_neg h,if_neg h]
   simp only [if_neg h]
def manN:List UInt8:=[109,97,110,105,102,101,115,116]
def tmpN:List UInt8:=[109,97,110,105,102,101,115,116,46,116,109,112]
def beginOps (n:List UInt8) (g:Sg) (m:Man):List DOp:=
 [opCreate n,opAppend n (hdrEnc g.num g.first).1,opSync n,opCreate tmpN,opAppend tmpN (encMan m).1,opSync tmpN,opRename tmpN manN]
def cutOps (n:List UInt8) (k:Int) (x:Option Fil):List DOp:=
 match x with
 | none=>[]
 | some f=>if k<(f.data.length:Int) then [opCut n k] else []
def remOps (p:Pl):List DOp:=p.remove.map opRemove
def lastSg (m:Man):Sg:=m.segs.getLast?.getD ⟨0,0,0,0⟩
def segN (m:Man):List UInt8:=segName (lastSg m).num
def refOps (d:Disk) (p:Pl):List DOp:=
 remOps p++if p.fresh then beginOps (segN p.man) (lastSg p.man) p.man
  else opSize (segN p.man)::(cutOps (segN p.man) p.cut (if p.remove.any (fun x=>x==segN p.man) then none else atF d.files (segN p.man))++[opSync (segN p.man)])
def tailOps (d:Disk) (p:Pl):List DOp:=
 if p.fresh then beginOps (segN p.man) (lastSg p.man) p.man
  else opSize (segN p.man)::(cutOps (segN p.man) p.cut (atF d.files (segN p.man))++[opSync (segN p.man)])
def applyD (d:Disk) (p:Pl):Disk×Int:=
 if manOk p.man then runD d (refOps d p) else (d,1)
theorem take_at {n:List UInt8} (fs:List Fil):atF (takeF n fs) n=none:=by
 unfold atF takeF
 rw [List.find?_eq_none]
 intro x hx
 have:=(List.mem_filter.1 hx).2
 simpa using this
theorem doD_remove {d:Disk} {n:List UInt8} (h:(doD d (opRemove n)).2.2.2=0):(doD d (opRemove n)).1.files=takeF n d.files:=by
 by_cases hb:barD d (opRemove n)=0
 ·rw [doD_step (by simp [opRemove]) hb] at h ⊢
  by_cases hf:d.fuse=1
  ·simp only [if_pos hf] at h;omega
  ·simp only [if_neg hf]
   rw [bar_remove] at hb
   obtain⟨_,_,x,ha⟩:=openE_zero hb
   unfold chgD
   rw [if_neg (by simp [opRemove]),stepD_files]
   show (match atF d.files n with | none=>stepD d | some f=>_).files=_
   rw [ha]
   simp [opRemove]
 ·rw [doD_barred (by simp [opRemove]) hb] at h
  exact absurd h hb
theorem rem_at (n:List UInt8): ∀ (l:List (List UInt8)) (d:Disk),(runD d (l.map opRemove)).2=0→atF (runD d (l.map opRemove)).1.files n=if l.any (fun x=>x==n) then none else atF d.files n
 | [],d,_=>by simp [runD]
 | x::l,d,h=>by
  rw [List.map_cons,runD] at h ⊢
  by_cases h0:(doD d (opRemove x)).2.2.2=0
  ·rw [if_pos h0] at h ⊢
   rw [rem_at n l _ h,doD_remove h0,List.any_cons]
   by_cases hx:x=n
   ·subst hx
    rw [take_at]
    simp
   ·rw [show (x==n)=false by simpa using hx,at_take hx,Bool.false_or]
  ·rw [if_neg h0] at h
   exact absurd h h0
theorem size_refused {d:Disk} {n:List UInt8} (h:atF d.files n=none):(doD d (opSize n)).2.2.2≠0:=by
 have he:openE d n≠0:=fun e=>by
  obtain⟨_,_,x,hx⟩:=openE_zero e
  rw [h] at hx;cases hx
 rw [doD_barred (by simp [opSize]) (by rw [bar_size];exact he),bar_size]
 exact he
theorem refOps_run (d:Disk) (p:Pl):runD d (refOps d p)=if (runD d (remOps p)).2=0 then runD (runD d (remOps p)).1 (tailOps (runD d (remOps p)).1 p) else runD d (remOps p):=by
 unfold refOps tailOps
 rw [runD_append]
 by_cases h:(runD d (remOps p)).2=0
 ·rw [if_pos h,if_pos h]
  rcases p.fresh
  ·simp only [Bool.false_eq_true,if_false]
   have ha:=rem_at (segN p.man) p.remove d h
   rcases hx:atF (runD d (remOps p)).1.files (segN p.man) with _ | f
   ·have:=size_refused hx
    rw [runD,if_neg this,runD,if_neg this]
   ·rw [show (runD d (p.remove.map opRemove))=runD d (remOps p) from rfl,hx] at ha
    rw [←ha]
  ·rfl
 ·rw [if_neg h,if_neg h]
theorem doD_steps (d:Disk) (o:DOp):(doD d o).1.steps≤d.steps+1∧d.steps≤(doD d o).1.steps:=by
 have hc: ∀ x:Disk,(chgD x o).steps=x.steps:=fun x=>by
  unfold chgD
  split
  ·rfl
  ·split
   ·rfl
   ·split
    ·rfl
    ·split<;>rfl
 unfold doD
 split
 ·exact⟨by simp;omega,by simp⟩
 ·split
  ·exact⟨by simp;omega,by simp⟩
  ·split
   ·exact⟨by simp;omega,by simp⟩
   ·split
    ·exact⟨by simp;omega,by simp⟩
    ·split
     ·exact⟨by simp;omega,by simp⟩
     ·split
      ·exact⟨by simp;omega,by simp⟩
      ·split
       ·split
        ·simp only [hc];exact⟨by omega,by omega⟩
        ·exact⟨by simp;omega,by simp⟩
       ·simp only [hc];exact⟨by omega,by omega⟩
end Go.Proofs.YtlobohpbgghleaaGreatDoor
namespace Go.Proofs.YtlobohpbgghleaaGreatDoor
open Go.RowKit Go.ChangeShapes Go.WideShapes
theorem u8_of {z:Int} (h:(Lit.int .u8 z).wf=true):((UInt8.ofNat z.toNat).toNat:Int)=z:=by
 have h':0≤z∧z≤255:=by simpa [Lit.wf,show IntKind.u8.min=0 from by decide,show IntKind.u8.max=255 from by decide] using h
 rw [UInt8.toNat_ofNat']
 omega
theorem browIn_true {w:World} {v:Value} {l:List UInt8} (h:BRow w v l):BRowIn (fun _=>True) w v l:=by
 obtain⟨oa,cap,h1,h2,h3⟩:=h
 exact⟨oa,cap,h1,h2,fun hn=>by obtain⟨b,off,e,hc⟩:=h3 hn;exact⟨b,off,e,trivial,hc⟩⟩
def plCs (p:Pl) (sv rv:Value):Array Value:= #[.bool p.fresh,.int .i64 p.man.gen,.int .i64 p.man.next,.int .i64 p.man.floor,.int .i64 p.man.snap,.int .i64 p.man.snapSeq,sv,rv,.int .i64 p.cut,.int .i64 p.last]
@[reducible] def plV (p : Pl) (sv rv : Value) : Value := .agg #[.bool p.fresh, .int .i64 p.man.gen, .int .i64 p.man.next, .int .i64 p.man.floor, .int .i64 p.man.snap, .int .i64 p.man.snapSeq, sv, rv, .int .i64 p.cut, .int .i64 p.last]
end Go.Proofs.YtlobohpbgghleaaGreatDoor

namespace Go.Proofs.YtlobohpbgghleaaGreatDoor
open Go.RowKit
def saveOps (m:Man):List DOp:=[opCreate tmpN,opAppend tmpN (encMan m).1,opSync tmpN,opRename tmpN manN]
def RunPost (w:World) (f m:Nat) (L:List Slot) (r:Disk×Int) (e:Ending) (w':World):Prop:=e= .returned (.int .i64 r.2)∧FsPost w f m L r.1 w'
theorem NibTab.turned {S:Nat→Prop} {w w':World} (h:NibTab w) (ht:Turned S w w') (hS: ¬ S 0) (hg:0<w.heap.size):NibTab w':=by
 have hb:=ht.block 0 hg hS
 unfold NibTab Lib.TabIs World.var? at*
 simp only [show Tryz.prog.globalNamed "daybook/crc.nibbles" =some 0 by kernel_rfl,Option.bind_some,hb] at*
 exact h
theorem saveC1 (w:World) (f m:Nat) (d:Disk) (L:List Slot) (h:FsAt w f m d L) (hs:d.steps<4611686018427387904) (b:Nat) (hc:w.cell? ⟨b,0,none⟩=some (.pointer (some ⟨f,0,none⟩))):
  Calls Tryz.prog 128 #[.pointer (some ⟨b,0,none⟩)] w fun e w'=>e= .returned (.int .i64 (doD d (opCreate tmpN)).2.2.2)∧FsPost w f m L (doD d (opCreate tmpN)).1 w':=by
 have HC:=Lib.hid (create_any w f m d L h hs tmpN)
 clear h
 go_enter Tryz.func128,Tryz.ntmps128
 go_wp2_with fail
 refine HC.out.mono ?_
 rintro e w' ⟨rfl,hp⟩
 have HP:=Lib.hid hp
 clear hp
 go_wp2
 go_ret
 exact⟨rfl,HP.out⟩
theorem saveC2 (w:World) (f m:Nat) (d:Disk) (L:List Slot) (h:FsAt w f m d L) (hs:d.steps<4611686018427387904) (b b':Nat) (hc:w.cell? ⟨b,0,none⟩=some (.pointer (some ⟨f,0,none⟩))) (bv:Value) (bs:List UInt8) (hb:BRowIn (fun k=> ¬ foot f m L k) w bv bs) (hc':w.cell? ⟨b',0,none⟩=some bv):
  Calls Tryz.prog 129 #[.pointer (some ⟨b,0,none⟩),.pointer (some ⟨b',0,none⟩)] w fun e w'=>e= .returned (.int .i64 (doD d (opAppend tmpN bs)).2.2.2)∧FsPost w f m L (doD d (opAppend tmpN bs)).1 w':=by
 have HC:=Lib.hid (append_any w f m d L h hs tmpN bs bv hb)
 clear h hb
 go_enter Tryz.func129,Tryz.ntmps129
 go_wp2_with fail
 refine HC.out.mono ?_
 rintro e w' ⟨rfl,hp⟩
 have HP:=Lib.hid hp
 clear hp
 go_wp2
 go_ret
 exact⟨rfl,HP.out⟩
theorem saveC3 (w:World) (f m:Nat) (d:Disk) (L:List Slot) (h:FsAt w f m d L) (hs:d.steps<4611686018427387904) (b:Nat) (hc:w.cell? ⟨b,0,none⟩=some (.pointer (some ⟨f,0,none⟩))):
  Calls Tryz.prog 130 #[.pointer (some ⟨b,0,none⟩)] w fun e w'=>e= .returned (.int .i64 (doD d (opSync tmpN)).2.2.2)∧FsPost w f m L (doD d (opSync tmpN)).1 w':=by
 have HC:=Lib.hid (sync_any w f m d L h hs tmpN)
 clear h
 go_enter Tryz.func130,Tryz.ntmps130
 go_wp2_with fail
 refine HC.out.mono ?_
 rintro e w' ⟨rfl,hp⟩
 have HP:=Lib.hid hp
 clear hp
 go_wp2
 go_ret
 exact⟨rfl,HP.out⟩
theorem saveC4 (w:World) (f m:Nat) (d:Disk) (L:List Slot) (h:FsAt w f m d L) (hs:d.steps<4611686018427387904) (b:Nat) (hc:w.cell? ⟨b,0,none⟩=some (.pointer (some ⟨f,0,none⟩))):
  Calls Tryz.prog 131 #[.pointer (some ⟨b,0,none⟩)] w fun e w'=>e= .returned (.int .i64 (doD d (opRename tmpN manN)).2.2.2)∧FsPost w f m L (doD d (opRename tmpN manN)).1 w':=by
 have HC:=Lib.hid (rename_any w f m d L h hs tmpN manN)
 clear h
 go_enter Tryz.func131,Tryz.ntmps131
 go_wp2_with fail
 refine HC.out.mono ?_
 rintro e w' ⟨rfl,hp⟩
 have HP:=Lib.hid hp
 clear hp
 go_wp2
 go_ret
 exact⟨rfl,HP.out⟩
theorem FsPost.cell {w w':World} {f m:Nat} {L:List Slot} {d':Disk} (h:FsPost w f m L d' w') {p:Addr} {v:Value} (hc:w.cell? p=some v) (hn: ¬ foot f m L p.block):w'.cell? p=some v:=by
 obtain⟨L',_,ht,_⟩:=h
 exact ht.cell hc hn
theorem runD_stop {d:Disk} {o:DOp} {r:List DOp} (h:(doD d o).2.2.2≠0):runD d (o::r)=((doD d o).1,(doD d o).2.2.2):=by rw [runD,if_neg h]
theorem runD_go {d:Disk} {o:DOp} {r:List DOp} (h:(doD d o).2.2.2=0):runD d (o::r)=runD (doD d o).1 r:=by rw [runD,if_pos h]
set_option maxRecDepth 100000 in
set_option maxHeartbeats 4000000 in
theorem save_any (w:World) (f m:Nat) (d:Disk) (L:List Slot) (h:FsAt w f m d L) (hs:d.steps+4<4611686018427387904) (mn:Man) (sv:Value) (hr:SgRow w sv mn.segs) (hn:NibTab w) (hok:manOk mn=true):
  Calls Tryz.prog 93 #[.pointer (some ⟨f,0,none⟩),mnV mn sv] w (RunPost w f m L (runD d (saveOps mn))):=by
 have HH:=Lib.hid h
 have HST:=Lib.hid hs
 obtain⟨oa,cap,rfl,hl1,hl2,hc⟩:=hr
 have HR:=Lib.hid (show SgRow w (.slice oa mn.segs.length cap) mn.segs from⟨oa,cap,rfl,hl1,hl2,hc⟩)
 have HB0:=Lib.hid (Below.next (below_alloc w (.cells #[.pointer (some ⟨f,0,none⟩)] 24)) (below_alloc _ (.cells (mnCs mn (.slice oa mn.segs.length cap)) 31)))
 have hbx:(w.alloc (.cells #[.pointer (some ⟨f,0,none⟩)] 24)).cell? ⟨w.heap.size,0,none⟩=some (.pointer (some ⟨f,0,none⟩)):=by rw [World.cell?_alloc_new];rfl
 have HX0:=Lib.hid (cell_later (below_alloc _ (.cells (mnCs mn (.slice oa mn.segs.length cap)) 31)) hbx)
 have HMB:=Lib.hid (show MnBlk ((w.alloc (.cells #[.pointer (some ⟨f,0,none⟩)] 24)).alloc (.cells (mnCs mn (.slice oa mn.segs.length cap)) 31)) (w.heap.size+1) mn (.slice oa mn.segs.length cap) by
  have:=mnBlk_alloc (w.alloc (.cells #[.pointer (some ⟨f,0,none⟩)] 24)) mn (.slice oa mn.segs.length cap)
  rwa [show (w.alloc (.cells #[.pointer (some ⟨f,0,none⟩)] 24)).heap.size=w.heap.size+1 by simp] at this)
 simp only [mnCs] at HMB
 have HENC:=Lib.hid (manEncode_any mn (.slice oa mn.segs.length cap) _ (HR.out.below HB0.out) (hn.below HB0.out))
 have HENE:=Lib.hid (show (encMan mn).2=0 by rw [encMan_ok hok])
 have hmf: ∀ (fn:Fn) (first cap:Array Value) (w:World),(Instr.makeFunc fn first cap).run Tryz.prog w= .ok (.func fn first cap) w:=fun _ _ _ _=>rfl
 have hfw:=h.lt
 have HFW:=Lib.hid hfw
 clear hc hn hok h hs hbx hfw
 obtain⟨er,her⟩: ∃ er,er=encMan mn:=⟨_,rfl⟩
 rw [←her] at HENC HENE
 have HER:=Lib.hid her
 clear her
 go_enter Tryz.func93,Tryz.ntmps93
 go_wp2_with (with_reducible refine wpList_load_mn rfl (.tmp 3) rfl (w.heap.size+1) mn (.slice oa mn.segs.length cap) rfl HMB.out ?_)
 refine HENC.out.mono ?_
 rintro e w1 ⟨v1,rfl,ho1,hb1⟩
 rw [HENE.out]
 obtain⟨o1,cap1,rfl,_,_⟩:=own_shape ho1
 have HO1:=Lib.hid ho1
 have HB1:=Lib.hid (Below.next HB0.out hb1)
 have HX1:=Lib.hid (cell_later hb1 HX0.out)
 clear ho1 hb1 HENC HX0 HB0
 go_wp2
 have hb5:(w1.alloc (.cells #[.slice o1 er.1.length cap1] 47)).cell? ⟨w1.heap.size,0,none⟩=some (.slice o1 er.1.length cap1):=by rw [World.cell?_alloc_new];rfl
 have sz5:(w1.alloc (.cells #[.slice o1 er.1.length cap1] 47)).heap.size=w1.heap.size+1:=by simp
 have HBW:=Lib.hid (Below.next (below_alloc w1 (.cells #[.slice o1 er.1.length cap1] 47)) (below_alloc _ (.cells #[.func (.func 128) #[] #[.pointer (some ⟨w.heap.size,0,none⟩)],.func (.func 129) #[] #[.pointer (some ⟨w.heap.size,0,none⟩),.pointer (some ⟨w1.heap.size,0,none⟩)],.func (.func 130) #[] #[.pointer (some ⟨w.heap.size,0,none⟩)],.func (.func 131) #[] #[.pointer (some ⟨w.heap.size,0,none⟩)]] 210)))
 have HC2:=Lib.hid (cell_later HBW.out HX1.out)
 have HC5:=Lib.hid (cell_later (below_alloc _ (.cells #[.func (.func 128) #[] #[.pointer (some ⟨w.heap.size,0,none⟩)],.func (.func 129) #[] #[.pointer (some ⟨w.heap.size,0,none⟩),.pointer (some ⟨w1.heap.size,0,none⟩)],.func (.func 130) #[] #[.pointer (some ⟨w.heap.size,0,none⟩)],.func (.func 131) #[] #[.pointer (some ⟨w.heap.size,0,none⟩)]] 210)) hb5)
 have HGC:=Lib.hid (fun(j:Nat) (v:Value) (hj:(#[.func (.func 128) #[] #[.pointer (some ⟨w.heap.size,0,none⟩)],.func (.func 129) #[] #[.pointer (some ⟨w.heap.size,0,none⟩),.pointer (some ⟨w1.heap.size,0,none⟩)],.func (.func 130) #[] #[.pointer (some ⟨w.heap.size,0,none⟩)],.func (.func 131) #[] #[.pointer (some ⟨w.heap.size,0,none⟩)]]:Array Value)[j]? =some v)=>show ((w1.alloc (.cells #[.slice o1 er.1.length cap1] 47)).alloc (.cells #[.func (.func 128) #[] #[.pointer (some ⟨w.heap.size,0,none⟩)],.func (.func 129) #[] #[.pointer (some ⟨w.heap.size,0,none⟩),.pointer (some ⟨w1.heap.size,0,none⟩)],.func (.func 130) #[] #[.pointer (some ⟨w.heap.size,0,none⟩)],.func (.func 131) #[] #[.pointer (some ⟨w.heap.size,0,none⟩)]] 210)).cell? ⟨w1.heap.size+1,j,none⟩=some v by
  have:=World.cell?_alloc_new (w1.alloc (.cells #[.slice o1 er.1.length cap1] 47)) #[.func (.func 128) #[] #[.pointer (some ⟨w.heap.size,0,none⟩)],.func (.func 129) #[] #[.pointer (some ⟨w.heap.size,0,none⟩),.pointer (some ⟨w1.heap.size,0,none⟩)],.func (.func 130) #[] #[.pointer (some ⟨w.heap.size,0,none⟩)],.func (.func 131) #[] #[.pointer (some ⟨w.heap.size,0,none⟩)]] 210 j
  rw [sz5] at this
  rw [this];exact hj)
 have HBV:=Lib.hid ((browIn_own (A:=fun k=>w.heap.size≤k) HO1.out (fun k hk=>by simp at hk;omega)).below HBW.out)
 have HBW0:=Lib.hid (Below.next HB1.out HBW.out)
 have HLO:=Lib.hid (show w.heap.size≤w1.heap.size from HB1.out.size)
 have HF4:=Lib.hid (HH.out.below HBW0.out)
 have hmf':=Lib.hid hmf
 clear hb5 sz5 hmf HO1 HB1 HX1 HBW
 have HNF:=Lib.hid (fun k (hk:w.heap.size≤k)=>show ¬ foot f m L k from fun hf=>by have:=HFW.out k hf;omega)
 generalize ((w1.alloc (.cells #[.slice o1 er.1.length cap1] 47)).alloc (.cells #[.func (.func 128) #[] #[.pointer (some ⟨w.heap.size,0,none⟩)],.func (.func 129) #[] #[.pointer (some ⟨w.heap.size,0,none⟩),.pointer (some ⟨w1.heap.size,0,none⟩)],.func (.func 130) #[] #[.pointer (some ⟨w.heap.size,0,none⟩)],.func (.func 131) #[] #[.pointer (some ⟨w.heap.size,0,none⟩)]] 210))=W4 at*
 have HQ:=Lib.hid (fun(d':Disk) (W:World) (hp:FsPost W4 f m L d' W)=>show FsPost w f m L d' W from hp.then (Turned.below HBW0.out) (fun _ h=> .inl h))
 have HCL:=Lib.hid (fun(d':Disk) (W:World) (hp:FsPost W4 f m L d' W)=>show W.cell? ⟨w.heap.size,0,none⟩=some (.pointer (some ⟨f,0,none⟩))∧W.cell? ⟨w1.heap.size,0,none⟩=some (.slice o1 er.1.length cap1)∧ ∀ (j:Nat) (v:Value),(#[.func (.func 128) #[] #[.pointer (some ⟨w.heap.size,0,none⟩)],.func (.func 129) #[] #[.pointer (some ⟨w.heap.size,0,none⟩),.pointer (some ⟨w1.heap.size,0,none⟩)],.func (.func 130) #[] #[.pointer (some ⟨w.heap.size,0,none⟩)],.func (.func 131) #[] #[.pointer (some ⟨w.heap.size,0,none⟩)]]:Array Value)[j]? =some v→W.cell? ⟨w1.heap.size+1,j,none⟩=some v from
  ⟨hp.cell HC2.out (HNF.out _ (Nat.le_refl _)),hp.cell HC5.out (HNF.out _ HLO.out),fun j v hj=>hp.cell (HGC.out j v hj) (HNF.out _ (Nat.le_trans HLO.out (Nat.le_succ _)))⟩)
 have HP0:=Lib.hid (FsPost.same HF4.out)
 have HS0:=Lib.hid (show d.steps≤d.steps+0 by omega)
 obtain⟨d0,hd0⟩: ∃ x,x=d:=⟨_,rfl⟩
 have HRUN:=Lib.hid (show runD d (saveOps mn)=runD d0 [opCreate tmpN,opAppend tmpN er.1,opSync tmpN,opRename tmpN manN] by rw [hd0,HER.out];rfl)
 rw [←hd0] at HP0
 have HS:=Lib.hid (show d0.steps<4611686018427387904 by rw [hd0];have:=HST.out;omega)
 have HST':=Lib.hid (show d0.steps+4<4611686018427387904 by rw [hd0];exact HST.out)
 clear hd0 HST
 refine wp_loop_rounds 5 ?_
 rw [rounds_succ]
 have g0:=(HCL.out _ _ HP0.out).2.2 0 _ rfl
 obtain⟨L0,hfs0,ht0,hsub0⟩:=HP0.out
 have HCJ:=Lib.hid (saveC1 _ f m _ L0 hfs0 HS.out w.heap.size (HCL.out _ _ HP0.out).1)
 have HTJ:=Lib.hid ht0
 have HSJ:=Lib.hid hsub0
 clear hfs0 ht0 hsub0
 go_wp2_with fail
 refine HCJ.out.mono ?_
 rintro e W5 ⟨rfl,hp⟩
 have HPn:=Lib.hid (hp.then HTJ.out HSJ.out)
 clear hp HCJ g0
 by_cases he0:(doD d0 (opCreate tmpN)).2.2.2=0
 case neg=>
  have tn:((doD d0 (opCreate tmpN)).2.2.2 != 0)=true:=by simpa using he0
  have HE:=Lib.hid (show runD d (saveOps mn)=((doD d0 (opCreate tmpN)).1,(doD d0 (opCreate tmpN)).2.2.2) by rw [HRUN.out,runD_stop he0])
  have HF:=Lib.hid (HQ.out _ _ HPn.out)
  clear he0
  generalize (doD d0 (opCreate tmpN)).2.2.2=ev at*
  go_wp2
  go_ret
  unfold RunPost
  rw [HE.out]
  exact⟨rfl,HF.out⟩
 have HRUN:=Lib.hid (show runD d (saveOps mn)=runD (doD d0 (opCreate tmpN)).1 [opAppend tmpN er.1,opSync tmpN,opRename tmpN manN] by rw [HRUN.out,runD_go he0])
 have HS:=Lib.hid (show (doD d0 (opCreate tmpN)).1.steps<4611686018427387904 by have h1:=(doD_steps d0 (opCreate tmpN)).1;have:=HST'.out;omega)
 rw [he0]
 clear he0
 have HSB:=Lib.hid (show (doD d0 (opCreate tmpN)).1.steps≤4611686018427387900+0 by have h1:=(doD_steps d0 (opCreate tmpN)).1;have:=HST'.out;omega)
 obtain⟨d1,hdn⟩: ∃ x,x=(doD d0 (opCreate tmpN)).1:=⟨_,rfl⟩
 rw [←hdn] at HPn HRUN HS HSB
 clear hdn HTJ HSJ
 have HP1:=HPn
 clear HPn
 go_wp2
 rw [rounds_succ]
 have g1:=(HCL.out _ _ HP1.out).2.2 1 _ rfl
 obtain⟨L1,hfs1,ht1,hsub1⟩:=HP1.out
 have HBVj:=Lib.hid (show BRowIn (fun k=> ¬ foot f m L1 k) _ (.slice o1 er.1.length cap1) er.1 from(HBV.out.low.turned ht1 (fun k hk hf=>HNF.out k hk.1 hf)).mono (fun k hk hf=>by
  rcases hsub1 k hf with h1 | h1
  ·exact HNF.out k hk.1 h1
  ·have:=hk.2;omega))
 have HCJ:=Lib.hid (saveC2 _ f m _ L1 hfs1 HS.out w.heap.size w1.heap.size (HCL.out _ _ HP1.out).1 _ _ HBVj.out (HCL.out _ _ HP1.out).2.1)
 have HTJ:=Lib.hid ht1
 have HSJ:=Lib.hid hsub1
 clear hfs1 ht1 hsub1
 go_wp2_with fail
 refine HCJ.out.mono ?_
 rintro e W6 ⟨rfl,hp⟩
 have HPn:=Lib.hid (hp.then HTJ.out HSJ.out)
 clear hp HCJ g1
 by_cases he1:(doD d1 (opAppend tmpN er.1)).2.2.2=0
 case neg=>
  have tn:((doD d1 (opAppend tmpN er.1)).2.2.2 != 0)=true:=by simpa using he1
  have HE:=Lib.hid (show runD d (saveOps mn)=((doD d1 (opAppend tmpN er.1)).1,(doD d1 (opAppend tmpN er.1)).2.2.2) by rw [HRUN.out,runD_stop he1])
  have HF:=Lib.hid (HQ.out _ _ HPn.out)
  clear he1
  generalize (doD d1 (opAppend tmpN er.1)).2.2.2=ev at*
  go_wp2
  go_ret
  unfold RunPost
  rw [HE.out]
  exact⟨rfl,HF.out⟩
 have HRUN:=Lib.hid (show runD d (saveOps mn)=runD (doD d1 (opAppend tmpN er.1)).1 [opSync tmpN,opRename tmpN manN] by rw [HRUN.out,runD_go he1])
 have HS:=Lib.hid (show (doD d1 (opAppend tmpN er.1)).1.steps<4611686018427387904 by have h1:=(doD_steps d1 (opAppend tmpN er.1)).1;have:=HSB.out;omega)
 rw [he1]
 clear he1
 have HSB:=Lib.hid (show (doD d1 (opAppend tmpN er.1)).1.steps≤4611686018427387900+1 by have h1:=(doD_steps d1 (opAppend tmpN er.1)).1;have:=HSB.out;omega)
 obtain⟨d2,hdn⟩: ∃ x,x=(doD d1 (opAppend tmpN er.1)).1:=⟨_,rfl⟩
 rw [←hdn] at HPn HRUN HS HSB
 clear hdn HTJ HSJ
 have HP2:=HPn
 clear HPn
 go_wp2
 rw [rounds_succ]
 have g2:=(HCL.out _ _ HP2.out).2.2 2 _ rfl
 obtain⟨L2,hfs2,ht2,hsub2⟩:=HP2.out
 have HCJ:=Lib.hid (saveC3 _ f m _ L2 hfs2 HS.out w.heap.size (HCL.out _ _ HP2.out).1)
 have HTJ:=Lib.hid ht2
 have HSJ:=Lib.hid hsub2
 clear hfs2 ht2 hsub2
 go_wp2_with fail
 refine HCJ.out.mono ?_
 rintro e W7 ⟨rfl,hp⟩
 have HPn:=Lib.hid (hp.then HTJ.out HSJ.out)
 clear hp HCJ g2
 by_cases he2:(doD d2 (opSync tmpN)).2.2.2=0
 case neg=>
  have tn:((doD d2 (opSync tmpN)).2.2.2 != 0)=true:=by simpa using he2
  have HE:=Lib.hid (show runD d (saveOps mn)=((doD d2 (opSync tmpN)).1,(doD d2 (opSync tmpN)).2.2.2) by rw [HRUN.out,runD_stop he2])
  have HF:=Lib.hid (HQ.out _ _ HPn.out)
  clear he2
  generalize (doD d2 (opSync tmpN)).2.2.2=ev at*
  go_wp2
  go_ret
  unfold RunPost
  rw [HE.out]
  exact⟨rfl,HF.out⟩
 have HRUN:=Lib.hid (show runD d (saveOps mn)=runD (doD d2 (opSync tmpN)).1 [opRename tmpN manN] by rw [HRUN.out,runD_go he2])
 have HS:=Lib.hid (show (doD d2 (opSync tmpN)).1.steps<4611686018427387904 by have h1:=(doD_steps d2 (opSync tmpN)).1;have:=HSB.out;omega)
 rw [he2]
 clear he2
 have HSB:=Lib.hid (show (doD d2 (opSync tmpN)).1.steps≤4611686018427387900+2 by have h1:=(doD_steps d2 (opSync tmpN)).1;have:=HSB.out;omega)
 obtain⟨d3,hdn⟩: ∃ x,x=(doD d2 (opSync tmpN)).1:=⟨_,rfl⟩
 rw [←hdn] at HPn HRUN HS HSB
 clear hdn HTJ HSJ
 have HP3:=HPn
 clear HPn
 go_wp2
 rw [rounds_succ]
 have g3:=(HCL.out _ _ HP3.out).2.2 3 _ rfl
 obtain⟨L3,hfs3,ht3,hsub3⟩:=HP3.out
 have HCJ:=Lib.hid (saveC4 _ f m _ L3 hfs3 HS.out w.heap.size (HCL.out _ _ HP3.out).1)
 have HTJ:=Lib.hid ht3
 have HSJ:=Lib.hid hsub3
 clear hfs3 ht3 hsub3
 go_wp2_with fail
 refine HCJ.out.mono ?_
 rintro e W8 ⟨rfl,hp⟩
 have HPn:=Lib.hid (hp.then HTJ.out HSJ.out)
 clear hp HCJ g3
 by_cases he3:(doD d3 (opRename tmpN manN)).2.2.2=0
 case neg=>
  have tn:((doD d3 (opRename tmpN manN)).2.2.2 != 0)=true:=by simpa using he3
  have HE:=Lib.hid (show runD d (saveOps mn)=((doD d3 (opRename tmpN manN)).1,(doD d3 (opRename tmpN manN)).2.2.2) by rw [HRUN.out,runD_stop he3])
  have HF:=Lib.hid (HQ.out _ _ HPn.out)
  clear he3
  generalize (doD d3 (opRename tmpN manN)).2.2.2=ev at*
  go_wp2
  go_ret
  unfold RunPost
  rw [HE.out]
  exact⟨rfl,HF.out⟩
 have HRUN:=Lib.hid (show runD d (saveOps mn)=runD (doD d3 (opRename tmpN manN)).1 [] by rw [HRUN.out,runD_go he3])
 have HS:=Lib.hid (show (doD d3 (opRename tmpN manN)).1.steps<4611686018427387904 by have h1:=(doD_steps d3 (opRename tmpN manN)).1;have:=HSB.out;omega)
 rw [he3]
 clear he3
 have HSB:=Lib.hid (show (doD d3 (opRename tmpN manN)).1.steps≤4611686018427387900+3 by have h1:=(doD_steps d3 (opRename tmpN manN)).1;have:=HSB.out;omega)
 obtain⟨d4,hdn⟩: ∃ x,x=(doD d3 (opRename tmpN manN)).1:=⟨_,rfl⟩
 rw [←hdn] at HPn HRUN HS HSB
 clear hdn HTJ HSJ
 have HP4:=HPn
 clear HPn
 go_wp2
 rw [rounds_succ]
 have HF:=Lib.hid (HQ.out _ _ HP4.out)
 go_wp2
 go_ret
 unfold RunPost
 rw [HRUN.out]
 exact⟨rfl,HF.out⟩
end Go.Proofs.YtlobohpbgghleaaGreatDoor
namespace Go.Proofs.YtlobohpbgghleaaGreatDoor
open Go.RowKit
def SgIn (A:Nat→Prop) (w:World) (v:Value) (l:List Sg):Prop:=
 ∃ oa cap,v= .slice oa l.length cap∧l.length≤cap∧cap≤9223372036854775807∧ ∀ (i:Nat) g,l[i]? =some g→ ∃ b off,oa=some ⟨b,off,none⟩∧A b∧w.rangeAt b (off+i*4) (sgCs g).toList
theorem SgIn.row {A:Nat→Prop} {w:World} {v:Value} {l:List Sg} (h:SgIn A w v l):SgRow w v l:=by
 obtain⟨oa,cap,h1,h2,h3,h4⟩:=h
 exact⟨oa,cap,h1,h2,h3,fun i g hg=>by obtain⟨b,off,e,_,hc⟩:=h4 i g hg;exact⟨b,off,e,hc⟩⟩
theorem SgIn.turned {A S:Nat→Prop} {w w':World} {v:Value} {l:List Sg} (h:SgIn A w v l) (ht:Turned S w w') (hS: ∀ k,A k→ ¬ S k):SgIn A w' v l:=by
 obtain⟨oa,cap,h1,h2,h3,h4⟩:=h
 exact⟨oa,cap,h1,h2,h3,fun i g hg=>by obtain⟨b,off,e,ha,hc⟩:=h4 i g hg;exact⟨b,off,e,ha,fun j u hj=>ht.cell (hc j u hj) (hS b ha)⟩⟩
theorem SgIn.below {A:Nat→Prop} {w w':World} {v:Value} {l:List Sg} (h:SgIn A w v l) (hb:Below w.heap.size w w'):SgIn A w' v l:=by
 obtain⟨oa,cap,h1,h2,h3,h4⟩:=h
 exact⟨oa,cap,h1,h2,h3,fun i g hg=>by obtain⟨b,off,e,ha,hc⟩:=h4 i g hg;exact⟨b,off,e,ha,range_later hc hb⟩⟩
theorem SgIn.mono {A A':Nat→Prop} {w:World} {v:Value} {l:List Sg} (h:SgIn A w v l) (hA: ∀ k,A k→A' k):SgIn A' w v l:=by
 obtain⟨oa,cap,h1,h2,h3,h4⟩:=h
 exact⟨oa,cap,h1,h2,h3,fun i g hg=>by obtain⟨b,off,e,ha,hc⟩:=h4 i g hg;exact⟨b,off,e,hA b ha,hc⟩⟩
theorem SgIn.low {A:Nat→Prop} {w:World} {v:Value} {l:List Sg} (h:SgIn A w v l):SgIn (fun k=>A k∧k<w.heap.size) w v l:=by
 obtain⟨oa,cap,h1,h2,h3,h4⟩:=h
 exact⟨oa,cap,h1,h2,h3,fun i g hg=>by obtain⟨b,off,e,ha,hc⟩:=h4 i g hg;exact⟨b,off,e,⟨ha,World.block_lt_of_cell? w _ (hc 0 _ rfl)⟩,hc⟩⟩
theorem FsPost.block {w w':World} {f m:Nat} {L:List Slot} {d':Disk} (h:FsPost w f m L d' w') {k:Nat} (hk:k<w.heap.size) (hn: ¬ foot f m L k):w'.heap[k]? =w.heap[k]? :=by
 obtain⟨L',_,ht,_⟩:=h
 exact ht.block k hk hn
theorem NibTab.lt {w:World} (h:NibTab w):0<w.heap.size:=World.block_lt_of_cell? w _ (h.at 0 (by decide))
theorem FsPost.nib {w w':World} {f m:Nat} {L:List Slot} {d':Disk} (h:FsPost w f m L d' w') (hn:NibTab w) (hg: ¬ foot f m L 0):NibTab w':=by
 obtain⟨L',_,ht,_⟩:=h
 exact hn.turned ht hg hn.lt
def SgBlk (w:World) (b:Nat) (g:Sg):Prop:=w.heap[b]? =some (.cells (sgCs g) 46 (0,0))
theorem SgBlk.range {w:World} {b:Nat} {g:Sg} (h:SgBlk w b g):w.rangeAt b 0 (sgCs g).toList:=fun j u hj=>by
 unfold SgBlk at h
 simp only [World.cell?,h,Nat.zero_add]
 simpa using hj
theorem SgBlk.c0 {w:World} {b:Nat} {g:Sg} (h:SgBlk w b g):w.cell? ⟨b,0,none⟩=some (.int .i64 g.num):=h.range 0 _ rfl
set_option maxRecDepth 100000 in
set_option maxHeartbeats 4000000 in
theorem begin_any (w:World) (f m:Nat) (d:Disk) (L:List Slot) (h:FsAt w f m d L) (hs:d.steps+8<4611686018427387904) (n:List UInt8) (g:Sg) (mn:Man) (sv:Value) (hr:SgIn (fun k=> ¬ foot f m L k) w sv mn.segs) (hn:NibTab w) (hg: ¬ foot f m L 0) (hok:manOk mn=true):
  Calls Tryz.prog 60 #[.pointer (some ⟨f,0,none⟩),.string ⟨n.toArray⟩,sgV g,mnV mn sv] w (RunPost w f m L (runD d (beginOps n g mn))):=by
 have HH:=Lib.hid h
 have HST:=Lib.hid hs
 have HOK:=Lib.hid hok
 have HNG:=Lib.hid hg
 have HRI:=Lib.hid hr
 have HNB:=Lib.hid hn
 have hfw:=h.lt
 have HFW:=Lib.hid hfw
 obtain⟨oa,cap,rfl,hl1,hl2,hc⟩:=hr
 have HB0:=Lib.hid (Below.next (below_alloc w (.cells (sgCs g) 46)) (below_alloc _ (.cells (mnCs mn (.slice oa mn.segs.length cap)) 31)))
 have HMB:=Lib.hid (show MnBlk ((w.alloc (.cells (sgCs g) 46)).alloc (.cells (mnCs mn (.slice oa mn.segs.length cap)) 31)) (w.heap.size+1) mn (.slice oa mn.segs.length cap) by
  have:=mnBlk_alloc (w.alloc (.cells (sgCs g) 46)) mn (.slice oa mn.segs.length cap)
  rwa [show (w.alloc (.cells (sgCs g) 46)).heap.size=w.heap.size+1 by simp] at this)
 have HHD:=Lib.hid (header_any g.num g.first _ (hn.below HB0.out))
 clear hc hn hok h hs hg hfw
 obtain⟨er,her⟩: ∃ er,er=hdrEnc g.num g.first:=⟨_,rfl⟩
 rw [←her] at HHD
 have HER:=Lib.hid her
 clear her
 go_enter Tryz.func60,Tryz.ntmps60
 go_wp2_with fail
 refine HHD.out.mono ?_
 rintro e w1 ⟨v1,rfl,ho1,hb1⟩
 obtain⟨o1,cap1,rfl,_,_⟩:=own_shape ho1
 have HBW0:=Lib.hid (Below.next HB0.out hb1)
 have HF4:=Lib.hid (HH.out.below HBW0.out)
 have HM1:=Lib.hid (HMB.out.below hb1)
 have HBV:=Lib.hid (browIn_own (A:=fun k=>w.heap.size≤k) ho1 (fun k hk=>by simp at hk;omega))
 have HNB1:=Lib.hid (HNB.out.below HBW0.out)
 have HRI1:=Lib.hid (HRI.out.below HBW0.out)
 clear ho1 hb1 HB0 HMB HHD HNB HRI
 have HNF:=Lib.hid (fun k (hk:w.heap.size≤k)=>show ¬ foot f m L k from fun hf=>by have:=HFW.out k hf;omega)
 have HQ:=Lib.hid (fun(d':Disk) (W:World) (hp:FsPost w1 f m L d' W)=>show FsPost w f m L d' W from hp.then (Turned.below HBW0.out) (fun _ h=> .inl h))
 have HP0:=Lib.hid (FsPost.same HF4.out)
 obtain⟨d0,hd0⟩: ∃ x,x=d:=⟨_,rfl⟩
 have HRUN:=Lib.hid (show runD d (beginOps n g mn)=runD d0 ([opCreate n,opAppend n er.1,opSync n]++saveOps mn) by rw [hd0,HER.out];rfl)
 rw [←hd0] at HP0
 have HS:=Lib.hid (show d0.steps<4611686018427387904 by rw [hd0];have:=HST.out;omega)
 have HSB:=Lib.hid (show d0.steps≤4611686018427387895 by rw [hd0];have:=HST.out;omega)
 simp only [List.cons_append,List.nil_append] at HRUN
 clear hd0 HST
 obtain⟨L0,hfs0,ht0,hsub0⟩:=HP0.out
 have HCJ:=Lib.hid (create_any _ f m _ L0 hfs0 HS.out n)
 have HTJ:=Lib.hid ht0
 have HSJ:=Lib.hid hsub0
 clear hfs0 ht0 hsub0
 go_wp2_with fail
 refine HCJ.out.mono ?_
 rintro e W5 ⟨rfl,hp⟩
 have HPn:=Lib.hid (hp.then HTJ.out HSJ.out)
 clear hp HCJ
 by_cases he0:(doD d0 (opCreate n)).2.2.2=0
 case neg=>
  have tn:((doD d0 (opCreate n)).2.2.2 != 0)=true:=by simpa using he0
  have HE:=Lib.hid (show runD d (beginOps n g mn)=((doD d0 (opCreate n)).1,(doD d0 (opCreate n)).2.2.2) by rw [HRUN.out,runD_stop he0])
  have HF:=Lib.hid (HQ.out _ _ HPn.out)
  clear he0
  generalize (doD d0 (opCreate n)).2.2.2=ev at*
  go_wp2
  go_ret
  unfold RunPost
  rw [HE.out]
  exact⟨rfl,HF.out⟩
 have HRUN:=Lib.hid (show runD d (beginOps n g mn)=runD (doD d0 (opCreate n)).1 (opAppend n er.1::opSync n::saveOps mn) by rw [HRUN.out,runD_go he0])
 have HS:=Lib.hid (show (doD d0 (opCreate n)).1.steps<4611686018427387904 by have h1:=(doD_steps d0 (opCreate n)).1;have:=HSB.out;omega)
 have HSB:=Lib.hid (show (doD d0 (opCreate n)).1.steps≤4611686018427387895+1 by have h1:=(doD_steps d0 (opCreate n)).1;have:=HSB.out;omega)
 rw [he0]
 clear he0
 obtain⟨d1,hdn⟩: ∃ x,x=(doD d0 (opCreate n)).1:=⟨_,rfl⟩
 rw [←hdn] at HPn HRUN HS HSB
 clear hdn HTJ HSJ
 have HP1:=HPn
 clear HPn
 obtain⟨L1,hfs1,ht1,hsub1⟩:=HP1.out
 have HBVj:=Lib.hid (show BRowIn (fun k=> ¬ foot f m L1 k) _ (.slice o1 er.1.length cap1) er.1 from(HBV.out.low.turned ht1 (fun k hk hf=>HNF.out k hk.1 hf)).mono (fun k hk hf=>by
  rcases hsub1 k hf with h1 | h1
  ·exact HNF.out k hk.1 h1
  ·have:=hk.2;omega))
 have HCJ:=Lib.hid (append_any _ f m _ L1 hfs1 HS.out n er.1 (.slice o1 er.1.length cap1) HBVj.out)
 have HTJ:=Lib.hid ht1
 have HSJ:=Lib.hid hsub1
 clear hfs1 ht1 hsub1
 go_wp2_with fail
 refine HCJ.out.mono ?_
 rintro e W6 ⟨rfl,hp⟩
 have HPn:=Lib.hid (hp.then HTJ.out HSJ.out)
 clear hp HCJ
 by_cases he1:(doD d1 (opAppend n er.1)).2.2.2=0
 case neg=>
  have tn:((doD d1 (opAppend n er.1)).2.2.2 != 0)=true:=by simpa using he1
  have HE:=Lib.hid (show runD d (beginOps n g mn)=((doD d1 (opAppend n er.1)).1,(doD d1 (opAppend n er.1)).2.2.2) by rw [HRUN.out,runD_stop he1])
  have HF:=Lib.hid (HQ.out _ _ HPn.out)
  clear he1
  generalize (doD d1 (opAppend n er.1)).2.2.2=ev at*
  go_wp2
  go_ret
  unfold RunPost
  rw [HE.out]
  exact⟨rfl,HF.out⟩
 have HRUN:=Lib.hid (show runD d (beginOps n g mn)=runD (doD d1 (opAppend n er.1)).1 (opSync n::saveOps mn) by rw [HRUN.out,runD_go he1])
 have HS:=Lib.hid (show (doD d1 (opAppend n er.1)).1.steps<4611686018427387904 by have h1:=(doD_steps d1 (opAppend n er.1)).1;have:=HSB.out;omega)
 have HSB:=Lib.hid (show (doD d1 (opAppend n er.1)).1.steps≤4611686018427387895+2 by have h1:=(doD_steps d1 (opAppend n er.1)).1;have:=HSB.out;omega)
 rw [he1]
 clear he1
 obtain⟨d2,hdn⟩: ∃ x,x=(doD d1 (opAppend n er.1)).1:=⟨_,rfl⟩
 rw [←hdn] at HPn HRUN HS HSB
 clear hdn HTJ HSJ
 have HP2:=HPn
 clear HPn
 obtain⟨L2,hfs2,ht2,hsub2⟩:=HP2.out
 have HCJ:=Lib.hid (sync_any _ f m _ L2 hfs2 HS.out n)
 have HTJ:=Lib.hid ht2
 have HSJ:=Lib.hid hsub2
 clear hfs2 ht2 hsub2
 go_wp2_with fail
 refine HCJ.out.mono ?_
 rintro e W7 ⟨rfl,hp⟩
 have HPn:=Lib.hid (hp.then HTJ.out HSJ.out)
 clear hp HCJ
 by_cases he2:(doD d2 (opSync n)).2.2.2=0
 case neg=>
  have tn:((doD d2 (opSync n)).2.2.2 != 0)=true:=by simpa using he2
  have HE:=Lib.hid (show runD d (beginOps n g mn)=((doD d2 (opSync n)).1,(doD d2 (opSync n)).2.2.2) by rw [HRUN.out,runD_stop he2])
  have HF:=Lib.hid (HQ.out _ _ HPn.out)
  clear he2
  generalize (doD d2 (opSync n)).2.2.2=ev at*
  go_wp2
  go_ret
  unfold RunPost
  rw [HE.out]
  exact⟨rfl,HF.out⟩
 have HRUN:=Lib.hid (show runD d (beginOps n g mn)=runD (doD d2 (opSync n)).1 (saveOps mn) by rw [HRUN.out,runD_go he2])
 have HS:=Lib.hid (show (doD d2 (opSync n)).1.steps<4611686018427387904 by have h1:=(doD_steps d2 (opSync n)).1;have:=HSB.out;omega)
 have HSB:=Lib.hid (show (doD d2 (opSync n)).1.steps≤4611686018427387895+3 by have h1:=(doD_steps d2 (opSync n)).1;have:=HSB.out;omega)
 rw [he2]
 clear he2
 obtain⟨d3,hdn⟩: ∃ x,x=(doD d2 (opSync n)).1:=⟨_,rfl⟩
 rw [←hdn] at HPn HRUN HS HSB
 clear hdn HTJ HSJ
 have HP3:=HPn
 clear HPn
 have HM3:=Lib.hid (show MnBlk W7 (w.heap.size+1) mn (.slice oa mn.segs.length cap) by
  unfold MnBlk
  rw [HP3.out.block HM1.out.lt (HNF.out _ (Nat.le_succ _))]
  exact HM1.out)
 obtain⟨L3,hfs3,ht3,hsub3⟩:=HP3.out
 have HSV:=Lib.hid (save_any _ f m _ L3 hfs3 (by have:=HSB.out;omega) mn (.slice oa mn.segs.length cap) (HRI1.out.turned ht3 (fun k hk hf=>hk hf)).row (HP3.out.nib HNB1.out HNG.out) HOK.out)
 have HTJ:=Lib.hid ht3
 have HSJ:=Lib.hid hsub3
 clear hfs3 ht3 hsub3
 go_wp2_with (with_reducible refine wpList_load_mn rfl (.tmp 7) rfl (w.heap.size+1) mn (.slice oa mn.segs.length cap) rfl HM3.out ?_)
 refine HSV.out.mono ?_
 rintro e W9 ⟨rfl,hp⟩
 have HF:=Lib.hid (HQ.out _ _ (hp.then HTJ.out HSJ.out))
 clear hp
 rw [←HRUN.out]
 rw [←HRUN.out] at HF
 generalize runD d (beginOps n g mn)=rr at*
 go_wp2
 go_ret
 exact⟨rfl,HF.out⟩
end Go.Proofs.YtlobohpbgghleaaGreatDoor
namespace Go.Proofs.YtlobohpbgghleaaGreatDoor
open Go.RowKit
def StIn (A:Nat→Prop) (w:World) (v:Value) (l:List (List UInt8)):Prop:=
 ∃ oa cap,v= .slice oa l.length cap∧l.length≤cap∧cap≤9223372036854775807∧ ∀ (i:Nat) x,l[i]? =some x→ ∃ b off,oa=some ⟨b,off,none⟩∧A b∧w.cell? ⟨b,off+i,none⟩=some (.string ⟨x.toArray⟩)
theorem StIn.below {A:Nat→Prop} {w w':World} {v:Value} {l:List (List UInt8)} (h:StIn A w v l) (hb:Below w.heap.size w w'):StIn A w' v l:=by
 obtain⟨oa,cap,h1,h2,h3,h4⟩:=h
 exact⟨oa,cap,h1,h2,h3,fun i g hg=>by obtain⟨b,off,e,ha,hc⟩:=h4 i g hg;exact⟨b,off,e,ha,cell_later hb hc⟩⟩
theorem StIn.mono {A A':Nat→Prop} {w:World} {v:Value} {l:List (List UInt8)} (h:StIn A w v l) (hA: ∀ k,A k→A' k):StIn A' w v l:=by
 obtain⟨oa,cap,h1,h2,h3,h4⟩:=h
 exact⟨oa,cap,h1,h2,h3,fun i g hg=>by obtain⟨b,off,e,ha,hc⟩:=h4 i g hg;exact⟨b,off,e,hA b ha,hc⟩⟩
def PlBlk (w:World) (b:Nat) (p:Pl) (sv rv:Value):Prop:=w.heap[b]? =some (.cells (plCs p sv rv) 34 (0,0))
theorem PlBlk.lt {w:World} {b:Nat} {p:Pl} {sv rv:Value} (h:PlBlk w b p sv rv):b<w.heap.size:=(Array.getElem?_eq_some_iff.1 h).1
theorem PlBlk.cell {w:World} {b:Nat} {p:Pl} {sv rv:Value} (h:PlBlk w b p sv rv) (j:Nat):w.cell? ⟨b,j,none⟩=(plCs p sv rv)[j]? :=by unfold PlBlk at h;simp [World.cell?,h]
theorem PlBlk.kept {w w':World} {b:Nat} {p:Pl} {sv rv:Value} (h:PlBlk w b p sv rv) (hk:w'.heap[b]? =w.heap[b]?):PlBlk w' b p sv rv:=by unfold PlBlk at *;rw [hk];exact h
theorem PlBlk.below {w w':World} {b:Nat} {p:Pl} {sv rv:Value} (h:PlBlk w b p sv rv) (hb:Below w.heap.size w w'):PlBlk w' b p sv rv:=h.kept (hb.block b h.lt)
theorem PlBlk.c0 {w:World} {b:Nat} {p:Pl} {sv rv:Value} (h:PlBlk w b p sv rv):w.cell? ⟨b,0,none⟩=some (.bool p.fresh):=h.cell 0
theorem PlBlk.c6 {w:World} {b:Nat} {p:Pl} {sv rv:Value} (h:PlBlk w b p sv rv):w.cell? ⟨b,6,none⟩=some sv:=h.cell 6
theorem PlBlk.c7 {w:World} {b:Nat} {p:Pl} {sv rv:Value} (h:PlBlk w b p sv rv):w.cell? ⟨b,7,none⟩=some rv:=h.cell 7
theorem PlBlk.c8 {w:World} {b:Nat} {p:Pl} {sv rv:Value} (h:PlBlk w b p sv rv):w.cell? ⟨b,8,none⟩=some (.int .i64 p.cut):=h.cell 8
theorem PlBlk.man {w:World} {b:Nat} {p:Pl} {sv rv:Value} (h:PlBlk w b p sv rv):w.rangeAt b 1 (mnCs p.man sv).toList:=fun j u hj=>by
 rw [show (⟨b,1+j,none⟩:Addr)=⟨b,j+1,none⟩ by rw [Nat.add_comm],h.cell]
 have hl:j<6:=by have:=(List.getElem?_eq_some_iff.1 hj).1;simpa [mnCs] using this
 rcases (show j=0∨j=1∨j=2∨j=3∨j=4∨j=5 by omega) with rfl | rfl | rfl | rfl | rfl | rfl<;>simpa [mnCs,plCs] using hj
theorem plBlk_alloc (w:World) (p:Pl) (sv rv:Value):PlBlk (w.alloc (.cells (plCs p sv rv) 34)) w.heap.size p sv rv:=heap_alloc_new w _
theorem wpList_load_mnAt {ops:Array Oper} {rest:List Oper} {o:Oper} {a:Act} {w:World} {Q:Exit→Act→World→Prop} (hgd:o.guard=none) (x:Operand) (ho:o.op= .load 31 x)
  (b off:Nat) (m:Man) (sv:Value) (hx:a.eval x= .pointer (some ⟨b,off,none⟩)) (hE:w.rangeAt b off (mnCs m sv).toList)
  (h:wpList Tryz.prog ops Q rest (a.put o.dst (mnV m sv)) w):wpList Tryz.prog ops Q (o::rest) a w:=
 wpList_load_mid hgd 31 x ho b off hx (mnCs m sv).toList _ hE Tryz.underlying31 rfl mnInfo h
theorem FsPost.after {w w' w'':World} {f m:Nat} {L:List Slot} {d':Disk} (h:FsPost w f m L d' w') (hb:Below w'.heap.size w' w''):FsPost w f m L d' w'':=by
 obtain⟨L',h1,h2,h3⟩:=h
 exact⟨L',h1.below hb,h2.trans (Turned.below hb) (fun _ h=> .inl h),h3⟩
theorem runD_one (d:Disk) (o:DOp):runD d [o]=((doD d o).1,(doD d o).2.2.2):=by
 by_cases h:(doD d o).2.2.2=0
 ·rw [runD_go h,runD,h]
 ·rw [runD_stop h]
theorem drop_map_cons {l:List (List UInt8)} {k:Nat} {x:List UInt8} (h:l[k]? =some x):(l.drop k).map opRemove=opRemove x::(l.drop (k+1)).map opRemove:=by
 rw [dropF_cons h,List.map_cons]
set_option maxRecDepth 100000 in
set_option maxHeartbeats 8000000 in
theorem recApply_good (w:World) (f m:Nat) (d:Disk) (L:List Slot) (h:FsAt w f m d L) (p:Pl) (sv rv:Value) (hs:SgIn (fun k=> ¬ foot f m L k) w sv p.man.segs) (hr:StIn (fun k=> ¬ foot f m L k) w rv p.remove)
  (hn:NibTab w) (hg: ¬ foot f m L 0) (hst:d.steps+p.remove.length+16<4611686018427387904) (hok:manOk p.man=true):
  Calls Tryz.prog 26 #[.pointer (some ⟨f,0,none⟩),plV p sv rv] w (RunPost w f m L (applyD d p)):=by
 have HH:=Lib.hid h
 have HST:=Lib.hid hst
 have HOK:=Lib.hid hok
 have HNG:=Lib.hid hg
 have HNB:=Lib.hid hn
 have HFW:=Lib.hid h.lt
 have HSI:=Lib.hid hs
 obtain⟨ob,bcap,rfl,hl1,hl2,hcs⟩:=hs
 obtain⟨oa,cap,rfl,hl3,hl4,hcr⟩:=hr
 have HCR:=Lib.hid hcr
 have HAP:=Lib.hid (show applyD d p=runD d (refOps d p) by unfold applyD;rw [hok];rfl)
 have HV:=Lib.hid (manValid_any p.man (.slice ob p.man.segs.length bcap) _ (HSI.out.row.below (below_alloc w (.cells (plCs p (.slice ob p.man.segs.length bcap) (.slice oa p.remove.length cap)) 34))))
 rw [hok] at HV
 have HB0:=Lib.hid (below_alloc w (.cells (plCs p (.slice ob p.man.segs.length bcap) (.slice oa p.remove.length cap)) 34))
 have HPB:=Lib.hid (plBlk_alloc w p (.slice ob p.man.segs.length bcap) (.slice oa p.remove.length cap))
 have hlast: ∃ (j:Nat) (g:Sg),p.man.segs.length=j+1∧p.man.segs[j]? =some g∧lastSg p.man=g:=by
  obtain⟨g,h1,_,_,_,_⟩:=chain_last _ _ _ _ (manFine hok).chain
  rcases hx:p.man.segs.length with _ | j
  ·rw [List.length_eq_zero_iff.1 hx] at h1;cases h1
  ·refine⟨j,g,rfl,?_,?_⟩
   ·rw [List.getLast?_eq_getElem?,hx] at h1;simpa using h1
   ·unfold lastSg;rw [h1];rfl
 clear h hst hok hg hn hcs hcr
 go_enter Tryz.func26,Tryz.ntmps26
 go_wp2_with fail
 go_at_call 57
 refine HV.out.mono ?_
 rintro e w1 ⟨rfl,hb1⟩
 have HBW:=Lib.hid (Below.next HB0.out hb1)
 have HP1:=Lib.hid (HPB.out.below hb1)
 have HF1:=Lib.hid (HH.out.below HBW.out)
 have HSI1:=Lib.hid (HSI.out.below HBW.out)
 have HNB1:=Lib.hid (HNB.out.below HBW.out)
 have HNF:=Lib.hid (fun k (hk:w.heap.size≤k)=>show ¬ foot f m L k from fun hf=>by have:=HFW.out k hf;omega)
 have HQ:=Lib.hid (fun(d':Disk) (W:World) (hp:FsPost w1 f m L d' W)=>show FsPost w f m L d' W from hp.then (Turned.below HBW.out) (fun _ h=> .inl h))
 have r7:=HP1.out.c7
 clear hb1 HV HB0 HPB HSI HNB
 go_wp2
 go_loopw [6,7,24] (fun _ _ iv wr=> ∃ (k:Nat) (dk:Disk),k≤p.remove.length∧iv= .int .i64 k∧Hid (FsPost w1 f m L dk wr)∧Hid (runD d (remOps p)=runD dk ((p.remove.drop k).map opRemove))∧Hid (dk.steps≤d.steps+k)) (fun _ _ iv _=>p.remove.length - (intOf iv).toNat)
 case atStart=>exact⟨0,d,Nat.zero_le _,rfl,Lib.hid (FsPost.same HF1.out),Lib.hid rfl,Lib.hid (by omega)⟩
 case round=>
  clear r7
  obtain⟨k,dk,hk,rfl,HP,HRM,HSK⟩:=hrel
  by_cases hlt:k<p.remove.length
  ·obtain⟨x,hx,_,_⟩:=nth p.remove k hlt
   have q1:(k:Int)<(p.remove.length:Int):=by omega
   obtain⟨b,off,rfl,hnb,hcx⟩:=HCR.out k x hx
   have cn:wr.cell? ⟨b,off+k,none⟩=some (.string ⟨x.toArray⟩):=HP.out.cell (cell_later HBW.out hcx) hnb
   obtain⟨Lk,hfk,htk,hsk⟩:=HP.out
   have HRV:=Lib.hid (remove_any wr f m dk Lk hfk (by have:=HSK.out;have:=HST.out;omega) x)
   have HTJ:=Lib.hid htk
   have HSJ:=Lib.hid hsk
   have HDC:=Lib.hid (drop_map_cons hx)
   clear hx hnb hcx hfk htk hsk
   go_wp2_with fail
   refine HRV.out.mono ?_
   rintro e w3 ⟨rfl,hp⟩
   have HPn:=Lib.hid (hp.then HTJ.out HSJ.out)
   clear hp HRV HTJ HSJ cn
   by_cases he:(doD dk (opRemove x)).2.2.2=0
   ·have HRM:=Lib.hid (show runD d (remOps p)=runD (doD dk (opRemove x)).1 ((p.remove.drop (k+1)).map opRemove) by rw [HRM.out,HDC.out,runD_go he])
    have HSK:=Lib.hid (show (doD dk (opRemove x)).1.steps≤d.steps+(k+1:Nat) by have:=(doD_steps dk (opRemove x)).1;have:=HSK.out;omega)
    rw [he]
    clear he
    go_wp2
    go_roundw
    case rel=>exact⟨k+1,_,by omega,by go_num,HPn,HRM,HSK⟩
    case measure=>simp [intOf];omega
   ·have tn:((doD dk (opRemove x)).2.2.2 != 0)=true:=by simpa using he
    have HE:=Lib.hid (show applyD d p=((doD dk (opRemove x)).1,(doD dk (opRemove x)).2.2.2) by
     have h1:runD d (remOps p)=((doD dk (opRemove x)).1,(doD dk (opRemove x)).2.2.2):=by rw [HRM.out,HDC.out,runD_stop he]
     rw [HAP.out,refOps_run,if_neg (by rw [h1];exact he),h1])
    have HF:=Lib.hid (HQ.out _ _ HPn.out)
    clear he
    generalize (doD dk (opRemove x)).2.2.2=ev at*
    go_wp2
    go_ret
    unfold RunPost
    rw [HE.out]
    exact⟨rfl,HF.out⟩
  ·obtain rfl:k=p.remove.length:=by omega
   have HRUN0:=Lib.hid (show applyD d p=runD dk (tailOps dk p) by
    have h1:runD d (remOps p)=(dk,0):=by rw [HRM.out,List.drop_of_length_le (Nat.le_refl _)];rfl
    rw [HAP.out,refOps_run,h1];rfl)
   have HSD:=Lib.hid (show dk.steps+16<4611686018427387904 by have:=HSK.out;have:=HST.out;omega)
   clear HRM HSK
   obtain⟨j,g,hjl,hjg,hlg⟩:=hlast
   have HLG:=Lib.hid hlg
   have HPB:=Lib.hid (HP1.out.kept (HP.out.block HP1.out.lt (HNF.out _ (Nat.le_refl _))))
   have hw1:IntKind.i64.wrap ((p.man.segs.length:Int) - 1)=(j:Int):=by rw [IntKind.wrap_i64];omega
   have q1:(j:Int)<(p.man.segs.length:Int):=by omega
   obtain⟨oa',cap',e1,_,_,hcs⟩:=HSI1.out
   simp only [Value.slice.injEq] at e1
   obtain⟨rfl,_,rfl⟩:=e1
   obtain⟨b,off,rfl,hnb,hrg⟩:=hcs j g hjg
   have HRG:=Lib.hid (show wr.rangeAt b (off+j*4) (sgCs g).toList from fun i u hi=>HP.out.cell (hrg i u hi) hnb)
   have r6:=HPB.out.c6
   clear hjg hlg hcs hnb hrg hjl
   go_wp2_with (with_reducible refine wpList_load_sg rfl (.tmp 43) rfl b (off+j*4) g rfl HRG.out ?_)
   have HB5:=Lib.hid (below_alloc wr (.cells (sgCs g) 46))
   have HS5:=Lib.hid (show SgBlk (wr.alloc (.cells (sgCs g) 46)) wr.heap.size g from heap_alloc_new wr _)
   refine(Segment_any g.num _).mono ?_
   rintro e w5 ⟨rfl,hb5⟩
   have HP5:=Lib.hid ((HP.out.after HB5.out).after hb5)
   have HPB5:=Lib.hid ((HPB.out.below HB5.out).below hb5)
   have HSB5:=Lib.hid (show SgBlk w5 wr.heap.size g by unfold SgBlk;rw [hb5.block _ (Array.getElem?_eq_some_iff.1 HS5.out).1];exact HS5.out)
   have r0:=HPB5.out.c0
   have HSN:=Lib.hid (show segN p.man=segName g.num by unfold segN;rw [HLG.out])
   obtain⟨n,hnn⟩: ∃ n,n=segName g.num:=⟨_,rfl⟩
   have HNN:=Lib.hid hnn
   rw [←hnn]
   clear hb5 r6 hw1 HB5 HS5 HP hnn
   obtain⟨L5,hf5,ht5,hs5⟩:=HP5.out
   have HF5:=Lib.hid hf5
   have HT5:=Lib.hid ht5
   have HS5:=Lib.hid hs5
   have HQ5:=Lib.hid (fun(d':Disk) (W:World) (hp:FsPost w5 f m L5 d' W)=>show FsPost w f m L d' W from HQ.out _ _ (hp.then HT5.out HS5.out))
   have HNG5:=Lib.hid (show ¬ foot f m L5 0 from fun hf=>by
    rcases HS5.out _ hf with h1 | h1
    ·exact HNG.out h1
    ·have:=HNB1.out.lt;omega)
   have HNB5:=Lib.hid (HP5.out.nib HNB1.out HNG.out)
   have HSI5:=Lib.hid (show SgIn (fun k=> ¬ foot f m L5 k) w5 (.slice (some ⟨b,off,none⟩) p.man.segs.length bcap) p.man.segs from(HSI1.out.low.turned HT5.out (fun k hk hf=>hk.1 hf)).mono (fun k hk hf=>by
    rcases HS5.out k hf with h1 | h1
    ·exact hk.1 h1
    ·have:=hk.2;omega))
   clear hf5 ht5 hs5
   rcases hfr:p.fresh with _ | _
   case true=>
    have HRUN:=Lib.hid (show applyD d p=runD dk (beginOps n g p.man) by rw [HRUN0.out];unfold tailOps;rw [hfr,HSN.out,HLG.out,HNN.out];rfl)
    rw [hfr] at r0
    have HBG:=Lib.hid (begin_any w5 f m dk L5 HF5.out (by have:=HSD.out;omega) n g p.man (.slice (some ⟨b,off,none⟩) p.man.segs.length bcap) HSI5.out HNB5.out HNG5.out HOK.out)
    have HSR:=Lib.hid HSB5.out.range
    have HMR:=Lib.hid HPB5.out.man
    clear hfr
    go_wp2_with (first | (with_reducible refine wpList_load_sg rfl (.tmp 8) rfl wr.heap.size 0 g rfl HSR.out ?_) | (with_reducible refine wpList_load_mnAt rfl (.tmp 53) rfl w.heap.size 1 p.man (.slice (some ⟨b,off,none⟩) p.man.segs.length bcap) rfl HMR.out ?_))
    refine HBG.out.mono ?_
    rintro e w6 ⟨rfl,hp⟩
    have HF:=Lib.hid (HQ5.out _ _ hp)
    clear hp
    rw [←HRUN.out]
    rw [←HRUN.out] at HF
    generalize applyD d p=rr at*
    go_wp2
    go_ret
    exact⟨rfl,HF.out⟩
   rw [hfr] at r0
   have HRUNS:=Lib.hid (show applyD d p=runD dk (opSize n::(cutOps n p.cut (atF dk.files n)++[opSync n])) by rw [HRUN0.out];unfold tailOps;rw [hfr,HSN.out,HNN.out];rfl)
   have HSZ:=Lib.hid (size_any w5 f m dk L5 HF5.out n)
   have r8:=HPB5.out.c8
   clear hfr
   by_cases hop:openE dk n=0
   case neg=>
    have hE1:doD dk (opSize n)=(dk,[],0,openE dk n):=by rw [doD_size,if_pos hop]
    have HE:=Lib.hid (show applyD d p=(dk,openE dk n) by rw [HRUNS.out,runD_stop (by rw [hE1];exact hop),hE1])
    rw [hE1] at HSZ
    have tn:(openE dk n != 0)=true:=by simpa using hop
    have HF:=Lib.hid (HQ5.out _ _ (FsPost.same HF5.out))
    clear hop hE1
    generalize openE dk n=ev at*
    go_wp2_with fail
    refine HSZ.out.mono ?_
    rintro e w6 ⟨rfl,rfl⟩
    go_wp2
    go_ret
    unfold RunPost
    rw [HE.out]
    exact⟨rfl,HF.out⟩
   obtain⟨_,_,x,hax⟩:=openE_zero hop
   have hE1:doD dk (opSize n)=(dk,[],(x.data.length:Int),0):=by rw [doD_size,if_neg (by simpa using hop),hax]
   have HRUNT:=Lib.hid (show applyD d p=runD dk (cutOps n p.cut (some x)++[opSync n]) by rw [HRUNS.out,runD_go (by rw [hE1]),hE1,hax])
   rw [hE1] at HSZ
   clear hop hE1 hax
   go_wp2_with fail
   refine HSZ.out.mono ?_
   rintro e w6 ⟨rfl,rfl⟩
   have HP0:=Lib.hid (FsPost.same HF5.out)
   have HQ:=HQ5
   have HS:=Lib.hid (show dk.steps<4611686018427387904 by have:=HSD.out;omega)
   have HSB:=Lib.hid (show dk.steps≤4611686018427387887 by have:=HSD.out;omega)
   obtain⟨d0,hd0⟩: ∃ y,y=dk:=⟨_,rfl⟩
   rw [←hd0] at HP0 HS HSB HRUNT
   clear hd0 HSZ HQ5 HRUNS HRUN0
   rcases hcut:decide (p.cut<(x.data.length:Int)) with _ | _
   case true=>
    have HRUN:=Lib.hid (show applyD d p=runD d0 (opCut n p.cut::[opSync n]) by rw [HRUNT.out];show runD d0 ((if p.cut<(x.data.length:Int) then [opCut n p.cut] else [])++[opSync n])=_;rw [if_pos (by simpa using hcut)];rfl)
    obtain⟨L0,hfs0,ht0,hsub0⟩:=HP0.out
    have HCJ:=Lib.hid (cut_any _ f m _ L0 hfs0 HS.out n p.cut)
    have HTJ:=Lib.hid ht0
    have HSJ:=Lib.hid hsub0
    clear hfs0 ht0 hsub0
    go_wp2_with fail
    refine HCJ.out.mono ?_
    rintro e W5 ⟨rfl,hp⟩
    have HPn:=Lib.hid (hp.then HTJ.out HSJ.out)
    clear hp HCJ
    by_cases he0:(doD d0 (opCut n p.cut)).2.2.2=0
    case neg=>
     have tn:((doD d0 (opCut n p.cut)).2.2.2 != 0)=true:=by simpa using he0
     have HE:=Lib.hid (show applyD d p=((doD d0 (opCut n p.cut)).1,(doD d0 (opCut n p.cut)).2.2.2) by rw [HRUN.out,runD_stop he0])
     have HF:=Lib.hid (HQ.out _ _ HPn.out)
     clear he0
     generalize (doD d0 (opCut n p.cut)).2.2.2=ev at*
     go_wp2
     go_ret
     unfold RunPost
     rw [HE.out]
     exact⟨rfl,HF.out⟩
    have HRUN:=Lib.hid (show applyD d p=runD (doD d0 (opCut n p.cut)).1 ([opSync n]) by rw [HRUN.out,runD_go he0])
    have HS:=Lib.hid (show (doD d0 (opCut n p.cut)).1.steps<4611686018427387904 by have h1:=(doD_steps d0 (opCut n p.cut)).1;have:=HSB.out;omega)
    have HSB:=Lib.hid (show (doD d0 (opCut n p.cut)).1.steps≤4611686018427387887+1 by have h1:=(doD_steps d0 (opCut n p.cut)).1;have:=HSB.out;omega)
    rw [he0]
    clear he0
    obtain⟨d1,hdn⟩: ∃ x,x=(doD d0 (opCut n p.cut)).1:=⟨_,rfl⟩
    rw [←hdn] at HPn HRUN HS HSB
    clear hdn HTJ HSJ
    have HP1:=HPn
    clear HPn
    obtain⟨L8,hfs,ht,hsub⟩:=HP1.out
    have HCJ:=Lib.hid (sync_any _ f m _ L8 hfs HS.out n)
    have HTJ:=Lib.hid ht
    have HSJ:=Lib.hid hsub
    clear hfs ht hsub
    go_wp2_with fail
    refine HCJ.out.mono ?_
    rintro e W9 ⟨rfl,hp⟩
    have HF:=Lib.hid (HQ.out _ _ (hp.then HTJ.out HSJ.out))
    have HE:=Lib.hid (show applyD d p=((doD d1 (opSync n)).1,(doD d1 (opSync n)).2.2.2) by rw [HRUN.out,runD_one])
    clear hp HCJ
    generalize (doD d1 (opSync n)).2.2.2=ev at*
    go_wp2
    go_ret
    unfold RunPost
    rw [HE.out]
    exact⟨rfl,HF.out⟩
   have HRUN:=Lib.hid (show applyD d p=runD d0 [opSync n] by rw [HRUNT.out];show runD d0 ((if p.cut<(x.data.length:Int) then [opCut n p.cut] else [])++[opSync n])=_;rw [if_neg (by simpa using hcut)];rfl)
   obtain⟨L8,hfs,ht,hsub⟩:=HP0.out
   have HCJ:=Lib.hid (sync_any _ f m _ L8 hfs HS.out n)
   have HTJ:=Lib.hid ht
   have HSJ:=Lib.hid hsub
   clear hfs ht hsub
   go_wp2_with fail
   refine HCJ.out.mono ?_
   rintro e W9 ⟨rfl,hp⟩
   have HF:=Lib.hid (HQ.out _ _ (hp.then HTJ.out HSJ.out))
   have HE:=Lib.hid (show applyD d p=((doD d0 (opSync n)).1,(doD d0 (opSync n)).2.2.2) by rw [HRUN.out,runD_one])
   clear hp HCJ
   generalize (doD d0 (opSync n)).2.2.2=ev at*
   go_wp2
   go_ret
   unfold RunPost
   rw [HE.out]
   exact⟨rfl,HF.out⟩
end Go.Proofs.YtlobohpbgghleaaGreatDoor

namespace Go.Proofs.YtlobohpbgghleaaGreatDoor
open Go.RowKit
theorem six_drop (n:Int) (k:Nat) (hk:k<6):(six n).drop (5 - k)=UInt8.ofNat (48+n / 10^k % 10).toNat::(six n).drop (6 - k):=by
 have:k=0∨k=1∨k=2∨k=3∨k=4∨k=5:=by omega
 rcases this with rfl | rfl | rfl | rfl | rfl | rfl<;>simp [six,dgt]
set_option maxHeartbeats 400000 in
theorem refSix_any (n:Int) (w:World) (h1:1≤n) (h2:n≤999999):
  Calls Tryz.prog 47 #[.int .i64 n] w fun e w'=>e= .returned (.string ⟨(six n).toArray⟩)∧Below w.heap.size w w':=by
 go_enter Tryz.func47,Tryz.ntmps47
 go_wp2
 go_loopw [0,3,4] (fun nv sv iv wr=> ∃ k:Nat,k≤6∧iv= .int .i64 k∧nv= .int .i64 (n / 10^k)∧sv= .string ⟨((six n).drop (6 - k)).toArray⟩∧Below w.heap.size w wr) (fun _ _ iv _=>(6 - intOf iv).toNat)
 case atStart=>exact⟨0,by omega,rfl,by simp,rfl,Below.refl _ _⟩
 case round=>
  obtain⟨k,hk,rfl,rfl,rfl,hb⟩:=hrel
  have hn0:0≤n / 10^k:=Int.ediv_nonneg (by omega) (pow10_pos k)
  have hn1:n / 10^k≤999999:=Int.le_trans (Int.ediv_le_self _ (by omega)) h2
  by_cases hk6:k<6
  ·have hl:((six n).drop (6 - k)).length=k:=by simp [six];omega
   have hcv:=conv_one wr (48+n / 10^k % 10)
   go_wp2
   go_roundw
   case rel=>exact⟨k+1,by omega,by go_num,by rw [Int.pow_succ,←Int.ediv_ediv_of_nonneg (pow10_pos k)],by rw [show 6 - (k+1)=5 - k by omega,six_drop n k hk6,ba_append];rfl,hb.alloc hb.size _⟩
   case measure=>simp [intOf];omega
  ·obtain rfl:k=6:=by omega
   go_wp2
   go_ret
   exact⟨rfl,hb⟩
theorem refSegment_any (n:Int) (w:World):
  Calls Tryz.prog 20 #[.int .i64 n] w fun e w'=>e= .returned (.string ⟨(segName n).toArray⟩)∧Below w.heap.size w w':=by
 by_cases h:1≤n∧n≤999999
 ·rw [segName,if_pos h]
  have hl:(six n).length=6:=rfl
  go_enter Tryz.func20,Tryz.ntmps20
  go_wp2_with (go_at_call 47;refine(refSix_any n _ h.1 h.2).mono ?_;rintro e w' ⟨rfl,hb⟩)
  go_ret
  exact⟨ret_str (ba_append _ _),hb⟩
 ·rw [segName,if_neg h]
  by_cases h':n<1
  ·go_enter Tryz.func20,Tryz.ntmps20
   go_wp2
   go_ret
   exact⟨rfl,Below.refl _ _⟩
  ·have h2:999999<n:=by omega
   go_enter Tryz.func20,Tryz.ntmps20
   go_wp2
   go_ret
   exact⟨rfl,Below.refl _ _⟩
end Go.Proofs.YtlobohpbgghleaaGreatDoor

namespace Go.Proofs.YtlobohpbgghleaaGreatDoor
open Go.RowKit
theorem SgBlk.c1 {w:World} {b:Nat} {g:Sg} (h:SgBlk w b g):w.cell? ⟨b,1,none⟩=some (.int .i64 g.first):=h.range 1 _ rfl
end Go.Proofs.YtlobohpbgghleaaGreatDoor
namespace Go.Proofs.YtlobohpbgghleaaGreatDoor
open Go.RowKit
section
variable {w W W' : World} {p : Pl} {sv rv : Value} {dk d' : Disk} {vk fv' : Value}
end
theorem plInfo:(Tryz.prog.info? 34).map (·.size)=some 10:=by kernel_rfl
theorem wpList_load_pl {ops:Array Oper} {rest:List Oper} {o:Oper} {a:Act} {w:World} {Q:Exit→Act→World→Prop} (hgd:o.guard=none) (x:Operand) (ho:o.op= .load 34 x)
  (g:Nat) (p:Pl) (sv rv:Value) (hx:a.eval x= .pointer (some ⟨g,0,none⟩)) (hE:PlBlk w g p sv rv)
  (h:wpList Tryz.prog ops Q rest (a.put o.dst (plV p sv rv)) w):wpList Tryz.prog ops Q (o::rest) a w:=
 wpList_load_row hgd 34 x ho g hx 34 (plCs p sv rv) (0,0) _ hE Tryz.underlying34 rfl plInfo h
end Go.Proofs.YtlobohpbgghleaaGreatDoor

namespace Go.Proofs.YtlobohpbgghleaaGreatDoor
open Go.RowKit
theorem take_succ_of {α:Type} {l:List α} {k:Nat} {x:α} (h:l[k]? =some x):l.take (k+1)=l.take k++[x]:=by
 obtain⟨h1,h2⟩:=List.getElem?_eq_some_iff.1 h
 rw [List.take_succ_eq_append_getElem h1,h2]
set_option maxRecDepth 100000 in
set_option maxHeartbeats 2000000 in
theorem refCopyF_any {A:Nat→Prop} (fs:List Fil) (fv:Value) (w:World) (hf:FilesIn A w fv fs) (hn:fs.length≤2932031007401) (hl: ∀ f∈fs,f.data.length≤140737488355328):
  Calls Tryz.prog 11 #[fv] w fun e w'=> ∃ v,e= .returned v∧FilesIn (fun k=>w.heap.size≤k) w' v fs∧Below w.heap.size w w':=by
 obtain⟨oa,cap,rfl,hl1,hl2,hcc⟩:=hf.shape
 have HCC:=Lib.hid hcc
 have HL:=Lib.hid hl
 have HO0:=Lib.hid (show OwnG (w.alloc (.cells #[] 49)) w.heap.size (.slice (some ⟨w.heap.size,0,none⟩) 0 0) [] from ownD_fresh w w.heap.size (Nat.le_refl _))
 have HB0:=Lib.hid (below_alloc w (.cells #[] 49))
 clear hcc hf hl
 go_enter Tryz.func11,Tryz.ntmps11
 go_wp2
 go_loopw [3,4,8] (fun v _ iv wr=> ∃ (k:Nat) (ps:List (Fil×Value)),k≤fs.length∧iv= .int .i64 k∧ps.length=k∧OwnG wr w.heap.size v ps∧Hid (ps.map (·.1)=fs.take k)∧Below w.heap.size w wr) (fun _ _ iv _=>fs.length - (intOf iv).toNat)
 case atStart=>exact⟨0,[],Nat.zero_le _,rfl,rfl,HO0.out,Lib.hid rfl,HB0.out⟩
 case round=>
  clear HO0 HB0
  obtain⟨k,ps,hk,rfl,hpl,hown,HP,hb⟩:=hrel
  have HO:=Lib.hid hown
  have HB:=Lib.hid hb
  clear hown hb
  by_cases hlt:k<fs.length
  ·obtain⟨f,hf,_,hfm⟩:=nth fs k hlt
   have q1:(k:Int)<(fs.length:Int):=by omega
   obtain⟨b,off,rfl,_,dv,hr,hdv⟩:=HCC.out k f hf
   have HSL:=Lib.hid (fun W (hW:Below w.heap.size w W)=>show W.rangeAt b (off+k*3) (flCs f dv).toList∧BRow W dv f.data from⟨range_later hr hW,(hdv.below hW).brow⟩)
   have HLEN:=Lib.hid (HL.out f hfm)
   have HTK:=Lib.hid (take_succ_of hf)
   clear hf hfm hr hdv
   go_wp2_with fail
   refine wp_region_held_drew (S:=fun w'=>Below w.heap.size w w') (by kernel_rfl) (Below.next HB.out (show Below wr.heap.size wr wr.drew from below_drewN' wr 1)) (fun hHeld=> ?_)
   have FX1:=Lib.hid (fun(wF:World) (hSw:(fun w'=>Below w.heap.size w w') wF)=>And.intro ((show wF.cell? ⟨b,off+k*3,none⟩=some (.string ⟨f.name.toArray⟩) from(HSL.out _ hSw).1 0 _ rfl)) (And.intro (((HSL.out _ hSw).1 1 _ rfl)) (((HSL.out _ hSw).1 2 _ rfl))))
   refine tf FX1 0 rfl ?_
   refine tf FX1 1 rfl ?_
   refine tf FX1 2 rfl ?_
   refine tf FX1 3 rfl ?_
   refine tf FX1 4 rfl ?_
   refine tf FX1 5 rfl ?_
   refine tf FX1 6 rfl ?_
   refine tf FX1 7 rfl ?_
   refine tf FX1 8 rfl ?_
   refine tf FX1 9 rfl ?_
   refine tf FX1 10 rfl ?_
   refine tf FX1 12 rfl ?_
   refine tf FX1 13 rfl ?_
   refine tf FX1 14 rfl ?_
   refine tf FX1 15 rfl ?_
   refine tf FX1 16 rfl ?_
   clear FX1
   have HOd:=Lib.hid (HO.out.later (show Below wr.heap.size wr wr.drew from below_drewN' wr 1))
   have HBd:=Lib.hid (Below.next HB.out (show Below wr.heap.size wr wr.drew from below_drewN' wr 1))
   clear HO HB
   generalize World.drew _=Wd at*
   refine wpAnyH_ready (rs:=[11]) (by kernel_rfl) (by simp) ?_
   refine AllReadyH.cons rfl (fun K hK=> ?_) AllReadyH.nil
   go_simp
   go_at_call 37
   refine(copyBytes_any f.data dv _ (HSL.out _ hHeld).2 HLEN.out).mono ?_
   rintro e w2 ⟨v2,rfl,ho2,hb2⟩
   have HD2:=Lib.hid (datAt_own ho2)
   obtain⟨o2,cap2,rfl,_,_⟩:=own_shape ho2
   have HO2:=Lib.hid (HOd.out.later hb2)
   have HB2:=Lib.hid (Below.next HBd.out hb2)
   have HGE:=Lib.hid HBd.out.size
   clear ho2 hb2 hHeld HOd HBd
   go_wp2_with fail
   refine hK.out _ _ HB2.out (fun hHeld=> ?_)
   clear hK K
   refine tq 17 rfl ?_
   refine wpAnyH_ready (rs:=[18]) (by kernel_rfl) (by simp) ?_
   refine AllReadyH.cons rfl (fun K hK=> ?_) AllReadyH.nil
   go_simp
   refine hK.out _ _ (Below.next HB2.out (below_alloc w2 _)) (fun hHeld=> ?_)
   clear hK K
   have hB2:w.heap.size≤w2.heap.size:=HB2.out.size
   refine wpAnyH_ready (rs:=[19]) (by kernel_rfl) (by simp) ?_
   refine AllReadyH.cons rfl (fun K hK=> ?_) AllReadyH.nil
   rw [if_pos (by kernel_rfl)]
   refine wp_appG (f:=f) (dv:= .slice o2 f.data.length cap2) (.tmp 11) (.tmp 29) rfl rfl rfl HO2.out hB2 HD2.out.1 (fun g' hg'=>Nat.le_trans HGE.out (HD2.out.2 g' hg')) (by omega) ?_
   intro v3 w3 h3 h4 h5
   have HO3:=Lib.hid h3
   have HB3:=Lib.hid (HB2.out.trans h4)
   clear h3 h4 h5 hB2
   refine hK.out _ _ HB3.out (fun hHeld=> ?_)
   clear hK K
   refine tk 20 rfl ?v_2 ?hy_2 ?r_2
   case hy_2=>intro w hSw;go_simp;try with_reducible rfl
   simp only [pA]
   refine wpAnyH_done (by kernel_rfl) ?_ _
   go_wp2
   go_roundw
   case rel=>exact⟨k+1,ps++[(f,.slice o2 f.data.length cap2)],by omega,by go_num,by simp;omega,HO3.out,Lib.hid (by rw [List.map_append,HP.out,HTK.out];rfl),HB3.out⟩
   case measure=>simp [intOf];omega
  ·obtain rfl:k=fs.length:=by omega
   have HE:=Lib.hid (show ps.map (·.1)=fs by rw [HP.out,List.take_length])
   have HF:=Lib.hid (HO.out.files (A:=fun k=>w.heap.size≤k) (fun k hk=>hk))
   go_wp2
   go_ret
   exact⟨_,rfl,by rw [←HE.out];exact HF.out,HB.out⟩
set_option maxRecDepth 100000 in
set_option maxHeartbeats 2000000 in
theorem refSameF_any {A A':Nat→Prop} (fs:List Fil) (v1 v2:Value) (w:World) (h1:FilesIn A w v1 fs) (h2:FilesIn A' w v2 fs) (hl: ∀ f∈fs,f.data.length≤140737488355328):
  Calls Tryz.prog 18 #[v1,v2] w fun e w'=>e= .returned (.bool true)∧Below w.heap.size w w':=by
 obtain⟨oa,cap,rfl,hl1,hl2,hcc⟩:=h1.shape
 obtain⟨ob,cap',rfl,hl3,hl4,hcd⟩:=h2.shape
 have HCC:=Lib.hid hcc
 have HCD:=Lib.hid hcd
 have HL:=Lib.hid hl
 clear hcc hcd h1 h2 hl
 go_enter Tryz.func18,Tryz.ntmps18
 go_wp2
 go_loopw [5,13] (fun _ iv wr=> ∃ (k:Nat),k≤fs.length∧iv= .int .i64 k∧Below w.heap.size w wr) (fun _ iv _=>fs.length - (intOf iv).toNat)
 case atStart=>exact⟨0,Nat.zero_le _,rfl,Below.refl _ _⟩
 case round=>
  obtain⟨k,hk,rfl,hb⟩:=hrel
  have HB:=Lib.hid hb
  clear hb
  by_cases hlt:k<fs.length
  ·obtain⟨f,hf,_,hfm⟩:=nth fs k hlt
   have q1:(k:Int)<(fs.length:Int):=by omega
   obtain⟨b,off,rfl,_,dv,hr,hdv⟩:=HCC.out k f hf
   obtain⟨b',off',rfl,_,dv',hr',hdv'⟩:=HCD.out k f hf
   have HSL:=Lib.hid (fun W (hW:Below w.heap.size w W)=>show W.rangeAt b (off+k*3) (flCs f dv).toList∧BRow W dv f.data from⟨range_later hr hW,(hdv.below hW).brow⟩)
   have HSM:=Lib.hid (fun W (hW:Below w.heap.size w W)=>show W.rangeAt b' (off'+k*3) (flCs f dv').toList∧BRow W dv' f.data from⟨range_later hr' hW,(hdv'.below hW).brow⟩)
   have HLEN:=Lib.hid (Nat.le_trans (HL.out f hfm) (by decide:140737488355328≤9223372036854775807))
   have t1:(f.name != f.name)=false:=by simp
   have t2:(f.safe != f.safe)=false:=by simp
   clear hf hfm hr hdv hr' hdv'
   go_wp2_with fail
   refine wp_region_held_drew (S:=fun w'=>Below w.heap.size w w') (by kernel_rfl) (Below.next HB.out (show Below wr.heap.size wr wr.drew from below_drewN' wr 1)) (fun hHeld=> ?_)
   have FX3:=Lib.hid (fun(wF:World) (hSw:(fun w'=>Below w.heap.size w w') wF)=>And.intro ((show wF.cell? ⟨b,off+k*3,none⟩=some (.string ⟨f.name.toArray⟩) from(HSL.out _ hSw).1 0 _ rfl)) (And.intro (((HSL.out _ hSw).1 1 _ rfl)) (And.intro (((HSL.out _ hSw).1 2 _ rfl)) (And.intro ((show wF.cell? ⟨b',off'+k*3,none⟩=some (.string ⟨f.name.toArray⟩) from(HSM.out _ hSw).1 0 _ rfl)) (And.intro (((HSM.out _ hSw).1 1 _ rfl)) (((HSM.out _ hSw).1 2 _ rfl)))))))
   refine tf FX3 0 rfl ?_
   refine tf FX3 1 rfl ?_
   refine tf FX3 2 rfl ?_
   refine tf FX3 3 rfl ?_
   refine tf FX3 4 rfl ?_
   refine tf FX3 5 rfl ?_
   refine tf FX3 6 rfl ?_
   refine tf FX3 7 rfl ?_
   refine tf FX3 8 rfl ?_
   refine tf FX3 9 rfl ?_
   refine tf FX3 10 rfl ?_
   refine tf FX3 11 rfl ?_
   refine tf FX3 12 rfl ?_
   refine tf FX3 13 rfl ?_
   refine tf FX3 14 rfl ?_
   refine tf FX3 15 rfl ?_
   refine tf FX3 16 rfl ?_
   refine tf FX3 17 rfl ?_
   refine tf FX3 18 rfl ?_
   refine tf FX3 19 rfl ?_
   refine tf FX3 20 rfl ?_
   refine tf FX3 21 rfl ?_
   refine tf FX3 22 rfl ?_
   refine tf FX3 23 rfl ?_
   refine tf FX3 24 rfl ?_
   refine tf FX3 25 rfl ?_
   refine tf FX3 26 rfl ?_
   refine tf FX3 27 rfl ?_
   refine tf FX3 28 rfl ?_
   refine tf FX3 29 rfl ?_
   refine tf FX3 30 rfl ?_
   refine tf FX3 31 rfl ?_
   refine tf FX3 32 rfl ?_
   refine tf FX3 33 rfl ?_
   refine tf FX3 34 rfl ?_
   clear FX3
   generalize World.drew _=Wd at*
   refine wpAnyH_ready (rs:=[35]) (by kernel_rfl) (by simp) ?_
   refine AllReadyH.cons rfl (fun K hK=> ?_) AllReadyH.nil
   go_simp
   go_at_call 46
   refine(sameBytes_any f.data dv dv' _ (HSL.out _ hHeld).2 (HSM.out _ hHeld).2 HLEN.out).mono ?_
   rintro e w2 ⟨rfl,hb2⟩
   have HB2:=Lib.hid (Below.next hHeld hb2)
   clear hb2 hHeld
   go_wp2_with fail
   refine hK.out _ _ HB2.out (fun hHeld=> ?_)
   clear hK K
   refine tq 36 rfl ?_
   refine tq 37 rfl ?_
   refine wpAnyH_done (by kernel_rfl) ?_ _
   go_wp2
   go_roundw
   case rel=>exact⟨k+1,by omega,by go_num,HB2.out⟩
   case measure=>simp [intOf];omega
  ·obtain rfl:k=fs.length:=by omega
   go_wp2
   go_ret
   exact⟨rfl,HB.out⟩
end Go.Proofs.YtlobohpbgghleaaGreatDoor
namespace Go.Proofs.YtlobohpbgghleaaGreatDoor
open Go.RowKit
theorem wpList_store_fl {ops:Array Oper} {rest:List Oper} {o:Oper} {a:Act} {w:World} {Q:Exit→Act→World→Prop} (hgd:o.guard=none) (x y:Operand) (ho:o.op= .store 49 x y)
  (g:Nat) (f f':Fil) (dv dv':Value) (hx:a.eval x= .pointer (some ⟨g,0,none⟩)) (hy:a.eval y=flV f' dv') (hE:FlBlk w g f dv) (h1:dv'.oneCell'=true)
  (h: ∀ W,Hid (W=w.setRow g (flCs f' dv'))→wpList Tryz.prog ops Q rest (a.put o.dst undef) W):wpList Tryz.prog ops Q (o::rest) a w:=
 wpList_store_row hgd 49 x y ho g (flCs f' dv') hx hy 49 (flCs f dv) hE flInfo rfl (flCs_all f' dv' h1) (h _ (Lib.hid rfl))
theorem FlBlk.row {w:World} {g:Nat} {f f':Fil} {dv dv':Value} (h:FlBlk w g f dv):FlBlk (w.setRow g (flCs f' dv')) g f' dv':=setRow_heap w g _ _ _ _ h
section
variable {w : World} {room : Int} {fs : List Fil} {gd k : Nat} {dc : Disk} {vc : Value} {wr W : World}
end
end Go.Proofs.YtlobohpbgghleaaGreatDoor

namespace Go.Proofs.YtlobohpbgghleaaGreatDoor
open Go.RowKit
theorem wp_fsPut {o:Oper} {a:Act} {K:Act→World→Prop} {Q:Exit→Act→World→Prop} {w:World} {f m:Nat} {L:List Slot} {s:Slot} (x y z:Operand) (hop:o.op=Op.mapUpdate 77 x y z)
  (hx:a.eval x= .map (some m)) (hy:a.eval y= .string ⟨s.fil.name.toArray⟩) (hz:a.eval z= .pointer (some ⟨s.blk,0,none⟩)) (hB:Body w f m L) (hn:s.fil.name.length≤1000) (hL:L.length≤1000000) (hs:SlotAt w s)
  (h1:s.blk≠f∧s.blk≠m∧datBlk s.sl≠some f∧datBlk s.sl≠some m∧datBlk s.sl≠some s.blk) (h2: ∀ t∈takeS s.fil.name L,Far s t)
  (hK: ∀ w',Body w' f m (putS s (takeS s.fil.name L))→w.grownBy w' (some m)→K (a.put o.dst undef) w'):o.wp Tryz.prog a w K Q:=by
 obtain⟨w',hrun,h3,h4⟩:=hB.put hn hL hs h1 h2
 unfold Oper.wp
 simp [execOp,hop,hx,hy,hz,hrun,Result.andThen]
 exact hK w' h3 h4
def FsMountPost (w:World) (r:Disk×Int) (e:Ending) (w':World):Prop:=
 ((r.2≠0∧e= .returned (.tuple #[.pointer none,.int .i64 r.2]))∨
  (r.2=0∧ ∃ f m L,e= .returned (.tuple #[.pointer (some ⟨f,0,none⟩),.int .i64 0])∧FsAt w' f m r.1 L∧ ∀ k,foot f m L k→w.heap.size≤k))∧Below w.heap.size w w'
structure FmW (w:World) (room:Int) (fs:List Fil) (f m k:Nat) (dc:Disk) (L:List Slot) (wr:World):Prop where
 at_:FsAt wr f m dc L
 low: ∀ k,foot f m L k→w.heap.size≤k
 below:Below w.heap.size w wr
 run:mountGo (newD room) fs=mountGo dc (fs.drop k)
 cnt:dc.files.length≤k
theorem FmW.next {w wr W:World} {room:Int} {fs:List Fil} {f m k:Nat} {dc:Disk} {L:List Slot} (h:FmW w room fs f m k dc L wr) (hb:Below wr.heap.size wr W):FmW w room fs f m k dc L W:=
 ⟨h.at_.below hb,h.low,Below.next h.below hb,h.run,h.cnt⟩
set_option maxRecDepth 100000 in
set_option maxHeartbeats 8000000 in
theorem fsMount_any {A:Nat→Prop} (room:Int) (fs:List Fil) (fv:Value) (w:World) (hf:FilesIn A w fv fs) (hl: ∀ f∈fs,f.data.length≤140737488355328):
  Calls Tryz.prog 10 #[.int .i64 room,fv] w (FsMountPost w (mountD room fs)):=by
 obtain⟨oa,cap,rfl,hl1,hl2,hcc⟩:=hf.shape
 have HCC:=Lib.hid hcc
 have HL:=Lib.hid hl
 clear hcc hf hl
 go_enter Tryz.func10,Tryz.ntmps10
 go_wp2_with fail
 refine(fsNew_any room w).mono ?_
 rintro e w1 ⟨f,m,rfl,hat,hf1,hm1,hb1⟩
 have HM:=Lib.hid (show FmW w room fs f m 0 (newD room) [] w1 from⟨hat,fun k hk=>by
  rcases hk with rfl | rfl | ⟨s,hs,_⟩
  ·exact hf1
  ·exact hm1
  ·exact absurd hs List.not_mem_nil,hb1,rfl,Nat.zero_le _⟩)
 clear hat hf1 hm1 hb1
 rcases h7:decide ((700:Int)<(fs.length:Int)) with _ | _
 case true=>
  have HE:=Lib.hid (show mountD room fs=(zeroD,53) by unfold mountD;rw [if_pos (by have:=of_decide_eq_true h7;omega)])
  go_wp2
  go_ret2
  unfold FsMountPost
  rw [HE.out]
  exact⟨.inl ⟨by decide,rfl⟩,HM.out.below⟩
 have HMD:=Lib.hid (show mountD room fs=mountGo (newD room) fs by unfold mountD;rw [if_neg (by have:=of_decide_eq_false h7;omega)])
 have hn7:fs.length≤700:=by have:=of_decide_eq_false h7;omega
 go_wp2
 go_loopw [8,16] (fun _ iv wr=> ∃ (k:Nat) (dc:Disk) (L:List Slot),k≤fs.length∧iv= .int .i64 k∧Hid (FmW w room fs f m k dc L wr)) (fun _ iv _=>fs.length - (intOf iv).toNat)
 case atStart=>exact⟨0,newD room,[],Nat.zero_le _,rfl,HM⟩
 case round=>
  clear HM h7
  obtain⟨k,dc,L,hk,rfl,HM⟩:=hrel
  by_cases hlt:k<fs.length
  ·obtain⟨x,hx,_,hxm⟩:=nth fs k hlt
   have q1:(k:Int)<(fs.length:Int):=by omega
   obtain⟨b,off,rfl,_,dv,hr,hdv⟩:=HCC.out k x hx
   have HFK:=Lib.hid hx
   have HR:=Lib.hid (range_later hr HM.out.below)
   have HDV:=Lib.hid (fun W (hW:Below w.heap.size w W)=>(hdv.below hW).brow)
   obtain⟨ao,dcap,rfl,hdl,hdc⟩:=hdv
   have HFZ:=Lib.hid (flBlk_alloc wr ⟨[],[],0⟩ (.slice none 0 0))
   simp only [flCs] at HFZ
   have HL1:=Lib.hid (HL.out x hxm)
   clear hx hxm hr hdc hdl
   go_wp2_with (first | (with_reducible refine wpList_load_fl rfl (.tmp 18) rfl b (off+k*3) x (.slice ao x.data.length dcap) rfl HR.out ?_) | (with_reducible refine wpList_store_fl rfl (.tmp 8) (.tmp 19) rfl wr.heap.size ⟨[],[],0⟩ x (.slice none 0 0) (.slice ao x.data.length dcap) rfl rfl HFZ.out rfl ?_))
   intro wf hwf
   have HFB:=Lib.hid (show FlBlk wf wr.heap.size x (.slice ao x.data.length dcap) by rw [hwf.out];exact HFZ.out.row)
   have HMF:=Lib.hid (show FmW w room fs f m k dc L wf by
    rw [hwf.out]
    exact HM.out.next (below_row ((Below.refl _ _).alloc (Nat.le_refl _) _) (Nat.le_refl _) _))
   have hgf: ¬ foot f m L wr.heap.size:=fun hc=>by have:=HM.out.at_.lt _ hc;omega
   have HGF:=Lib.hid hgf
   clear hwf HFZ HR HM hgf
   generalize wr.heap.size=gx at*
   have HM:=HMF
   clear HMF
   have n0:=HFB.out.c0
   have n1:=HFB.out.c1
   have n2:=HFB.out.c2
   have c0:=HM.out.at_.hd.c0
   have c1:wf.cell? ⟨f,1,none⟩=some (.int .i64 dc.room):=HM.out.at_.hd.c1
   have c2:wf.cell? ⟨f,2,none⟩=some (.int .i64 (usedF dc.files:Int)):=HM.out.at_.hd.c2
   have HRT:=Lib.hid (fun W=>Right_any x.name W)
   rcases hrn:rightName x.name with _ | _
   ·rw [hrn] at HRT
    have HE:=Lib.hid (show mountD room fs=(zeroD,50) by
     have he:mountE dc x=50:=by unfold mountE;rw [hrn];rfl
     rw [HMD.out,HM.out.run,mountGo_at HFK.out,if_neg (by rw [he];decide),he])
    clear hrn n1 n2 c0 c1 c2
    go_wp2_with (go_at_call 35;refine(HRT.out _).mono ?_;rintro e w3 ⟨rfl,rfl⟩)
    go_ret2
    unfold FsMountPost
    rw [HE.out]
    exact⟨.inl ⟨by decide,rfl⟩,HM.out.below⟩
   rw [hrn] at HRT
   have HRN:=Lib.hid hrn
   have HXL:=Lib.hid (right_len hrn)
   clear hrn
   rcases hsl:slotAt L x.name with _ | s
   case some=>
    have HE:=Lib.hid (show mountD room fs=(zeroD,52) by
     have hat:atF dc.files x.name=some s.fil:=by rw [←HM.out.at_.fil,fils_at,hsl];rfl
     have he:mountE dc x=52:=by unfold mountE;rw [HRN.out,hat];rfl
     rw [HMD.out,HM.out.run,mountGo_at HFK.out,if_neg (by rw [he];decide),he])
    have HLK:=Lib.hid (fun W (hB:Body W f m L)=>show (Instr.lookup 77 (.map (some m)) (.string ⟨x.name.toArray⟩) false).run Tryz.prog W= .ok (.pointer (some ⟨s.blk,0,none⟩)) W by
     have:=hB.look (n:=x.name) HXL.out;rw [hsl] at this;exact this)
    clear hsl
    go_wp2_with (go_at_call 35;refine(HRT.out _).mono ?_;rintro e w3 ⟨rfl,rfl⟩)
    have HMd:=Lib.hid (HM.out.next (show Below wf.heap.size wf wf.drew from below_drewN' wf 1))
    have HFd:=Lib.hid (HFB.out.below (show Below wf.heap.size wf wf.drew from below_drewN' wf 1))
    refine wp_region_held_drew (S:=fun w'=>HdAt w' f m (hdOf dc)∧FlBlk w' gx x (.slice ao x.data.length dcap)∧Body w' f m L) (by kernel_rfl) ⟨HMd.out.at_.hd,HFd.out,HMd.out.at_.body⟩ (fun hHeld=> ?_)
    clear n0 n1 n2 c0 c1 c2
    have FX1:=Lib.hid (fun(wF:World) (hSw:(fun w'=>HdAt w' f m (hdOf dc)∧FlBlk w' gx x (.slice ao x.data.length dcap)∧Body w' f m L) wF)=>And.intro ((hSw.1.c0)) (And.intro ((hSw.2.1.c0)) ((HLK.out _ hSw.2.2))))
    refine tf FX1 0 rfl ?_
    refine tf FX1 1 rfl ?_
    refine tf FX1 2 rfl ?_
    refine tf FX1 3 rfl ?_
    refine tf FX1 4 rfl ?_
    refine tf FX1 5 rfl ?_
    refine tf FX1 6 rfl ?_
    refine tf FX1 7 rfl ?_
    refine tf FX1 8 rfl ?_
    clear FX1
    refine wpAnyH_done (by kernel_rfl) ?_ _
    have HM:=HMd
    have HFB:=HFd
    clear HMd HFd HRT HLK
    generalize World.drew _=w3 at*
    go_wp2
    go_ret2
    unfold FsMountPost
    rw [HE.out]
    exact⟨.inl ⟨by decide,rfl⟩,HM.out.below⟩
   have HLK:=Lib.hid (fun W (hB:Body W f m L)=>show (Instr.lookup 77 (.map (some m)) (.string ⟨x.name.toArray⟩) false).run Tryz.prog W= .ok (.pointer none) W by
    have:=hB.look (n:=x.name) HXL.out;rw [hsl] at this;exact this)
   have HAT:=Lib.hid (show atF dc.files x.name=none by rw [←HM.out.at_.fil,fils_at,hsl];rfl)
   have HTS:=Lib.hid (show takeS x.name L=L by
    unfold takeS
    rw [List.filter_eq_self]
    intro y hy
    have:=List.find?_eq_none.1 hsl y hy
    simpa using this)
   clear hsl
   go_wp2_with (go_at_call 35;refine(HRT.out _).mono ?_;rintro e w3 ⟨rfl,rfl⟩)
   have HMd:=Lib.hid (HM.out.next (show Below wf.heap.size wf wf.drew from below_drewN' wf 1))
   have HFd:=Lib.hid (HFB.out.below (show Below wf.heap.size wf wf.drew from below_drewN' wf 1))
   refine wp_region_held_drew (S:=fun w'=>HdAt w' f m (hdOf dc)∧FlBlk w' gx x (.slice ao x.data.length dcap)∧Body w' f m L) (by kernel_rfl) ⟨HMd.out.at_.hd,HFd.out,HMd.out.at_.body⟩ (fun hHeld=> ?_)
   clear n0 n1 n2 c0 c1 c2
   have FX2:=Lib.hid (fun(wF:World) (hSw:(fun w'=>HdAt w' f m (hdOf dc)∧FlBlk w' gx x (.slice ao x.data.length dcap)∧Body w' f m L) wF)=>And.intro ((hSw.1.c0)) (And.intro ((hSw.2.1.c0)) ((HLK.out _ hSw.2.2))))
   refine tf FX2 0 rfl ?_
   refine tf FX2 1 rfl ?_
   refine tf FX2 2 rfl ?_
   refine tf FX2 3 rfl ?_
   refine tf FX2 4 rfl ?_
   refine tf FX2 5 rfl ?_
   refine tf FX2 6 rfl ?_
   refine tf FX2 7 rfl ?_
   refine tf FX2 8 rfl ?_
   clear FX2
   refine wpAnyH_done (by kernel_rfl) ?_ _
   have HM:=HMd
   have HFB:=HFd
   clear HMd HFd HRT HLK
   generalize World.drew _=w3 at*
   have n2:=HFB.out.c2
   have n1:=HFB.out.c1
   rcases hs0:decide (x.safe<0) with _ | _
   case true=>
    have HE:=Lib.hid (show mountD room fs=(zeroD,1) by
     have he:mountE dc x=1:=by unfold mountE;rw [HRN.out,HAT.out,hs0];rfl
     rw [HMD.out,HM.out.run,mountGo_at HFK.out,if_neg (by rw [he];decide),he])
    go_wp2
    go_ret2
    unfold FsMountPost
    rw [HE.out]
    exact⟨.inl ⟨by decide,rfl⟩,HM.out.below⟩
   rcases hs1:decide ((x.data.length:Int)<x.safe) with _ | _
   case true=>
    have HE:=Lib.hid (show mountD room fs=(zeroD,1) by
     have he:mountE dc x=1:=by unfold mountE;rw [HRN.out,HAT.out,hs0,hs1];rfl
     rw [HMD.out,HM.out.run,mountGo_at HFK.out,if_neg (by rw [he];decide),he])
    go_wp2
    go_ret2
    unfold FsMountPost
    rw [HE.out]
    exact⟨.inl ⟨by decide,rfl⟩,HM.out.below⟩
   have hus:=HM.out.at_.ok.used
   have hrm:=HM.out.at_.ok.room
   have hw:IntKind.i64.wrap (dc.room - (usedF dc.files:Int))=dc.room - (usedF dc.files:Int):=by rw [IntKind.wrap_i64];omega
   have c1:w3.cell? ⟨f,1,none⟩=some (.int .i64 dc.room):=HM.out.at_.hd.c1
   have c2:w3.cell? ⟨f,2,none⟩=some (.int .i64 (usedF dc.files:Int)):=HM.out.at_.hd.c2
   have HN:=Lib.hid (fun n=>HFB.out.below (below_drewN' w3 n))
   have HMN:=Lib.hid (fun n=>HM.out.next (below_drewN' w3 n))
   rcases hfull:decide (dc.room - (usedF dc.files:Int)<(x.data.length:Int)) with _ | _
   case true=>
    have HE:=Lib.hid (show mountD room fs=(zeroD,54) by
     have he:mountE dc x=54:=by
      unfold mountE;rw [HRN.out,HAT.out,hs0,hs1,hfull];rfl
     rw [HMD.out,HM.out.run,mountGo_at HFK.out,if_neg (by rw [he];decide),he])
    clear hus hrm
    go_wp2_with fail
    go_quiet (fail)
    go_wp2
    go_ret2
    unfold FsMountPost
    rw [HE.out]
    exact⟨.inl ⟨by decide,rfl⟩,(HMN.out _).below⟩
   have HE0:=Lib.hid (show mountE dc x=0 by
    unfold mountE;rw [HRN.out,HAT.out,hs0,hs1,hfull];rfl)
   have HUP:=Lib.hid (show (usedF (layF dc x).files:Int)=(usedF dc.files:Int)+(x.data.length:Int) by simp only [layF,usedF_put];omega)
   have HW:=Lib.hid (show IntKind.i64.wrap ((usedF dc.files:Int)+(x.data.length:Int))=(usedF dc.files:Int)+(x.data.length:Int) by have:=HL1.out;rw [IntKind.wrap_i64];omega)
   go_wp2_with fail
   go_quiet (fail)
   have HFB:=Lib.hid (HN.out nq)
   have HM:=Lib.hid (HMN.out nq)
   clear HN HMN n1 n2 c1 c2 hus hrm hw hfull hs0 hs1
   generalize w3.drewN nq=w4 at*
   have HMd:=Lib.hid (HM.out.next (show Below w4.heap.size w4 w4.drew from below_drewN' w4 1))
   have HFd:=Lib.hid (HFB.out.below (show Below w4.heap.size w4 w4.drew from below_drewN' w4 1))
   go_wp2_with fail
   refine wp_region_held_drew (S:=fun w'=>HdAt w' f m (hdOf dc)∧FlBlk w' gx x (.slice ao x.data.length dcap)) (by kernel_rfl) ⟨HMd.out.at_.hd,HFd.out⟩ (fun hHeld=> ?_)
   clear HM HFB
   have FX3:=Lib.hid (fun(wF:World) (hSw:(fun w'=>HdAt w' f m (hdOf dc)∧FlBlk w' gx x (.slice ao x.data.length dcap)) wF)=>And.intro ((hSw.1.c0)) (And.intro ((hSw.2.c0)) (And.intro ((hSw.2.c1)) ((hSw.2.c2)))))
   refine tf FX3 0 rfl ?_
   refine tf FX3 1 rfl ?_
   refine tf FX3 2 rfl ?_
   refine tf FX3 3 rfl ?_
   refine tf FX3 4 rfl ?_
   refine tf FX3 5 rfl ?_
   refine tf FX3 6 rfl ?_
   refine tf FX3 7 rfl ?_
   refine tf FX3 9 rfl ?_
   refine tf FX3 10 rfl ?_
   clear FX3
   generalize World.drew _=Wd at*
   refine wpAnyH_ready (rs:=[8]) (by kernel_rfl) (by simp) ?_
   refine AllReadyH.cons rfl (fun K hK=> ?_) AllReadyH.nil
   go_simp
   go_at_call 36
   refine(clone_any x.data (.slice ao x.data.length dcap) _ (HDV.out _ HMd.out.below) (Nat.le_trans HL1.out (by decide))).mono ?_
   rintro e w5 ⟨v5,rfl,ho5,hb5⟩
   have HD5:=Lib.hid (datAt_own ho5)
   obtain⟨o5,cap5,rfl,_,_⟩:=own_shape ho5
   have HM5:=Lib.hid (HMd.out.next hb5)
   have HF5:=Lib.hid (HFd.out.below hb5)
   have HOLD:=Lib.hid (fun k (hk:foot f m L k)=>HMd.out.at_.lt k hk)
   have HWL:=Lib.hid (HMd.out.below.size)
   clear ho5 hb5 HMd HFd hHeld
   go_wp2_with fail
   refine hK.out _ _ ⟨HM5.out.at_.hd,HF5.out⟩ (fun hHeld=> ?_)
   clear hK K
   refine tq 11 rfl ?_
   have HM6:=Lib.hid (HM5.out.next (below_alloc w5 (.cells #[.slice o5 x.data.length cap5,.int .i64 x.safe] 82)))
   have HF6:=Lib.hid (HF5.out.below (below_alloc w5 (.cells #[.slice o5 x.data.length cap5,.int .i64 x.safe] 82)))
   have HX:=Lib.hid (show SlotAt (w5.alloc (.cells #[.slice o5 x.data.length cap5,.int .i64 x.safe] 82)) ⟨x,w5.heap.size,.slice o5 x.data.length cap5⟩ from⟨heap_alloc_new w5 _,HD5.out.1.later (below_alloc w5 _)⟩)
   have HL5:=Lib.hid (fun k (hk:foot f m L k)=>HM5.out.at_.lt k hk)
   have HG5:=Lib.hid (fun g (hg:datBlk (.slice o5 x.data.length cap5)=some g)=>HD5.out.1.lt hg)
   refine wpAnyH_ready (rs:=[12]) (by kernel_rfl) (by simp) ?_
   refine AllReadyH.cons rfl (fun K hK=> ?_) AllReadyH.nil
   go_simp
   refine hK.out _ _ ⟨HM6.out.at_.hd,HF6.out⟩ (fun hHeld=> ?_)
   clear hK K hHeld
   have hL7:L.length≤1000000:=by
    have h1:=HM6.out.at_.fil
    have h2:=HM6.out.at_.ok.count
    rw [←h1] at h2
    have:(fils L).length=L.length:=by simp [fils]
    omega
   have HNE:=Lib.hid (show w5.heap.size≠f∧w5.heap.size≠m∧datBlk (.slice o5 x.data.length cap5)≠some f∧datBlk (.slice o5 x.data.length cap5)≠some m∧datBlk (.slice o5 x.data.length cap5)≠some w5.heap.size from
    ⟨fun e=>by have:=HL5.out f (.inl rfl);omega,fun e=>by have:=HL5.out m (.inr (.inl rfl));omega,fun e=>by have:=HD5.out.2 f e;have:=HOLD.out f (.inl rfl);omega,
     fun e=>by have:=HD5.out.2 m e;have:=HOLD.out m (.inr (.inl rfl));omega,fun e=>by have:=HG5.out _ e;omega⟩)
   have HFAR:=Lib.hid (show ∀ t∈takeS x.name L,Far ⟨x,w5.heap.size,.slice o5 x.data.length cap5⟩ t from fun t ht'=>by
    have ht:=(List.mem_filter.1 ht').1
    have hb:=HOLD.out t.blk (.inr (.inr ⟨t,ht,.inl rfl⟩))
    have hb5:=HL5.out t.blk (.inr (.inr ⟨t,ht,.inl rfl⟩))
    refine⟨fun e=> ?_,fun e=> ?_,fun e=> ?_,fun g hg hg'=> ?_⟩
    ·simp only at e;omega
    ·have:=HD5.out.2 t.blk e;omega
    ·have:=HL5.out _ (.inr (.inr ⟨t,ht,.inr e⟩));simp only at this;omega
    ·have h1:=HD5.out.2 g hg
     have h2:=HOLD.out g (.inr (.inr ⟨t,ht,.inr hg'⟩))
     omega)
   refine wpAnyH_ready (rs:=[13]) (by kernel_rfl) (by simp) ?_
   refine AllReadyH.cons rfl (fun K hK=> ?_) AllReadyH.nil
   rw [if_pos (by kernel_rfl)]
   refine wp_fsPut (s:=⟨x,w5.heap.size,.slice o5 x.data.length cap5⟩) (.tmp 63) (.tmp 65) (.tmp 72) rfl rfl rfl rfl HM6.out.at_.body HXL.out hL7 HX.out HNE.out HFAR.out ?_
   intro w7 hb7 hg7
   have HB7:=Lib.hid (show Body w7 f m (putS ⟨x,w5.heap.size,.slice o5 x.data.length cap5⟩ L) by have:=hb7;rw [HTS.out] at this;exact this)
   have hfm:=HM6.out.at_.body.apart.1
   have HH7:=Lib.hid (HM6.out.at_.hd.kept (hg7.block f HM6.out.at_.hd.lt (by simpa using hfm)))
   have HF7:=Lib.hid (show FlBlk w7 gx x (.slice ao x.data.length dcap) by
    unfold FlBlk
    rw [hg7.block gx (Array.getElem?_eq_some_iff.1 HF6.out).1 (by simpa using fun e=>HGF.out (.inr (.inl e)))]
    exact HF6.out)
   have HBW7:=Lib.hid (show Below w.heap.size w w7 from HM6.out.below.grown hg7 HM6.out.below.size (fun j hj=>by cases hj;exact HM6.out.low m (.inr (.inl rfl))))
   clear hb7 hg7 hfm
   refine hK.out _ _ ⟨HH7.out,HF7.out⟩ (fun hHeld=> ?_)
   clear hK K hHeld
   refine wpAnyH_done (by kernel_rfl) ?_ _
   have c2:w7.cell? ⟨f,2,none⟩=some (.int .i64 (usedF dc.files:Int)):=HH7.out.c2
   have f2:=HH7.out.free 2
   have n1:=HF7.out.c1
   have hw:=HW.out
   go_wp2_with fail
   go_still_tail 10,(by kernel_rfl)
   have HBd:=Lib.hid (show Below w7.heap.size w7 w7.drew from below_drewN' w7 1)
   have c2':w7.drew.cell? ⟨f,2,none⟩=some (.int .i64 (usedF dc.files:Int)):=c2
   refine wpList_store_cellV rfl 3 (.tmp 82) (.tmp 80) rfl f 2 (.int .i64 ((usedF dc.files:Int)+(x.data.length:Int))) (.int .i64 (usedF dc.files:Int)) (by kernel_rfl) rfl rfl rfl c2' f2 ?_
   intro w8 hw8
   have hk7:k<700:=by omega
   have HM8:=Lib.hid (show FmW w room fs f m (k+1) (layF dc x) (putS ⟨x,w5.heap.size,.slice o5 x.data.length cap5⟩ L) w8 by
    rw [hw8.out]
    have hcnt:=HM6.out.cnt
    refine⟨⟨?_,(HB7.out.below HH7.out.lt HBd.out).setHd 2 _,by rw [fils_put,HM6.out.at_.fil];rfl,layF_ok HM6.out.at_.ok HE0.out (by omega)⟩,fun q hq=> ?_,(Below.next HBW7.out HBd.out).setCell (p:=⟨f,2,none⟩) (HM6.out.low f (.inl rfl)) _,?_,by simp only [layF,putF_length];omega⟩
    ·have e:hdOf (layF dc x)={hdOf dc with used:=(usedF dc.files:Int)+(x.data.length:Int)}:=by
      unfold hdOf
      rw [HUP.out]
      rfl
     rw [e]
     exact(HH7.out.below HBd.out).set 2 _ rfl
    ·rcases foot_put q hq with h1 | h1 | h1
     ·exact HM6.out.low q h1
     ·rw [h1];exact HM5.out.below.size
     ·exact Nat.le_trans HWL.out (HD5.out.2 q h1)
    ·rw [HM6.out.run,mountGo_at HFK.out,if_pos HE0.out])
   clear hw8 c2 c2' f2 n1 hw
   go_wp2
   go_roundw
   case rel=>exact⟨k+1,layF dc x,_,by omega,by go_num,HM8⟩
   case measure=>simp [intOf];omega
  ·obtain rfl:k=fs.length:=by omega
   have HE:=Lib.hid (show mountD room fs=(dc,0) by rw [HMD.out,HM.out.run,List.drop_of_length_le (Nat.le_refl _)];rfl)
   go_wp2
   go_ret2
   unfold FsMountPost
   rw [HE.out]
   exact⟨.inr ⟨rfl,f,m,L,rfl,HM.out.at_,HM.out.low⟩,HM.out.below⟩
end Go.Proofs.YtlobohpbgghleaaGreatDoor

namespace Go.Proofs.YtlobohpbgghleaaGreatDoor
open Go.RowKit
def firstM:Man:=⟨1,2,0,0,0,[⟨1,1,0,0⟩]⟩
def zeroM:Man:=⟨0,0,0,0,0,[]⟩
def planF:Pl:=⟨true,firstM,[],22,0⟩
def planZ:Pl:=⟨false,zeroM,[],0,0⟩
theorem firstM_ok:manOk firstM=true:=by decide
theorem encV_one {n:Nat} (h:n<128):(encV n).length=1:=by rw [encV,dif_pos h];rfl
theorem first_len:(hdrEnc 1 1).1.length=22∧(encMan firstM).1.length=29:=by
 refine⟨?_,?_⟩
 ·rw [hdrEnc_ok (by decide) (by decide) (by decide) (by decide)]
  simp only [frameOf_length,List.length_append]
  rw [encV_one (by decide)]
 ·rw [encMan_ok firstM_ok]
  simp only [frameOf_length]
  show (encV 8++(encV 2++(encV 0++(encV 0++(encV 0++(encV 1++(encV 1++(encV 0++(encV 0++[]))))))))).length+20=29
  simp only [List.length_append,encV_one (show 8<128 by decide),encV_one (show 2<128 by decide),encV_one (show 1<128 by decide),encV_one (show 0<128 by decide),List.length_nil]
theorem mnCs_all (m:Man) (v:Value) (h:v.oneCell'=true):(mnCs m v).all (·.oneCell')=true:=
 Array.all_eq_true_iff_forall_mem.2 (by
  intro u hu
  simp only [mnCs,List.mem_toArray,List.mem_cons,List.not_mem_nil,or_false] at hu
  rcases hu with rfl | rfl | rfl | rfl | rfl | rfl<;>first | rfl | assumption)
theorem MnBlk.row {w:World} {g:Nat} {m m':Man} {sv sv':Value} (h:MnBlk w g m sv):MnBlk (w.setRow g (mnCs m' sv')) g m' sv':=setRow_heap w g _ _ _ _ h
theorem wpList_store_mn {ops:Array Oper} {rest:List Oper} {o:Oper} {a:Act} {w:World} {Q:Exit→Act→World→Prop} (hgd:o.guard=none) (x y:Operand) (ho:o.op= .store 31 x y)
  (g:Nat) (m m':Man) (sv sv':Value) (hx:a.eval x= .pointer (some ⟨g,0,none⟩)) (hy:a.eval y=mnV m' sv') (hE:MnBlk w g m sv) (h1:sv'.oneCell'=true)
  (h: ∀ W,Hid (W=w.setRow g (mnCs m' sv'))→wpList Tryz.prog ops Q rest (a.put o.dst undef) W):wpList Tryz.prog ops Q (o::rest) a w:=
 wpList_store_row hgd 31 x y ho g (mnCs m' sv') hx hy 31 (mnCs m sv) hE mnInfo rfl (mnCs_all m' sv' h1) (h _ (Lib.hid rfl))
theorem plCs_all (p:Pl) (v v':Value) (h:v.oneCell'=true) (h':v'.oneCell'=true):(plCs p v v').all (·.oneCell')=true:=
 Array.all_eq_true_iff_forall_mem.2 (by
  intro u hu
  simp only [plCs,List.mem_toArray,List.mem_cons,List.not_mem_nil,or_false] at hu
  rcases hu with rfl | rfl | rfl | rfl | rfl | rfl | rfl | rfl | rfl | rfl<;>first | rfl | assumption)
theorem PlBlk.row {w:World} {g:Nat} {p p':Pl} {sv rv sv' rv':Value} (h:PlBlk w g p sv rv):PlBlk (w.setRow g (plCs p' sv' rv')) g p' sv' rv':=setRow_heap w g _ _ _ _ h
theorem wpList_store_pl {ops:Array Oper} {rest:List Oper} {o:Oper} {a:Act} {w:World} {Q:Exit→Act→World→Prop} (hgd:o.guard=none) (x y:Operand) (ho:o.op= .store 34 x y)
  (g:Nat) (p p':Pl) (sv rv sv' rv':Value) (hx:a.eval x= .pointer (some ⟨g,0,none⟩)) (hy:a.eval y=plV p' sv' rv') (hE:PlBlk w g p sv rv) (h1:sv'.oneCell'=true) (h2:rv'.oneCell'=true)
  (h: ∀ W,Hid (W=w.setRow g (plCs p' sv' rv'))→wpList Tryz.prog ops Q rest (a.put o.dst undef) W):wpList Tryz.prog ops Q (o::rest) a w:=
 wpList_store_row hgd 34 x y ho g (plCs p' sv' rv') hx hy 34 (plCs p sv rv) hE plInfo rfl (plCs_all p' sv' rv' h1 h2) (h _ (Lib.hid rfl))
theorem run_load_mn {w:World} {g:Nat} {m:Man} {sv:Value} (hE:MnBlk w g m sv):(loadVar 31 ⟨g,0,none⟩).run Tryz.prog w= .ok (mnV m sv) w:=
 run_loadVar_row (P:=Tryz.prog) w g 31 31 (mnCs m sv) (0,0) _ hE Tryz.underlying31 rfl mnInfo
theorem run_load_pl {w:World} {g:Nat} {p:Pl} {sv rv:Value} (hE:PlBlk w g p sv rv):(loadVar 34 ⟨g,0,none⟩).run Tryz.prog w= .ok (plV p sv rv) w:=
 run_loadVar_row (P:=Tryz.prog) w g 34 34 (plCs p sv rv) (0,0) _ hE Tryz.underlying34 rfl plInfo
theorem results_mn1 {fn:Func} {p:Tmp} (h:fn.results= #[.cell p 31]) (tmps:Array Value) (w:World) (g:Nat) (m:Man) (sv:Value)
  (hp:tmps.getD p undef= .pointer (some ⟨g,0,none⟩)) (hE:MnBlk w g m sv):(results fn tmps).run Tryz.prog w= .ok (mnV m sv) w:=by
 have hl:=run_load_mn hE
 have hp':tmps[p]?.getD undef= .pointer (some ⟨g,0,none⟩):=by simpa using hp
 simp [results,h,hp',asAddr,hl]
theorem results_mn3 {fn:Func} {p q r:Tmp} (h:fn.results= #[.cell p 31,.tmp q,.tmp r]) (tmps:Array Value) (w:World) (g:Nat) (m:Man) (sv x y:Value)
  (hp:tmps.getD p undef= .pointer (some ⟨g,0,none⟩)) (hq:tmps.getD q undef=x) (hr:tmps.getD r undef=y) (hE:MnBlk w g m sv):(results fn tmps).run Tryz.prog w= .ok (.tuple #[mnV m sv,x,y]) w:=by
 have hl:=run_load_mn hE
 have hp':tmps[p]?.getD undef= .pointer (some ⟨g,0,none⟩):=by simpa using hp
 have hq':tmps[q]?.getD undef=x:=by simpa using hq
 have hr':tmps[r]?.getD undef=y:=by simpa using hr
 simp [results,h,hp',hq',hr',asAddr,hl]
theorem results_pl2 {fn:Func} {p q:Tmp} (h:fn.results= #[.cell p 34,.tmp q]) (tmps:Array Value) (w:World) (g:Nat) (P:Pl) (sv rv x:Value)
  (hp:tmps.getD p undef= .pointer (some ⟨g,0,none⟩)) (hq:tmps.getD q undef=x) (hE:PlBlk w g P sv rv):(results fn tmps).run Tryz.prog w= .ok (.tuple #[plV P sv rv,x]) w:=by
 have hl:=run_load_pl hE
 have hp':tmps[p]?.getD undef= .pointer (some ⟨g,0,none⟩):=by simpa using hp
 have hq':tmps[q]?.getD undef=x:=by simpa using hq
 simp [results,h,hp',hq',asAddr,hl]
set_option maxRecDepth 100000 in
theorem first_any (w:World):Calls Tryz.prog 30 #[] w fun e w'=> ∃ sv,e= .returned (mnV firstM sv)∧SgIn (fun k=>w.heap.size≤k) w' sv firstM.segs∧sv.oneCell'=true∧Below w.heap.size w w':=by
 have HM:=Lib.hid ((mnBlk_alloc w firstM (.slice (some ⟨w.heap.size+1,0,none⟩) 1 1)).below (below_alloc _ (.cells (sgCs ⟨1,1,0,0⟩) 46)))
 have HB:=Lib.hid (Below.next (below_alloc w (.cells (mnCs firstM (.slice (some ⟨w.heap.size+1,0,none⟩) 1 1)) 31)) (below_alloc _ (.cells (sgCs ⟨1,1,0,0⟩) 46)))
 have HS:=Lib.hid (show SgIn (fun k=>w.heap.size≤k) ((w.alloc (.cells (mnCs firstM (.slice (some ⟨w.heap.size+1,0,none⟩) 1 1)) 31)).alloc (.cells (sgCs ⟨1,1,0,0⟩) 46)) (.slice (some ⟨w.heap.size+1,0,none⟩) 1 1) firstM.segs from
  ⟨_,1,rfl,Nat.le_refl _,by decide,fun i g hg=>⟨w.heap.size+1,0,rfl,Nat.le_succ _,fun j u hj=>by
   match i,hg with
   | 0,hg=>
    simp [firstM] at hg
    subst hg
    have:=World.cell?_alloc_new (w.alloc (.cells (mnCs firstM (.slice (some ⟨w.heap.size+1,0,none⟩) 1 1)) 31)) (sgCs ⟨1,1,0,0⟩) 46 j
    rw [show (w.alloc (.cells (mnCs firstM (.slice (some ⟨w.heap.size+1,0,none⟩) 1 1)) 31)).heap.size=w.heap.size+1 by simp] at this
    rw [Nat.zero_mul,Nat.add_zero,Nat.zero_add,this]
    simpa using hj⟩⟩)
 go_enter Tryz.func30,Tryz.ntmps30
 go_wp2
 exact bodyPost_ret (v:=mnV firstM (.slice (some ⟨w.heap.size+1,0,none⟩) 1 1)) (results_mn1 rfl _ _ w.heap.size firstM (.slice (some ⟨w.heap.size+1,0,none⟩) 1 1) rfl HM.out) rfl ⟨_,rfl,HS.out,rfl,HB.out⟩
theorem manSize_any (m:Man) (sv:Value) (w:World) (hr:SgRow w sv m.segs) (hn:NibTab w):Calls Tryz.prog 77 #[mnV m sv] w fun e w'=>e= .returned (.int .i64 ((encMan m).1.length:Int))∧Below w.heap.size w w':=by
 have HB0:=Lib.hid (below_alloc w (.cells (mnCs m sv) 31))
 have HE:=Lib.hid (manEncode_any m sv _ (hr.below HB0.out) (hn.below HB0.out))
 have HM:=Lib.hid (mnBlk_alloc w m sv)
 simp only [mnCs] at HM HE
 clear hr hn
 obtain⟨en,hen⟩: ∃ y,y=encMan m:=⟨_,rfl⟩
 rw [←hen] at HE
 rw [←hen]
 clear hen
 go_enter Tryz.func77,Tryz.ntmps77
 go_wp2_with (with_reducible refine wpList_load_mn rfl (.tmp 1) rfl w.heap.size m sv rfl HM.out ?_)
 refine HE.out.mono ?_
 rintro e w1 ⟨v1,rfl,ho1,hb1⟩
 obtain⟨o1,cap1,rfl,_,_⟩:=own_shape ho1
 have HB:=Lib.hid (Below.next HB0.out hb1)
 clear ho1 hb1 HE HM
 go_wp2
 go_ret
 exact⟨rfl,HB.out⟩
theorem list_empty (w:World) (f m:Nat) (d:Disk) (h:FsAt w f m d []) (hdn:d.down=false):Calls Tryz.prog 78 #[.pointer (some ⟨f,0,none⟩)] w fun e w'=>(∃ oa cap,e= .returned (.slice oa 0 cap))∧Below w.heap.size w w':=by
 have HN:=Lib.hid (fsNames_any w f m d [] h (by decide))
 have c6:w.cell? ⟨f,6,none⟩=some (.bool false):=by rw [h.hd.c6];show some (Value.bool d.down)=_;rw [hdn]
 clear h hdn
 go_enter Tryz.func78,Tryz.ntmps78
 go_wp2_with fail
 refine HN.out.mono ?_
 rintro e w1 ⟨v1,rfl,hrow,hb1⟩
 obtain⟨oa,cap,rfl,_,_⟩:=own_shape hrow
 have HB:=Lib.hid hb1
 clear hb1 hrow HN
 go_wp2
 go_ret
 exact⟨⟨oa,cap,rfl⟩,HB.out⟩
set_option maxRecDepth 100000 in
theorem strays_empty (w:World) (f m:Nat) (d:Disk) (h:FsAt w f m d []) (hdn:d.down=false) (mn:Man) (sv:Value):Calls Tryz.prog 43 #[.pointer (some ⟨f,0,none⟩),.bool false,mnV mn sv] w fun e w'=>e= .returned (.slice none 0 0)∧Below w.heap.size w w':=by
 have HB0:=Lib.hid (Below.next (below_alloc w (.cells (mnCs mn sv) 31)) (below_alloc _ (.map #[] 0)))
 have hmk: ∀ W:World,(Instr.makeMap 134 none).run Tryz.prog W= .ok (.map (some W.heap.size)) (W.alloc (.map #[] 0)):=fun _=>rfl
 have HL:=Lib.hid (list_empty _ f m d (h.below HB0.out) hdn)
 clear h hdn
 go_enter Tryz.func43,Tryz.ntmps43
 go_wp2_with fail
 refine HL.out.mono ?_
 rintro e w1 ⟨⟨oa,cap,rfl⟩,hb1⟩
 have HB:=Lib.hid (Below.next HB0.out hb1)
 clear hb1 HL HB0
 go_wp2
 refine wp_loop_rounds 1 ?_
 rw [rounds_succ]
 go_wp2
 go_ret
 exact⟨rfl,HB.out⟩
set_option maxRecDepth 100000 in
theorem load_empty (w:World) (f m:Nat) (d:Disk) (h:FsAt w f m d []) (hdn:d.down=false):Calls Tryz.prog 38 #[.pointer (some ⟨f,0,none⟩)] w fun e w'=>e= .returned (.tuple #[mnV zeroM (.slice none 0 0),.bool false,.int .i64 0])∧Below w.heap.size w w':=by
 have HB0:=Lib.hid (below_alloc w (.cells (mnCs zeroM (.slice none 0 0)) 31))
 have HM:=Lib.hid (mnBlk_alloc w zeroM (.slice none 0 0))
 have HS:=Lib.hid (size_any _ f m d [] (h.below HB0.out) manN)
 have he:openE d manN=51:=by
  have hf:d.files=[]:=h.fil.symm
  unfold openE
  rw [hdn,hf]
  decide
 have hE1:doD d (opSize manN)=(d,[],0,51):=by rw [doD_size,if_pos (by rw [he];decide),he]
 rw [hE1] at HS
 simp only [mnCs,zeroM] at HM HB0 HS
 clear h hdn he hE1
 go_enter Tryz.func38,Tryz.ntmps38
 go_wp2_with fail
 refine HS.out.mono ?_
 rintro e w1 ⟨rfl,rfl⟩
 go_wp2_with (with_reducible refine wpList_store_mn rfl (.tmp 2) (.tmp 17) rfl w.heap.size ⟨0,0,0,0,0,[]⟩ zeroM (.slice none 0 0) (.slice none 0 0) rfl rfl HM.out rfl ?_)
 intro w2 hw2
 have HM2:=Lib.hid (show MnBlk w2 w.heap.size zeroM (.slice none 0 0) by rw [hw2.out];exact HM.out.row)
 have HB2:=Lib.hid (show Below w.heap.size w w2 by rw [hw2.out];exact below_row HB0.out (Nat.le_refl _) _)
 clear hw2 HM HB0
 go_wp2
 exact bodyPost_ret (v:= .tuple #[mnV zeroM (.slice none 0 0),.bool false,.int .i64 0]) (results_mn3 rfl _ _ w.heap.size zeroM (.slice none 0 0) _ _ rfl rfl rfl HM2.out) rfl ⟨rfl,HB2.out⟩
end Go.Proofs.YtlobohpbgghleaaGreatDoor
namespace Go.Proofs.YtlobohpbgghleaaGreatDoor
theorem new_store (n t mm h b:List UInt8) (hn:rightName n=true) (ht:rightName t=true) (hm:rightName mm=true) (h2:(n==t)=false) (h4:(n==mm)=false)
  (b1:bytesBefore t n=true) (b2:bytesBefore mm n=true) (hl:h.length=22) (bl:b.length=29):
  (runD (newD 51) [opCreate n,opAppend n h,opSync n,opCreate t,opAppend t b,opSync t,opRename t mm]).2=0∧usedF (runD (newD 51) [opCreate n,opAppend n h,opSync n,opCreate t,opAppend t b,opSync t,opRename t mm]).1.files=51:=by
 have s1:doD (newD 51) (opCreate n)=(⟨[⟨n,[],0⟩],51,0,false,1,0⟩,[],0,0):=by
  simp [doD,barD,opCreate,newD,clampRoom,hn,atF,chgD,putF]
 have s2:doD ⟨[⟨n,[],0⟩],51,0,false,1,0⟩ (opAppend n h)=(⟨[⟨n,h,0⟩],51,0,false,2,0⟩,[],0,0):=by
  simp [doD,barD,opAppend,hn,atF,chgD,chgF,putF,takeF,usedF,hl]
 have s3:doD ⟨[⟨n,h,0⟩],51,0,false,2,0⟩ (opSync n)=(⟨[⟨n,h,22⟩],51,0,false,3,0⟩,[],0,0):=by
  simp [doD,barD,opSync,hn,atF,chgD,chgF,putF,takeF,hl]
 have s4:doD ⟨[⟨n,h,22⟩],51,0,false,3,0⟩ (opCreate t)=(⟨[⟨t,[],0⟩,⟨n,h,22⟩],51,0,false,4,0⟩,[],0,0):=by
  simp [doD,barD,opCreate,ht,atF,chgD,putF,h2,b1]
 have s5:doD ⟨[⟨t,[],0⟩,⟨n,h,22⟩],51,0,false,4,0⟩ (opAppend t b)=(⟨[⟨t,b,0⟩,⟨n,h,22⟩],51,0,false,5,0⟩,[],0,0):=by
  simp [doD,barD,opAppend,ht,atF,chgD,chgF,putF,takeF,usedF,h2,b1,hl,bl]
 have s6:doD ⟨[⟨t,b,0⟩,⟨n,h,22⟩],51,0,false,5,0⟩ (opSync t)=(⟨[⟨t,b,29⟩,⟨n,h,22⟩],51,0,false,6,0⟩,[],0,0):=by
  simp [doD,barD,opSync,ht,atF,chgD,chgF,putF,takeF,h2,b1,bl]
 have s7:doD ⟨[⟨t,b,29⟩,⟨n,h,22⟩],51,0,false,6,0⟩ (opRename t mm)=(⟨[⟨mm,b,29⟩,⟨n,h,22⟩],51,0,false,7,0⟩,[],0,0):=by
  simp [doD,barD,opRename,ht,hm,atF,chgD,chgF,putF,takeF,h2,h4,b2]
 have e:runD (newD 51) [opCreate n,opAppend n h,opSync n,opCreate t,opAppend t b,opSync t,opRename t mm]=(⟨[⟨mm,b,29⟩,⟨n,h,22⟩],51,0,false,7,0⟩,0):=by
  simp only [runD,s1,s2,s3,s4,s5,s6,s7,if_true]
 rw [e]
 exact⟨rfl,by simp [usedF,hl,bl]⟩
theorem head_store:(applyD (newD 51) planF).2=0∧usedF (applyD (newD 51) planF).1.files=51:=by
 have e:applyD (newD 51) planF=runD (newD 51) [opCreate (segName 1),opAppend (segName 1) (hdrEnc 1 1).1,opSync (segName 1),opCreate tmpN,opAppend tmpN (encMan firstM).1,opSync tmpN,opRename tmpN manN]:=by
  unfold applyD
  rw [show planF.man=firstM from rfl,firstM_ok]
  rfl
 have hs:segName 1=[115,101,103,45,48,48,48,48,48,49]:=by decide
 rw [e,hs]
 exact new_store _ _ _ _ _ (by decide) (by decide) (by decide) (by decide) (by decide) (by decide) (by decide) first_len.1 first_len.2
end Go.Proofs.YtlobohpbgghleaaGreatDoor
namespace Go.Proofs.YtlobohpbgghleaaGreatDoor
open Go.RowKit
def FreshPost (w:World) (d:Disk) (e:Ending) (w':World):Prop:=
 (51≤d.room→ ∃ sv,e= .returned (.tuple #[plV planF sv (.slice none 0 0),.int .i64 0])∧SgIn (fun k=>w.heap.size≤k) w' sv firstM.segs∧sv.oneCell'=true)∧
 (d.room<51→e= .returned (.tuple #[plV planZ (.slice none 0 0) (.slice none 0 0),.int .i64 54]))∧Below w.heap.size w w'
set_option maxRecDepth 100000 in
set_option maxHeartbeats 4000000 in
theorem fresh_any (w:World) (f m:Nat) (d:Disk) (h:FsAt w f m d []) (hdn:d.down=false) (hn:NibTab w):
  Calls Tryz.prog 39 #[.pointer (some ⟨f,0,none⟩)] w (FreshPost w d):=by
 have HH:=Lib.hid h
 have HDN:=Lib.hid hdn
 have HNB:=Lib.hid hn
 have HUS:=Lib.hid (show d.room - (usedF d.files:Int)=d.room by rw [←h.fil];simp [usedF,fils])
 have hrm:=h.ok.room
 have HB0:=Lib.hid (below_alloc w (.cells #[.bool false,.int .i64 0,.int .i64 0,.int .i64 0,.int .i64 0,.int .i64 0,.slice none 0 0,.slice none 0 0,.int .i64 0,.int .i64 0] 34))
 have HR0:=Lib.hid (show PlBlk (w.alloc (.cells #[.bool false,.int .i64 0,.int .i64 0,.int .i64 0,.int .i64 0,.int .i64 0,.slice none 0 0,.slice none 0 0,.int .i64 0,.int .i64 0] 34)) w.heap.size planZ (.slice none 0 0) (.slice none 0 0) from plBlk_alloc w planZ (.slice none 0 0) (.slice none 0 0))
 clear h hdn hn
 go_enter Tryz.func39,Tryz.ntmps39
 go_wp2_with fail
 refine(first_any _).mono ?_
 rintro e w1 ⟨sv,rfl,hsg,hone,hb1⟩
 have HB1:=Lib.hid (Below.next HB0.out hb1)
 have HR1:=Lib.hid (HR0.out.below hb1)
 have HSG:=Lib.hid (hsg.mono (A':=fun k=>w.heap.size+1≤k) (fun k hk=>by simp at hk;omega))
 obtain⟨osg,scap,rfl,_,_,_⟩:=hsg
 have HMz:=Lib.hid (mnBlk_alloc w1 zeroM (.slice none 0 0))
 simp only [mnCs,zeroM] at HMz
 clear hb1 HB0 HR0 hone
 go_wp2_with (with_reducible refine wpList_store_mn rfl (.tmp 4) (.tmp 13) rfl w1.heap.size ⟨0,0,0,0,0,[]⟩ firstM (.slice none 0 0) (.slice osg firstM.segs.length scap) rfl rfl HMz.out rfl ?_)
 intro w2 hw2
 have hba:=below_alloc w1 (.cells #[.int .i64 0,.int .i64 0,.int .i64 0,.int .i64 0,.int .i64 0,.slice none 0 0] 31)
 have HM2:=Lib.hid (show MnBlk w2 w1.heap.size firstM (.slice osg firstM.segs.length scap) by rw [hw2.out];exact HMz.out.row)
 have HBW:=Lib.hid (show Below w1.heap.size w1 w2 by rw [hw2.out];exact below_row hba (Nat.le_refl _) _)
 have HB2:=Lib.hid (Below.next HB1.out HBW.out)
 have HR2:=Lib.hid (HR1.out.below HBW.out)
 have HSG2:=Lib.hid (HSG.out.below HBW.out)
 clear hw2 hba HMz HB1 HR1 HSG HBW
 generalize w1.heap.size=b4 at*
 have HHD:=Lib.hid (header_any 1 1 w2 (HNB.out.below HB2.out))
 obtain⟨er,her⟩: ∃ y,y=hdrEnc 1 1:=⟨_,rfl⟩
 have HL:=Lib.hid (show er.1.length=22 by rw [her];exact first_len.1)
 rw [←her] at HHD
 clear her
 go_wp2_with fail
 refine HHD.out.mono ?_
 rintro e w3 ⟨v3,rfl,ho3,hb3⟩
 obtain⟨o3,cap3,rfl,_,_⟩:=own_shape ho3
 rw [HL.out]
 have HM3:=Lib.hid (HM2.out.below hb3)
 have HB3:=Lib.hid (Below.next HB2.out hb3)
 have HR3:=Lib.hid (HR2.out.below hb3)
 have HSG3:=Lib.hid (HSG2.out.below hb3)
 have HF3:=Lib.hid (HH.out.below HB3.out)
 have HNB3:=Lib.hid (HNB.out.below HB3.out)
 clear ho3 hb3 HHD HM2 HB2 HR2 HSG2 HL
 go_wp2_with fail
 refine wp_region_held_drew (S:=fun w'=>Below w3.heap.size w3 w') (by kernel_rfl) (show Below w3.heap.size w3 w3.drew from below_drewN' w3 1) (fun hHeld=> ?_)
 refine tkl 0 b4 0 [.int .i64 1,.int .i64 2,.int .i64 0,.int .i64 0,.int .i64 0,.slice osg firstM.segs.length scap] rfl rfl (fun w' h j v hv=>by rw [Nat.zero_add,(HM3.out.below h).cell];simpa [mnCs,firstM] using hv) Tryz.underlying31 rfl (by rw [mnInfo];rfl) ?_
 simp only [pA,pB,pC,pD]
 refine tq 1 rfl ?_
 refine tq 2 rfl ?_
 refine tq 3 rfl ?_
 refine tkl 4 b4 0 [.int .i64 1,.int .i64 2,.int .i64 0,.int .i64 0,.int .i64 0,.slice osg firstM.segs.length scap] rfl rfl (fun w' h j v hv=>by rw [Nat.zero_add,(HM3.out.below h).cell];simpa [mnCs,firstM] using hv) Tryz.underlying31 rfl (by rw [mnInfo];rfl) ?_
 simp only [pA,pB,pC,pD]
 generalize World.drew _=Wd at*
 refine wpAnyH_ready (rs:=[5,7]) (by kernel_rfl) (by simp) ?_
 refine AllReadyH.cons rfl (fun K hK=> ?_) (AllReadyH.cons rfl (fun K hK=> ?_) AllReadyH.nil)
 ·go_simp
  go_at_call 43
  refine(strays_empty _ f m d (HF3.out.below hHeld) HDN.out firstM (.slice osg firstM.segs.length scap)).mono ?_
  rintro e w4 ⟨rfl,hb4⟩
  have HB4:=Lib.hid (Below.next hHeld hb4)
  clear hb4 hHeld
  go_wp2_with fail
  refine hK.out _ _ HB4.out (fun hHeld=> ?_)
  clear hK K
  refine tq 6 rfl ?_
  have HB5:=Lib.hid (Below.next HB4.out (below_alloc w4 (.cells #[.bool false,.int .i64 0,.int .i64 0,.int .i64 0,.int .i64 0,.int .i64 0,.slice none 0 0,.slice none 0 0,.int .i64 0,.int .i64 0] 34)))
  have HGZ:=Lib.hid (show PlBlk (w4.alloc (.cells #[.bool false,.int .i64 0,.int .i64 0,.int .i64 0,.int .i64 0,.int .i64 0,.slice none 0 0,.slice none 0 0,.int .i64 0,.int .i64 0] 34)) w4.heap.size planZ (.slice none 0 0) (.slice none 0 0) from plBlk_alloc w4 planZ (.slice none 0 0) (.slice none 0 0))
  have hgx:w3.heap.size≤w4.heap.size:=HB4.out.size
  refine wpAnyH_ready (rs:=[7]) (by kernel_rfl) (by simp) ?_
  refine AllReadyH.cons rfl (fun K hK=> ?_) AllReadyH.nil
  go_simp
  refine hK.out _ _ HB5.out (fun hHeld=> ?_)
  clear hK K HB4 hHeld
  generalize w4.heap.size=gx at*
  generalize w4.alloc (.cells #[.bool false,.int .i64 0,.int .i64 0,.int .i64 0,.int .i64 0,.int .i64 0,.slice none 0 0,.slice none 0 0,.int .i64 0,.int .i64 0] 34)=W5 at*
  refine wpAnyH_ready (rs:=[8]) (by kernel_rfl) (by simp) ?_
  refine AllReadyH.cons rfl (fun K hK=> ?_) AllReadyH.nil
  rw [if_pos (by kernel_rfl)]
  refine wp_store_row 34 (.tmp 7) (.tmp 24) rfl gx (plCs planF (.slice osg firstM.segs.length scap) (.slice none 0 0)) rfl rfl 34 (plCs planZ (.slice none 0 0) (.slice none 0 0)) HGZ.out plInfo rfl (plCs_all _ _ _ rfl rfl) ?_
  have HG6:=Lib.hid (show PlBlk (W5.setRow gx (plCs planF (.slice osg firstM.segs.length scap) (.slice none 0 0))) gx planF (.slice osg firstM.segs.length scap) (.slice none 0 0) from HGZ.out.row)
  have HB6:=Lib.hid (show Below w3.heap.size w3 (W5.setRow gx (plCs planF (.slice osg firstM.segs.length scap) (.slice none 0 0))) from below_row HB5.out hgx _)
  refine hK.out _ _ HB6.out (fun hHeld=> ?_)
  clear hK K hHeld HGZ HB5
  generalize W5.setRow gx (plCs planF (.slice osg firstM.segs.length scap) (.slice none 0 0))=W6 at*
  refine wpAnyH_done (by kernel_rfl) ?_ _
  have HF6:=Lib.hid (HF3.out.below HB6.out)
  have HFR:=Lib.hid (free_any W6 f m d [] HF6.out)
  rw [HUS.out] at HFR
  go_wp2_with fail
  refine HFR.out.mono ?_
  rintro e w7 ⟨rfl,hb7⟩
  have HB7:=Lib.hid (Below.next HB6.out hb7)
  have HG7:=Lib.hid (HG6.out.below hb7)
  have r7:=HG7.out.c7
  clear hb7 HFR HF6 HG6 HB6
  go_wp2
  refine wp_loop_rounds 1 ?_
  rw [rounds_succ]
  go_wp2_with fail
  refine wp_region_held_drew (S:=fun w'=>Below w7.heap.size w7 w') (by kernel_rfl) (show Below w7.heap.size w7 w7.drew from below_drewN' w7 1) (fun hHeld=> ?_)
  clear r7
  refine tq 0 rfl ?_
  refine tq 1 rfl ?_
  refine tq 2 rfl ?_
  refine tkl 3 b4 0 [.int .i64 1,.int .i64 2,.int .i64 0,.int .i64 0,.int .i64 0,.slice osg firstM.segs.length scap] rfl rfl (fun w' h j v hv=>by rw [Nat.zero_add,(HM3.out.below (Below.next HB7.out h)).cell];simpa [mnCs,firstM] using hv) Tryz.underlying31 rfl (by rw [mnInfo];rfl) ?_
  simp only [pA,pB,pC,pD]
  generalize World.drew _=We at*
  refine wpAnyH_ready (rs:=[4]) (by kernel_rfl) (by simp) ?_
  refine AllReadyH.cons rfl (fun K hK=> ?_) AllReadyH.nil
  go_simp
  go_at_call 77
  refine(manSize_any firstM (.slice osg firstM.segs.length scap) We (HSG3.out.row.below (Below.next HB7.out hHeld)) (HNB3.out.below (Below.next HB7.out hHeld))).mono ?_
  rw [first_len.2]
  rintro e w8 ⟨rfl,hb8⟩
  have HB8:=Lib.hid (Below.next hHeld hb8)
  clear hb8 hHeld
  go_wp2_with fail
  refine hK.out _ _ HB8.out (fun hHeld=> ?_)
  clear hK K
  have hw51:IntKind.i64.wrap 51=51:=by decide
  have hw0:IntKind.i64.wrap 0=0:=by decide
  have hw2:IntKind.i64.wrap 2=2:=by decide
  rcases hr:decide (d.room<51) with _ | _
  ·have hr2: ¬ d.room<51:=by simpa using hr
   have HR51:=Lib.hid hr2
   clear hr2
   refine tq 5 rfl ?_
   refine tq 6 rfl ?_
   refine tq 7 rfl ?_
   have FX1:=Lib.hid (fun(wF:World) (hSw:(fun w'=>Below w7.heap.size w7 w') wF)=>((HG7.out.below hSw).c7))
   refine tf FX1 8 rfl ?_
   refine tf FX1 11 rfl ?_
   refine tf FX1 12 rfl ?_
   refine tf FX1 13 rfl ?_
   clear FX1
   refine wpAnyH_ready (rs:=[9]) (by kernel_rfl) (by simp) ?_
   refine AllReadyH.cons rfl (fun K hK=> ?_) AllReadyH.nil
   go_simp
   go_at_call 78
   refine(list_empty w8 f m d (HF3.out.below (Below.next HB7.out HB8.out)) HDN.out).mono ?_
   rintro e w9 ⟨⟨ol,lcap,rfl⟩,hb9⟩
   have HB9:=Lib.hid (Below.next HB8.out hb9)
   clear hb9 hHeld
   go_wp2_with fail
   refine hK.out _ _ HB9.out (fun hHeld=> ?_)
   clear hK K
   refine tq 10 rfl ?_
   refine tq 14 rfl ?_
   refine tq 15 rfl ?_
   refine tq 16 rfl ?_
   refine tq 17 rfl ?_
   refine wpAnyH_done (by kernel_rfl) ?_ _
   have HGE:=Lib.hid (HG7.out.below HB9.out)
   have HRE:=Lib.hid (HR3.out.below (Below.next HB7.out HB9.out))
   have HBE:=Lib.hid (Below.next HB3.out (Below.next HB7.out HB9.out))
   have HSE:=Lib.hid (HSG3.out.below (Below.next HB7.out HB9.out))
   clear hHeld
   go_wp2_with (first | (with_reducible refine wpList_load_pl rfl (.tmp 7) rfl gx planF (.slice osg firstM.segs.length scap) (.slice none 0 0) rfl HGE.out ?_) | (with_reducible refine wpList_store_pl rfl (.tmp 2) (.tmp 63) rfl w.heap.size planZ planF (.slice none 0 0) (.slice none 0 0) (.slice osg firstM.segs.length scap) (.slice none 0 0) rfl rfl HRE.out rfl rfl ?_))
   intro w10 hw10
   have HP10:=Lib.hid (show PlBlk w10 w.heap.size planF (.slice osg firstM.segs.length scap) (.slice none 0 0) by rw [hw10.out];exact HRE.out.row)
   have HB10:=Lib.hid (show Below w.heap.size w w10 by rw [hw10.out];exact below_row HBE.out (Nat.le_refl _) _)
   have HT10:=Lib.hid (show Turned (fun k=>k=w.heap.size) w9 w10 by rw [hw10.out];exact⟨rfl,rfl,rfl,by simp,fun k _ hn=>setRow_other _ _ _ _ hn⟩)
   have HS10:=Lib.hid (show SgIn (fun k=>w.heap.size≤k) w10 (.slice osg firstM.segs.length scap) firstM.segs from(HSE.out.turned HT10.out (fun k hk=>by omega)).mono (fun k hk=>by omega))
   clear hw10
   go_wp2
   exact bodyPost_ret (v:= .tuple #[plV planF (.slice osg firstM.segs.length scap) (.slice none 0 0),.int .i64 0]) (results_pl2 rfl _ _ w.heap.size planF (.slice osg firstM.segs.length scap) (.slice none 0 0) _ rfl rfl HP10.out) rfl ⟨fun _=>⟨_,rfl,HS10.out,rfl⟩,fun hlt=>absurd hlt (by have:=HR51.out;omega),HB10.out⟩
  ·have hr2:d.room<51:=by simpa using hr
   have HR51:=Lib.hid hr2
   clear hr2
   refine tq 5 rfl ?_
   refine tq 6 rfl ?_
   refine tq 7 rfl ?_
   refine tkn 8 rfl ?_
   simp only [pA,pB,pC,pD]
   refine tkn 9 rfl ?_
   simp only [pA,pB,pC,pD]
   refine tkn 10 rfl ?_
   simp only [pA,pB,pC,pD]
   refine tkn 11 rfl ?_
   simp only [pA,pB,pC,pD]
   refine tkn 12 rfl ?_
   simp only [pA,pB,pC,pD]
   refine tkn 13 rfl ?_
   simp only [pA,pB,pC,pD]
   refine tkn 14 rfl ?_
   simp only [pA,pB,pC,pD]
   refine tkn 15 rfl ?_
   simp only [pA,pB,pC,pD]
   refine tkn 16 rfl ?_
   simp only [pA,pB,pC,pD]
   refine tq 17 rfl ?_
   refine wpAnyH_done (by kernel_rfl) ?_ _
   have HRE:=Lib.hid (HR3.out.below (Below.next HB7.out HB8.out))
   have HBE:=Lib.hid (Below.next HB3.out (Below.next HB7.out HB8.out))
   clear hHeld
   go_wp2_with (with_reducible refine wpList_store_pl rfl (.tmp 2) (.tmp 62) rfl w.heap.size planZ planZ (.slice none 0 0) (.slice none 0 0) (.slice none 0 0) (.slice none 0 0) rfl rfl HRE.out rfl rfl ?_)
   intro w10 hw10
   have HP10:=Lib.hid (show PlBlk w10 w.heap.size planZ (.slice none 0 0) (.slice none 0 0) by rw [hw10.out];exact HRE.out.row)
   have HB10:=Lib.hid (show Below w.heap.size w w10 by rw [hw10.out];exact below_row HBE.out (Nat.le_refl _) _)
   clear hw10
   go_wp2
   exact bodyPost_ret (v:= .tuple #[plV planZ (.slice none 0 0) (.slice none 0 0),.int .i64 54]) (results_pl2 rfl _ _ w.heap.size planZ (.slice none 0 0) (.slice none 0 0) _ rfl rfl HP10.out) rfl ⟨fun hge=>absurd HR51.out (by omega),fun _=>rfl,HB10.out⟩
 ·have HBz:=Lib.hid (Below.next hHeld (below_alloc Wd (.cells #[.bool false,.int .i64 0,.int .i64 0,.int .i64 0,.int .i64 0,.int .i64 0,.slice none 0 0,.slice none 0 0,.int .i64 0,.int .i64 0] 34)))
  have HGZ:=Lib.hid (show PlBlk (Wd.alloc (.cells #[.bool false,.int .i64 0,.int .i64 0,.int .i64 0,.int .i64 0,.int .i64 0,.slice none 0 0,.slice none 0 0,.int .i64 0,.int .i64 0] 34)) Wd.heap.size planZ (.slice none 0 0) (.slice none 0 0) from plBlk_alloc Wd planZ (.slice none 0 0) (.slice none 0 0))
  have hgx:w3.heap.size≤Wd.heap.size:=hHeld.size
  go_simp
  refine hK.out _ _ HBz.out (fun hHeld=> ?_)
  clear hK K
  generalize Wd.heap.size=gx at*
  generalize Wd.alloc (.cells #[.bool false,.int .i64 0,.int .i64 0,.int .i64 0,.int .i64 0,.int .i64 0,.slice none 0 0,.slice none 0 0,.int .i64 0,.int .i64 0] 34)=Wz at*
  refine wpAnyH_ready (rs:=[5]) (by kernel_rfl) (by simp) ?_
  refine AllReadyH.cons rfl (fun K hK=> ?_) AllReadyH.nil
  go_simp
  go_at_call 43
  refine(strays_empty _ f m d (HF3.out.below hHeld) HDN.out firstM (.slice osg firstM.segs.length scap)).mono ?_
  rintro e W5 ⟨rfl,hb5⟩
  have HB5:=Lib.hid (Below.next hHeld hb5)
  have HGZ:=Lib.hid (HGZ.out.below hb5)
  clear hb5 hHeld HBz
  go_wp2_with fail
  refine hK.out _ _ HB5.out (fun hHeld=> ?_)
  clear hK K
  refine tq 6 rfl ?_
  refine wpAnyH_ready (rs:=[8]) (by kernel_rfl) (by simp) ?_
  refine AllReadyH.cons rfl (fun K hK=> ?_) AllReadyH.nil
  rw [if_pos (by kernel_rfl)]
  refine wp_store_row 34 (.tmp 7) (.tmp 24) rfl gx (plCs planF (.slice osg firstM.segs.length scap) (.slice none 0 0)) rfl rfl 34 (plCs planZ (.slice none 0 0) (.slice none 0 0)) HGZ.out plInfo rfl (plCs_all _ _ _ rfl rfl) ?_
  have HG6:=Lib.hid (show PlBlk (W5.setRow gx (plCs planF (.slice osg firstM.segs.length scap) (.slice none 0 0))) gx planF (.slice osg firstM.segs.length scap) (.slice none 0 0) from HGZ.out.row)
  have HB6:=Lib.hid (show Below w3.heap.size w3 (W5.setRow gx (plCs planF (.slice osg firstM.segs.length scap) (.slice none 0 0))) from below_row HB5.out hgx _)
  refine hK.out _ _ HB6.out (fun hHeld=> ?_)
  clear hK K hHeld HGZ HB5
  generalize W5.setRow gx (plCs planF (.slice osg firstM.segs.length scap) (.slice none 0 0))=W6 at*
  refine wpAnyH_done (by kernel_rfl) ?_ _
  have HF6:=Lib.hid (HF3.out.below HB6.out)
  have HFR:=Lib.hid (free_any W6 f m d [] HF6.out)
  rw [HUS.out] at HFR
  go_wp2_with fail
  refine HFR.out.mono ?_
  rintro e w7 ⟨rfl,hb7⟩
  have HB7:=Lib.hid (Below.next HB6.out hb7)
  have HG7:=Lib.hid (HG6.out.below hb7)
  have r7:=HG7.out.c7
  clear hb7 HFR HF6 HG6 HB6
  go_wp2
  refine wp_loop_rounds 1 ?_
  rw [rounds_succ]
  go_wp2_with fail
  refine wp_region_held_drew (S:=fun w'=>Below w7.heap.size w7 w') (by kernel_rfl) (show Below w7.heap.size w7 w7.drew from below_drewN' w7 1) (fun hHeld=> ?_)
  clear r7
  refine tq 0 rfl ?_
  refine tq 1 rfl ?_
  refine tq 2 rfl ?_
  refine tkl 3 b4 0 [.int .i64 1,.int .i64 2,.int .i64 0,.int .i64 0,.int .i64 0,.slice osg firstM.segs.length scap] rfl rfl (fun w' h j v hv=>by rw [Nat.zero_add,(HM3.out.below (Below.next HB7.out h)).cell];simpa [mnCs,firstM] using hv) Tryz.underlying31 rfl (by rw [mnInfo];rfl) ?_
  simp only [pA,pB,pC,pD]
  generalize World.drew _=We at*
  refine wpAnyH_ready (rs:=[4]) (by kernel_rfl) (by simp) ?_
  refine AllReadyH.cons rfl (fun K hK=> ?_) AllReadyH.nil
  go_simp
  go_at_call 77
  refine(manSize_any firstM (.slice osg firstM.segs.length scap) We (HSG3.out.row.below (Below.next HB7.out hHeld)) (HNB3.out.below (Below.next HB7.out hHeld))).mono ?_
  rw [first_len.2]
  rintro e w8 ⟨rfl,hb8⟩
  have HB8:=Lib.hid (Below.next hHeld hb8)
  clear hb8 hHeld
  go_wp2_with fail
  refine hK.out _ _ HB8.out (fun hHeld=> ?_)
  clear hK K
  have hw51:IntKind.i64.wrap 51=51:=by decide
  have hw0:IntKind.i64.wrap 0=0:=by decide
  have hw2:IntKind.i64.wrap 2=2:=by decide
  rcases hr:decide (d.room<51) with _ | _
  ·have hr2: ¬ d.room<51:=by simpa using hr
   have HR51:=Lib.hid hr2
   clear hr2
   refine tq 5 rfl ?_
   refine tq 6 rfl ?_
   refine tq 7 rfl ?_
   have FX2:=Lib.hid (fun(wF:World) (hSw:(fun w'=>Below w7.heap.size w7 w') wF)=>((HG7.out.below hSw).c7))
   refine tf FX2 8 rfl ?_
   refine tf FX2 11 rfl ?_
   refine tf FX2 12 rfl ?_
   refine tf FX2 13 rfl ?_
   clear FX2
   refine wpAnyH_ready (rs:=[9]) (by kernel_rfl) (by simp) ?_
   refine AllReadyH.cons rfl (fun K hK=> ?_) AllReadyH.nil
   go_simp
   go_at_call 78
   refine(list_empty w8 f m d (HF3.out.below (Below.next HB7.out HB8.out)) HDN.out).mono ?_
   rintro e w9 ⟨⟨ol,lcap,rfl⟩,hb9⟩
   have HB9:=Lib.hid (Below.next HB8.out hb9)
   clear hb9 hHeld
   go_wp2_with fail
   refine hK.out _ _ HB9.out (fun hHeld=> ?_)
   clear hK K
   refine tq 10 rfl ?_
   refine tq 14 rfl ?_
   refine tq 15 rfl ?_
   refine tq 16 rfl ?_
   refine tq 17 rfl ?_
   refine wpAnyH_done (by kernel_rfl) ?_ _
   have HGE:=Lib.hid (HG7.out.below HB9.out)
   have HRE:=Lib.hid (HR3.out.below (Below.next HB7.out HB9.out))
   have HBE:=Lib.hid (Below.next HB3.out (Below.next HB7.out HB9.out))
   have HSE:=Lib.hid (HSG3.out.below (Below.next HB7.out HB9.out))
   clear hHeld
   go_wp2_with (first | (with_reducible refine wpList_load_pl rfl (.tmp 7) rfl gx planF (.slice osg firstM.segs.length scap) (.slice none 0 0) rfl HGE.out ?_) | (with_reducible refine wpList_store_pl rfl (.tmp 2) (.tmp 63) rfl w.heap.size planZ planF (.slice none 0 0) (.slice none 0 0) (.slice osg firstM.segs.length scap) (.slice none 0 0) rfl rfl HRE.out rfl rfl ?_))
   intro w10 hw10
   have HP10:=Lib.hid (show PlBlk w10 w.heap.size planF (.slice osg firstM.segs.length scap) (.slice none 0 0) by rw [hw10.out];exact HRE.out.row)
   have HB10:=Lib.hid (show Below w.heap.size w w10 by rw [hw10.out];exact below_row HBE.out (Nat.le_refl _) _)
   have HT10:=Lib.hid (show Turned (fun k=>k=w.heap.size) w9 w10 by rw [hw10.out];exact⟨rfl,rfl,rfl,by simp,fun k _ hn=>setRow_other _ _ _ _ hn⟩)
   have HS10:=Lib.hid (show SgIn (fun k=>w.heap.size≤k) w10 (.slice osg firstM.segs.length scap) firstM.segs from(HSE.out.turned HT10.out (fun k hk=>by omega)).mono (fun k hk=>by omega))
   clear hw10
   go_wp2
   exact bodyPost_ret (v:= .tuple #[plV planF (.slice osg firstM.segs.length scap) (.slice none 0 0),.int .i64 0]) (results_pl2 rfl _ _ w.heap.size planF (.slice osg firstM.segs.length scap) (.slice none 0 0) _ rfl rfl HP10.out) rfl ⟨fun _=>⟨_,rfl,HS10.out,rfl⟩,fun hlt=>absurd hlt (by have:=HR51.out;omega),HB10.out⟩
  ·have hr2:d.room<51:=by simpa using hr
   have HR51:=Lib.hid hr2
   clear hr2
   refine tq 5 rfl ?_
   refine tq 6 rfl ?_
   refine tq 7 rfl ?_
   refine tkn 8 rfl ?_
   simp only [pA,pB,pC,pD]
   refine tkn 9 rfl ?_
   simp only [pA,pB,pC,pD]
   refine tkn 10 rfl ?_
   simp only [pA,pB,pC,pD]
   refine tkn 11 rfl ?_
   simp only [pA,pB,pC,pD]
   refine tkn 12 rfl ?_
   simp only [pA,pB,pC,pD]
   refine tkn 13 rfl ?_
   simp only [pA,pB,pC,pD]
   refine tkn 14 rfl ?_
   simp only [pA,pB,pC,pD]
   refine tkn 15 rfl ?_
   simp only [pA,pB,pC,pD]
   refine tkn 16 rfl ?_
   simp only [pA,pB,pC,pD]
   refine tq 17 rfl ?_
   refine wpAnyH_done (by kernel_rfl) ?_ _
   have HRE:=Lib.hid (HR3.out.below (Below.next HB7.out HB8.out))
   have HBE:=Lib.hid (Below.next HB3.out (Below.next HB7.out HB8.out))
   clear hHeld
   go_wp2_with (with_reducible refine wpList_store_pl rfl (.tmp 2) (.tmp 62) rfl w.heap.size planZ planZ (.slice none 0 0) (.slice none 0 0) (.slice none 0 0) (.slice none 0 0) rfl rfl HRE.out rfl rfl ?_)
   intro w10 hw10
   have HP10:=Lib.hid (show PlBlk w10 w.heap.size planZ (.slice none 0 0) (.slice none 0 0) by rw [hw10.out];exact HRE.out.row)
   have HB10:=Lib.hid (show Below w.heap.size w w10 by rw [hw10.out];exact below_row HBE.out (Nat.le_refl _) _)
   clear hw10
   go_wp2
   exact bodyPost_ret (v:= .tuple #[plV planZ (.slice none 0 0) (.slice none 0 0),.int .i64 54]) (results_pl2 rfl _ _ w.heap.size planZ (.slice none 0 0) (.slice none 0 0) _ rfl rfl HP10.out) rfl ⟨fun hge=>absurd HR51.out (by omega),fun _=>rfl,HB10.out⟩
end Go.Proofs.YtlobohpbgghleaaGreatDoor
namespace Go.Proofs.YtlobohpbgghleaaGreatDoor
open Go.RowKit
theorem FsAt.turned {S:Nat→Prop} {w w':World} {f m:Nat} {d:Disk} {L:List Slot} (h:FsAt w f m d L) (ht:Turned S w w') (hS: ∀ k,foot f m L k→ ¬ S k):FsAt w' f m d L:=
 ⟨h.hd.kept (ht.block f h.hd.lt (hS f (.inl rfl))),h.body.turned h.hd.lt ht (fun k _ hk=>hS k hk),h.fil,h.ok⟩
set_option maxRecDepth 100000 in
set_option maxHeartbeats 4000000 in
theorem plan_empty (w:World) (f m:Nat) (d:Disk) (h:FsAt w f m d []) (hdn:d.down=false) (hn:NibTab w):
  Calls Tryz.prog 12 #[.pointer (some ⟨f,0,none⟩)] w (FreshPost w d):=by
 have HH:=Lib.hid h
 have HB0:=Lib.hid (below_alloc w (.cells #[.bool false,.int .i64 0,.int .i64 0,.int .i64 0,.int .i64 0,.int .i64 0,.slice none 0 0,.slice none 0 0,.int .i64 0,.int .i64 0] 34))
 have HR0:=Lib.hid (show PlBlk (w.alloc (.cells #[.bool false,.int .i64 0,.int .i64 0,.int .i64 0,.int .i64 0,.int .i64 0,.slice none 0 0,.slice none 0 0,.int .i64 0,.int .i64 0] 34)) w.heap.size planZ (.slice none 0 0) (.slice none 0 0) from plBlk_alloc w planZ (.slice none 0 0) (.slice none 0 0))
 have HLD:=Lib.hid (load_empty _ f m d (h.below HB0.out) hdn)
 have HNB:=Lib.hid hn
 have HDN:=Lib.hid hdn
 clear h hdn hn
 go_enter Tryz.func12,Tryz.ntmps12
 go_wp2_with fail
 refine HLD.out.mono ?_
 rintro e w1 ⟨rfl,hb1⟩
 have HBX:=Lib.hid (fun(W:World) (hb:Below w1.heap.size w1 W)=>show Below w.heap.size w W from Below.next (Below.next HB0.out hb1) hb)
 have HRX:=Lib.hid (HR0.out.below hb1)
 have HMz:=Lib.hid (mnBlk_alloc w1 zeroM (.slice none 0 0))
 simp only [mnCs,zeroM] at HMz
 clear hb1 HB0 HR0 HLD
 go_wp2_with (with_reducible refine wpList_store_mn rfl (.tmp 4) (.tmp 20) rfl w1.heap.size ⟨0,0,0,0,0,[]⟩ zeroM (.slice none 0 0) (.slice none 0 0) rfl rfl HMz.out rfl ?_)
 intro w2 hw2
 have hb2:Below w1.heap.size w1 w2:=by rw [hw2.out];exact below_row (below_alloc w1 _) (Nat.le_refl _) _
 have HB2:=Lib.hid (show Below w.heap.size w w2 from HBX.out _ hb2)
 have HR2:=Lib.hid (HRX.out.below hb2)
 have HFR:=Lib.hid (fresh_any w2 f m d (HH.out.below HB2.out) HDN.out (HNB.out.below HB2.out))
 clear hw2 hb2 HMz HBX HRX
 go_wp2_with fail
 refine HFR.out.mono ?_
 rintro e w3 ⟨hge,hlt,hb3⟩
 have HB3:=Lib.hid (Below.next HB2.out hb3)
 have HR3:=Lib.hid (HR2.out.below hb3)
 have HGE:=Lib.hid hge
 have HLT:=Lib.hid hlt
 have hs2:=HR2.out.lt
 clear hge hlt hb3 HFR HB2
 by_cases hr:d.room<51
 ·obtain rfl:=HLT.out hr
  have HRM:=Lib.hid hr
  clear hr hs2 HLT HGE
  go_wp2_with (with_reducible refine wpList_store_pl rfl (.tmp 2) (.tmp 37) rfl w.heap.size planZ planZ (.slice none 0 0) (.slice none 0 0) (.slice none 0 0) (.slice none 0 0) rfl rfl HR3.out rfl rfl ?_)
  intro w4 hw4
  have HP4:=Lib.hid (show PlBlk w4 w.heap.size planZ (.slice none 0 0) (.slice none 0 0) by rw [hw4.out];exact HR3.out.row)
  have HB4:=Lib.hid (show Below w.heap.size w w4 by rw [hw4.out];exact below_row HB3.out (Nat.le_refl _) _)
  clear hw4
  go_wp2
  exact bodyPost_ret (v:= .tuple #[plV planZ (.slice none 0 0) (.slice none 0 0),.int .i64 54]) (results_pl2 rfl _ _ w.heap.size planZ (.slice none 0 0) (.slice none 0 0) _ rfl rfl HP4.out) rfl ⟨fun hge=>absurd HRM.out (by omega),fun _=>rfl,HB4.out⟩
 ·obtain⟨sv,rfl,hsg,hone⟩:=HGE.out (by omega)
  have HRM:=Lib.hid hr
  have HSG:=Lib.hid (hsg.mono (A':=fun k=>w.heap.size+1≤k) (fun k hk=>by omega))
  have HONE:=Lib.hid hone
  clear hr hsg hone hs2 HLT HGE
  go_wp2_with (with_reducible refine wpList_store_pl rfl (.tmp 2) (.tmp 37) rfl w.heap.size planZ planF (.slice none 0 0) (.slice none 0 0) sv (.slice none 0 0) rfl rfl HR3.out HONE.out rfl ?_)
  intro w4 hw4
  have HP4:=Lib.hid (show PlBlk w4 w.heap.size planF sv (.slice none 0 0) by rw [hw4.out];exact HR3.out.row)
  have HB4:=Lib.hid (show Below w.heap.size w w4 by rw [hw4.out];exact below_row HB3.out (Nat.le_refl _) _)
  have HT4:=Lib.hid (show Turned (fun k=>k=w.heap.size) w3 w4 by rw [hw4.out];exact⟨rfl,rfl,rfl,by simp,fun k _ hn=>setRow_other _ _ _ _ hn⟩)
  have HS4:=Lib.hid ((HSG.out.turned HT4.out (fun k hk=>by omega)).mono (A':=fun k=>w.heap.size≤k) (fun k hk=>by omega))
  clear hw4 HT4 HSG
  go_wp2
  exact bodyPost_ret (v:= .tuple #[plV planF sv (.slice none 0 0),.int .i64 0]) (results_pl2 rfl _ _ w.heap.size planF sv (.slice none 0 0) _ rfl rfl HP4.out) rfl ⟨fun _=>⟨_,rfl,HS4.out,HONE.out⟩,fun hlt=>absurd hlt (by have:=HRM.out;omega),HB4.out⟩
set_option maxRecDepth 100000 in
set_option maxHeartbeats 4000000 in
theorem run_empty (w:World) (f m:Nat) (d:Disk) (h:FsAt w f m d []) (hdn:d.down=false) (hn:NibTab w) (hg: ¬ foot f m [] 0) (hroom:51≤d.room) (hst:d.steps+32<4611686018427387904) (hap:(applyD d planF).2=0):
  Calls Tryz.prog 17 #[.pointer (some ⟨f,0,none⟩)] w fun e w'=>(∃ sv,e= .returned (.tuple #[plV planF sv (.slice none 0 0),.int .i64 0])∧sv.oneCell'=true)∧FsPost w f m [] (applyD d planF).1 w':=by
 have HH:=Lib.hid h
 have HB0:=Lib.hid (below_alloc w (.cells #[.bool false,.int .i64 0,.int .i64 0,.int .i64 0,.int .i64 0,.int .i64 0,.slice none 0 0,.slice none 0 0,.int .i64 0,.int .i64 0] 34))
 have HR0:=Lib.hid (show PlBlk (w.alloc (.cells #[.bool false,.int .i64 0,.int .i64 0,.int .i64 0,.int .i64 0,.int .i64 0,.slice none 0 0,.slice none 0 0,.int .i64 0,.int .i64 0] 34)) w.heap.size planZ (.slice none 0 0) (.slice none 0 0) from plBlk_alloc w planZ (.slice none 0 0) (.slice none 0 0))
 have HPL:=Lib.hid (plan_empty _ f m d (h.below HB0.out) hdn (hn.below HB0.out))
 have HNB:=Lib.hid hn
 have HNG:=Lib.hid hg
 have HFW:=Lib.hid h.lt
 have HST:=Lib.hid hst
 have HAP:=Lib.hid hap
 have HRM:=Lib.hid hroom
 clear h hdn hn hg hst hap hroom
 go_enter Tryz.func17,Tryz.ntmps17
 go_wp2_with fail
 refine HPL.out.mono ?_
 rintro e w1 ⟨hge,_,hb1⟩
 obtain⟨sv,rfl,hsg,hone⟩:=hge HRM.out
 have HONE:=Lib.hid hone
 have HSG:=Lib.hid hsg
 have HPz:=Lib.hid (plBlk_alloc w1 planZ (.slice none 0 0) (.slice none 0 0))
 simp only [plCs,planZ,zeroM] at HPz
 have HB1:=Lib.hid (Below.next HB0.out hb1)
 have HR1:=Lib.hid (HR0.out.below hb1)
 have hss:w.heap.size<w1.heap.size:=HR1.out.lt
 clear hb1 hsg hone hge HPL HB0 HR0
 go_wp2_with (with_reducible refine wpList_store_pl rfl (.tmp 4) (.tmp 10) rfl w1.heap.size ⟨false,⟨0,0,0,0,0,[]⟩,[],0,0⟩ planF (.slice none 0 0) (.slice none 0 0) sv (.slice none 0 0) rfl rfl HPz.out HONE.out rfl ?_)
 intro w2 hw2
 have hb2:Below w1.heap.size w1 w2:=by rw [hw2.out];exact below_row (below_alloc w1 _) (Nat.le_refl _) _
 have HP2:=Lib.hid (show PlBlk w2 w1.heap.size planF sv (.slice none 0 0) by rw [hw2.out];exact HPz.out.row)
 have HB2:=Lib.hid (Below.next HB1.out hb2)
 have HR2:=Lib.hid (HR1.out.below hb2)
 have HF2:=Lib.hid (HH.out.below HB2.out)
 have HNF:=Lib.hid (fun k (hk:w.heap.size≤k)=>show ¬ foot f m [] k from fun hf=>by have:=HFW.out k hf;omega)
 have HSG2:=Lib.hid ((HSG.out.below hb2).mono (A':=fun k=> ¬ foot f m [] k) (fun k hk=>HNF.out k (by simp at hk;omega)))
 have HRA:=Lib.hid (recApply_good w2 f m d [] HF2.out planF sv (.slice none 0 0) HSG2.out ⟨none,0,rfl,Nat.le_refl _,by decide,fun i x hx=>by simp [planF] at hx⟩ (HNB.out.below HB2.out) HNG.out (by show d.steps+((0:Nat):Int)+16<_;have:=HST.out;omega) firstM_ok)
 clear hw2 hb2 HPz HB1 HR1 HSG
 have HSZ:=Lib.hid (show w.heap.size<w2.heap.size from HR2.out.lt)
 generalize w1.heap.size=b4 at*
 go_wp2_with (with_reducible refine wpList_load_pl rfl (.tmp 4) rfl b4 planF sv (.slice none 0 0) rfl HP2.out ?_)
 refine HRA.out.mono ?_
 rintro e w3 ⟨rfl,hp⟩
 rw [HAP.out]
 have HPP:=Lib.hid hp
 have HP3:=Lib.hid (HP2.out.kept (hp.block HP2.out.lt (HNF.out _ (by omega))))
 have HR3:=Lib.hid (HR2.out.kept (hp.block HR2.out.lt (HNF.out _ (Nat.le_refl _))))
 clear hp HRA HP2 HR2
 go_wp2_with (first | (with_reducible refine wpList_load_pl rfl (.tmp 4) rfl b4 planF sv (.slice none 0 0) rfl HP3.out ?_) | (with_reducible refine wpList_store_pl rfl (.tmp 2) (.tmp 23) rfl w.heap.size planZ planF (.slice none 0 0) (.slice none 0 0) sv (.slice none 0 0) rfl rfl HR3.out HONE.out rfl ?_))
 intro w4 hw4
 have HP4:=Lib.hid (show PlBlk w4 w.heap.size planF sv (.slice none 0 0) by rw [hw4.out];exact HR3.out.row)
 have HF4:=Lib.hid (show FsPost w f m [] (applyD d planF).1 w4 by
  obtain⟨L',h1,h2,h3⟩:=HPP.out
  have ht:Turned (fun k=>k=w.heap.size) w3 w4:=by rw [hw4.out];exact⟨rfl,rfl,rfl,by simp,fun k _ hn=>setRow_other _ _ _ _ hn⟩
  have hnf: ∀ k,foot f m L' k→ ¬ k=w.heap.size:=fun k hk e=>by
   rcases h3 k hk with h4 | h4
   ·exact HNF.out k (by omega) h4
   ·have:=HSZ.out;omega
  exact⟨L',h1.turned ht hnf,((Turned.below HB2.out).trans h2 (fun _ h=> .inl h)).trans ht (fun i hi=> .inr (by omega)),fun k hk=>(h3 k hk).imp id (fun h=>Nat.le_trans HB2.out.size h)⟩)
 clear hw4
 go_wp2
 exact bodyPost_ret (v:= .tuple #[plV planF sv (.slice none 0 0),.int .i64 0]) (results_pl2 rfl _ _ w.heap.size planF sv (.slice none 0 0) _ rfl rfl HP4.out) rfl ⟨⟨_,rfl,HONE.out⟩,HF4.out⟩
set_option maxRecDepth 100000 in
set_option maxHeartbeats 4000000 in
theorem head18_any (w:World) (hn:NibTab w):Calls Tryz.prog 9 #[] w fun e w'=>e= .returned (.bool true)∧Below w.heap.size w w':=by
 have HNB:=Lib.hid hn
 have HNL:=Lib.hid hn.lt
 clear hn
 go_enter Tryz.func9,Tryz.ntmps9
 go_wp2_with fail
 refine(fsNew_any 51 w).mono ?_
 rintro e w1 ⟨f,m,rfl,hat,hf,hm,hb1⟩
 have HB1:=Lib.hid hb1
 have HLO:=Lib.hid (show ∀ k,foot f m [] k→w.heap.size≤k from fun k hk=>by
  rcases hk with rfl | rfl | ⟨s,hs,_⟩
  ·exact hf
  ·exact hm
  ·exact absurd hs List.not_mem_nil)
 have HRN:=Lib.hid (run_empty w1 f m (newD 51) hat rfl (HNB.out.below hb1) (fun hc=>by have:=HLO.out _ hc;have:=HNL.out;omega) (by decide) (by decide) head_store.1)
 clear hat hf hm hb1
 go_wp2_with fail
 refine HRN.out.mono ?_
 rintro e w2 ⟨⟨sv,rfl,hone⟩,hp⟩
 have HONE:=Lib.hid hone
 obtain⟨L2,h2,ht2,hs2⟩:=hp
 have HF2:=Lib.hid h2
 have HB2:=Lib.hid (show Below w.heap.size w w2 from⟨ht2.os.trans HB1.out.os,ht2.tape.trans HB1.out.tape,ht2.output.trans HB1.out.output,Nat.le_trans HB1.out.size ht2.size,fun k hk=>(ht2.block k (Nat.lt_of_lt_of_le hk HB1.out.size) (fun hc=>by have:=HLO.out k hc;omega)).trans (HB1.out.block k hk)⟩)
 have HPz:=Lib.hid (plBlk_alloc w2 planZ (.slice none 0 0) (.slice none 0 0))
 simp only [plCs,planZ,zeroM] at HPz
 have HU:=Lib.hid head_store.2
 clear h2 ht2 hs2 HRN hone
 go_wp2_with (with_reducible refine wpList_store_pl rfl (.tmp 2) (.tmp 10) rfl w2.heap.size ⟨false,⟨0,0,0,0,0,[]⟩,[],0,0⟩ planF (.slice none 0 0) (.slice none 0 0) sv (.slice none 0 0) rfl rfl HPz.out HONE.out rfl ?_)
 intro w3 hw3
 have hb3:Below w2.heap.size w2 w3:=by rw [hw3.out];exact below_row (below_alloc w2 _) (Nat.le_refl _) _
 have HP3:=Lib.hid (show PlBlk w3 w2.heap.size planF sv (.slice none 0 0) by rw [hw3.out];exact HPz.out.row)
 have HB3:=Lib.hid (Below.next HB2.out hb3)
 have HF3:=Lib.hid (HF2.out.below hb3)
 clear hw3 hb3 HPz HF2 HB2
 generalize w2.heap.size=b2 at*
 go_wp2_with fail
 refine(fsNew_any 50 w3).mono ?_
 rintro e w4 ⟨f2,m2,rfl,hat2,_,_,hb4⟩
 have HB4:=Lib.hid (Below.next HB3.out hb4)
 have HP4:=Lib.hid (HP3.out.below hb4)
 have HF4:=Lib.hid (HF3.out.below hb4)
 have HPL:=Lib.hid (plan_empty w4 f2 m2 (newD 50) hat2 rfl (HNB.out.below HB4.out))
 clear hat2 hb4 HB3 HP3 HF3
 go_wp2_with fail
 refine HPL.out.mono ?_
 rintro e w5 ⟨_,hlt,hb5⟩
 obtain rfl:=hlt (by decide)
 have HPy:=Lib.hid (plBlk_alloc w5 planZ (.slice none 0 0) (.slice none 0 0))
 have HB5:=Lib.hid (Below.next HB4.out hb5)
 have HP5:=Lib.hid (HP4.out.below hb5)
 have HF5:=Lib.hid (HF4.out.below hb5)
 simp only [plCs,planZ,zeroM] at HPy
 clear hlt hb5 HPL HB4 HP4 HF4
 go_wp2_with (with_reducible refine wpList_store_pl rfl (.tmp 4) (.tmp 15) rfl w5.heap.size ⟨false,⟨0,0,0,0,0,[]⟩,[],0,0⟩ planZ (.slice none 0 0) (.slice none 0 0) (.slice none 0 0) (.slice none 0 0) rfl rfl HPy.out rfl rfl ?_)
 intro w6 hw6
 have hb6:Below w5.heap.size w5 w6:=by rw [hw6.out];exact below_row (below_alloc w5 _) (Nat.le_refl _) _
 have HQ6:=Lib.hid (show PlBlk w6 w5.heap.size planZ (.slice none 0 0) (.slice none 0 0) by rw [hw6.out];exact HPy.out.row)
 have HB6:=Lib.hid (Below.next HB5.out hb6)
 have HP6:=Lib.hid (HP5.out.below hb6)
 have HF6:=Lib.hid (HF5.out.below hb6)
 have c0:w6.cell? ⟨b2,0,none⟩=some (.bool true):=HP6.out.c0
 have c8:w6.cell? ⟨b2,8,none⟩=some (.int .i64 22):=HP6.out.c8
 have d0:w6.cell? ⟨w5.heap.size,0,none⟩=some (.bool false):=HQ6.out.c0
 have HUS:=Lib.hid (used_any w6 f m _ L2 HF6.out)
 rw [HU.out] at HUS
 clear hw6 hb6 HPy HB5 HP5 HF5
 go_wp2_with (go_at_call 14;refine HUS.out.mono ?_;rintro e w7 ⟨rfl,rfl⟩)
 go_ret
 exact⟨rfl,HB6.out⟩
end Go.Proofs.YtlobohpbgghleaaGreatDoor
namespace Go.Proofs.YtlobohpbgghleaaGreatDoor
open Go.RowKit
def sgCells (l:List Sg):List Value:=l.flatMap fun g=>(sgCs g).toList
theorem sgCells_at: ∀ (rs:List Sg) (i:Nat) (r:Sg),rs[i]? =some r→ ∀ (j:Nat) u,(sgCs r)[j]? =some u→(sgCells rs)[i*4+j]? =some u
 | [],i,r,h,_,_,_=>by simp at h
 | x::rs,0,r,h,j,u,hj=>by
  simp at h;subst h
  have hl:j<4:=by have:=(Array.getElem?_eq_some_iff.1 hj).1;simpa [sgCs] using this
  unfold sgCells
  rw [List.flatMap_cons,Nat.zero_mul,Nat.zero_add,List.getElem?_append_left (by simpa [sgCs] using hl)]
  simpa using hj
 | x::rs,i+1,r,h,j,u,hj=>by
  have:=sgCells_at rs i r (by simpa using h) j u hj
  unfold sgCells at this ⊢
  rw [List.flatMap_cons,List.getElem?_append_right (by simp [sgCs];omega)]
  rw [←this]
  congr 1
  simp [sgCs];omega
theorem sgIn_own {A:Nat→Prop} {w:World} {B:Nat} {v:Value} {l:List Sg} (h:w.ownsRow B 46 4 v l.length (sgCells l)) (hA: ∀ k,B≤k→A k):SgIn A w v l:=by
 by_cases hn:l=[]
 ·subst hn
  obtain⟨oa,cap,rfl,h1,h2⟩:=own_shape h
  exact⟨oa,cap,rfl,h1,by unfold maxLen at h2;omega,fun i g hg=>by simp at hg⟩
 ·obtain⟨g,cap,rfl,hB,_,h1,h2,h3⟩:=own_get h (List.length_pos_iff.2 hn)
  exact⟨_,cap,rfl,h1,by unfold maxLen at h2;omega,fun i x hx=>⟨g,0,rfl,hA g hB,fun j u hj=>by rw [Nat.zero_add];exact h3 _ _ (sgCells_at l i x hx j u (by simpa using hj))⟩⟩
def zeroSg:Value:= .agg #[.int .i64 0,.int .i64 0,.int .i64 0,.int .i64 0]
theorem infoSg:(Tryz.prog.info? 46).map (fun i=>(i.zero,i.size,i.bytes))=some (some zeroSg,4,32):=by kernel_rfl
theorem MnBlk.set {w:World} {g:Nat} {m:Man} {sv sv':Value} (h:MnBlk w g m sv) (e:(mnCs m sv).setIfInBounds 5 sv'=mnCs m sv'):MnBlk (w.setCell ⟨g,5,none⟩ sv') g m sv':=by
 unfold MnBlk at h ⊢
 rw [←e]
 simp only [World.setCell]
 rw [Array.getElem?_modify]
 simp [h]
theorem MnBlk.free {w:World} {g:Nat} {m:Man} {sv:Value} (h:MnBlk w g m sv) (j:Nat):w.frozen? ⟨g,j,none⟩=false:=by unfold MnBlk at h;simp [World.frozen?,h]
end Go.Proofs.YtlobohpbgghleaaGreatDoor
namespace Go.Proofs.YtlobohpbgghleaaGreatDoor
open Go.RowKit
theorem nib_of {w:World} {l:List (String×DataW Unit)} (hl:l=[("daybook/crc.nibbles",Rows.laid_daybook_crc_nibbles)]) (h:laidMet Tryz.prog l w):NibTab w:=by
 subst hl
 exact Lib.tabIs_of_head (g:=0) (t:=316) (e:=214) (by kernel_rfl) (by kernel_rfl) Tryz.underlying316 Tryz.underlying214 (by kernel_rfl) (by kernel_rfl) h
theorem turned_below {S:Nat→Prop} {B:Nat} {w0 w w':World} (hb:Below B w0 w) (ht:Turned S w w') (hS: ∀ k,S k→B≤k) (hB:B≤w.heap.size):Below B w0 w':=
 ⟨ht.os.trans hb.os,ht.tape.trans hb.tape,ht.output.trans hb.output,Nat.le_trans hb.size ht.size,fun k hk=>(ht.block k (Nat.lt_of_lt_of_le hk hB) (fun hc=>by have:=hS k hc;omega)).trans (hb.block k hk)⟩
theorem stIn_own {A:Nat→Prop} {w:World} {B:Nat} {v:Value} {l:List (List UInt8)} (h:w.ownsRow B 9 1 v l.length (l.map fun s=> .string ⟨s.toArray⟩)) (hA: ∀ k,B≤k→A k):StIn A w v l:=by
 by_cases hn:l=[]
 ·subst hn
  obtain⟨oa,cap,rfl,h1,h2⟩:=own_shape h
  exact⟨oa,cap,rfl,h1,by unfold maxLen at h2;omega,fun i g hg=>by simp at hg⟩
 ·obtain⟨g,cap,rfl,hB,_,h1,h2,h3⟩:=own_get h (List.length_pos_iff.2 hn)
  exact⟨_,cap,rfl,h1,by unfold maxLen at h2;omega,fun i x hx=>⟨g,0,rfl,hA g hB,by rw [Nat.zero_add];exact h3 _ _ (by rw [List.getElem?_map,hx];rfl)⟩⟩
theorem StIn.turned {A S:Nat→Prop} {w w':World} {v:Value} {l:List (List UInt8)} (h:StIn A w v l) (ht:Turned S w w') (hS: ∀ k,A k→ ¬ S k):StIn A w' v l:=by
 obtain⟨oa,cap,h1,h2,h3,h4⟩:=h
 exact⟨oa,cap,h1,h2,h3,fun i g hg=>by obtain⟨b,off,e,ha,hc⟩:=h4 i g hg;exact⟨b,off,e,ha,ht.cell hc (hS b ha)⟩⟩
theorem row_setCell {w:World} {b:Nat} {cs:Array Value} {ty:TypeId} (h:w.heap[b]? =some (.cells cs ty (0,0))) (j:Nat) (v:Value):(w.setCell ⟨b,j,none⟩ v).heap[b]? =some (.cells (cs.setIfInBounds j v) ty (0,0)):=by
 simp [World.setCell,Array.getElem?_modify,h]
theorem run_setRow_turned (w:World) (g:Nat) (cs:Array Value):Turned (fun k=>k=g) w (w.setRow g cs):=⟨rfl,rfl,rfl,by simp,fun k _ hn=>setRow_other _ _ _ _ hn⟩
end Go.Proofs.YtlobohpbgghleaaGreatDoor

namespace Go.Proofs.YtlobohpbgghleaaGreatDoor
open Go.RowKit
theorem frInfo:(Tryz.prog.info? 148).map (·.size)=some 3:=by kernel_rfl
theorem frCs_all (k s:Int) (v:Value) (h:v.oneCell'=true):(frCs k s v).all (·.oneCell')=true:=
 Array.all_eq_true_iff_forall_mem.2 (by
  intro u hu
  simp only [frCs,List.mem_toArray,List.mem_cons,List.not_mem_nil,or_false] at hu
  rcases hu with rfl | rfl | rfl<;>first | rfl | assumption)
theorem FrBlk.lt {w:World} {g:Nat} {k s:Int} {bv:Value} (h:FrBlk w g k s bv):g<w.heap.size:=(Array.getElem?_eq_some_iff.1 h).1
theorem FrBlk.row {w:World} {g:Nat} {k s k' s':Int} {bv bv':Value} (h:FrBlk w g k s bv):FrBlk (w.setRow g (frCs k' s' bv')) g k' s' bv':=setRow_heap w g _ _ _ _ h
theorem wpList_store_fr {ops:Array Oper} {rest:List Oper} {o:Oper} {a:Act} {w:World} {Q:Exit→Act→World→Prop} (hgd:o.guard=none) (x y:Operand) (ho:o.op= .store 148 x y)
  (g:Nat) (k s k' s':Int) (bv bv':Value) (hx:a.eval x= .pointer (some ⟨g,0,none⟩)) (hy:a.eval y=frV k' s' bv') (hE:FrBlk w g k s bv) (h1:bv'.oneCell'=true)
  (h: ∀ W,FrBlk W g k' s' bv'→Turned (fun k=>k=g) w W→wpList Tryz.prog ops Q rest (a.put o.dst undef) W):wpList Tryz.prog ops Q (o::rest) a w:=
 wpList_store_row hgd 148 x y ho g (frCs k' s' bv') hx hy 148 (frCs k s bv) hE frInfo rfl (frCs_all k' s' bv' h1) (h _ hE.row (run_setRow_turned _ _ _))
theorem run_load_fr {w:World} {g:Nat} {k s:Int} {bv:Value} (hE:FrBlk w g k s bv):(loadVar 148 ⟨g,0,none⟩).run Tryz.prog w= .ok (frV k s bv) w:=
 run_loadVar_row (P:=Tryz.prog) w g 148 148 (frCs k s bv) (0,0) _ hE Tryz.underlying148 rfl frInfo
theorem wpList_load_fr {ops:Array Oper} {rest:List Oper} {o:Oper} {a:Act} {w:World} {Q:Exit→Act→World→Prop} (hgd:o.guard=none) (x:Operand) (ho:o.op= .load 148 x)
  (g:Nat) (k s:Int) (bv:Value) (hx:a.eval x= .pointer (some ⟨g,0,none⟩)) (hE:FrBlk w g k s bv)
  (h:wpList Tryz.prog ops Q rest (a.put o.dst (frV k s bv)) w):wpList Tryz.prog ops Q (o::rest) a w:=
 wpList_load_row hgd 148 x ho g hx 148 (frCs k s bv) (0,0) _ hE Tryz.underlying148 rfl frInfo h
theorem results_fr3 {fn:Func} {p q r:Tmp} (h:fn.results= #[.cell p 148,.tmp q,.tmp r]) (tmps:Array Value) (w:World) (g:Nat) (k s:Int) (bv x y:Value)
  (hp:tmps.getD p undef= .pointer (some ⟨g,0,none⟩)) (hq:tmps.getD q undef=x) (hr:tmps.getD r undef=y) (hE:FrBlk w g k s bv):(results fn tmps).run Tryz.prog w= .ok (.tuple #[frV k s bv,x,y]) w:=by
 have hl:=run_load_fr hE
 have hp':tmps[p]?.getD undef= .pointer (some ⟨g,0,none⟩):=by simpa using hp
 have hq':tmps[q]?.getD undef=x:=by simpa using hq
 have hr':tmps[r]?.getD undef=y:=by simpa using hr
 simp [results,h,hp',hq',hr',asAddr,hl]
theorem results_fr2 {fn:Func} {p q:Tmp} (h:fn.results= #[.cell p 148,.tmp q]) (tmps:Array Value) (w:World) (g:Nat) (k s:Int) (bv x:Value)
  (hp:tmps.getD p undef= .pointer (some ⟨g,0,none⟩)) (hq:tmps.getD q undef=x) (hE:FrBlk w g k s bv):(results fn tmps).run Tryz.prog w= .ok (.tuple #[frV k s bv,x]) w:=by
 have hl:=run_load_fr hE
 have hp':tmps[p]?.getD undef= .pointer (some ⟨g,0,none⟩):=by simpa using hp
 have hq':tmps[q]?.getD undef=x:=by simpa using hq
 simp [results,h,hp',hq',asAddr,hl]
section
variable {ops : Array Oper} {rest : List Oper} {o : Oper} {a : Act} {w : World} {Q : Exit → Act → World → Prop}
theorem wpList_cut_lhm (hgd:o.guard=none) (x y z u:Operand) (ho:o.op= .slice 47 x (some y) (some z) (some u)) (oa:Option Addr) (cap lo hi n:Nat) (l:List UInt8) (hx:a.eval x= .slice oa l.length cap) (hy:a.eval y= .int .i64 (lo:Int)) (hz:a.eval z= .int .i64 (hi:Int)) (hu:a.eval u= .int .i64 (hi:Int))
  (hv:BRow w (.slice oa l.length cap) l) (h1:lo≤hi) (h2:hi≤l.length) (hn:Hid (hi - lo=n)) (h: ∀ oa' cap',BRow w (.slice oa' n cap') ((l.take hi).drop lo)→wpList Tryz.prog ops Q rest (a.put o.dst (.slice oa' n cap')) w):wpList Tryz.prog ops Q (o::rest) a w:=by
 have hv':=hv
 obtain⟨_,c',e,hl',_⟩:=hv'
 simp only [Value.slice.injEq,true_and] at e
 obtain⟨rfl,rfl⟩:=e
 have hb:=brow_cut (lo:=lo) (hi:=hi) (mx:=hi) hv h1 h2 (Nat.le_refl _)
 refine wpList_plain hgd fun K hK=> ?_
 unfold Oper.wp execOp
 simp only [ho,hx,hy,hz,hu,Option.map_some,sliceAt_b,run_cut_lhm oa l.length cap lo hi hi h1 (Nat.le_refl _) (Nat.le_trans h2 hl'),Sem.run_bind,Sem.run_pure,Result.andThen_ok]
 have hn':=hn.out
 subst hn'
 exact hK _ _ (h _ _ hb)
end
def DecPost (w:World) (r:Frm×Nat×Int) (e:Ending) (w':World):Prop:= ∃ bv,e= .returned (.tuple #[frV (r.1.k:Int) (r.1.s:Int) bv,.int .i64 (r.2.1:Int),.int .i64 r.2.2])∧BRowIn (fun k=>w.heap.size≤k) w' bv r.1.body∧Below w.heap.size w w'
theorem decF_bad {b:List UInt8} {k s n:Nat} {e:Int} (h:peekF b=(k,s,n,e)) (he:e≠0):decF b=(zFrm,0,e):=by unfold decF;rw [h,if_pos he]
theorem decF_torn {b:List UInt8} {k s n:Nat} (h:peekF b=(k,s,n,0)) (hn:b.length<n):decF b=(zFrm,0,60):=by unfold decF;rw [h,if_neg (fun h=>h rfl),if_pos hn]
theorem decF_sum {b:List UInt8} {k s n:Nat} (h:peekF b=(k,s,n,0)) (hn: ¬ b.length<n) (hc:crcOk ((b.take n).drop 16)=false):decF b=(zFrm,0,62):=by unfold decF;rw [h,if_neg (fun h=>h rfl),if_neg hn,if_pos hc]
theorem decF_good {b:List UInt8} {k s n:Nat} (h:peekF b=(k,s,n,0)) (hn: ¬ b.length<n) (hc: ¬ crcOk ((b.take n).drop 16)=false):decF b=(⟨k,s,((b.take n).drop 16).take (n - 20)⟩,n,0):=by unfold decF;rw [h,if_neg (fun h=>h rfl),if_neg hn,if_neg hc]
theorem browIn_nil (A:Nat→Prop) (w:World):BRowIn A w (.slice none 0 0) []:=⟨none,0,rfl,Nat.le_refl _,fun h=>absurd rfl h⟩
set_option maxRecDepth 100000 in
set_option maxHeartbeats 4000000 in
theorem frameDec_any (l:List UInt8) (v:Value) (w:World) (hv:BRow w v l) (hl:l.length≤9223372036854775807) (hn:NibTab w):
  Calls Tryz.prog 146 #[v] w (DecPost w (decF l)):=by
 have HB0:=Lib.hid (below_alloc w (.cells (frCs 0 0 (.slice none 0 0)) 148))
 have HF0:=Lib.hid (frBlk_alloc w 0 0 (.slice none 0 0))
 have HPK:=Lib.hid (peek_any l v _ (hv.below HB0.out) hl (hn.below HB0.out))
 have HNB:=Lib.hid hn
 have HV:=Lib.hid (fun W (hb:Below w.heap.size w W)=>hv.below hb)
 have HPF:=Lib.hid (@peekF_fine l)
 obtain⟨oa,cap,rfl,hlc,hc⟩:=hv
 simp only [frCs] at HB0 HF0 HPK
 obtain⟨r,hr⟩: ∃ r,r=peekF l:=⟨_,rfl⟩
 rw [←hr] at HPK HPF
 have HR:=Lib.hid hr.symm
 clear hc hr hn
 obtain⟨k,s,sz,e0⟩:=r
 unfold PeekPost at HPK
 go_enter Tryz.func146,Tryz.ntmps146
 go_wp2_with fail
 refine HPK.out.mono ?_
 rintro e w1 ⟨rfl,hb1⟩
 have HB1:=Lib.hid (Below.next HB0.out hb1)
 have HF1:=Lib.hid (HF0.out.below hb1)
 clear hb1 HB0 HF0 HPK
 rcases he0:(e0 != 0) with _ | _
 ·have he00:e0=0:=by simpa using he0
  subst he00
  obtain⟨_,hk1,hk7,hs1,hz1,hz2⟩:=HPF.out rfl
  obtain⟨m,hm⟩: ∃ m,sz=m+20:=⟨sz - 20,by omega⟩
  obtain⟨m4,hm4⟩: ∃ m4,m4=m+4:=⟨_,rfl⟩
  rcases hlt:decide (l.length<sz) with _ | _
  ·have hle:sz≤l.length:=by have:=of_decide_eq_false hlt;omega
   have HNT:=Lib.hid (show ¬ l.length<sz by omega)
   have HM4:=Lib.hid (show sz - 16=m4 by omega)
   have hlo:16≤sz:=by omega
   have HBR:=Lib.hid (HV.out w1 HB1.out)
   have q4:(m4:Int) - 4=(m:Int):=by omega
   obtain⟨rs,hrs⟩: ∃ rs,rs=(l.take sz).drop 16:=⟨_,rfl⟩
   have HRS:=Lib.hid hrs
   have HRL:=Lib.hid (show rs.length=m4 by rw [hrs,List.length_drop,List.length_take];omega)
   have hml:m≤m4:=by omega
   have HML:=Lib.hid (show sz - 20=m by omega)
   have hmb:m≤16384:=by omega
   clear hrs hm hm4 he0 HPF hk1 hk7 hs1 hz1 hz2
   go_wp2_with (with_reducible refine wpList_cut_lhm rfl (.tmp 26) (.const (.int .i64 16)) (.tmp 27) (.tmp 28) rfl oa cap 16 sz m4 l rfl rfl rfl rfl HBR.out hlo hle HM4 ?_)
   intro oa' cap' hbr
   rw [←HRS.out] at hbr
   have HRB:=Lib.hid hbr
   have HCL:=Lib.hid (closed_any rs _ w1 hbr (by rw [HRL.out];omega) (HNB.out.below HB1.out))
   clear hbr
   go_wp2_with fail
   refine HCL.out.mono ?_
   rintro e w2 ⟨rfl,hb2⟩
   have HB2:=Lib.hid (Below.next HB1.out hb2)
   have HF2:=Lib.hid (HF1.out.below hb2)
   have HRB2:=Lib.hid (HRB.out.below hb2)
   clear hb2 HCL HB1 HF1 HRB HBR
   rcases hck:crcOk rs with _ | _
   ·have HE:=Lib.hid (decF_sum HR.out HNT.out (by rw [←HRS.out];exact hck))
    go_wp2_with (with_reducible refine wpList_store_fr rfl (.tmp 2) (.tmp 33) rfl w.heap.size 0 0 0 0 (.slice none 0 0) (.slice none 0 0) rfl rfl HF2.out rfl ?_)
    intro w3 hf3 ht3
    have HF3:=Lib.hid hf3
    have HB3:=Lib.hid (turned_below HB2.out ht3 (fun k hk=>by omega) HB2.out.size)
    clear hf3 ht3
    go_wp2
    refine bodyPost_ret (v:= .tuple #[frV 0 0 (.slice none 0 0),.int .i64 0,.int .i64 62]) (results_fr3 rfl _ _ w.heap.size 0 0 (.slice none 0 0) _ _ rfl rfl rfl HF3.out) rfl ⟨_,by rw [HE.out];rfl,by rw [HE.out];exact browIn_nil _ _,HB3.out⟩
   ·have HE:=Lib.hid (decF_good HR.out HNT.out (by rw [←HRS.out,hck];decide))
    rw [←HRS.out,HML.out] at HE
    have HRB2':=Lib.hid (show BRow w2 (.slice oa' rs.length cap') rs by rw [HRL.out];exact HRB2.out)
    have HCN:=Lib.hid (fun W oa2 cap2 (hb:BRow W (.slice oa2 m cap2) (rs.take m))=>clone_any (rs.take m) (.slice oa2 m cap2) W hb (by rw [List.length_take];omega))
    have hmr:m≤rs.length:=by rw [HRL.out];exact hml
    have HX:=Lib.hid (show Value.slice oa' m4 cap'= .slice oa' rs.length cap' by rw [HRL.out])
    clear hck
    go_wp2_with (refine wpList_cut_h rfl (.tmp 36) (.tmp 39) rfl oa' cap' m rs HX.out rfl HRB2'.out hmr ?_)
    intro oa2 cap2 hbr2
    go_wp2_with fail
    refine(HCN.out w2 oa2 cap2 hbr2).mono ?_
    rintro e w3 ⟨v3,rfl,ho3,hb3⟩
    have HB3:=Lib.hid (Below.next HB2.out hb3)
    have HF3:=Lib.hid (HF2.out.below hb3)
    have HO3:=Lib.hid (browIn_own (A:=fun k=>w2.heap.size≤k) ho3 (fun _ h=>h))
    obtain⟨o3,cap3,e3,_,_⟩:=own_shape ho3
    rw [show (rs.take m).length=m by rw [List.length_take];omega] at e3
    subst e3
    have hg2:=HF2.out.lt
    clear ho3 hb3 hbr2 HCN HRB2 HRB2' HX
    go_wp2_with (with_reducible refine wpList_store_fr rfl (.tmp 2) (.tmp 42) rfl w.heap.size 0 0 k s (.slice none 0 0) (.slice o3 m cap3) rfl rfl HF3.out rfl ?_)
    intro w4 hf4 ht4
    have HF4:=Lib.hid hf4
    have HB4:=Lib.hid (turned_below HB3.out ht4 (fun k hk=>by omega) HB3.out.size)
    have HO4:=Lib.hid ((HO3.out.turned ht4 (fun k hk he=>by omega)).mono (A':=fun k=>w.heap.size≤k) (fun k hk=>by omega))
    clear hf4 ht4 HO3 HB3 HF3
    go_wp2
    refine bodyPost_ret (v:= .tuple #[frV k s (.slice o3 m cap3),.int .i64 sz,.int .i64 0]) (results_fr3 rfl _ _ w.heap.size k s (.slice o3 m cap3) _ _ rfl rfl rfl HF4.out) rfl ⟨_,by rw [HE.out],by rw [HE.out];exact HO4.out,HB4.out⟩
  ·have hle:l.length<sz:=by have:=of_decide_eq_true hlt;omega
   have HE:=Lib.hid (decF_torn HR.out hle)
   clear hle hm hm4
   go_wp2_with (with_reducible refine wpList_store_fr rfl (.tmp 2) (.tmp 25) rfl w.heap.size 0 0 0 0 (.slice none 0 0) (.slice none 0 0) rfl rfl HF1.out rfl ?_)
   intro w3 hf3 ht3
   have HF3:=Lib.hid hf3
   have HB3:=Lib.hid (turned_below HB1.out ht3 (fun k hk=>by omega) HB1.out.size)
   clear hf3 ht3
   go_wp2
   refine bodyPost_ret (v:= .tuple #[frV 0 0 (.slice none 0 0),.int .i64 0,.int .i64 60]) (results_fr3 rfl _ _ w.heap.size 0 0 (.slice none 0 0) _ _ rfl rfl rfl HF3.out) rfl ⟨_,by rw [HE.out];rfl,by rw [HE.out];exact browIn_nil _ _,HB3.out⟩
 ·have HE:=Lib.hid (decF_bad HR.out (show e0≠0 by simpa using he0))
  go_wp2_with (with_reducible refine wpList_store_fr rfl (.tmp 2) (.tmp 19) rfl w.heap.size 0 0 0 0 (.slice none 0 0) (.slice none 0 0) rfl rfl HF1.out rfl ?_)
  intro w3 hf3 ht3
  have HF3:=Lib.hid hf3
  have HB3:=Lib.hid (turned_below HB1.out ht3 (fun k hk=>by omega) HB1.out.size)
  clear hf3 ht3
  go_wp2
  refine bodyPost_ret (v:= .tuple #[frV 0 0 (.slice none 0 0),.int .i64 0,.int .i64 e0]) (results_fr3 rfl _ _ w.heap.size 0 0 (.slice none 0 0) _ _ rfl rfl rfl HF3.out) rfl ⟨_,by rw [HE.out];rfl,by rw [HE.out];exact browIn_nil _ _,HB3.out⟩
end Go.Proofs.YtlobohpbgghleaaGreatDoor

namespace Go.Proofs.YtlobohpbgghleaaGreatDoor
open Go.RowKit
def wholeF (b:List UInt8) (kind:Nat):Frm×Int:=if (decF b).2.2≠0 then (zFrm,(decF b).2.2) else if (decF b).1.k≠kind∨(decF b).2.1≠b.length then (zFrm,63) else ((decF b).1,0)
def WholePost (w:World) (r:Frm×Int) (e:Ending) (w':World):Prop:= ∃ bv,e= .returned (.tuple #[frV (r.1.k:Int) (r.1.s:Int) bv,.int .i64 r.2])∧BRowIn (fun k=>w.heap.size≤k) w' bv r.1.body∧Below w.heap.size w w'
theorem BRowIn.low1 {A:Nat→Prop} {w:World} {v:Value} {l:List UInt8} (h:BRowIn A w v l):BRowIn (fun k=>A k∧k<w.heap.size) w v l:=h.low
set_option maxRecDepth 100000 in
set_option maxHeartbeats 4000000 in
theorem whole_any (l:List UInt8) (v:Value) (kind:Nat) (w:World) (hv:BRow w v l) (hl:l.length≤9223372036854775807) (hn:NibTab w):
  Calls Tryz.prog 105 #[v,.int .i64 (kind:Int)] w (WholePost w (wholeF l kind)):=by
 have HB0:=Lib.hid (below_alloc w (.cells (frCs 0 0 (.slice none 0 0)) 148))
 have HF0:=Lib.hid (frBlk_alloc w 0 0 (.slice none 0 0))
 have HD:=Lib.hid (frameDec_any l v _ (hv.below HB0.out) hl (hn.below HB0.out))
 obtain⟨oa,cap,rfl,hlc,hc⟩:=hv
 have HW:=Lib.hid (show wholeF l kind=if (decF l).2.2≠0 then (zFrm,(decF l).2.2) else if (decF l).1.k≠kind∨(decF l).2.1≠l.length then (zFrm,63) else ((decF l).1,0) from rfl)
 simp only [frCs] at HB0 HF0 HD
 obtain⟨r,hr⟩: ∃ r,r=decF l:=⟨_,rfl⟩
 rw [←hr] at HD HW
 clear hc hr hn
 obtain⟨⟨k,s,body⟩,sz,e0⟩:=r
 unfold DecPost at HD
 go_enter Tryz.func105,Tryz.ntmps105
 go_wp2_with fail
 refine HD.out.mono ?_
 rintro e w1 ⟨bv,rfl,hbv,hb1⟩
 have HB1:=Lib.hid (Below.next HB0.out hb1)
 have HF1:=Lib.hid (HF0.out.below hb1)
 have HBV:=Lib.hid (hbv.low1.mono (A':=fun x=>(w.heap.size<x)∧x<w1.heap.size) (fun x hx=>⟨by have:=hx.1;simp at this;omega,hx.2⟩))
 have HFz:=Lib.hid (frBlk_alloc w1 0 0 (.slice none 0 0))
 have HBz:=Lib.hid (below_alloc w1 (.cells (frCs 0 0 (.slice none 0 0)) 148))
 have hone:=hbv.one
 simp only [frCs] at HFz HBz
 have hsz:=HF1.out.lt
 clear hbv hb1 HB0 HF0 HD
 go_wp2_with (with_reducible refine wpList_store_fr rfl (.tmp 6) (.tmp 12) rfl w1.heap.size 0 0 (k:Int) (s:Int) (.slice none 0 0) bv rfl rfl HFz.out hone ?_)
 intro w2 hf2 ht2
 have HF2:=Lib.hid hf2
 have HB2:=Lib.hid (turned_below (HB1.out.trans (HBz.out.mono HB1.out.size)) ht2 (fun x hx=>by have:=HB1.out.size;omega) (by have:=HB1.out.size;have:=HBz.out.size;omega))
 have HFr:=Lib.hid (show FrBlk w2 w.heap.size 0 0 (.slice none 0 0) by
  unfold FrBlk
  rw [ht2.block _ (Nat.lt_of_lt_of_le hsz HBz.out.size) (by omega)]
  exact HF1.out.below HBz.out)
 have HV2:=Lib.hid ((HBV.out.below HBz.out).turned ht2 (fun x hx he=>by have:=hx.2;omega))
 have c0:w2.cell? ⟨w1.heap.size,0,none⟩=some (.int .i64 (k:Int)):=HF2.out.c0
 clear hf2 ht2 HB1 HF1 HBV HFz HBz
 generalize w1.heap.size=g at*
 rcases he0:(e0 != 0) with _ | _
 ·have he00:e0=0:=by simpa using he0
  subst he00
  rcases hk:((k:Int) != (kind:Int)) with _ | _
  ·have HK:=Lib.hid (show k=kind by simp at hk;omega)
   rcases hz:((sz:Int) != (l.length:Int)) with _ | _
   ·have HZ:=Lib.hid (show sz=l.length by simp at hz;omega)
    have HE:=Lib.hid (show wholeF l kind=(⟨k,s,body⟩,0) by rw [HW.out];simp [HK.out,HZ.out])
    go_wp2_with (first | (with_reducible refine wpList_load_fr rfl (.tmp 6) rfl g (k:Int) (s:Int) bv rfl HF2.out ?_) | (with_reducible refine wpList_store_fr rfl (.tmp 4) (.tmp 32) rfl w.heap.size 0 0 (k:Int) (s:Int) (.slice none 0 0) bv rfl rfl HFr.out hone ?_))
    intro w3 hf3 ht3
    have HF3:=Lib.hid hf3
    have HB3:=Lib.hid (turned_below HB2.out ht3 (fun x hx=>by omega) HB2.out.size)
    have HV3:=Lib.hid ((HV2.out.turned ht3 (fun x hx he=>by have:=hx.1;omega)).mono (A':=fun x=>w.heap.size≤x) (fun x hx=>by have:=hx.1;omega))
    clear hf3 ht3
    go_wp2
    refine bodyPost_ret (v:= .tuple #[frV k s bv,.int .i64 0]) (results_fr2 rfl _ _ w.heap.size k s bv _ rfl rfl HF3.out) rfl ⟨_,by rw [HE.out],by rw [HE.out];exact HV3.out,HB3.out⟩
   ·have HE:=Lib.hid (show wholeF l kind=(zFrm,63) by rw [HW.out,if_neg (fun h=>h rfl),if_pos (.inr (by simp at hz;omega))])
    go_wp2_with (with_reducible refine wpList_store_fr rfl (.tmp 4) (.tmp 31) rfl w.heap.size 0 0 0 0 (.slice none 0 0) (.slice none 0 0) rfl rfl HFr.out rfl ?_)
    intro w3 hf3 ht3
    have HF3:=Lib.hid hf3
    have HB3:=Lib.hid (turned_below HB2.out ht3 (fun x hx=>by omega) HB2.out.size)
    clear hf3 ht3
    go_wp2
    refine bodyPost_ret (v:= .tuple #[frV 0 0 (.slice none 0 0),.int .i64 63]) (results_fr2 rfl _ _ w.heap.size 0 0 (.slice none 0 0) _ rfl rfl HF3.out) rfl ⟨_,by rw [HE.out];rfl,by rw [HE.out];exact browIn_nil _ _,HB3.out⟩
  ·have HE:=Lib.hid (show wholeF l kind=(zFrm,63) by rw [HW.out,if_neg (fun h=>h rfl),if_pos (.inl (by simp at hk;omega))])
   go_wp2_with (with_reducible refine wpList_store_fr rfl (.tmp 4) (.tmp 31) rfl w.heap.size 0 0 0 0 (.slice none 0 0) (.slice none 0 0) rfl rfl HFr.out rfl ?_)
   intro w3 hf3 ht3
   have HF3:=Lib.hid hf3
   have HB3:=Lib.hid (turned_below HB2.out ht3 (fun x hx=>by omega) HB2.out.size)
   clear hf3 ht3
   go_wp2
   refine bodyPost_ret (v:= .tuple #[frV 0 0 (.slice none 0 0),.int .i64 63]) (results_fr2 rfl _ _ w.heap.size 0 0 (.slice none 0 0) _ rfl rfl HF3.out) rfl ⟨_,by rw [HE.out];rfl,by rw [HE.out];exact browIn_nil _ _,HB3.out⟩
 ·have HE:=Lib.hid (show wholeF l kind=(zFrm,e0) by rw [HW.out];rw [if_pos (show e0≠0 by simpa using he0)])
  go_wp2_with (with_reducible refine wpList_store_fr rfl (.tmp 4) (.tmp 18) rfl w.heap.size 0 0 0 0 (.slice none 0 0) (.slice none 0 0) rfl rfl HFr.out rfl ?_)
  intro w3 hf3 ht3
  have HF3:=Lib.hid hf3
  have HB3:=Lib.hid (turned_below HB2.out ht3 (fun x hx=>by omega) HB2.out.size)
  clear hf3 ht3
  go_wp2
  refine bodyPost_ret (v:= .tuple #[frV 0 0 (.slice none 0 0),.int .i64 e0]) (results_fr2 rfl _ _ w.heap.size 0 0 (.slice none 0 0) _ rfl rfl HF3.out) rfl ⟨_,by rw [HE.out];rfl,by rw [HE.out];exact browIn_nil _ _,HB3.out⟩
end Go.Proofs.YtlobohpbgghleaaGreatDoor

namespace Go.Proofs.YtlobohpbgghleaaGreatDoor
open Go.RowKit
def frsGo:Nat→List UInt8→Nat→List (Nat×Frm)
 | 0,_,_=>[]
 | n+1,b,at_=>if at_<b.length∧(decF (b.drop at_)).2.2=0 then (at_,(decF (b.drop at_)).1)::frsGo n b (at_+(decF (b.drop at_)).2.1) else []
def frs (b:List UInt8):List (Nat×Frm):=frsGo b.length b 0
theorem decF_fine {b:List UInt8} (h:(decF b).2.2=0):(decF b).2.1=(decF b).1.body.length+20∧(decF b).1.body.length≤16384∧(decF b).2.1≤b.length∧1≤(decF b).1.k∧(decF b).1.k≤7∧(decF b).1.s≤1099511627776:=by
 unfold decF at h ⊢
 split at h
 ·rename_i h1;exact absurd h h1
 ·rename_i h1
  rw [if_neg h1]
  have hp:=peekF_fine (b:=b) (by simpa using h1)
  split at h
  ·exact absurd h (by decide)
  ·rename_i h2
   rw [if_neg h2]
   split at h
   ·exact absurd h (by decide)
   ·rename_i h3
    rw [if_neg h3]
    simp only [List.length_take,List.length_drop]
    omega
theorem frsGo_step {n:Nat} {b:List UInt8} {p:Nat} (h1:p<b.length) (h2:(decF (b.drop p)).2.2=0):frsGo (n+1) b p=(p,(decF (b.drop p)).1)::frsGo n b (p+(decF (b.drop p)).2.1):=by rw [frsGo,if_pos ⟨h1,h2⟩]
theorem frsGo_end {b:List UInt8} {p:Nat} (h1:b.length≤p): ∀ n,frsGo n b p=[]
 | 0=>rfl
 | n+1=>by rw [frsGo,if_neg (by omega)]
theorem frsGo_bad {b:List UInt8} {p:Nat} (h2:(decF (b.drop p)).2.2≠0): ∀ n,frsGo n b p=[]
 | 0=>rfl
 | n+1=>by rw [frsGo,if_neg (fun h=>h2 h.2)]
structure Plc where
 pos:Nat
 sz:Nat
 f:Frm
def pcCs (p:Plc) (v:Value):Array Value:= #[.int .i64 (p.pos:Int),.int .i64 (p.sz:Int),.int .i64 (p.f.k:Int),.int .i64 (p.f.s:Int),v]
@[reducible] def pcV (p : Plc) (v : Value) : Value := .agg #[.int .i64 (p.pos : Int), .int .i64 (p.sz : Int), .int .i64 (p.f.k : Int), .int .i64 (p.f.s : Int), v]
def pcCells (xs:List (Plc×Value)):List Value:=xs.flatMap fun x=>(pcCs x.1 x.2).toList
theorem pcCells_snoc (xs:List (Plc×Value)) (x:Plc×Value):pcCells (xs++[x])=pcCells xs++(pcCs x.1 x.2).toList:=by simp [pcCells]
theorem pcCells_at: ∀ (xs:List (Plc×Value)) (i:Nat) (x:Plc×Value),xs[i]? =some x→ ∀ (j:Nat) u,(pcCs x.1 x.2)[j]? =some u→(pcCells xs)[i*5+j]? =some u
 | [],i,x,h=>by simp at h
 | y::ys,0,x,h=>by
  intro j u hj
  simp at h;subst h
  have hl:j<5:=by have:=(Array.getElem?_eq_some_iff.1 hj).1;simpa [pcCs] using this
  unfold pcCells
  rw [List.flatMap_cons,Nat.zero_mul,Nat.zero_add,List.getElem?_append_left (by simpa [pcCs] using hl)]
  simpa using hj
 | y::ys,i+1,x,h=>by
  intro j u hj
  have:=pcCells_at ys i x (by simpa using h) j u hj
  unfold pcCells at this ⊢
  rw [List.flatMap_cons,List.getElem?_append_right (by simp [pcCs];omega)]
  rw [←this]
  congr 1
  simp [pcCs];omega
def PcIn (A:Nat→Prop) (w:World) (v:Value) (ps:List Plc):Prop:=
 ∃ oa cap,v= .slice oa ps.length cap∧ps.length≤cap∧cap≤maxLen∧(ps≠ []→ ∃ b off,oa=some ⟨b,off,none⟩∧A b∧ ∀ (i:Nat) p,ps[i]? =some p→ ∃ dv,w.rangeAt b (off+i*5) (pcCs p dv).toList∧BRowIn A w dv p.f.body)
theorem PcIn.shape {A:Nat→Prop} {w:World} {v:Value} {ps:List Plc} (h:PcIn A w v ps): ∃ oa cap,v= .slice oa ps.length cap∧ps.length≤cap∧cap≤9223372036854775807∧
  ∀ (i:Nat) p,ps[i]? =some p→ ∃ b off,oa=some ⟨b,off,none⟩∧A b∧ ∃ dv,w.rangeAt b (off+i*5) (pcCs p dv).toList∧BRowIn A w dv p.f.body:=by
 obtain⟨oa,cap,rfl,h2,h3,h4⟩:=h
 refine⟨oa,cap,rfl,h2,by unfold maxLen at h3;omega,fun i p hp=> ?_⟩
 obtain⟨b,off,rfl,ha,h6⟩:=h4 (by rintro rfl;simp at hp)
 exact⟨b,off,rfl,ha,h6 i p hp⟩
def PcOwn (w:World) (B:Nat) (v:Value) (xs:List (Plc×Value)):Prop:=
 w.ownsRow B 160 5 v xs.length (pcCells xs)∧ ∀ x∈xs,BRowIn (fun k=>B≤k∧k<w.heap.size∧v.ownBlock≠some k) w x.2 x.1.f.body
theorem pcOwn_nil (w:World) (B:Nat):PcOwn w B (.slice none 0 0) []:=⟨⟨rfl,.inl ⟨rfl,rfl⟩⟩,fun _ h=>by cases h⟩
theorem BRowIn.turned' {A S:Nat→Prop} {w w':World} {v:Value} {l:List UInt8} (h:BRowIn A w v l) (ht:Turned S w w') (hS: ∀ k,A k→k<w.heap.size→ ¬ S k):BRowIn A w' v l:=by
 obtain⟨oa,cap,h1,h2,h3⟩:=h
 refine⟨oa,cap,h1,h2,fun hn=> ?_⟩
 obtain⟨b,off,e,ha,hc⟩:=h3 hn
 refine⟨b,off,e,ha,fun i x hx=> ?_⟩
 have:=hc i x hx
 have hlt:b<w.heap.size:=by
  unfold World.cell? at this
  rcases Nat.lt_or_ge b w.heap.size with h | h
  ·exact h
  ·rw [Array.getElem?_eq_none h] at this;simp at this
 unfold World.cell? at this ⊢
 rw [ht.block b hlt (hS b ha hlt)]
 exact this
theorem PcOwn.turned {S:Nat→Prop} {w w':World} {B:Nat} {v:Value} {xs:List (Plc×Value)} (h:PcOwn w B v xs) (ht:Turned S w w') (hS: ∀ k,S k→k<B∨w.heap.size≤k):PcOwn w' B v xs:=by
 refine⟨⟨h.1.1,?_⟩,fun x hx=>(BRowIn.turned' (h.2 x hx) ht (fun k hk hlt hs=>by have:=hS k hs;omega)).mono fun k hk=>⟨hk.1,Nat.lt_of_lt_of_le hk.2.1 ht.size,hk.2.2⟩⟩
 rcases h.1.2 with hn | ⟨g,cap,cur,rfl,hb1,hg,rest⟩
 ·exact .inl hn
 ·have hlt:=(Array.getElem?_eq_some_iff.1 hg).1
  exact .inr ⟨g,cap,cur,rfl,hb1,by rw [ht.block _ hlt (fun hs=>by have:=hS _ hs;omega)];exact hg,rest⟩
theorem PcOwn.below {w w':World} {B:Nat} {v:Value} {xs:List (Plc×Value)} (h:PcOwn w B v xs) (hb:Below w.heap.size w w'):PcOwn w' B v xs:=
 h.turned (S:=fun _=>False) (Turned.below hb) (fun _ h=>h.elim)
theorem BRowIn.kept {A:Nat→Prop} {w w':World} {B:Nat} {v:Value} {l:List UInt8} (h:BRowIn A w v l) (hk:Kept B w w'):BRowIn A w' v l:=by
 obtain⟨oa,cap,h1,h2,h3⟩:=h
 refine⟨oa,cap,h1,h2,fun hn=> ?_⟩
 obtain⟨b,off,e,ha,hc⟩:=h3 hn
 exact⟨b,off,e,ha,fun i x hx=>hk.cell (hc i x hx)⟩
theorem PcOwn.kept {w w':World} {B B':Nat} {v:Value} {xs:List (Plc×Value)} (h:PcOwn w B v xs) (hk:Kept B' w w'):PcOwn w' B v xs:=by
 refine⟨⟨h.1.1,?_⟩,fun x hx=>((h.2 x hx).kept hk).mono fun k hk'=>⟨hk'.1,Nat.lt_of_lt_of_le hk'.2.1 hk.size,hk'.2.2⟩⟩
 rcases h.1.2 with hn | ⟨g,cap,cur,rfl,hb1,hg,rest⟩
 ·exact .inl hn
 ·exact .inr ⟨g,cap,cur,rfl,hb1,hk.blk hg,rest⟩
theorem PcOwn.pcIn {A:Nat→Prop} {w:World} {B:Nat} {v:Value} {xs:List (Plc×Value)} (h:PcOwn w B v xs) (hA: ∀ k,B≤k→A k):PcIn A w v (xs.map (·.1)):=by
 by_cases hn:xs=[]
 ·subst hn
  rcases h.1.2 with⟨rfl,_⟩ | ⟨g,cap,cur,rfl,_,_,h1,h2,_⟩
  ·exact⟨none,0,rfl,Nat.le_refl _,by decide,fun h=>absurd rfl h⟩
  ·exact⟨_,cap,rfl,h1,h2,fun h=>absurd rfl h⟩
 ·obtain⟨g,cap,rfl,hB,_,h1,h2,h3⟩:=own_get h.1 (List.length_pos_iff.2 hn)
  refine⟨_,cap,by rw [List.length_map],by rw [List.length_map];exact h1,h2,fun _=>⟨g,0,rfl,hA g hB,fun i p hp=> ?_⟩⟩
  rw [List.getElem?_map] at hp
  obtain⟨x,hx,rfl⟩:=Option.map_eq_some_iff.1 hp
  exact⟨x.2,fun j u hj=>by rw [Nat.zero_add];exact h3 _ _ (pcCells_at xs i x hx j u (by simpa using hj)),(h.2 x (List.mem_of_getElem? hx)).mono fun k hk=>hA k hk.1⟩
theorem pcInfo:(Tryz.prog.info? 160).map (·.size)=some 5:=by kernel_rfl
def zeroPc:Value:= .agg #[.int .i64 0,.int .i64 0,.int .i64 0,.int .i64 0,.slice none 0 0]
theorem infoPc:(Tryz.prog.info? 160).map (fun i=>(i.zero,i.size,i.bytes))=some (some zeroPc,5,56):=by kernel_rfl
theorem run_append_ownB {P:Program} (w:World) (base:Nat) (t ty e:TypeId) (i:TypeInfo) (z:Value) (size bytes:Nat) (ht:P.underlying t=some (.slice e)) (hi:P.info? e=some i) (hz:i.zero=some z)
  (hsize:i.size=size) (hby:i.bytes=bytes) (hzs:z.cells.size=size) (hsz:0<size) (v:Value) (n:Nat) (xs:List Value) (hown:w.ownsRow base e size v n xs)
  (a:Addr) (m c:Nat) (news:List Value) (hl:news.length=m*size) (hnews: ∀ j u,news[j]? =some u→w.cell? (a.add j)=some u) (h1: ∀ u∈news,u.oneCell'=true)
  (h63:n+m≤maxLen) (hbytes:(n+m)*bytes≤140737488355328) (hbase:base≤w.heap.size) (hm:0<m):
  ∃ v' w',(Builtin.append_ #[t,t] ty #[v,.slice (some a) m c]).run P w= .ok v' w'∧w'.ownsRow base e size v' (n+m) (xs++news)∧w.grownBy w' v.ownBlock∧(v'.ownBlock=v.ownBlock∨v'.ownBlock=some w.heap.size):=by
 obtain⟨v',w',hr,h2,h3,_⟩:=run_append_own (P:=P) w base t ty e i z size bytes ht hi hz hsize hby hzs hsz v n xs hown a m c news hl hnews h1 h63 hbytes hbase
 refine⟨v',w',hr,h2,h3,?_⟩
 subst hsize
 subst hby
 have hsmall:n+m≤9223372036854775807:=by simp only [maxLen] at h63;omega
 rcases hown.2 with⟨rfl,rfl⟩ | ⟨g,cap,cur,rfl,hbg,hg,hnc,hcm,hcs,htake⟩
 ·have h:=run_append_nil (P:=P) w t ty e i z ht hi hz a m c news hl hnews (by omega) (by omega) (by have hb:=hbytes;simp only [Nat.zero_add] at hb;omega)
  rw [hr] at h
  injection h with h _
  right;rw [h];rfl
 ·by_cases hroom:n+m≤cap
  ·have hfit:n*i.size+news.length≤cur.size:=by rw [hl,hcs,←Nat.add_mul];exact Nat.mul_le_mul_right _ hroom
   have h:=run_append_room (P:=P) w t ty e i ht hi g n cap cur hg a m c news hl hnews h1 hroom hfit
   rw [hr] at h
   injection h with h _
   left;rw [h];rfl
  ·have holds: ∀ j u,xs[j]? =some u→w.cell? ((⟨g,0,none⟩:Addr).add j)=some u:=hown.cells (g:=g) rfl
   have h:=run_append_grow (P:=P) w t ty e i z ht hi hz ⟨g,0,none⟩ n cap xs hown.1 holds a m c news hl hnews (by omega) (by omega) (growslice_fits (by omega) hbytes)
   rw [hr] at h
   injection h with h _
   right;rw [h];rfl
theorem wpList_append_ownB {P:Program} (w:World) {ops:Array Oper} {rest:List Oper} {o:Oper} {a:Act} {Q:Exit→Act→World→Prop} (hgd:o.guard=none) (s x:Operand) (t:TypeId)
  (ho:o.op= .call {callee:= .builtin .append,args:= #[s,x],argTypes:= #[t,t]})
  (base:Nat) (e:TypeId) (i:TypeInfo) (z:Value) (size bytes:Nat) (ht:P.underlying t=some (.slice e)) (hi:P.info? e=some i) (hz:i.zero=some z)
  (hsize:i.size=size) (hby:i.bytes=bytes) (hzs:z.cells.size=size) (hsz:0<size)
  (v:Value) (n:Nat) (xs:List Value) (hs:a.eval s=v) (hown:w.ownsRow base e size v n xs)
  (ad:Addr) (m c:Nat) (news:List Value) (hx:a.eval x= .slice (some ad) m c) (hl:news.length=m*size) (hnews: ∀ j u,news[j]? =some u→w.cell? (ad.add j)=some u) (h1: ∀ u∈news,u.oneCell'=true)
  (h63:n+m≤maxLen) (hbytes:(n+m)*bytes≤140737488355328) (hbase:base≤w.heap.size) (hm:0<m)
  (h: ∀ v' w',w'.ownsRow base e size v' (n+m) (xs++news)→w.grownBy w' v.ownBlock→(v'.ownBlock=v.ownBlock∨v'.ownBlock=some w.heap.size)→wpList P ops Q rest (a.put o.dst v') w'):wpList P ops Q (o::rest) a w:=
 wpList_plain hgd fun K hK=>by
  obtain⟨v',w',hr,h2,h3,h4⟩:=run_append_ownB (P:=P) w base t o.type e i z size bytes ht hi hz hsize hby hzs hsz v n xs hown ad m c news hl hnews h1 h63 hbytes hbase hm
  unfold Oper.wp execOp
  simp only [ho,resolve,invoke,builtin,Sem.run_bind,Sem.run_pure,Result.andThen_ok,List.map_toArray,List.map_cons,List.map_nil,hs,hx,hr]
  exact hK _ _ (h v' w' h2 h3 h4)
theorem wpList_appPl {ops:Array Oper} {rest:List Oper} {o:Oper} {a:Act} {Q:Exit→Act→World→Prop} {w:World} (hgd:o.guard=none) (s y:Operand) (ho:o.op= .call {callee:= .builtin .append,args:= #[s,y],argTypes:= #[118,118]}) {B:Nat} {v:Value} {xs:List (Plc×Value)} {p:Plc} {dv:Value}
  (hs:a.eval s=v) (hy:a.eval y= .slice (some ⟨w.heap.size,0,none⟩) 1 1) (hown:PcOwn w B v xs) (hB:B≤w.heap.size) (hd:BRowIn (fun k=>B≤k∧k<w.heap.size∧v.ownBlock≠some k) w dv p.f.body) (hl:xs.length+1≤1000000000)
  (h: ∀ v' w',PcOwn w' B v' (xs++[(p,dv)])→Below B w w'→Turned (fun k=>v.ownBlock=some k) w w'→v'.oneCell'=true→wpList Tryz.prog ops Q rest (a.put o.dst v') w'):wpList Tryz.prog ops Q (o::rest) a (w.alloc (.cells #[.int .i64 (p.pos:Int),.int .i64 (p.sz:Int),.int .i64 (p.f.k:Int),.int .i64 (p.f.s:Int),dv] 160)):=by
 obtain⟨i0,hi,hz0,hz1,hz2⟩:=info_parts infoPc
 have hb:=below_alloc w (.cells #[.int .i64 (p.pos:Int),.int .i64 (p.sz:Int),.int .i64 (p.f.k:Int),.int .i64 (p.f.s:Int),dv] 160)
 have h1d:dv.oneCell'=true:=by obtain⟨_,_,e,_,_⟩:=hd;rw [e];rfl
 refine wpList_append_ownB _ hgd s y 118 ho B 160 i0 zeroPc 5 56 Tryz.underlying118 hi hz0 hz1 hz2 rfl (by decide) v xs.length (pcCells xs) hs (own_later hown.1 hb) ⟨w.heap.size,0,none⟩ 1 1 (pcCs p dv).toList hy rfl (fun j u hj=> ?_) (fun u hu=> ?_) (by unfold maxLen;omega) (by omega) (Nat.le_trans hB hb.size) (by decide) ?_
 ·rw [addr_add,Nat.zero_add,World.cell?_alloc_new]
  simpa [pcCs] using hj
 ·simp [pcCs] at hu;rcases hu with rfl | rfl | rfl | rfl | rfl
  ·rfl
  ·rfl
  ·rfl
  ·rfl
  ·exact h1d
 ·intro v' w' hown' hg hnew
  have hb2:=below_of_grown (own_later hown.1 hb) (Nat.le_trans hB hb.size) hg
  have hrow: ∀ (x:Value) (l:List UInt8),BRowIn (fun k=>B≤k∧k<w.heap.size∧v.ownBlock≠some k) w x l→BRowIn (fun k=>B≤k∧k<w'.heap.size∧v'.ownBlock≠some k) w' x l:=fun x l hx=>by
   obtain⟨oa,cap,e1,e2,e3⟩:=hx.below hb
   refine⟨oa,cap,e1,e2,fun hn=> ?_⟩
   obtain⟨b,off,e4,ha,hc⟩:=e3 hn
   refine⟨b,off,e4,⟨ha.1,Nat.lt_of_lt_of_le ha.2.1 (Nat.le_trans hb.size hg.size),fun e=> ?_⟩,fun i u hu=>hg.cell (hc i u hu) fun e=>ha.2.2 e.symm⟩
   have:=ha.2.1
   rcases hnew with h | h
   ·rw [h] at e;exact ha.2.2 e
   ·rw [h] at e
    have e':=Option.some.inj e
    have:=hb.size
    omega
  have hone:v'.oneCell'=true:=by obtain⟨_,_,e,_⟩:=own_shape hown';rw [e];rfl
  refine h v' w' ⟨?_,fun x hx=> ?_⟩ ((hb.mono hB).trans hb2) ⟨hg.os.trans hb.os,hg.tape.trans hb.tape,hg.output.trans hb.output,Nat.le_trans hb.size hg.size,fun k hk hne=> ?_⟩ hone
  ·rw [List.length_append,pcCells_snoc]
   exact hown'
  ·rcases List.mem_append.1 hx with hx | hx
   ·exact hrow _ _ (hown.2 x hx)
   ·simp at hx;rw [hx];exact hrow _ _ hd
  ·rw [hg.block k (Nat.lt_of_lt_of_le hk hb.size) (fun e=>hne e.symm)]
   exact hb.block k hk
end Go.Proofs.YtlobohpbgghleaaGreatDoor

namespace Go.Proofs.YtlobohpbgghleaaGreatDoor
open Go.RowKit
attribute [local go_sem] Oper.semAt_some
def EachKeep (g:Nat) (v:Value) (b:List UInt8) (W:World):Prop:=W.cell? ⟨g,0,none⟩=some v∧BRow W v b∧NibTab W
abbrev FrX:=Nat×Frm×Value
def frEnc (x:FrX):Array Value:= #[.int .i64 (x.1:Int),frV (x.2.1.k:Int) (x.2.1.s:Int) x.2.2]
def frOf (xs:List FrX):List (Nat×Frm):=xs.map fun x=>(x.1,x.2.1)
def FrR (b:List UInt8) (pre:List FrX) (x:FrX) (Wo W:World):Prop:=frOf (pre++[x]) <+: frs b∧BRowIn (fun k=>Wo.heap.size≤k∧k<W.heap.size) W x.2.2 x.2.1.body∧x.2.1.body.length≤16384∧x.1≤9223372036854775807∧x.2.1.k≤7∧x.2.1.s≤1099511627776
theorem frOf_snoc (xs:List FrX) (x:FrX):frOf (xs++[x])=frOf xs++[(x.1,x.2.1)]:=by simp [frOf]
theorem Kept.ofBelow {B:Nat} {W W':World} (h:Below W.heap.size W W'):Kept B W W':=⟨h.os,h.tape,h.output,h.size,fun k _ hk _=>(h.block k (Array.getElem?_eq_some_iff.1 hk).1).trans hk⟩
theorem each_any (oa:Option Addr) (n cap:Nat) (w:World):Calls Tryz.prog 119 #[.slice oa n cap] w fun e w'=>e= .returned (.func (.func 163) #[] #[.pointer (some ⟨w.heap.size,0,none⟩)])∧w'=w.alloc (.cells #[.slice oa n cap] 47):=by
 have hmk: ∀ (fn:Fn) (first cap:Array Value) (W:World),(Instr.makeFunc fn first cap).run Tryz.prog W= .ok (.func fn first cap) W:=fun _ _ _ _=>rfl
 go_enter Tryz.func119,Tryz.ntmps119
 go_wp2
 go_ret
 exact⟨rfl,rfl⟩
set_option maxRecDepth 100000 in
set_option maxHeartbeats 4000000 in
theorem each1_seq (b:List UInt8) (oa:Option Addr) (cap g:Nat) (w:World) (Kp:World→World→Prop) (hl:b.length≤4611686018427387904) (Kd:World→Prop) (hE:Kd w) (hKE: ∀ W,Kd W→EachKeep g (.slice oa b.length cap) b W) (hKB: ∀ W W',Kd W→Below W.heap.size W W'→Kd W')
  (hK: ∀ W W',w.heap.size≤W.heap.size→Kd W→Kp W W'→Kd W'∧W.heap.size≤W'.heap.size):
  SeqR Tryz.prog 163 #[.pointer (some ⟨g,0,none⟩)] frEnc (FrR b) Kp (fun xs=>frOf xs=frs b) (fun pre=>pre≠ []∧frOf pre <+: frs b) w:=fun l J Jx W hW hJ hJx hY h0=>by
 have HE:=Lib.hid (hKB _ _ hE hW)
 have HKE:=Lib.hid hKE
 have HKB:=Lib.hid hKB
 have HW:=Lib.hid hW
 have HK:=Lib.hid hK
 have HY:=Lib.hid hY
 have HJ:=Lib.hid hJ
 have H0:=Lib.hid h0
 clear hE hK hKE hKB hY hJ hJx h0 hW
 refine callsIn_of_wp Tryz.func163 rfl trivial ?_ rfl
 simp only [Tryz.ntmps163,List.size_toArray,List.length_cons,List.length_nil,Nat.reduceAdd,Nat.reduceSub,Array.replicate_succ,Array.replicate_zero,List.push_toArray,List.append_toArray,List.nil_append,List.cons_append]
 gi_wp2
 gi_loopw [3] (fun i wr=> ∃ (p n:Nat) (pre:List FrX),i= .int .i64 (p:Int)∧Hid (J pre wr)∧Hid (Kd wr)∧Hid (W.heap.size≤wr.heap.size)∧p≤b.length∧Hid (b.length - p≤n∧frs b=frOf pre++frsGo n b p)) (fun i _=>b.length - (intOf i).toNat)
 case atStart=>exact⟨0,b.length,[],rfl,H0,HE,Lib.hid (Nat.le_refl _),Nat.zero_le _,Lib.hid ⟨by omega,rfl⟩⟩
 case round=>
  obtain⟨p,n,pre,rfl,HJr,HEr,HSr,hp,HFr⟩:=hrel
  clear H0 HE
  have c0:=(HKE.out _ HEr.out).1
  by_cases hlt:p<b.length
  ·have q1:(p:Int)<(b.length:Int):=by omega
   have hlc:b.length≤cap:=by obtain⟨_,_,e,h,_⟩:=(HKE.out _ HEr.out).2.1;simp only [Value.slice.injEq,true_and] at e;obtain⟨_,rfl⟩:=e;exact h
   have hcp: ¬ cap=p:=by omega
   have HBR:=Lib.hid (show BRow wr (.slice (oa.map fun x=>x.add p) (b.length - p) (cap - p)) (b.drop p) by
    have h:=brow_cut (lo:=p) (hi:=b.length) (mx:=cap) (HKE.out _ HEr.out).2.1 (by omega) (Nat.le_refl _) hlc
    rw [List.take_length] at h
    simpa [sliced,hcp] using h)
   clear hlc
   have HDV:=Lib.hid (fun oa' cap' (hv:BRow wr (.slice oa' (b.length - p) cap') (b.drop p))=>frameDec_any (b.drop p) _ wr hv (by rw [List.length_drop];omega) (HKE.out _ HEr.out).2.2)
   have HFN:=Lib.hid (@decF_fine (b.drop p))
   have HST:=Lib.hid (fun h2=> @frsGo_step (n - 1) b p hlt h2)
   have HBD:=Lib.hid (fun h2=> @frsGo_bad b p h2 n)
   obtain⟨r,hr⟩: ∃ r,r=decF (b.drop p):=⟨_,rfl⟩
   rw [←hr] at HDV HFN HST HBD
   clear hr
   obtain⟨⟨k,s,body⟩,sz,e0⟩:=r
   unfold DecPost at HDV
   gi_wp2_with fail
   refine⟨trivial,(callsIn_wide.2 (HDV.out _ _ HBR.out)).mono ?_⟩
   rintro e w2 ⟨bv,rfl,hbv,hb2⟩
   have HB2:=Lib.hid hb2
   have HBV:=Lib.hid hbv.low1
   obtain⟨ob,bcap,rfl,hbl,_⟩:=hbv
   have HB3:=Lib.hid (hb2.trans ((below_alloc w2 (.cells (frCs (k:Int) (s:Int) (.slice ob body.length bcap)) 148)).mono hb2.size))
   have HF3:=Lib.hid (frBlk_alloc w2 (k:Int) (s:Int) (.slice ob body.length bcap))
   have HV3:=Lib.hid (HBV.out.below (below_alloc w2 (.cells (frCs (k:Int) (s:Int) (.slice ob body.length bcap)) 148)))
   simp only [frCs] at HB3 HF3 HV3
   clear hb2 HBR HDV
   rcases he0:(e0 != 0) with _ | _
   ·have he00:e0=0:=by simpa using he0
    subst he00
    obtain⟨hz,hbl2,hzl,hk1,hk7,hs1⟩:=HFN.out rfl
    have HFS:=Lib.hid (HST.out rfl)
    obtain⟨n',hn'⟩: ∃ n',n=n'+1:=⟨n - 1,by have:=HFr.out.1;omega⟩
    have HN:=Lib.hid hn'
    have HZ:=Lib.hid hz
    rw [List.length_drop] at hzl
    have hps:p+sz≤b.length:=by omega
    have hwp:IntKind.i64.wrap ((p:Int)+(sz:Int))=((p+sz:Nat):Int):=by rw [IntKind.wrap_i64];omega
    have HPX:=Lib.hid (show frOf (pre++[(p,⟨k,s,body⟩,.slice ob body.length bcap)]) <+: frs b by
     rw [HFr.out.2,HN.out,frOf_snoc]
     have h:=HFS.out
     rw [HN.out,Nat.add_sub_cancel] at h
     rw [h]
     exact(List.prefix_append_right_inj _).2 ⟨_,rfl⟩)
    have HR:=Lib.hid (show FrR b pre (p,⟨k,s,body⟩,.slice ob body.length bcap) wr (w2.alloc (.cells #[.int .i64 (k:Int),.int .i64 (s:Int),.slice ob body.length bcap] 148)) from
     ⟨HPX.out,HV3.out.mono fun x hx=>⟨by have:=hx.1;omega,by have:=hx.2;simp;omega⟩,hbl2,by show p≤_;omega,hk7,hs1⟩)
    have HS3:=Lib.hid (Nat.le_trans HSr.out HB3.out.size)
    have HE3:=Lib.hid (HKB.out _ _ HEr.out HB3.out)
    have HW3:=Lib.hid (Nat.le_trans HW.out.size HS3.out)
    have c00:=HF3.out.c0
    have c01:=HF3.out.c1
    have c02:=HF3.out.c2
    have hy0:=HY.out pre (p,⟨k,s,body⟩,.slice ob body.length bcap) wr _ HJr.out HSr.out (Kept.ofBelow HB3.out) HR.out
    obtain⟨fn,tmps,assign,body',hy,hR⟩:=hy0
    simp only [frEnc] at hy
    clear hz hzl hn' HFN HST HBD hbl
    gi_wp2
    refine hR.mono ?_
    rintro e W3 (⟨rfl,hJ3,hk3⟩ | ⟨rfl,hJx3⟩)
    ·obtain⟨hE3,hs3⟩:=HK.out _ _ HW3.out HE3.out hk3
     have HE4:=Lib.hid hE3
     have HS4:=Lib.hid (Nat.le_trans HS3.out hs3)
     have HJ4:=Lib.hid hJ3
     clear hE3 hs3 hJ3 hk3 hy hR HE3 c00 c01 c02 HF3 HV3 HB3 HBV
     gi_wp2
     go_roundw
     case rel=>exact⟨p+sz,n',pre++[(p,⟨k,s,body⟩,.slice ob body.length bcap)],by go_num,HJ4,HE4,HS4,hps,Lib.hid ⟨by have:=HFr.out.1;have:=HN.out;have:=HZ.out;omega,by rw [HFr.out.2,HN.out,frOf_snoc];have h:=HFS.out;rw [HN.out,Nat.add_sub_cancel] at h;rw [h,List.append_assoc];rfl⟩⟩
     case measure=>have:=HZ.out;simp [intOf];omega
    ·gi_wp2
     refine bodyPost_ret (results_none rfl _ _ _) rfl ?_
     exact⟨⟨_,rfl⟩,.inr ⟨_,⟨by simp,HPX.out⟩,hJx3⟩⟩
   ·have HFE:=Lib.hid (show frOf pre=frs b by rw [HFr.out.2,HBD.out (by simpa using he0),List.append_nil])
    have HJ3:=Lib.hid (HJ.out _ _ _ HJr.out (Kept.ofBelow HB3.out))
    clear HF3 HV3 HBV HB3 HFN HST HBD
    gi_wp2
    refine⟨fun f h=>(by cases h),?_⟩
    gi_wp2
    refine bodyPost_ret (results_none rfl _ _ _) rfl ?_
    exact⟨⟨_,rfl⟩,.inl ⟨_,HFE.out,HJ3.out⟩⟩
  ·obtain rfl:p=b.length:=by omega
   have HFE:=Lib.hid (show frOf pre=frs b by rw [HFr.out.2,frsGo_end (Nat.le_refl _),List.append_nil])
   gi_wp2
   go_end0
   exact⟨⟨_,rfl⟩,.inl ⟨_,HFE.out,HJr.out⟩⟩
end Go.Proofs.YtlobohpbgghleaaGreatDoor
