import Derived.WalkKit
import Derived.WalkSpells
import Derived.WalkLawsBesides
import Derived.Lib.SlBytesConst
import Derived.Lib.SmallJoins
import Derived.Laws.BytesArg
import Derived.Lib.Hide
import Derived.RangeFuncNested
import Derived.RangeFuncBound
import Derived.RangeFuncCalls
import Derived.RangeFuncLeaves
import Derived.Shelf.Abstract
import Derived.OwnWalkIn
import Derived.TacticsInMore
import Derived.LoopNIn
import Derived.LoopIn
import Derived.OrdersHeld
import Derived.Deep.RegionHeld
import Derived.RangeFuncWrites
import Derived.Deep.QuietTactic
import Derived.BigQuiet
import Derived.Deep.RegionWith
import Derived.IntWalk
import Derived.Laws.OwnMore
import Derived.Laws.MakeOwn
import Derived.Deep.MidRow
import Derived.Deep.RegionHeld3
import Derived.Laws.AppendOwn
import Derived.ProofKit
import Derived.Laws.BitsAllLaws
import Derived.Lib.LaidTab
import Derived.Shelf.Small.Bits
import Derived.Shelf.Small.Wraps
import Derived.Shelf.Strconv.Itoa0
import Derived.Shelf.Sort.Plain
import Derived.Shelf.Strings.Prefix
import Derived.Shelf.Bits.Mul64
import Derived.Shelf.Slices.In.SortNone
import Derived.WideAt
import Derived.WideShapes
import Derived.Test.YtcglcphhfmkccaaGreatDoorRows
import Derived.Test.YtcglcphhfmkccaaGreatDoorProg
namespace Go.Proofs.YtcglcphhfmkccaaGreatDoor
open Go.RowKit
theorem addr_add (b o j:Nat):(⟨b,o,none⟩:Addr).add j=⟨b,o+j,none⟩:=by unfold Addr.add;split<;>simp_all
theorem snoc_ind {α:Type} {P:List α→Prop} (h0:P []) (h1: ∀ l a,P l→P (l++[a])) (l:List α):P l:=by
 have key: ∀ m:List α,P m.reverse:=fun m=>by
  induction m with
  | nil=>exact h0
  | cons a m ih=>rw [List.reverse_cons];exact h1 _ _ ih
 have:=key l.reverse
 rwa [List.reverse_reverse] at this
theorem take_snoc {α:Type} (l:List α) (k:Nat) (h:k<l.length):l.take (k+1)=l.take k++[l[k]]:=by
 rw [List.take_succ_eq_append_getElem h]
theorem nth {α:Type} (l:List α) (k:Nat) (h:k<l.length): ∃ x,l[k]? =some x∧l.take (k+1)=l.take k++[x]∧x∈l:=
 ⟨l[k],List.getElem?_eq_getElem h,take_snoc l k h,List.getElem_mem h⟩
theorem getElem?_lt {α:Type} {l:List α} {j:Nat} {x:α} (h:l[j]? =some x):j<l.length:=(List.getElem?_eq_some_iff.1 h).1
theorem ba_get {l:List UInt8} {j:Nat} {x:UInt8} (h:l[j]? =some x): ∀ hh,(⟨l.toArray⟩:ByteArray)[j]'hh=x:=by
 intro hh
 have hj:=getElem?_lt h
 rw [List.getElem?_eq_getElem hj] at h
 have e:(⟨l.toArray⟩:ByteArray)[j]'hh=l[j]:=rfl
 rw [e];simpa using h
theorem ret_str {a b:ByteArray} (h:a=b):Ending.returned (.string a)= .returned (.string b):=by rw [h]
theorem ret_int {k:IntKind} {a b:Int} (h:a=b):Ending.returned (.int k a)= .returned (.int k b):=by rw [h]
theorem ba_append (a b:List UInt8):(⟨a.toArray⟩:ByteArray)++⟨b.toArray⟩=⟨(a++b).toArray⟩:=by
 apply ByteArray.ext;simp
theorem conv_bytes (w:World) (l:List UInt8):
  ∃ c w',(convert 9 45 (.string ⟨l.toArray⟩)).run Tryz.prog w= .ok (.slice (some ⟨w.heap.size,0,none⟩) l.length c) w'∧Below w.heap.size w w'∧w'.heap.size=w.heap.size+1∧
   l.length≤c∧(∀ j x,l[j]? =some x→w'.cell? ⟨w.heap.size,j,none⟩=some (.int .u8 (x.toNat:Int))):=by
 have hr:=run_bytes_of_string (P:=Tryz.prog) w 9 45 5 ⟨l.toArray⟩ Tryz.underlying9 Tryz.underlying45 Tryz.underlying5
 refine⟨_,_,hr,?_,by simp,grownCap_ge _ _ _ _,fun j x h=> ?_⟩
 ·exact((Below.refl _ _).drew).alloc (Nat.le_refl _) _
 ·refine(World.cell?_alloc_mark w.drew _ _ _ j).trans ?_
  have h':=getElem?_lt h
  rw [bytesRow_at _ _ _ (by simpa using h')]
  rw [List.getElem?_eq_getElem h'] at h
  simp at h ⊢;rw [h]
theorem Below.next {a b c:World} (h:Below a.heap.size a b) (k:Below b.heap.size b c):Below a.heap.size a c:=h.trans (k.mono h.size)
end Go.Proofs.YtcglcphhfmkccaaGreatDoor

namespace Go.Proofs.YtcglcphhfmkccaaGreatDoor
open Go.RowKit
section
variable {P : Program} {ops : Array Oper} {Q : Exit → Act → World → Prop} {n l : Nat}
theorem uponIn_round {o:Oper} {a:Act} {K:Act→World→Prop} {r:Result Next} (h:o.upon P a K Q r):o.uponIn (Fence.wide.inRound l) n P a K Q r:=by
 unfold Oper.upon at h
 split at h
 ·exact h
 ·exact h
 ·exact h
 ·exact⟨fun hd=>(by cases hd),CallsIn.inRound l (callsIn_wide.2 h)⟩
 ·refine⟨fun hd=>(by cases hd),fun c cs _=> ?_⟩
  obtain⟨v,w2,hR,hs⟩:=h c cs
  exact⟨v,w2,hR,stepsIn_wide.2 hs⟩
 ·exact h
 ·exact h.elim
def noDefer (ops:List Oper):Bool:=ops.all fun o=>match o.op with
 | .defer _=>false
 | _=>true
theorem noDefer_mem {o:Oper} {os:List Oper} (h:noDefer os=true) (ho:o∈os): ∀ c,o.op≠ .defer c:=fun c hc=>by
 have:=List.all_eq_true.1 h o ho
 rw [hc] at this
 cases this
theorem operIn_round {o:Oper} {a:Act} {w:World} {K:Act→World→Prop} (hd: ∀ c,o.op≠ .defer c) (h:o.wp P a w K Q):o.wpIn (Fence.wide.inRound l) n P a w K Q:=by
 refine⟨fun _ _=>trivial,?_⟩
 rw [Oper.semAt_eq _ _ _ hd]
 exact uponIn_round h
theorem listIn_round (hQ: ¬ LetsOut Q): ∀ {os:List Oper} {a:Act} {w:World},noDefer os=true→wpList P ops Q os a w→wpListIn (Fence.wide.inRound l) n P ops Q os a w
 | [],_,_,_,h=>h
 | o::rest,a,w,hd,h=>by
  have hr:noDefer rest=true:=by
   unfold noDefer at hd ⊢
   rw [List.all_cons,Bool.and_eq_true] at hd
   exact hd.2
  unfold wpList at h
  unfold wpListIn
  split at h
  ·rename_i hw
   rw [if_pos hw]
   rcases h with h | ⟨_,h⟩
   ·exact Oper.wpIn_mono (fun a w=>listIn_round hQ hr) (operIn_round (noDefer_mem hd List.mem_cons_self) h)
   ·exact absurd h hQ
  ·rename_i hw
   rw [if_neg hw]
   exact⟨fun _ _=>trivial,listIn_round hQ hr h⟩
theorem anyIn_round {md:Region.Mode} (hQ: ¬ LetsOut Q) (hd:noDefer ops.toList=true): ∀ (fuel:Nat) {listed:Array Bool} {a:Act} {w:World},wpAny P md ops Q fuel listed a w→wpAnyIn (Fence.wide.inRound l) n P md ops Q fuel listed a w
 | 0,_,_,_,h=>h
 | fuel+1,listed,a,w,h=>by
  refine⟨h.1,fun i hi=> ?_⟩
  have:=h.2 i hi
  unfold wpOp at this
  unfold wpOpIn
  split at this
  ·rename_i he
   rw [he]
   exact anyIn_round hQ hd fuel this
  ·rename_i o he
   rw [he]
   simp only
   split at this
   ·rename_i hw
    rw [if_pos hw]
    rcases this with h | ⟨_,h⟩
    ·exact Oper.wpIn_mono (fun a w=>anyIn_round hQ hd fuel) (operIn_round (noDefer_mem hd (by
      have:=Array.mem_of_getElem? he
      exact Array.mem_def.1 this)) h)
    ·exact absurd h hQ
   ·rename_i hw
    rw [if_neg hw]
    exact⟨fun _ _=>trivial,anyIn_round hQ hd fuel this⟩
theorem wpIn_region_held {id:Nat} {S:World→Prop} {a:Act} {w:World} (hm:P.follows .mixedOrders=true) (hd:noDefer ops.toList=true) (hQ: ¬ LetsOut Q) (hS:S w.drew)
  (h:S w.drew→wpAnyH P .any ops Q S ops.size (Array.replicate ops.size false) a w.drew):(Code.region id ops true).wpIn (Fence.wide.inRound l) n P Q a w:=
 wpIn_region_any hm (anyIn_round hQ hd _ (wpAny_of_held _ _ _ _ (h hS)))
theorem wpIn_region_plain {id:Nat} {os:List Oper} {a:Act} {w:World} (hd:noDefer os=true) (hQ: ¬ LetsOut Q) (h:wpList P os.toArray Q os a w):(Code.region id os.toArray false).wpIn (Fence.wide.inRound l) n P Q a w:=
 wpIn_region_lit (listIn_round hQ hd h)
theorem letsOut_then {K:Act→World→Prop} (h: ¬ LetsOut Q): ¬ LetsOut (Exit.then K Q):=fun⟨a,w,hh⟩=>h ⟨a,w,hh⟩
theorem letsOut_block {id:Nat} (h: ¬ LetsOut Q): ¬ LetsOut (Exit.inBlock id Q):=fun⟨a,w,hh⟩=>h ⟨a,w,hh⟩
theorem letsOut_G {α:Type} {B:Nat} {Kp:World→World→Prop} {I:List α→World→Prop} {Ix:Code→List α→World→Prop} {xs:List α} {W:World}: ¬ LetsOut (ownPostG B Kp I Ix xs W):=fun⟨_,_,hh⟩=>hh
end
end Go.Proofs.YtcglcphhfmkccaaGreatDoor

namespace Go.Proofs.YtcglcphhfmkccaaGreatDoor
open Go.RowKit
structure Kept (B:Nat) (W W':World):Prop where
 os:W'.os=W.os
 tape:W'.tape=W.tape
 output:W'.output=W.output
 size:W.heap.size≤W'.heap.size
 block: ∀ k o,W.heap[k]? =some o→(k<B∨o.isCells=true)→W'.heap[k]? =some o
theorem Kept.trans {B:Nat} {X Y Z:World} (h:Kept B X Y) (k:Kept B Y Z):Kept B X Z:=
 ⟨k.os.trans h.os,k.tape.trans h.tape,k.output.trans h.output,Nat.le_trans h.size k.size,fun i o hi ho=>k.block i o (h.block i o hi ho) ho⟩
theorem Kept.below {B:Nat} {W W':World} (h:Below W.heap.size W W'):Kept B W W':=
 ⟨h.os,h.tape,h.output,h.size,fun k _ hk _=>(h.block k (Array.getElem?_eq_some_iff.1 hk).1).trans hk⟩
theorem Kept.grown {B:Nat} {W W':World} {row:Option Nat} (h:W.grownBy W' row) (hr: ∀ r,row=some r→B≤r∧ ∃ o:Obj,W.heap[r]? =some o∧o.isCells=false):Kept B W W':=
 ⟨h.os,h.tape,h.output,h.size,fun k o hk ho=>(h.block k (Array.getElem?_eq_some_iff.1 hk).1 (fun e=>by
  obtain⟨h1,o',h2,h3⟩:=hr k e.symm
  rw [hk] at h2
  cases h2
  rcases ho with ho | ho
  ·omega
  ·rw [ho] at h3;cases h3)).trans hk⟩
theorem Kept.putObj {B:Nat} {W:World} {l:Nat} {o:Obj} (o':Obj) (hB:B≤l) (hl:W.heap[l]? =some o) (ho:o.isCells=false):Kept B W (W.putObj l o'):=
 Kept.grown (grownBy_putObj' W l o') (fun r e=>by cases e;exact⟨hB,o,hl,ho⟩)
theorem Kept.cell {B:Nat} {W W':World} (h:Kept B W W') {a:Addr} {v:Value} (hc:W.cell? a=some v):W'.cell? a=some v:=by
 unfold World.cell? at hc ⊢
 rcases hx:W.heap[a.block]? with _ | o
 ·rw [hx] at hc;simp at hc
 ·cases o with
  | cells cs ty fz=>rw [h.block a.block _ hx (.inr rfl)];rw [hx] at hc;exact hc
  | _=>rw [hx] at hc;simp at hc
theorem Kept.blk {B:Nat} {W W':World} (h:Kept B W W') {k:Nat} {cs:Array Value} {ty:TypeId} {fz:Nat×Nat} (hb:W.heap[k]? =some (.cells cs ty fz)):W'.heap[k]? =some (.cells cs ty fz):=h.block k _ hb (.inr rfl)
theorem Kept.after {B:Nat} {w W W':World} (h:Kept B W W') (hb:Below w.heap.size w W) (hB:w.heap.size≤B):Below w.heap.size w W':=
 ⟨h.os.trans hb.os,h.tape.trans hb.tape,h.output.trans hb.output,Nat.le_trans hb.size h.size,fun k hk=>by
  have h1:=hb.block k hk
  rcases hx:w.heap[k]? with _ | o
  ·rw [Array.getElem?_eq_getElem hk] at hx;cases hx
  ·rw [hx] at h1;exact h.block k o h1 (.inl (by omega))⟩
def AbidesK {β:Type} (B:Nat) (I:β→World→Prop):Prop:= ∀ s W W',I s W→Kept B W W'→I s W'
theorem AbidesK.own {β:Type} {B:Nat} {I:β→World→Prop} (h:AbidesK B I) {s:β} {W:World} {l:Nat} {o:Obj} (o':Obj) (hs:I s W) (hB:B≤l) (hl:W.heap[l]? =some o) (ho:o.isCells=false):I s (W.putObj l o'):=h s _ _ hs (Kept.putObj o' hB hl ho)
def SeqR {α:Type} (P:Program) (gf:Nat) (lb:Array Value) (encs:α→Array Value) (R:List α→α→World→World→Prop) (Kp:World→World→Prop) (S Sp:List α→Prop) (w:World):Prop:=
 ∀ (l:Nat) (J Jx:List α→World→Prop) (W:World),Below w.heap.size w W→AbidesK W.heap.size J→AbidesK W.heap.size Jx→
  (∀ pre x Wo W1,J pre Wo→W.heap.size≤Wo.heap.size→Kept W.heap.size Wo W1→R pre x Wo W1→YieldAt Fence.wide 1 P l (encs x) W1 fun e W'=>
   (e= .returned (.bool true)∧J (pre++[x]) W'∧Kp W1 W')∨(e= .returned (.bool false)∧Jx (pre++[x]) W'))→
  J [] W→
  CallsIn Fence.wide 2 P gf (#[.func (.yield l) #[] #[]]++lb) W fun e W'=>(∃ v,e= .returned v)∧((∃ xs,S xs∧J xs W')∨(∃ pre,Sp pre∧Jx pre W'))
theorem wp_rangeFuncR {α:Type} {P:Program} {g:Operand} {ps:Array Tmp} {assign body:Code} {Q:Exit→Act→World→Prop} {a:Act} {w:World}
  {gf:Nat} {lb:Array Value} (hg:a.eval g= .func (.func gf) #[] lb) (eg: ∀ args w,(callFunc gf args).run P w= .ok (.enter gf args) w)
  {encs:α→Array Value} {R:List α→α→World→World→Prop} {Kp:World→World→Prop} {S Sp:List α→Prop} (hseq:SeqR P gf lb encs R Kp S Sp w)
  (hKt: ∀ {A B C:World},Kp A B→Kp B C→Kp A C) (hKb: ∀ (W:World) (l:Nat) (o o':Obj),w.heap.size≤l→W.heap[l]? =some o→o.isCells=false→Kp W (W.putObj l o')) (hps: ∀ x,(encs x).size=ps.size)
  (I:List α→World→Prop) (Ix:Code→List α→World→Prop) (hI:AbidesK w.heap.size I) (hIx: ∀ c,AbidesK w.heap.size (Ix c)) (h0:I [] w)
  (hround: ∀ (l:Nat) (pre:List α) (x:α) (Wo W:World),w.heap.size≤l→w.heap.size≤Wo.heap.size→I pre Wo→Kept w.heap.size Wo W→R pre x Wo W→
   assign.wpIn (Fence.wide.inRound l) 1 P (Exit.then (fun a₁ W₁=>KeepsFrom w.heap.size W W₁∧Kp W W₁∧ ∀ W₂,Kept w.heap.size W₁ W₂→body.wpIn (Fence.wide.inRound l) 1 P (ownPostG w.heap.size Kp I Ix (pre++[x]) W₂) a₁ W₂) (fun _ _ _=>False))
    {tmps:=(ps.zip (encs x)).foldl (fun t (p,v)=>t.setIfInBounds p v) a.tmps,defers:=[]} W)
  (hdone: ∀ (D:Nat) (xs:List α) (W:World),w.heap.size≤D→S xs→I xs W→W.heap[D]? =some (.deferred (some []))→Q .normal {a with defers:={target:= .collected D,args:= #[]}::a.defers} W)
  (hstop: ∀ (D:Nat) (c:Code) (pre:List α) (W:World),w.heap.size≤D→Sp pre→Ix c pre W→W.heap[D]? =some (.deferred (some []))→c.wp P Q {a with defers:={target:= .collected D,args:= #[]}::a.defers} W):
  (Code.rangeFunc g ps assign body).wp P Q a w:=by
 refine(wpIn_wide (n:=3)).1 (wpIn_rangeFunc fun fn hfn=> ?_)
 obtain⟨W1,hW1⟩: ∃ W1,W1=(w.alloc (.deferred (some []))).alloc (.loop {state:= .ready,pending:=none,fn,tmps:=a.tmps,params:=ps,assign,body,defers:=w.heap.size}):=⟨_,rfl⟩
 have sz1:W1.heap.size=w.heap.size+2:=by rw [hW1];simp
 have hb1:Below w.heap.size w W1:=by rw [hW1];exact((Below.refl _ w).alloc (Nat.le_refl _) _).alloc (by simp) _
 have hk1:Kept w.heap.size w W1:=Kept.below hb1
 have hL1:W1.heap[w.heap.size+1]? =some (.loop {state:= .ready,pending:=none,fn,tmps:=a.tmps,params:=ps,assign,body,defers:=w.heap.size}):=by
  rw [hW1]
  have:=World.alloc_heap_new (w.alloc (.deferred (some []))) (.loop {state:= .ready,pending:=none,fn,tmps:=a.tmps,params:=ps,assign,body,defers:=w.heap.size})
  rwa [World.size_alloc] at this
 have hD1:W1.heap[w.heap.size]? =some (.deferred (some [])):=by
  rw [hW1];exact(Below.heap_alloc _ _ _ (by simp)).trans (World.alloc_heap_new w _)
 refine⟨w.heap.size+1,[{target:= .collected w.heap.size,args:= #[]}],W1,{target:= .fn (.func gf) lb,args:= #[.func (.yield (w.heap.size+1)) #[] #[]]},W1,gf,
  #[.func (.yield (w.heap.size+1)) #[] #[]]++lb,W1,?_,?_,fun _ _=>trivial,?_,fun h=>(by cases h),?_⟩
 ·rw [hW1];exact run_enterLoop_outer _ _ _ _ _
 ·simp only [resolve,hg];simp [go_sem]
 ·simp [invoke,go_sem,eg]
 have hsame: ∀ {A B:World} {k:Nat} {o:Obj},Kept W1.heap.size A B→A.heap[k]? =some o→k<W1.heap.size→B.heap[k]? =some o:=fun h hk hlt=>h.block _ _ hk (.inl hlt)
 have hkept: ∀ {A B:World},Kept W1.heap.size A B→Kept w.heap.size A B:=fun h=>⟨h.os,h.tape,h.output,h.size,fun k o hk ho=>h.block k o hk (by
  rcases ho with ho | ho
  ·exact .inl (by omega)
  ·exact .inr ho)⟩
 refine(hseq (w.heap.size+1)
  (fun pre W=>I pre W∧W1.heap.size≤W.heap.size∧W.heap[w.heap.size+1]? =some (.loop {state:= .ready,pending:=none,fn,tmps:=a.tmps,params:=ps,assign,body,defers:=w.heap.size})∧W.heap[w.heap.size]? =some (.deferred (some [])))
  (fun pre W=> ∃ c,Ix c pre W∧W.heap[w.heap.size+1]? =some (.loop {state:= .done,pending:=some c,fn,tmps:=a.tmps,params:=ps,assign,body,defers:=w.heap.size})∧W.heap[w.heap.size]? =some (.deferred (some [])))
  W1 hb1
  (fun s A B hs hk=>⟨hI s A B hs.1 (hkept hk),Nat.le_trans hs.2.1 hk.size,hsame hk hs.2.2.1 (by omega),hsame hk hs.2.2.2 (by omega)⟩)
  (fun s A B ⟨c,hc,hl,hd⟩ hk=>⟨c,hIx c s A B hc (hkept hk),hsame hk hl (by omega),hsame hk hd (by omega)⟩)
  ?_ ⟨hI _ _ _ h0 hk1,Nat.le_refl _,hL1,hD1⟩).mono ?_
 ·
  rintro pre x Wo W ⟨hi,hszo,hlo,hdo⟩ _ hko hr
  have hsz:W1.heap.size≤W.heap.size:=Nat.le_trans hszo hko.size
  have hl:=hsame hko hlo (by omega)
  have hd:=hsame hko hdo (by omega)
  have hlt:w.heap.size+1<W.heap.size:=(Array.getElem?_eq_some_iff.1 hl).1
  refine⟨_,_,_,_,run_yield (P:=P) (args:=encs x) hl (hps x),roundIn_of_wpIn trivial (wpIn_mono (hround (w.heap.size+1) pre x Wo W (by omega) (by omega) hi (hkept hko) hr) ?_)⟩
  intro e a₁ Wa he
  cases e with
  | normal=>
   obtain⟨hkf,hkp,hbody⟩:=he
   have hla:=hkf.same _ _ (by omega) hl rfl
   have hda:=hkf.same _ _ (by omega) hd rfl
   have hlta:w.heap.size+1<Wa.heap.size:=(Array.getElem?_eq_some_iff.1 hla).1
   refine⟨_,run_beginRound hla rfl,wpIn_mono (hbody _ (Kept.putObj _ (by omega) hla rfl)) ?_⟩
   have hl2:(Wa.putObj (w.heap.size+1) (.loop {state:= .busy,pending:=none,fn,tmps:=a.tmps,params:=ps,assign,body,defers:=w.heap.size})).heap[w.heap.size+1]? =some (.loop {state:= .busy,pending:=none,fn,tmps:=a.tmps,params:=ps,assign,body,defers:=w.heap.size}):=World.putObj_heap_same hlta
   have hd2:(Wa.putObj (w.heap.size+1) (.loop {state:= .busy,pending:=none,fn,tmps:=a.tmps,params:=ps,assign,body,defers:=w.heap.size})).heap[w.heap.size]? =some (.deferred (some [])):=(World.putObj_heap_other (by omega)).trans hda
   have hkp2:Kp W (Wa.putObj (w.heap.size+1) (.loop {state:= .busy,pending:=none,fn,tmps:=a.tmps,params:=ps,assign,body,defers:=w.heap.size})):=hKt hkp (hKb _ _ _ _ (by omega) hla rfl)
   have hsz2:W1.heap.size≤(Wa.putObj (w.heap.size+1) (.loop {state:= .busy,pending:=none,fn,tmps:=a.tmps,params:=ps,assign,body,defers:=w.heap.size})).heap.size:=by
    have:=hkf.size
    have h2:(Wa.putObj (w.heap.size+1) (.loop {state:= .busy,pending:=none,fn,tmps:=a.tmps,params:=ps,assign,body,defers:=w.heap.size})).heap.size=Wa.heap.size:=by simp
    omega
   generalize Wa.putObj (w.heap.size+1) (.loop {state:= .busy,pending:=none,fn,tmps:=a.tmps,params:=ps,assign,body,defers:=w.heap.size})=Wb at*
   have out: ∀ {jump:Option Code} {W3:World},KeepsFrom w.heap.size Wb W3→W3.heap[w.heap.size+1]? =some (.loop {state:= .busy,pending:=none,fn,tmps:=a.tmps,params:=ps,assign,body,defers:=w.heap.size})∧
     W3.heap[w.heap.size]? =some (.deferred (some [])):=fun h=>⟨h.same _ _ (by omega) hl2 rfl,h.same _ _ (by omega) hd2 rfl⟩
   have leave: ∀ {c:Code} {W3:World},KeepsFrom w.heap.size Wb W3→Ix c (pre++[x]) W3→ ∃ v w',(Instr.endRound (w.heap.size+1) (some c)).run P W3= .ok v w'∧v= .bool false∧ ∃ c,Ix c (pre++[x]) w'∧
     w'.heap[w.heap.size+1]? =some (.loop {state:= .done,pending:=some c,fn,tmps:=a.tmps,params:=ps,assign,body,defers:=w.heap.size})∧w'.heap[w.heap.size]? =some (.deferred (some [])):=fun {c W3} h hx=>by
    obtain⟨h1,h2⟩:=out (jump:=none) h
    have hlt3:w.heap.size+1<W3.heap.size:=(Array.getElem?_eq_some_iff.1 h1).1
    exact⟨_,_,run_endRound (some c) h1,rfl,c,(hIx c).own _ hx (by omega) h1 rfl,World.putObj_heap_same hlt3,(World.putObj_heap_other (by omega)).trans h2⟩
   intro e3 a3 W3 hp
   cases e3 with
   | normal=>
    obtain⟨h3,hkp3,hi3⟩:=hp
    obtain⟨h1,h2⟩:=out (jump:=none) h3
    have hlt3:w.heap.size+1<W3.heap.size:=(Array.getElem?_eq_some_iff.1 h1).1
    refine⟨_,_,run_endRound none h1,.inl ⟨rfl,⟨hI.own _ hi3 (by omega) h1 rfl,?_,World.putObj_heap_same hlt3,(World.putObj_heap_other (by omega)).trans h2⟩,hKt (hKt hkp2 hkp3) (hKb _ _ _ _ (by omega) h1 rfl)⟩⟩
    have:=h3.size
    simp
    omega
   | ret=>obtain⟨v,w',h1,rfl,h2⟩:=leave hp.1 hp.2;exact⟨_,_,h1,.inr ⟨rfl,h2⟩⟩
   | exit id=>obtain⟨v,w',h1,rfl,h2⟩:=leave hp.1 hp.2;exact⟨_,_,h1,.inr ⟨rfl,h2⟩⟩
   | goto t=>obtain⟨v,w',h1,rfl,h2⟩:=leave hp.1 hp.2;exact⟨_,_,h1,.inr ⟨rfl,h2⟩⟩
   | panic ch=>exact hp.elim
   | outgrown=>exact hp.elim
  | _=>exact he.elim
 ·
  rintro e W2 ⟨⟨v,rfl⟩,(⟨xs,hS,hi,_,hl,hd⟩ | ⟨pre,hSp,c,hi,hl,hd⟩)⟩
  ·exact⟨none,_,run_endLoop hl (by simp),hdone _ xs _ (Nat.le_refl _) hS (hI.own _ hi (by omega) hl rfl) ((World.putObj_heap_other (by omega)).trans hd)⟩
  ·exact⟨some c,_,run_endLoop hl (by simp),(wpIn_wide (n:=3)).2 (hstop _ c pre _ (Nat.le_refl _) hSp ((hIx c).own _ hi (by omega) hl rfl) ((World.putObj_heap_other (by omega)).trans hd))⟩
end Go.Proofs.YtcglcphhfmkccaaGreatDoor

namespace Go.Proofs.YtcglcphhfmkccaaGreatDoor
open Go.RowKit
theorem own_later {w w':World} {B size n:Nat} {e:TypeId} {v:Value} {xs:List Value} (h:w.ownsRow B e size v n xs) (hb:Below w.heap.size w w'):w'.ownsRow B e size v n xs:=by
 refine⟨h.1,?_⟩
 rcases h.2 with hn | ⟨g,cap,cur,rfl,hb1,hg,rest⟩
 ·exact .inl hn
 ·exact .inr ⟨g,cap,cur,rfl,hb1,by rw [hb.block _ (Array.getElem?_eq_some_iff.1 hg).1];exact hg,rest⟩
theorem own_shape {w:World} {B size n:Nat} {e:TypeId} {v:Value} {xs:List Value} (h:w.ownsRow B e size v n xs): ∃ oa cap,v= .slice oa n cap∧n≤cap∧cap≤maxLen:=by
 rcases h.2 with⟨rfl,rfl⟩ | ⟨g,cap,cur,rfl,_,_,h1,h2,_⟩
 ·exact⟨none,0,rfl,Nat.le_refl _,by decide⟩
 ·exact⟨_,cap,rfl,h1,h2⟩
theorem own_get {w:World} {B size n:Nat} {e:TypeId} {v:Value} {xs:List Value} (h:w.ownsRow B e size v n xs) (hn:0<n):
  ∃ g cap,v= .slice (some ⟨g,0,none⟩) n cap∧B≤g∧g<w.heap.size∧n≤cap∧cap≤maxLen∧ ∀ (j:Nat) u,xs[j]? =some u→w.cell? ⟨g,j,none⟩=some u:=by
 have hx:=h
 rcases h.2 with⟨rfl,rfl⟩ | ⟨g,cap,cur,rfl,h0,hg,h1,h2,_⟩
 ·omega
 ·refine⟨g,cap,rfl,h0,(Array.getElem?_eq_some_iff.1 hg).1,h1,h2,fun j u hj=> ?_⟩
  rw [hx.cellAt j (by rw [←hx.1];exact getElem?_lt hj)]
  exact hj
end Go.Proofs.YtcglcphhfmkccaaGreatDoor

namespace Go.Proofs.YtcglcphhfmkccaaGreatDoor
open Go.RowKit
def BRow (w:World) (v:Value) (l:List UInt8):Prop:=
 ∃ oa cap,v= .slice oa l.length cap∧l.length≤cap∧
  (l≠ []→ ∃ b off,oa=some ⟨b,off,none⟩∧ ∀ (i:Nat) x,l[i]? =some x→w.cell? ⟨b,off+i,none⟩=some (.int .u8 (x.toNat:Int)))
theorem BRow.below {w w':World} {v:Value} {l:List UInt8} (h:BRow w v l) (hb:Below w.heap.size w w'):BRow w' v l:=by
 obtain⟨oa,cap,h1,h2,h5⟩:=h
 refine⟨oa,cap,h1,h2,fun hn=> ?_⟩
 obtain⟨b,off,e,hc⟩:=h5 hn
 exact⟨b,off,e,fun i x hx=>cell_later hb (hc i x hx)⟩
theorem below_drewN' (w:World) (n:Nat):Below w.heap.size w (w.drewN n):=⟨rfl,rfl,rfl,Nat.le_refl _,fun _ _=>rfl⟩
end Go.Proofs.YtcglcphhfmkccaaGreatDoor

namespace Go.Proofs.YtcglcphhfmkccaaGreatDoor
open Go.RowKit
theorem brow_own {w:World} {B:Nat} {v:Value} {l:List UInt8} (h:w.ownsRow B 5 1 v l.length (Lib.byteCells l)):BRow w v l:=by
 by_cases hn:l=[]
 ·subst hn
  obtain⟨oa,cap,rfl,h1,_⟩:=own_shape h
  exact⟨oa,cap,rfl,h1,fun h=>absurd rfl h⟩
 ·obtain⟨g,cap,rfl,_,_,h1,_,h3⟩:=own_get h (List.length_pos_iff.2 hn)
  exact⟨_,cap,rfl,h1,fun _=>⟨g,0,rfl,fun i x hi=>by rw [Nat.zero_add];exact h3 i _ (by rw [Lib.byteCells,List.getElem?_map,hi];rfl)⟩⟩
theorem infoByteB:(Tryz.prog.info? 5).map (fun i=>(i.zero,i.size,i.bytes))=some (some (.int .u8 0),1,1):=by kernel_rfl
theorem own_free {w:World} {B g n cap:Nat} {e:TypeId} {xs:List Value} (h:w.ownsRow B e 1 (.slice (some ⟨g,0,none⟩) n cap) n xs) (j:Nat):w.frozen? ⟨g,j,none⟩=false:=by
 rcases h.2 with⟨h',_⟩ | ⟨g',cap',cur,h',_,hg,_⟩
 ·cases h'
 ·simp only [Value.slice.injEq,Option.some.injEq,Addr.mk.injEq,and_true,true_and] at h'
  obtain⟨rfl,rfl⟩:=h'
  simp [World.frozen?,hg]
set_option maxRecDepth 100000 in
set_option maxHeartbeats 4000000 in
theorem copyBytes_any (l:List UInt8) (v:Value) (w:World) (hv:BRow w v l) (hn:l.length≤140737488355328):
  Calls Tryz.prog 16 #[v] w fun x w'=> ∃ v',x= .returned v'∧w'.ownsRow w.heap.size 5 1 v' l.length (Lib.byteCells l)∧Below w.heap.size w w':=by
 obtain⟨i0,hi,hz0,hz1,hz2⟩:=info_parts infoByteB
 obtain⟨w2,hmk,hown,hgrow⟩:=run_make_full (P:=Tryz.prog) w w.heap.size 45 5 i0 (.int .u8 0) 1 Tryz.underlying45 hi hz0 hz1 .i64 .i64 l.length (by rw [hz2];omega) (by unfold maxLen;omega) (Nat.le_refl _)
 have HB2:=Lib.hid (show Below w.heap.size w w2 from(Below.refl _ _).grown hgrow (Nat.le_refl _) (fun k e=>by cases e))
 have HO2:=Lib.hid hown
 obtain⟨oa,cap,rfl,hlc,hc⟩:=hv
 have HC:=Lib.hid (show ∀ (i:Nat) x,l[i]? =some x→ ∃ b off,oa=some ⟨b,off,none⟩∧w.cell? ⟨b,off+i,none⟩=some (.int .u8 (x.toNat:Int)) from fun i x hx=>by
  obtain⟨b,off,h1,h2⟩:=hc (by rintro rfl;simp at hx)
  exact⟨b,off,h1,h2 i x hx⟩)
 clear hown hgrow hc
 go_enter Tryz.func16,Tryz.ntmps16
 go_wp2
 go_loopw [10] (fun iv wr=> ∃ (k:Nat) (xs:List Value),k≤l.length∧iv= .int .i64 k∧wr.ownsRow w.heap.size 5 1 (.slice (some ⟨w.heap.size,0,none⟩) l.length l.length) l.length xs∧Below w.heap.size w wr∧Hid (∀ j x,j<k→l[j]? =some x→xs[j]? =some (.int .u8 (x.toNat:Int)))) (fun iv _=>l.length - (intOf iv).toNat)
 case atStart=>exact⟨0,_,Nat.zero_le _,rfl,HO2.out,HB2.out,Lib.hid fun j x h=>by omega⟩
 case round=>
  obtain⟨k,xs,hk,rfl,hown,hb,HX⟩:=hrel
  have HO:=Lib.hid hown
  have HB:=Lib.hid hb
  have hxl:xs.length=l.length:=by rw [hown.1];omega
  clear hown hb
  by_cases hlt:k<l.length
  ·obtain⟨x,hx,_,_⟩:=nth l k hlt
   obtain⟨b,off,rfl,hcell⟩:=HC.out k x hx
   have q1:(k:Int)<(l.length:Int):=by omega
   have c1:=cell_later HB.out hcell
   have f1:=own_free HO.out k
   obtain⟨u,hu⟩: ∃ u,wr.cell? ⟨w.heap.size,k,none⟩=some u:=⟨xs[k],by rw [HO.out.cellAt k (by omega)];exact List.getElem?_eq_getElem (by omega)⟩
   have HS:=Lib.hid (HO.out.stored k (.int .u8 (x.toNat:Int)))
   have HXK:=Lib.hid (show ∀ j y,j<k+1→l[j]? =some y→(xs.set k (.int .u8 (x.toNat:Int)))[j]? =some (.int .u8 (y.toNat:Int)) from fun j y hj hy=>by
    by_cases hjk:j=k
    ·subst hjk
     rw [hx] at hy
     obtain rfl:=Option.some.inj hy
     rw [List.getElem?_set_self (by omega)]
    ·rw [List.getElem?_set_ne (by omega)]
     exact HX.out j y (by omega) hy)
   clear hx hcell
   go_wp2
   go_roundw
   case rel=>exact⟨k+1,_,by omega,by go_num,HS.out.1,HB.out.setCell (p:=⟨w.heap.size,k,none⟩) (Nat.le_refl _) _,HXK⟩
   case measure=>simp [intOf];omega
  ·obtain rfl:k=l.length:=by omega
   have hxs:xs=Lib.byteCells l:=by
    refine List.ext_getElem? fun j=> ?_
    by_cases hj:j<l.length
    ·rw [HX.out j l[j] hj (List.getElem?_eq_getElem hj),Lib.byteCells,List.getElem?_map,List.getElem?_eq_getElem hj];rfl
    ·rw [List.getElem?_eq_none (by omega),List.getElem?_eq_none (by rw [Lib.byteCells_length];omega)]
   have HF:=Lib.hid (hxs▸HO.out)
   clear hxs
   go_wp2
   go_ret
   exact⟨_,rfl,HF.out,HB.out⟩
end Go.Proofs.YtcglcphhfmkccaaGreatDoor

namespace Go.Proofs.YtcglcphhfmkccaaGreatDoor
open Go.RowKit
theorem run_storeVar_cell (w:World) (b o:Nat) (ty:TypeId) (v:Value) (old:Value) (hi:(Tryz.prog.info? ty).map (·.size)=some 1) (h1:v.oneCell'=true) (hc:w.cell? ⟨b,o,none⟩=some old) (hf:w.frozen? ⟨b,o,none⟩=false):
  (storeVar ty ⟨b,o,none⟩ v).run Tryz.prog w= .ok () (w.setCell ⟨b,o,none⟩ v):=by
 have:=run_storeCells_cells (P:=Tryz.prog) b o [v] 0 w (fun j hj=>by
   simp at hj;subst hj;simp [hc]) (fun j hj=>by simp at hj;subst hj;exact hf) (fun x hx=>by simp at hx;subst hx;exact h1)
 have hcc:v.cells= #[v]:=by cases v<;>first | rfl | cases h1
 cases hq:Tryz.prog.info? ty with
 | none=>simp [hq] at hi
 | some i=>
  have hs:i.size=1:=by simpa [hq] using hi
  simp only [Nat.add_zero] at this
  simp [storeVar,sizeOf,typeInfo,hq,hcc,hs]
  exact this
theorem wpList_store_cellV {ops:Array Oper} {rest:List Oper} {op:Oper} {a:Act} {w:World} {Q:Exit→Act→World→Prop} (hgd:op.guard=none) (ty:TypeId) (x y:Operand) (ho:op.op= .store ty x y)
  (b o:Nat) (v old:Value) (hi:(Tryz.prog.info? ty).map (·.size)=some 1) (h1:v.oneCell'=true) (hx:a.eval x= .pointer (some ⟨b,o,none⟩)) (hy:a.eval y=v) (hc:w.cell? ⟨b,o,none⟩=some old) (hf:w.frozen? ⟨b,o,none⟩=false)
  (h: ∀ W,Hid (W=w.setCell ⟨b,o,none⟩ v)→wpList Tryz.prog ops Q rest (a.put op.dst undef) W):wpList Tryz.prog ops Q (op::rest) a w:=
 wpList_plain hgd fun _ hK=>by
  unfold Oper.wp execOp
  simp only [ho,hx,hy,Instr.storeAt,Instr.sureAddr,Sem.run_bind,Sem.run_pure,Result.andThen_ok,run_storeVar_cell w b o ty v old hi h1 hc hf]
  exact hK _ _ (h _ (Lib.hid rfl))
theorem wp_store_cell {op:Oper} {a:Act} {w:World} {K:Act→World→Prop} {Q:Exit→Act→World→Prop} (ty:TypeId) (x y:Operand) (ho:op.op= .store ty x y)
  (b o:Nat) (v old:Value) (hi:(Tryz.prog.info? ty).map (·.size)=some 1) (h1:v.oneCell'=true) (hx:a.eval x= .pointer (some ⟨b,o,none⟩)) (hy:a.eval y=v) (hc:w.cell? ⟨b,o,none⟩=some old) (hf:w.frozen? ⟨b,o,none⟩=false)
  (h:K (a.put op.dst undef) (w.setCell ⟨b,o,none⟩ v)):op.wp Tryz.prog a w K Q:=by
 unfold Oper.wp execOp
 simp only [ho,hx,hy,Instr.storeAt,Instr.sureAddr,Sem.run_bind,Sem.run_pure,Result.andThen_ok,run_storeVar_cell w b o ty v old hi h1 hc hf]
 exact h
end Go.Proofs.YtcglcphhfmkccaaGreatDoor

namespace Go.Proofs.YtcglcphhfmkccaaGreatDoor
open Go.RowKit
section
variable {P : Program} {ops : Array Oper} {Q : Exit → Act → World → Prop} {md : Region.Mode} {S : World → Prop}
theorem tk {d:Option Tmp} {o:Op} {t:TypeId} {p:String} {af:Array Edge} {g:Option (Nat×Bool)} {fuel:Nat} {listed:Array Bool} {a:Act} {w:World} (i:Nat) (hi:ops[i]? =some ⟨d,o,t,p,af,g⟩) (v:Value)
  (hy: ∀ w,S w→(execOp a.eval ⟨d,o,t,p,af,g⟩).run P w= .ok (.value v) w) (h:wpAnyH P md ops Q S fuel (listed.setIfInBounds i true) (a.put d v) w)
  (hs:Region.noSelect ops=true:=by kernel_rfl) (hf:Region.free md ops listed i=true:=by kernel_rfl) (hr:(Region.ready md ops listed).contains i=true:=by kernel_rfl)
  (hQ: ∀ c a w,Q (.panic c) (a.put d v) w→Q (.panic c) a w:=by exact fun _ _ _ h=>h) (hw:Region.wanted ⟨d,o,t,p,af,g⟩ (yielded ops a.tmps)=true:=by kernel_rfl) (hS:S w:=by assumption):
  wpAnyH P md ops Q S (fuel+1) listed a w:=wpAnyH_take hi hs hf hr hQ (Or.inl ⟨hw,hy⟩) hS h
theorem tkn {d:Option Tmp} {o:Op} {t:TypeId} {p:String} {af:Array Edge} {g:Option (Nat×Bool)} {fuel:Nat} {listed:Array Bool} {a:Act} {w:World} (i:Nat) (hi:ops[i]? =some ⟨d,o,t,p,af,g⟩)
  (h:wpAnyH P md ops Q S fuel (listed.setIfInBounds i true) (a.put d undef) w)
  (hs:Region.noSelect ops=true:=by kernel_rfl) (hf:Region.free md ops listed i=true:=by kernel_rfl) (hr:(Region.ready md ops listed).contains i=true:=by kernel_rfl)
  (hQ: ∀ c a w,Q (.panic c) (a.put d undef) w→Q (.panic c) a w:=by exact fun _ _ _ h=>h) (hw:Region.wanted ⟨d,o,t,p,af,g⟩ (yielded ops a.tmps)=false:=by kernel_rfl) (hS:S w:=by assumption):
  wpAnyH P md ops Q S (fuel+1) listed a w:=wpAnyH_take hi hs hf hr hQ (Or.inr ⟨hw,rfl⟩) hS h
end
theorem pA (a:Act) (d:Tmp) (v:Value):a.put (some d) v={a with tmps:=a.tmps.setIfInBounds d v}:=rfl
theorem pB {α:Type} (l:List α) (i:Nat) (x:α):l.toArray.setIfInBounds i x=(l.set i x).toArray:=List.setIfInBounds_toArray ..
theorem pC {α:Type} (y:α) (l:List α) (x:α):(y::l).set 0 x=x::l:=rfl
theorem pD {α:Type} (y:α) (l:List α) (i:Nat) (x:α):(y::l).set (i+1) x=y::l.set i x:=rfl
section
variable {P : Program} {ops : Array Oper} {Q : Exit → Act → World → Prop} {md : Region.Mode} {S : World → Prop}
theorem tq {d:Option Tmp} {o:Op} {t:TypeId} {p:String} {af:Array Edge} {g:Option (Nat×Bool)} {fuel:Nat} {listed:Array Bool} {a a':Act} {w:World} {v:Value} (i:Nat) (hi:ops[i]? =some ⟨d,o,t,p,af,g⟩)
  (h:wpAnyH P md ops Q S fuel (listed.setIfInBounds i true) a' w)
  (hy: ∀ w,S w→(execOp a.eval ⟨d,o,t,p,af,g⟩).run P w= .ok (.value v) w:=by intro w hSw;go_simp;try with_reducible rfl)
  (ha:a.put d v=a':=by (simp only [pA,pB,pC,pD];exact rfl))
  (hs:Region.noSelect ops=true:=by kernel_rfl) (hf:Region.free md ops listed i=true:=by kernel_rfl) (hr:(Region.ready md ops listed).contains i=true:=by kernel_rfl)
  (hQ: ∀ c a w,Q (.panic c) (a.put d v) w→Q (.panic c) a w:=by exact fun _ _ _ h=>h) (hw:Region.wanted ⟨d,o,t,p,af,g⟩ (yielded ops a.tmps)=true:=by kernel_rfl) (hS:S w:=by assumption):
  wpAnyH P md ops Q S (fuel+1) listed a w:=wpAnyH_take hi hs hf hr hQ (Or.inl ⟨hw,hy⟩) hS (ha▸h)
theorem tf {C:World→Prop} {d:Option Tmp} {o:Op} {t:TypeId} {p:String} {af:Array Edge} {g:Option (Nat×Bool)} {fuel:Nat} {listed:Array Bool} {a a':Act} {w:World} {v:Value} (F:Hid (∀ w,S w→C w)) (i:Nat) (hi:ops[i]? =some ⟨d,o,t,p,af,g⟩)
  (h:wpAnyH P md ops Q S fuel (listed.setIfInBounds i true) a' w)
  (hy: ∀ w,S w→C w→(execOp a.eval ⟨d,o,t,p,af,g⟩).run P w= .ok (.value v) w:=by intro w hSw hC;go_simp;try with_reducible rfl)
  (ha:a.put d v=a':=by (simp only [pA,pB,pC,pD];exact rfl))
  (hs:Region.noSelect ops=true:=by kernel_rfl) (hf:Region.free md ops listed i=true:=by kernel_rfl) (hr:(Region.ready md ops listed).contains i=true:=by kernel_rfl)
  (hQ: ∀ c a w,Q (.panic c) (a.put d v) w→Q (.panic c) a w:=by exact fun _ _ _ h=>h) (hw:Region.wanted ⟨d,o,t,p,af,g⟩ (yielded ops a.tmps)=true:=by kernel_rfl) (hS:S w:=by assumption):
  wpAnyH P md ops Q S (fuel+1) listed a w:=wpAnyH_take hi hs hf hr hQ (Or.inl ⟨hw,fun w hS=>hy w hS (F.out w hS)⟩) hS (ha▸h)
end
theorem range_later {w w':World} {b off:Nat} {cs:List Value} (h:w.rangeAt b off cs) (hb:Below w.heap.size w w'):w'.rangeAt b off cs:=fun j u hj=>cell_later hb (h j u hj)
theorem own_fresh (w:World) (e size:Nat) (B:Nat) (hB:B≤w.heap.size):(w.alloc (.cells #[] e)).ownsRow B e size (.slice (some ⟨w.heap.size,0,none⟩) 0 0) 0 []:=
 ⟨by simp,.inr ⟨w.heap.size,0,#[],rfl,hB,heap_alloc_new w _,Nat.le_refl _,by decide,by simp,by simp⟩⟩
theorem own_set {w:World} {B size n k j:Nat} {e:TypeId} {v u:Value} {xs:List Value} (h:w.ownsRow B e size v n xs) (hk:k<B):(w.setCell ⟨k,j,none⟩ u).ownsRow B e size v n xs:=by
 refine⟨h.1,?_⟩
 rcases h.2 with hn | ⟨g,cap,cur,rfl,hb1,hg,rest⟩
 ·exact .inl hn
 ·refine .inr ⟨g,cap,cur,rfl,hb1,?_,rest⟩
  simp only [World.setCell]
  rw [Array.getElem?_modify]
  simp [hg,show k≠g by omega]
theorem below_alloc (w:World) (o:Obj):Below w.heap.size w (w.alloc o):=(Below.refl _ _).alloc (Nat.le_refl _) _
end Go.Proofs.YtcglcphhfmkccaaGreatDoor

namespace Go.Proofs.YtcglcphhfmkccaaGreatDoor
open Go.RowKit
def OwnB (w:World) (B:Nat) (v:Value) (bs:List UInt8):Prop:=w.ownsRow B 5 1 v bs.length (Lib.byteCells bs)
theorem OwnB.brow {w:World} {B:Nat} {v:Value} {bs:List UInt8} (h:OwnB w B v bs):BRow w v bs:=brow_own h
theorem OwnB.later {w w':World} {B:Nat} {v:Value} {bs:List UInt8} (h:OwnB w B v bs) (hb:Below w.heap.size w w'):OwnB w' B v bs:=own_later h hb
theorem OwnB.mono {w:World} {B B':Nat} {v:Value} {bs:List UInt8} (h:OwnB w B v bs) (hB:B'≤B):OwnB w B' v bs:=by
 refine⟨h.1,?_⟩
 rcases h.2 with hn | ⟨g,cap,cur,h1,h2,rest⟩
 ·exact .inl hn
 ·exact .inr ⟨g,cap,cur,h1,by omega,rest⟩
theorem OwnB.nil (w:World) (B:Nat):OwnB w B (.slice none 0 0) []:=⟨rfl,.inl ⟨rfl,rfl⟩⟩
theorem below_of_grown {B:Nat} {w w':World} {v:Value} {e:TypeId} {size n:Nat} {xs:List Value} (h:w.ownsRow B e size v n xs) (hB:B≤w.heap.size) (hg:w.grownBy w' v.ownBlock):Below B w w':=
 ⟨hg.os,hg.tape,hg.output,hg.size,fun k hk=>hg.block k (Nat.lt_of_lt_of_le hk hB) fun e=>by have:=(h.lt k e.symm).1;omega⟩
theorem run_appB {B:Nat} {w:World} {v x:Value} {bs m:List UInt8} (hown:OwnB w B v bs) (hB:B≤w.heap.size) (hx:BRow w x m) (hl:bs.length+m.length≤140737488355328) (ty:TypeId):
  ∃ v' w',(Builtin.append_ #[45,45] ty #[v,x]).run Tryz.prog w= .ok v' w'∧OwnB w' B v' (bs++m)∧Below B w w':=by
 obtain⟨i0,hi,hz0,hz1,hz2⟩:=info_parts infoByteB
 obtain⟨oa,xc,rfl,hxl,hxc⟩:=hx
 have key: ∀ a:Addr,oa=some a→(∀ j u,(Lib.byteCells m)[j]? =some u→w.cell? (a.add j)=some u)→
   ∃ v' w',(Builtin.append_ #[45,45] ty #[v,.slice oa m.length xc]).run Tryz.prog w= .ok v' w'∧OwnB w' B v' (bs++m)∧Below B w w':=by
  rintro a rfl hc
  obtain⟨v',w',h1,h2,h3,_⟩:=run_append_own (P:=Tryz.prog) w B 45 ty 5 i0 (.int .u8 0) 1 1 Tryz.underlying45 hi hz0 hz1 hz2 rfl (by decide) v bs.length _ hown a m.length xc (Lib.byteCells m) (by simp [Lib.byteCells]) hc (fun u hu=>by obtain⟨_,_,rfl⟩:=List.mem_map.1 hu;rfl) (by unfold maxLen;omega) (by omega) hB
  exact⟨v',w',h1,by unfold OwnB;rw [List.length_append,show Lib.byteCells (bs++m)=Lib.byteCells bs++Lib.byteCells m by simp [Lib.byteCells]];exact h2,below_of_grown hown hB h3⟩
 by_cases hm:m=[]
 ·subst hm
  rcases oa with _ | a
  ·obtain⟨ao,cap,rfl,hc,_⟩:=own_shape hown
   refine⟨.slice ao bs.length cap,w,?_,by simpa using hown,Below.refl _ _⟩
   rcases ao with _ | ao<;>simp [Builtin.append_,run_underlying Tryz.underlying45,sizeOf,typeInfo,hi,Builtin.lenOf,Builtin.firstCells,hc,storeCells]
  ·exact key a rfl (fun j u hj=>by simp [Lib.byteCells] at hj)
 ·obtain⟨b,off,rfl,hc⟩:=hxc hm
  refine key _ rfl fun j u hj=> ?_
  rw [addr_add]
  rw [Lib.byteCells,List.getElem?_map] at hj
  obtain⟨y,hy,rfl⟩:=Option.map_eq_some_iff.1 hj
  exact hc j y hy
section
variable {ops : Array Oper} {rest : List Oper} {o : Oper} {a : Act} {Q : Exit → Act → World → Prop}
theorem wpList_appB {w:World} (hgd:o.guard=none) (s y:Operand) (ho:o.op= .call {callee:= .builtin .append,args:= #[s,y],argTypes:= #[45,45]}) {B:Nat} {v x:Value} {bs m:List UInt8}
  (hs:a.eval s=v) (hy:a.eval y=x) (hown:OwnB w B v bs) (hB:B≤w.heap.size) (hx:BRow w x m) (hl:bs.length+m.length≤140737488355328)
  (h: ∀ v' w',OwnB w' B v' (bs++m)→Below B w w'→wpList Tryz.prog ops Q rest (a.put o.dst v') w'):wpList Tryz.prog ops Q (o::rest) a w:=by
 refine wpList_plain hgd fun K hK=> ?_
 obtain⟨v',w',hr,h1,h2⟩:=run_appB hown hB hx hl o.type
 unfold Oper.wp
 simp [execOp,ho,resolve,invoke,builtin,hs,hy,hr,Result.andThen]
 exact hK _ _ (h v' w' h1 h2)
theorem wpList_app1 {w:World} (hgd:o.guard=none) (s y:Operand) (ho:o.op= .call {callee:= .builtin .append,args:= #[s,y],argTypes:= #[45,45]}) {B:Nat} {v:Value} {bs:List UInt8} {cv:Int} (c:UInt8)
  (hs:a.eval s=v) (hy:a.eval y= .slice (some ⟨w.heap.size,0,none⟩) 1 1) (hown:OwnB w B v bs) (hB:B≤w.heap.size) (hc:cv=(c.toNat:Int)) (hl:bs.length+1≤140737488355328)
  (h: ∀ v' w',OwnB w' B v' (bs++[c])→Below B w w'→w.heap.size≤w'.heap.size→wpList Tryz.prog ops Q rest (a.put o.dst v') w'):wpList Tryz.prog ops Q (o::rest) a (w.alloc (.cells #[.int .u8 cv] 5)):=by
 have hb:=below_alloc w (.cells #[.int .u8 cv] 5)
 refine wpList_appB hgd s y ho hs hy (own_later hown hb) (Nat.le_trans hB hb.size) (m:=[c]) ⟨_,1,rfl,Nat.le_refl _,fun _=>⟨w.heap.size,0,rfl,fun i x hi=> ?_⟩⟩ (by simpa using hl) fun v' w' h1 h2=>h v' w' h1 ((hb.mono hB).trans h2) (Nat.le_trans hb.size h2.size)
 rw [World.cell?_alloc_new]
 match i,hi with
 | 0,hi=>simp at hi;subst hi;simp [hc]
end
end Go.Proofs.YtcglcphhfmkccaaGreatDoor

namespace Go.Proofs.YtcglcphhfmkccaaGreatDoor
def crcPoly:BitVec 32:=0xEDB88320#32
def crcBit (c:BitVec 32):BitVec 32:=if c.getLsbD 0 then (c >>> 1)^^^crcPoly else c >>> 1
def crcBits:Nat→BitVec 32→BitVec 32
 | 0,c=>c
 | n+1,c=>crcBits n (crcBit c)
def crcTable:List (BitVec 32):=[0x00000000#32,0x1db71064#32,0x3b6e20c8#32,0x26d930ac#32,0x76dc4190#32,0x6b6b51f4#32,0x4db26158#32,0x5005713c#32,
 0xedb88320#32,0xf00f9344#32,0xd6d6a3e8#32,0xcb61b38c#32,0x9b64c2b0#32,0x86d3d2d4#32,0xa00ae278#32,0xbdbdf21c#32]
def crcNib (c:BitVec 32):BitVec 32:=(c >>> 4)^^^crcTable.getD (c.toNat % 16) 0
def crcTake (c:BitVec 32) (x:UInt8):BitVec 32:=crcBits 8 (c^^^BitVec.ofNat 32 x.toNat)
def crcStep (c:BitVec 32) (x:UInt8):BitVec 32:=crcNib (crcNib (c^^^BitVec.ofNat 32 x.toNat))
theorem crcBit_xor (a b:BitVec 32):crcBit (a^^^b)=crcBit a^^^crcBit b:=by
 unfold crcBit
 rw [BitVec.getLsbD_xor]
 rcases h:a.getLsbD 0<;>rcases h':b.getLsbD 0<;>simp [BitVec.ushiftRight_xor_distrib]
 ·ac_rfl
 ·ac_rfl
 ·have: ∀ x y:BitVec 32,x^^^y=x^^^crcPoly^^^(y^^^crcPoly):=fun x y=>by
   rw [show x^^^crcPoly^^^(y^^^crcPoly)=x^^^y^^^(crcPoly^^^crcPoly) by ac_rfl,BitVec.xor_self,BitVec.xor_zero]
  exact this _ _
theorem crcBits_xor: ∀ (n:Nat) (a b:BitVec 32),crcBits n (a^^^b)=crcBits n a^^^crcBits n b
 | 0,_,_=>rfl
 | n+1,a,b=>by simp only [crcBits,crcBit_xor,crcBits_xor n]
theorem crcBit_low {c:BitVec 32} (h:c.getLsbD 0=false):crcBit c=c >>> 1:=by unfold crcBit;rw [h];rfl
theorem crcBits_low: ∀ (n:Nat) (c:BitVec 32),(∀ i,i<n→c.getLsbD i=false)→crcBits n c=c >>> n
 | 0,c,_=>by simp [crcBits]
 | n+1,c,h=>by
  rw [crcBits,crcBit_low (h 0 (by omega)),crcBits_low n _ (fun i hi=>by rw [BitVec.getLsbD_ushiftRight];exact h (1+i) (by omega)),←BitVec.shiftRight_add]
  rw [Nat.add_comm]
theorem crcTable_ok: ∀ n,n<16→crcBits 4 (BitVec.ofNat 32 n)=crcTable.getD n 0:=by decide
theorem crc_parts (c:BitVec 32):c=((c >>> 4) <<< 4)^^^BitVec.ofNat 32 (c.toNat % 16):=by
 apply BitVec.eq_of_getLsbD_eq
 intro i hi
 rw [BitVec.getLsbD_xor,BitVec.getLsbD_shiftLeft,BitVec.getLsbD_ushiftRight,BitVec.getLsbD_ofNat,show (16:Nat)=2^4 from rfl,Nat.testBit_mod_two_pow]
 by_cases h4:i<4
 ·simp [h4,hi,BitVec.getLsbD]
 ·simp only [h4,hi,decide_true,decide_false,Bool.true_and,Bool.false_and,Bool.not_false,Bool.xor_false,Bool.and_false]
  rw [show 4+(i - 4)=i by omega]
theorem crcNib_bits (c:BitVec 32):crcNib c=crcBits 4 c:=by
 have h:=crc_parts c
 have h1:crcBits 4 ((c >>> 4) <<< 4)=c >>> 4:=by
  rw [crcBits_low 4 _ (fun i hi=>by simp [BitVec.getLsbD_shiftLeft,hi])]
  apply BitVec.eq_of_getLsbD_eq
  intro i hi
  simp only [BitVec.getLsbD_ushiftRight,BitVec.getLsbD_shiftLeft]
  by_cases h5:4+i<32
  ·simp [h5]
  ·simp [h5,BitVec.getLsbD_of_ge c (4+i) (by omega)]
 rw [crcNib]
 conv=>rhs;rw [h]
 rw [crcBits_xor,h1,crcTable_ok _ (Nat.mod_lt _ (by decide))]
theorem crcBits_add: ∀ (m n:Nat) (c:BitVec 32),crcBits (m+n) c=crcBits n (crcBits m c)
 | 0,n,c=>by simp [crcBits]
 | m+1,n,c=>by rw [show m+1+n=(m+n)+1 by omega,crcBits,crcBits_add m n,crcBits]
theorem crcStep_take (c:BitVec 32) (x:UInt8):crcStep c x=crcTake c x:=by
 unfold crcStep crcTake
 rw [crcNib_bits,crcNib_bits,←crcBits_add]
def crcReg (c:BitVec 32) (l:List UInt8):BitVec 32:=l.foldl crcTake c
theorem crcReg_snoc (c:BitVec 32) (l:List UInt8) (x:UInt8):crcReg c (l++[x])=crcTake (crcReg c l) x:=by simp [crcReg]
def crcUpdate (s:BitVec 32) (l:List UInt8):BitVec 32:= ~~~ crcReg (~~~ s) l
def crcSum (l:List UInt8):BitVec 32:=crcUpdate 0 l
def fourOf (s:BitVec 32):List UInt8:=[UInt8.ofNat (s.toNat % 256),UInt8.ofNat (s.toNat / 256 % 256),UInt8.ofNat (s.toNat / 65536 % 256),UInt8.ofNat (s.toNat / 16777216)]
end Go.Proofs.YtcglcphhfmkccaaGreatDoor
namespace Go.Proofs.YtcglcphhfmkccaaGreatDoor
def encV (n:Nat):List UInt8:=if h:n<128 then [UInt8.ofNat n] else UInt8.ofNat (128+n % 128)::encV (n / 128)
termination_by n
decreasing_by omega
theorem encV_low {n:Nat} (h:n<128):encV n=[UInt8.ofNat n]:=by rw [encV,dif_pos h]
theorem encV_high {n:Nat} (h: ¬ n<128):encV n=UInt8.ofNat (128+n % 128)::encV (n / 128):=by rw [encV,dif_neg h]
theorem encV_len: ∀ (k n:Nat),n<128^(k+1)→(encV n).length≤k+1
 | 0,n,h=>by rw [encV_low (by omega)];simp
 | k+1,n,h=>by
  by_cases hl:n<128
  ·rw [encV_low hl];simp
  ·rw [encV_high hl,List.length_cons]
   have:=encV_len k (n / 128) (by rw [Nat.div_lt_iff_lt_mul (by decide)];rw [Nat.pow_succ] at h;exact h)
   omega
theorem encV_64 {n:Nat} (h:n<18446744073709551616):(encV n).length≤10:=encV_len 9 n (Nat.lt_trans h (by decide))
def encAll (us:List Nat):List UInt8:=encV us.length++us.flatMap encV
theorem encs_snoc (us:List Nat) (u:Nat):(us++[u]).flatMap encV=us.flatMap encV++encV u:=by simp
theorem encs_len: ∀ (us:List Nat),(∀ u∈us,u<18446744073709551616)→(us.flatMap encV).length≤10*us.length
 | [],_=>by simp
 | u::us,h=>by
  have h1:=encV_64 (h u (by simp))
  have h2:=encs_len us fun x hx=>h x (by simp [hx])
  simp only [List.flatMap_cons,List.length_append,List.length_cons]
  omega
theorem encAll_len (us:List Nat) (h: ∀ u∈us,u<18446744073709551616) (hl:us.length<18446744073709551616):(encAll us).length≤10*us.length+10:=by
 have h1:=encV_64 hl
 have h2:=encs_len us h
 unfold encAll
 rw [List.length_append]
 omega
def le8 (n:Nat) (k:Nat):List UInt8:=(List.range k).map fun i=>UInt8.ofNat (n / 256^i % 256)
theorem le8_succ (n k:Nat):le8 n (k+1)=le8 n k++[UInt8.ofNat (n / 256^k % 256)]:=by simp [le8,List.range_succ]
theorem le8_length (n k:Nat):(le8 n k).length=k:=by simp [le8]
def headOf (kind len seq:Nat):List UInt8:=[165,UInt8.ofNat kind,UInt8.ofNat (len % 256),UInt8.ofNat (len / 256)]++le8 seq 8
theorem headOf_length (kind len seq:Nat):(headOf kind len seq).length=12:=by simp [headOf,le8_length]
theorem fourOf_length (s:BitVec 32):(fourOf s).length=4:=rfl
def frameOf (kind seq:Nat) (body:List UInt8):List UInt8:=
 headOf kind body.length seq++fourOf (crcSum (headOf kind body.length seq))++body++fourOf (crcSum body)
theorem frameOf_length (kind seq:Nat) (body:List UInt8):(frameOf kind seq body).length=body.length+20:=by
 simp only [frameOf,List.length_append,headOf_length,fourOf_length]
 omega
def frameEnc (kind seq:Int) (body:List UInt8):List UInt8×Int:=
 if decide (kind<1) || decide (7<kind) || decide (seq<0) || decide (1099511627776<seq) then ([],63)
 else if decide (16384<body.length) then ([],24) else (frameOf kind.toNat seq.toNat body,0)
def hdrEnc (num first:Int):List UInt8×Int:=
 if decide (num<1) || decide (999999<num) || decide (first<1) || decide (1099511627777<first) then ([],1)
 else frameEnc 2 num (encV num.toNat++encV first.toNat)
structure Sg where
 num:Int
 first:Int
 count:Int
 foot:Int
structure Man where
 gen:Int
 next:Int
 floor:Int
 snap:Int
 snapSeq:Int
 segs:List Sg
def chainOk (nx:Int):Int→Int→List Sg→Bool
 | _,_,[]=>false
 | first,num,g::r=>
  decide (g.first=first)&&decide (num<g.num)&&decide (g.num<nx)&&
   (if r.isEmpty then decide (g.count=0)&&decide (g.foot=0)&&decide (first≤1099511627777)
    else decide (1≤g.count)&&decide (g.count≤512)&&decide (1≤g.foot)&&decide (g.foot≤1099511627776)&&chainOk nx (first+g.count) g.num r)
def manOk (m:Man):Bool:=
 decide (1≤m.gen)&&decide (m.gen≤1099511627776)&&decide (2≤m.next)&&decide (m.next≤1000000)&&decide (0≤m.snapSeq)&&decide (m.snapSeq≤1099511627776)&&
  decide (0≤m.floor)&&decide (m.floor≤m.snapSeq)&&decide (0≤m.snap)&&decide (m.snap<m.next)&&(decide (m.snap=0)==decide (m.snapSeq=0))&&decide (m.segs.length≤256)&&chainOk m.next (m.floor+1) 0 m.segs
theorem chain_mem (nx:Int): ∀ (l:List Sg) (first num:Int),chainOk nx first num l=true→0≤num→1≤first→ ∀ g∈l,1≤g.num∧g.num<nx∧1≤g.first∧g.first≤first+512*l.length∧0≤g.count∧g.count≤512∧0≤g.foot∧g.foot≤1099511627776
 | [],_,_,h,_,_=>by simp [chainOk] at h
 | g::r,first,num,h,h0,h1=>by
  simp only [chainOk,Bool.and_eq_true,decide_eq_true_eq] at h
  obtain⟨⟨⟨a1,a2⟩,a3⟩,a4⟩:=h
  intro x hx
  by_cases hr:r=[]
  ·subst hr
   simp only [List.isEmpty_nil,if_true,Bool.and_eq_true,decide_eq_true_eq] at a4
   rcases List.mem_cons.1 hx with rfl | hx
   ·simp only [List.length_cons,List.length_nil];omega
   ·cases hx
  ·rw [if_neg (by cases r<;>simp_all)] at a4
   simp only [Bool.and_eq_true,decide_eq_true_eq] at a4
   obtain⟨⟨⟨⟨b1,b2⟩,b3⟩,b4⟩,b5⟩:=a4
   rcases List.mem_cons.1 hx with rfl | hx
   ·simp only [List.length_cons];omega
   ·have:=chain_mem nx r (first+g.count) g.num b5 (by omega) (by omega) x hx
    simp only [List.length_cons]
    omega
theorem chain_last (nx:Int): ∀ (l:List Sg) (first num:Int),chainOk nx first num l=true→ ∃ g,l.getLast? =some g∧g.count=0∧g.foot=0∧g.first≤1099511627777∧g∈l
 | [],_,_,h=>by simp [chainOk] at h
 | g::r,first,num,h=>by
  simp only [chainOk,Bool.and_eq_true,decide_eq_true_eq] at h
  obtain⟨⟨⟨a1,a2⟩,a3⟩,a4⟩:=h
  by_cases hr:r=[]
  ·subst hr
   simp only [List.isEmpty_nil,if_true,Bool.and_eq_true,decide_eq_true_eq] at a4
   exact⟨g,rfl,a4.1.1,a4.1.2,by omega,by simp⟩
  ·rw [if_neg (by cases r<;>simp_all)] at a4
   simp only [Bool.and_eq_true,decide_eq_true_eq] at a4
   obtain⟨x,h1,h2,h3,h4,h5⟩:=chain_last nx r _ _ a4.2
   exact⟨x,by rw [List.getLast?_cons,h1];rfl,h2,h3,h4,by simp [h5]⟩
def sgNums (g:Sg):List Nat:=[g.num.toNat,g.first.toNat,g.count.toNat,g.foot.toNat]
def manNums (m:Man):List Nat:=[m.next.toNat,m.floor.toNat,m.snap.toNat,m.snapSeq.toNat]++m.segs.flatMap sgNums
def encMan (m:Man):List UInt8×Int:=if manOk m then frameEnc 4 m.gen (encAll (manNums m)) else ([],80)
theorem sgNums_length: ∀ l:List Sg,(l.flatMap sgNums).length=4*l.length
 | []=>rfl
 | g::l=>by simp only [List.flatMap_cons,List.length_append,sgNums_length l,List.length_cons,sgNums,List.length_nil];omega
theorem manNums_length (m:Man):(manNums m).length=4+4*m.segs.length:=by
 rw [manNums,List.length_append,sgNums_length];simp
structure ManFine (m:Man):Prop where
 gen:1≤m.gen∧m.gen≤1099511627776
 next:2≤m.next∧m.next≤1000000
 snapSeq:0≤m.snapSeq∧m.snapSeq≤1099511627776
 floor:0≤m.floor∧m.floor≤m.snapSeq
 snap:0≤m.snap∧m.snap<m.next
 len:m.segs.length≤256
 chain:chainOk m.next (m.floor+1) 0 m.segs=true
 seg: ∀ g∈m.segs,1≤g.num∧g.num<m.next∧1≤g.first∧g.first≤1099511758849∧0≤g.count∧g.count≤512∧0≤g.foot∧g.foot≤1099511627776
theorem manFine {m:Man} (h:manOk m=true):ManFine m:=by
 simp only [manOk,Bool.and_eq_true,decide_eq_true_eq] at h
 obtain⟨⟨⟨⟨⟨⟨⟨⟨⟨⟨⟨⟨a,b⟩,c⟩,d⟩,e⟩,f⟩,g⟩,i⟩,j⟩,k⟩,l⟩,n⟩,o⟩:=h
 refine⟨⟨a,b⟩,⟨c,d⟩,⟨e,f⟩,⟨g,i⟩,⟨j,k⟩,n,o,fun x hx=> ?_⟩
 have:=chain_mem m.next m.segs (m.floor+1) 0 o (by omega) (by omega) x hx
 omega
theorem manNums_lt {m:Man} (h:ManFine m): ∀ u∈manNums m,u<2199023255552:=by
 intro u hu
 simp only [manNums,List.mem_append,List.mem_cons,List.not_mem_nil,or_false,List.mem_flatMap,sgNums] at hu
 have h1:=h.next
 have h2:=h.snapSeq
 have h3:=h.floor
 have h4:=h.snap
 rcases hu with(rfl | rfl | rfl | rfl) | ⟨g,hg,hu⟩
 ·omega
 ·omega
 ·omega
 ·omega
 ·have h5:=h.seg g hg
  rcases hu with rfl | rfl | rfl | rfl<;>omega
theorem manBody_len {m:Man} (h:ManFine m):(encAll (manNums m)).length≤10290:=by
 have h1:=h.len
 have h2:=manNums_length m
 have:=encAll_len (manNums m) (fun u hu=>Nat.lt_trans (manNums_lt h u hu) (by decide)) (by omega)
 omega
theorem encMan_ok {m:Man} (h:manOk m=true):encMan m=(frameOf 4 m.gen.toNat (encAll (manNums m)),0):=by
 have hf:=manFine h
 have h1:=hf.gen
 have h2:=manBody_len hf
 rw [encMan,if_pos h,frameEnc,if_neg (by simp;omega),if_neg (by simp;omega)]
 rfl
theorem hdrEnc_ok {num first:Int} (h1:1≤num) (h2:num≤999999) (h3:1≤first) (h4:first≤1099511627777):hdrEnc num first=(frameOf 2 num.toNat (encV num.toNat++encV first.toNat),0):=by
 have a:=encV_64 (show num.toNat<18446744073709551616 by omega)
 have b:=encV_64 (show first.toNat<18446744073709551616 by omega)
 rw [hdrEnc,if_neg (by simp;omega),frameEnc,if_neg (by simp;omega),if_neg (by simp;omega)]
 rfl
end Go.Proofs.YtcglcphhfmkccaaGreatDoor
namespace Go.Proofs.YtcglcphhfmkccaaGreatDoor
open Go.RowKit
def nibs:List Int:=crcTable.map fun c=>(c.toNat:Int)
def NibTab (w:World):Prop:=Lib.TabIs Tryz.prog w "daybook/crc.nibbles" .u32 nibs
theorem NibTab.below {w w':World} (h:NibTab w) (hb:Below w.heap.size w w'):NibTab w':=Joins.tab_stays (g:=0) (by kernel_rfl) h hb (Nat.le_refl _)
theorem NibTab.at {w:World} (h:NibTab w) (k:Nat) (hk:k<16):w.cell? ⟨0,k,none⟩=some (.int .u32 ((crcTable.getD k 0).toNat:Int)):=by
 have:=Lib.TabIs.cell (g:=0) h (by kernel_rfl) k (by simp [nibs,crcTable];omega)
 rw [this]
 congr 2
 simp only [nibs,List.getD_eq_getElem?_getD,List.getElem?_map]
 rw [List.getElem?_eq_getElem (show k<crcTable.length by simp [crcTable];omega)]
 rfl
theorem xorNat (a b:BitVec 32):bits .xor .u32 (a.toNat:Int) (b.toNat:Int)=((a^^^b).toNat:Int):=by
 rw [u32_xor_nat _ _ a.isLt b.isLt,BitVec.toNat_xor]
theorem byteNat (x:UInt8):(x.toNat:Int)=((BitVec.ofNat 32 x.toNat).toNat:Int):=by
 have h:x.toNat<256:=x.toNat_lt
 rw [BitVec.toNat_ofNat,Nat.mod_eq_of_lt (by omega)]
theorem and15 (a:BitVec 32):bits .and .u32 (a.toNat:Int) 15=((a.toNat % 16:Nat):Int):=by
 rw [show (15:Int)=((15:Nat):Int) from rfl,u32_and_nat _ _ a.isLt (by decide)]
 congr 1
 exact Nat.and_two_pow_sub_one_eq_mod a.toNat 4
theorem shr4 (a:BitVec 32):(a.toNat:Int) / (16:Int)=((a >>> 4).toNat:Int):=by
 rw [BitVec.toNat_ushiftRight,Nat.shiftRight_eq_div_pow]
 norm_cast
set_option maxHeartbeats 1000000 in
theorem crcStep_any (c:BitVec 32) (x:UInt8) (w:World) (ht:NibTab w):
  Calls Tryz.prog 127 #[.int .u32 (c.toNat:Int),.int .u8 (x.toNat:Int)] w fun e w'=>e= .returned (.int .u32 ((crcTake c x).toNat:Int))∧w=w':=by
 obtain⟨c1,hc1⟩: ∃ c1,c1=c^^^BitVec.ofNat 32 x.toNat:=⟨_,rfl⟩
 have e1:bits .xor .u32 (c.toNat:Int) ((x.toNat:Int) % 4294967296)=(c1.toNat:Int):=by
  have h:x.toNat<256:=x.toNat_lt
  rw [Int.emod_eq_of_lt (by omega) (by omega),byteNat,xorNat,hc1]
 have a1:=and15 c1
 have k1:=ht.at (c1.toNat % 16) (Nat.mod_lt _ (by decide))
 obtain⟨c2,hc2⟩: ∃ c2,c2=crcNib c1:=⟨_,rfl⟩
 have e2:bits .xor .u32 ((c1.toNat:Int) / (16:Int)) ((crcTable.getD (c1.toNat % 16) 0).toNat:Int)=(c2.toNat:Int):=by rw [shr4,xorNat,hc2,crcNib]
 have a2:=and15 c2
 have k2:=ht.at (c2.toNat % 16) (Nat.mod_lt _ (by decide))
 have e3:bits .xor .u32 ((c2.toNat:Int) / (16:Int)) ((crcTable.getD (c2.toNat % 16) 0).toNat:Int)=((crcTake c x).toNat:Int):=by rw [shr4,xorNat,←crcNib,hc2,hc1,←crcStep_take,crcStep]
 have b1:((c1.toNat % 16:Nat):Int)<16:=by omega
 have b2:((c2.toNat % 16:Nat):Int)<16:=by omega
 clear hc1 hc2 ht
 generalize (crcTable.getD (c1.toNat % 16) 0)=t1 at*
 generalize (crcTable.getD (c2.toNat % 16) 0)=t2 at*
 generalize c1.toNat % 16=n1 at*
 generalize c2.toNat % 16=n2 at*
 generalize crcTake c x=c3 at*
 go_enter Tryz.func127,Tryz.ntmps127
 go_wp2
 go_ret
 exact⟨rfl,rfl⟩
theorem crcReg_take (c:BitVec 32) (l:List UInt8) (k:Nat) (x:UInt8) (h:l[k]? =some x):crcReg c (l.take (k+1))=crcTake (crcReg c (l.take k)) x:=by
 obtain⟨h1,h2⟩:=List.getElem?_eq_some_iff.1 h
 rw [List.take_succ_eq_append_getElem h1,h2,crcReg_snoc]
theorem not32 (c:BitVec 32):bits .xor .u32 IntKind.u32.max (c.toNat:Int)=((~~~c).toNat:Int):=by
 have h:=xorNat (BitVec.allOnes 32) c
 rw [BitVec.allOnes_xor] at h
 exact h
set_option maxHeartbeats 1000000 in
theorem crcUpdate_any (s:BitVec 32) (l:List UInt8) (v:Value) (w:World) (hv:BRow w v l) (ht:NibTab w) (hl:l.length≤9223372036854775807):
  Calls Tryz.prog 118 #[.int .u32 (s.toNat:Int),v] w fun e w'=>e= .returned (.int .u32 ((crcUpdate s l).toNat:Int))∧Below w.heap.size w w':=by
 obtain⟨oa,cap,rfl,hlc,hc⟩:=hv
 have HC:=Lib.hid (show ∀ (i:Nat) x,l[i]? =some x→ ∃ b off,oa=some ⟨b,off,none⟩∧w.cell? ⟨b,off+i,none⟩=some (.int .u8 (x.toNat:Int)) from fun i x hx=>by
  obtain⟨b,off,h1,h2⟩:=hc (by rintro rfl;simp at hx)
  exact⟨b,off,h1,h2 i x hx⟩)
 obtain⟨s0,hs0⟩: ∃ s0,s0= ~~~s:=⟨_,rfl⟩
 have n1:bits .xor .u32 IntKind.u32.max (s.toNat:Int)=(s0.toNat:Int):=by rw [not32,hs0]
 have HS0:=Lib.hid hs0
 have HT:=Lib.hid ht
 clear hc ht hs0
 go_enter Tryz.func118,Tryz.ntmps118
 go_wp2
 go_loopw [5,12] (fun cv iv wr=> ∃ k:Nat,k≤l.length∧iv= .int .i64 k∧cv= .int .u32 ((crcReg s0 (l.take k)).toNat:Int)∧Below w.heap.size w wr) (fun _ iv _=>l.length - (intOf iv).toNat)
 case atStart=>exact⟨0,Nat.zero_le _,rfl,rfl,Below.refl _ _⟩
 case round=>
  obtain⟨k,hk,rfl,rfl,hb⟩:=hrel
  have HB:=Lib.hid hb
  clear hb
  by_cases hlt:k<l.length
  ·obtain⟨x,hx,_,_⟩:=nth l k hlt
   obtain⟨b,off,rfl,hcell⟩:=HC.out k x hx
   have q1:(k:Int)<(l.length:Int):=by omega
   have c1:=cell_later HB.out hcell
   have HS:=Lib.hid (crcStep_any (crcReg s0 (l.take k)) x wr (HT.out.below HB.out))
   have HX:=Lib.hid (crcReg_take s0 l k x hx)
   clear hx hcell n1
   generalize crcReg s0 (l.take k)=r0 at*
   go_wp2_with fail
   go_at_call 127
   refine HS.out.mono ?_
   rintro e w1 ⟨rfl,rfl⟩
   go_wp2
   go_roundw
   case rel=>exact⟨k+1,by omega,by go_num,by rw [HX.out],HB.out⟩
   case measure=>simp [intOf];omega
  ·obtain rfl:k=l.length:=by omega
   obtain⟨r1,hr1⟩: ∃ r1,r1=crcUpdate s l:=⟨_,rfl⟩
   have n2:bits .xor .u32 IntKind.u32.max ((crcReg s0 (l.take l.length)).toNat:Int)=(r1.toNat:Int):=by rw [not32,List.take_length,HS0.out,hr1];rfl
   have HR:=Lib.hid hr1
   clear n1 hr1
   generalize crcReg s0 (l.take l.length)=r0 at*
   go_wp2
   go_ret
   exact⟨by rw [←HR.out];rfl,HB.out⟩
theorem crcSum_any (l:List UInt8) (v:Value) (w:World) (hv:BRow w v l) (ht:NibTab w) (hl:l.length≤9223372036854775807):
  Calls Tryz.prog 89 #[v] w fun e w'=>e= .returned (.int .u32 ((crcSum l).toNat:Int))∧Below w.heap.size w w':=by
 have HU:=Lib.hid (crcUpdate_any 0 l v w hv ht hl)
 obtain⟨oa,cap,rfl,hlc,hc⟩:=hv
 clear hc
 go_enter Tryz.func89,Tryz.ntmps89
 go_wp2_with fail
 go_at_call 118
 refine HU.out.mono ?_
 rintro e w1 ⟨rfl,hb⟩
 go_wp2
 go_ret
 exact⟨rfl,hb⟩
theorem fourCells (s:BitVec 32):Lib.byteCells (fourOf s)=[.int .u8 ((s.toNat:Int) % 256),.int .u8 ((s.toNat:Int) / 256 % 256),.int .u8 ((s.toNat:Int) / 65536 % 256),.int .u8 ((s.toNat:Int) / 16777216)]:=by
 have:=s.isLt
 have g: ∀ x:Nat,x<256→(((UInt8.ofNat x).toNat:Nat):Int)=(x:Int):=fun x hx=>by rw [UInt8.toNat_ofNat',Nat.mod_eq_of_lt (by omega)]
 simp only [Lib.byteCells,fourOf,List.map_cons,List.map_nil]
 rw [g _ (by omega),g _ (by omega),g _ (by omega),g _ (by omega)]
 have e1:((s.toNat % 256:Nat):Int)=(s.toNat:Int) % 256:=by omega
 have e2:((s.toNat / 256 % 256:Nat):Int)=(s.toNat:Int) / 256 % 256:=by omega
 have e3:((s.toNat / 65536 % 256:Nat):Int)=(s.toNat:Int) / 65536 % 256:=by omega
 have e4:((s.toNat / 16777216:Nat):Int)=(s.toNat:Int) / 16777216:=by omega
 rw [e1,e2,e3,e4]
theorem own_lit (w:World) (l:List UInt8) (hl:l.length≤maxLen):(w.alloc (.cells (Lib.byteCells l).toArray 5)).ownsRow w.heap.size 5 1 (.slice (some ⟨w.heap.size,0,none⟩) l.length l.length) l.length (Lib.byteCells l):=by
 have:=World.ownsRow_lit (base:=w.heap.size) (e:=5) (size:=1) w (Lib.byteCells l).toArray l.length (Nat.le_refl _) hl (by simp [Lib.byteCells])
 simpa using this
set_option maxRecDepth 100000 in
theorem crcFour_any (s:BitVec 32) (w:World):
  Calls Tryz.prog 88 #[.int .u32 (s.toNat:Int)] w fun e w'=> ∃ v,e= .returned v∧w'.ownsRow w.heap.size 5 1 v 4 (Lib.byteCells (fourOf s))∧Below w.heap.size w w':=by
 have HO:=Lib.hid (own_lit w (fourOf s) (show 4≤maxLen by decide))
 have HC:=Lib.hid (fourCells s)
 have hs:=s.isLt
 go_enter Tryz.func88,Tryz.ntmps88
 go_wp2
 go_ret
 refine⟨_,rfl,?_,below_alloc _ _⟩
 have h:=HO.out
 rw [HC.out] at h ⊢
 exact h
end Go.Proofs.YtcglcphhfmkccaaGreatDoor
namespace Go.Proofs.YtcglcphhfmkccaaGreatDoor
open Go.RowKit
theorem low7 (n:Nat):(((UInt8.ofNat (128+n % 128)).toNat:Nat):Int)=(n:Int) % 128+128:=by
 rw [UInt8.toNat_ofNat',Nat.mod_eq_of_lt (by omega)];omega
set_option maxRecDepth 100000 in
theorem or128_all: ∀ a:Fin 256,a.val ||| 128=a.val % 128+128:=by decide
theorem or128 (a:Nat) (h:a<256):bits .or .u8 (a:Int) 128=((a % 128+128:Nat):Int):=by
 rw [show (128:Int)=((128:Nat):Int) from rfl,u8_or_nat a 128 h (by decide)]
 exact congrArg _ (or128_all ⟨a,h⟩)
theorem byte7 {n:Nat} (h:n<128):(((UInt8.ofNat n).toNat:Nat):Int)=(n:Int):=by rw [UInt8.toNat_ofNat',Nat.mod_eq_of_lt (by omega)]
theorem make10 (w:World):(Instr.makeSlice 45 (.int .i64 0) (.int .i64 10)).run Tryz.prog w= .ok (.slice (some ⟨w.heap.size,0,none⟩) 0 10) (w.alloc (.cells #[.int .u8 0,.int .u8 0,.int .u8 0,.int .u8 0,.int .u8 0,.int .u8 0,.int .u8 0,.int .u8 0,.int .u8 0,.int .u8 0] 5)):=by kernel_rfl
theorem own10 (w:World):OwnB (w.alloc (.cells #[.int .u8 0,.int .u8 0,.int .u8 0,.int .u8 0,.int .u8 0,.int .u8 0,.int .u8 0,.int .u8 0,.int .u8 0,.int .u8 0] 5)) w.heap.size (.slice (some ⟨w.heap.size,0,none⟩) 0 10) []:=
 ⟨rfl,.inr ⟨w.heap.size,10,_,rfl,Nat.le_refl _,heap_alloc_new w _,by simp,by decide,rfl,by simp [Lib.byteCells]⟩⟩
set_option maxHeartbeats 1000000 in
theorem encode_any (n:Nat) (w:World) (hn:n<18446744073709551616):
  Calls Tryz.prog 90 #[.int .u64 (n:Int)] w fun e w'=> ∃ v,e= .returned v∧OwnB w' w.heap.size v (encV n)∧Below w.heap.size w w':=by
 have hmk:=make10 w
 have HO:=Lib.hid (own10 w)
 go_enter Tryz.func90,Tryz.ntmps90
 go_wp2
 go_loopw [0,3] (fun uv bv wr=> ∃ (m:Nat) (bs:List UInt8),uv= .int .u64 (m:Int)∧m<18446744073709551616∧OwnB wr w.heap.size bv bs∧Hid (bs++encV m=encV n)∧Below w.heap.size w wr) (fun uv _ _=>(intOf uv).toNat)
 case atStart=>exact⟨n,[],rfl,hn,HO.out,Lib.hid rfl,below_alloc _ _⟩
 case round=>
  clear hmk HO
  obtain⟨m,bs,rfl,hm,hown,HE,hb⟩:=hrel
  have HO:=Lib.hid hown
  have HB:=Lib.hid hb
  have hsz:=hb.size
  have hlen:bs.length≤10:=by
   have:=encV_64 hn
   rw [←HE.out,List.length_append] at this
   omega
  clear hown hb
  by_cases hlt:m<128
  ·have t1:decide ((128:Int)≤(m:Int))=false:=by simp;omega
   have HL:=Lib.hid (encV_low hlt)
   have HC:=Lib.hid (byte7 hlt)
   go_wp2_with (at_builtin;refine wpList_app1 rfl _ _ rfl (UInt8.ofNat m) rfl rfl HO.out hsz ?c1 ?c2 ?_)
   case c1=>exact HC.out.symm
   case c2=>omega
   intro v' w' h1 h2 _
   have HF:=Lib.hid h1
   have HG:=Lib.hid (HB.out.trans h2)
   clear h1 h2
   go_wp2
   go_ret
   exact⟨v',rfl,by have:=HF.out;rwa [←HL.out,HE.out] at this,HG.out⟩
  ·have t1:decide ((128:Int)≤(m:Int))=true:=by simp;omega
   have HL:=Lib.hid (encV_high hlt)
   obtain⟨c,hc⟩: ∃ c,c=UInt8.ofNat (128+m % 128):=⟨_,rfl⟩
   have HC:=Lib.hid (show bits .or .u8 ((m:Int) % 256) 128=(c.toNat:Int) by
    rw [hc,low7,show (m:Int) % 256=((m % 256:Nat):Int) by omega,or128 _ (Nat.mod_lt _ (by decide))];omega)
   have HX:=Lib.hid hc
   clear hc
   go_wp2_with (at_builtin;refine wpList_app1 rfl _ _ rfl c rfl rfl HO.out hsz ?c1 ?c2 ?_)
   case c1=>exact HC.out
   case c2=>omega
   intro v' w' h1 h2 h3
   have HF:=Lib.hid h1
   have HG:=Lib.hid (HB.out.trans h2)
   clear h1 h2
   go_wp2
   go_roundw
   case rel=>exact⟨m / 128,bs++[c],by go_num,by omega,HF.out,Lib.hid (by rw [List.append_assoc,List.singleton_append,HX.out,←HL.out,HE.out]),HG.out⟩
   case measure=>simp [intOf];omega
def URow (w:World) (v:Value) (us:List Nat):Prop:=
 ∃ oa cap,v= .slice oa us.length cap∧us.length≤cap∧ ∀ (i:Nat) u,us[i]? =some u→ ∃ b off,oa=some ⟨b,off,none⟩∧w.cell? ⟨b,off+i,none⟩=some (.int .u64 (u:Int))
theorem URow.below {w w':World} {v:Value} {us:List Nat} (h:URow w v us) (hb:Below w.heap.size w w'):URow w' v us:=by
 obtain⟨oa,cap,h1,h2,h3⟩:=h
 exact⟨oa,cap,h1,h2,fun i u hu=>by obtain⟨b,off,e,hc⟩:=h3 i u hu;exact⟨b,off,e,cell_later hb hc⟩⟩
def encPart (us:List Nat) (k:Nat):List UInt8:=encV us.length++(us.take k).flatMap encV
theorem encPart_zero (us:List Nat):encPart us 0=encV us.length:=by simp [encPart]
theorem encPart_succ {us:List Nat} {k u:Nat} (h:us[k]? =some u):encPart us (k+1)=encPart us k++encV u:=by
 obtain⟨h1,h2⟩:=List.getElem?_eq_some_iff.1 h
 unfold encPart
 rw [List.take_succ_eq_append_getElem h1,h2,encs_snoc,List.append_assoc]
theorem encPart_all (us:List Nat):encPart us us.length=encAll us:=by simp [encPart,encAll]
theorem encPart_len (us:List Nat) (k:Nat) (hk:k≤us.length) (hu: ∀ u∈us,u<18446744073709551616) (hl:us.length≤1000000000000):(encPart us k).length≤10*us.length+10:=by
 have h1:=encV_64 (show us.length<18446744073709551616 by omega)
 have h2:=encs_len (us.take k) fun x hx=>hu x (List.mem_of_mem_take hx)
 rw [List.length_take] at h2
 unfold encPart
 rw [List.length_append]
 omega
set_option maxHeartbeats 1000000 in
theorem encodeAll_any (us:List Nat) (v:Value) (w:World) (hv:URow w v us) (hu: ∀ u∈us,u<18446744073709551616) (hl:us.length≤1000000000000):
  Calls Tryz.prog 91 #[v] w fun e w'=> ∃ v',e= .returned v'∧OwnB w' w.heap.size v' (encAll us)∧Below w.heap.size w w':=by
 obtain⟨oa,cap,rfl,hlc,hc⟩:=hv
 have HC:=Lib.hid hc
 have HU:=Lib.hid hu
 have HE0:=Lib.hid (encode_any us.length w (by omega))
 clear hc hu
 go_enter Tryz.func91,Tryz.ntmps91
 go_wp2_with fail
 go_at_call 90
 refine HE0.out.mono ?_
 rintro e w0 ⟨v0,rfl,ho0,hb0⟩
 have HO0:=Lib.hid ho0
 have HB0:=Lib.hid hb0
 clear ho0 hb0 HE0
 go_wp2
 go_loopw [3,12] (fun bv iv wr=> ∃ k:Nat,k≤us.length∧iv= .int .i64 k∧OwnB wr w.heap.size bv (encPart us k)∧Below w.heap.size w wr) (fun _ iv _=>us.length - (intOf iv).toNat)
 case atStart=>exact⟨0,Nat.zero_le _,rfl,by rw [encPart_zero];exact HO0.out,HB0.out⟩
 case round=>
  clear HO0 HB0
  obtain⟨k,hk,rfl,hown,hb⟩:=hrel
  have HO:=Lib.hid hown
  have HB:=Lib.hid hb
  clear hown hb
  by_cases hlt:k<us.length
  ·obtain⟨u,hx,_,hm⟩:=nth us k hlt
   obtain⟨b,off,rfl,hcell⟩:=HC.out k u hx
   have q1:(k:Int)<(us.length:Int):=by omega
   have c1:=cell_later HB.out hcell
   have HS:=Lib.hid (encode_any u wr (HU.out u hm))
   have HX:=Lib.hid (encPart_succ hx)
   have HL:=Lib.hid (encPart_len us (k+1) (by omega) HU.out hl)
   clear hx hcell hm
   go_wp2_with fail
   go_at_call 90
   refine HS.out.mono ?_
   rintro e w1 ⟨v1,rfl,h1,h2⟩
   have H1:=Lib.hid h1
   have HB1:=Lib.hid (Below.next HB.out h2)
   have HO1:=Lib.hid (HO.out.later h2)
   clear h1 h2 HS HO
   obtain⟨p,hp⟩: ∃ p,p=encPart us k:=⟨_,rfl⟩
   obtain⟨q,hq⟩: ∃ q,q=encV u:=⟨_,rfl⟩
   have HPQ:=Lib.hid (show encPart us (k+1)=p++q by rw [HX.out,hp,hq])
   rw [←hp] at HO1
   rw [←hq] at H1
   have hlen:p.length+q.length≤140737488355328:=by have:=HL.out;rw [HPQ.out,List.length_append] at this;omega
   clear HX hp hq
   go_wp2_with (at_builtin;refine wpList_appB rfl _ _ rfl rfl rfl HO1.out ?c1 H1.out.brow hlen ?_)
   case c1=>exact HB1.out.size
   intro v' w' h1 h2
   have HF:=Lib.hid h1
   have HG:=Lib.hid (HB1.out.trans h2)
   clear h1 h2
   go_wp2
   go_roundw
   case rel=>exact⟨k+1,by omega,by go_num,by rw [HPQ.out];exact HF.out,HG.out⟩
   case measure=>simp [intOf];omega
  ·obtain rfl:k=us.length:=by omega
   have HA:=Lib.hid (encPart_all us)
   go_wp2
   go_ret
   exact⟨_,rfl,by rw [←HA.out];exact HO.out,HB.out⟩
end Go.Proofs.YtcglcphhfmkccaaGreatDoor
namespace Go.Proofs.YtcglcphhfmkccaaGreatDoor
open Go.RowKit
@[reducible] def frV (k s : Int) (bv : Value) : Value := .agg #[.int .i64 k, .int .i64 s, bv]
def frCs (k s:Int) (bv:Value):Array Value:= #[.int .i64 k,.int .i64 s,bv]
theorem le8_byte (n k:Nat):(((UInt8.ofNat (n / 256^k % 256)).toNat:Nat):Int)=((n / 256^k % 256:Nat):Int):=by
 rw [UInt8.toNat_ofNat',Nat.mod_eq_of_lt (Nat.mod_lt _ (by decide))]
def headPart (kind len seq k:Nat):List UInt8:=[165,UInt8.ofNat kind,UInt8.ofNat (len % 256),UInt8.ofNat (len / 256)]++le8 seq k
theorem headPart_succ (kind len seq k:Nat):headPart kind len seq (k+1)=headPart kind len seq k++[UInt8.ofNat (seq / 256^k % 256)]:=by
 unfold headPart
 rw [le8_succ,List.append_assoc]
theorem headPart_length (kind len seq k:Nat):(headPart kind len seq k).length=4+k:=by simp [headPart,le8_length];omega
theorem headCells {kind len:Nat} (h1:kind≤7) (h2:len≤16384):Lib.byteCells [165,UInt8.ofNat kind,UInt8.ofNat (len % 256),UInt8.ofNat (len / 256)]=[.int .u8 165,.int .u8 (kind:Int),.int .u8 ((len:Int) % 256),.int .u8 ((len:Int) / 256)]:=by
 have g: ∀ x:Nat,x<256→(((UInt8.ofNat x).toNat:Nat):Int)=(x:Int):=fun x hx=>by rw [UInt8.toNat_ofNat',Nat.mod_eq_of_lt (by omega)]
 simp only [Lib.byteCells,List.map_cons,List.map_nil]
 rw [g _ (by omega),g _ (by omega),g _ (by omega)]
 have e2:((len % 256:Nat):Int)=(len:Int) % 256:=by omega
 have e3:((len / 256:Nat):Int)=(len:Int) / 256:=by omega
 rw [e2,e3]
 rfl
def FrBlk (w:World) (g:Nat) (k s:Int) (bv:Value):Prop:=w.heap[g]? =some (.cells (frCs k s bv) 105 (0,0))
theorem FrBlk.below {w w':World} {g:Nat} {k s:Int} {bv:Value} (h:FrBlk w g k s bv) (hb:Below w.heap.size w w'):FrBlk w' g k s bv:=by
 unfold FrBlk at*
 rw [hb.block g (Array.getElem?_eq_some_iff.1 h).1];exact h
theorem FrBlk.keep {w w':World} {g B:Nat} {k s:Int} {bv:Value} (h:FrBlk w g k s bv) (hb:Below B w w') (hB:g<B):FrBlk w' g k s bv:=by
 unfold FrBlk at*
 rw [hb.block g hB];exact h
theorem FrBlk.c0 {w:World} {g:Nat} {k s:Int} {bv:Value} (h:FrBlk w g k s bv):w.cell? ⟨g,0,none⟩=some (.int .i64 k):=by unfold FrBlk at h;simp [World.cell?,h,frCs]
theorem FrBlk.c1 {w:World} {g:Nat} {k s:Int} {bv:Value} (h:FrBlk w g k s bv):w.cell? ⟨g,1,none⟩=some (.int .i64 s):=by unfold FrBlk at h;simp [World.cell?,h,frCs]
theorem FrBlk.c2 {w:World} {g:Nat} {k s:Int} {bv:Value} (h:FrBlk w g k s bv):w.cell? ⟨g,2,none⟩=some bv:=by unfold FrBlk at h;simp [World.cell?,h,frCs]
theorem frBlk_alloc (w:World) (k s:Int) (bv:Value):FrBlk (w.alloc (.cells (frCs k s bv) 105)) w.heap.size k s bv:=heap_alloc_new w _
theorem frameEnc_bad {k s:Int} {body:List UInt8} (h:k<1∨7<k∨s<0∨1099511627776<s):frameEnc k s body=([],63):=by
 unfold frameEnc
 rw [if_pos (by simp;omega)]
theorem frameEnc_big {k s:Int} {body:List UInt8} (h: ¬ (k<1∨7<k∨s<0∨1099511627776<s)) (hb:16384<body.length):frameEnc k s body=([],24):=by
 unfold frameEnc
 rw [if_neg (by simp;omega),if_pos (by simpa using hb)]
theorem frameEnc_ok {k s:Int} {body:List UInt8} (h: ¬ (k<1∨7<k∨s<0∨1099511627776<s)) (hb: ¬ 16384<body.length):frameEnc k s body=(frameOf k.toNat s.toNat body,0):=by
 unfold frameEnc
 rw [if_neg (by simp;omega),if_neg (by simpa using hb)]
def FramePost (w:World) (r:List UInt8×Int) (e:Ending) (w':World):Prop:= ∃ v,e= .returned (.tuple #[v,.int .i64 r.2])∧OwnB w' w.heap.size v r.1∧Below w.heap.size w w'
set_option maxRecDepth 100000 in
theorem frame_bad (k s:Int) (body:List UInt8) (oa:Option Addr) (cap:Nat) (w:World) (h:(k<1∨7<k∨s<0∨1099511627776<s)∨16384<body.length):
  Calls Tryz.prog 54 #[frV k s (.slice oa body.length cap)] w (FramePost w (frameEnc k s body)):=by
 by_cases h1:k<1
 ·have HE:=Lib.hid (frameEnc_bad (body:=body) (.inl h1) (s:=s))
  have t1:decide (k≤0)=true:=by simp;omega
  clear h h1
  go_enter Tryz.func54,Tryz.ntmps54
  go_wp2
  go_ret2
  unfold FramePost;rw [HE.out]
  exact⟨_,rfl,OwnB.nil _ _,below_alloc _ _⟩
 have t1:decide (k≤0)=false:=by simp;omega
 by_cases h2:7<k
 ·have HE:=Lib.hid (frameEnc_bad (body:=body) (.inr (.inl h2)) (s:=s))
  have t2:decide (7<k)=true:=by simpa using h2
  clear h h1 h2
  go_enter Tryz.func54,Tryz.ntmps54
  go_wp2
  go_ret2
  unfold FramePost;rw [HE.out]
  exact⟨_,rfl,OwnB.nil _ _,below_alloc _ _⟩
 have t2:decide (7<k)=false:=by simpa using h2
 by_cases h3:s<0
 ·have HE:=Lib.hid (frameEnc_bad (body:=body) (.inr (.inr (.inl h3))) (k:=k))
  have t3:decide (s<0)=true:=by simpa using h3
  clear h h1 h2 h3
  go_enter Tryz.func54,Tryz.ntmps54
  go_wp2
  go_ret2
  unfold FramePost;rw [HE.out]
  exact⟨_,rfl,OwnB.nil _ _,below_alloc _ _⟩
 have t3:decide (s<0)=false:=by simpa using h3
 by_cases h4:1099511627776<s
 ·have HE:=Lib.hid (frameEnc_bad (body:=body) (.inr (.inr (.inr h4))) (k:=k))
  have t4:decide (1099511627776<s)=true:=by simpa using h4
  clear h h1 h2 h3 h4
  go_enter Tryz.func54,Tryz.ntmps54
  go_wp2
  go_ret2
  unfold FramePost;rw [HE.out]
  exact⟨_,rfl,OwnB.nil _ _,below_alloc _ _⟩
 have t4:decide (1099511627776<s)=false:=by simpa using h4
 have h5:16384<body.length:=by omega
 have HE:=Lib.hid (frameEnc_big (k:=k) (s:=s) (by omega) h5)
 have t5:decide (16384<(body.length:Int))=true:=by simp;omega
 clear h h1 h2 h3 h4 h5
 go_enter Tryz.func54,Tryz.ntmps54
 go_wp2
 go_ret2
 unfold FramePost;rw [HE.out]
 exact⟨_,rfl,OwnB.nil _ _,below_alloc _ _⟩
set_option maxRecDepth 100000 in
set_option maxHeartbeats 1000000 in
theorem frame_good (k s:Int) (body:List UInt8) (bv:Value) (w:World) (hv:BRow w bv body) (hn:NibTab w) (h: ¬ (k<1∨7<k∨s<0∨1099511627776<s)) (h5: ¬ 16384<body.length):
  Calls Tryz.prog 54 #[frV k s bv] w (FramePost w (frameEnc k s body)):=by
 have HE:=Lib.hid (frameEnc_ok h h5)
 have t1:decide (k≤0)=false:=by simp;omega
 have t2:decide (7<k)=false:=by simp;omega
 have t3:decide (s<0)=false:=by simp;omega
 have t4:decide (1099511627776<s)=false:=by simp;omega
 have t5:decide (16384<(body.length:Int))=false:=by simp;omega
 obtain⟨kn,rfl⟩:=Int.eq_ofNat_of_zero_le (show 0≤k by omega)
 obtain⟨sn,rfl⟩:=Int.eq_ofNat_of_zero_le (show 0≤s by omega)
 have HV:=Lib.hid hv
 have HN:=Lib.hid hn
 obtain⟨oa,cap,rfl,_,hcc⟩:=hv
 clear hcc hn
 have hl:body.length≤16384:=by omega
 have hk:kn≤7:=by omega
 have hs:sn≤1099511627776:=by omega
 have t0: ¬ kn=0:=by omega
 have HB0:=Lib.hid (frBlk_alloc w kn sn (.slice oa body.length cap))
 have HO:=Lib.hid (show ∀ W:World,OwnB (W.alloc (.cells #[.int .u8 165,.int .u8 (kn:Int),.int .u8 ((body.length:Int) % 256),.int .u8 ((body.length:Int) / 256)] 5)) W.heap.size (.slice (some ⟨W.heap.size,0,none⟩) 4 4) (headPart kn body.length sn 0) by
  intro W
  have:=own_lit W (headPart kn body.length sn 0) (by rw [headPart_length];decide)
  rw [headPart_length] at this
  have e:Lib.byteCells (headPart kn body.length sn 0)=[.int .u8 165,.int .u8 (kn:Int),.int .u8 ((body.length:Int) % 256),.int .u8 ((body.length:Int) / 256)]:=by rw [←headCells hk hl];simp [headPart,le8]
  unfold OwnB
  rw [headPart_length]
  rw [e] at this ⊢
  exact this)
 clear h h5
 go_enter Tryz.func54,Tryz.ntmps54
 go_wp2
 go_loopw [5,6,42] (fun bv _ iv wr=> ∃ k:Nat,k≤8∧iv= .int .i64 k∧OwnB wr (w.heap.size+1) bv (headPart kn body.length sn k)∧FrBlk wr w.heap.size kn sn (.slice oa body.length cap)∧Below w.heap.size w wr) (fun _ _ iv _=>8 - (intOf iv).toNat)
 case atStart=>exact⟨0,by omega,rfl,by have:=HO.out (w.alloc (.cells (frCs kn sn (.slice oa body.length cap)) 105));simp at this;exact this,HB0.out.below (below_alloc _ _),Below.next (below_alloc _ _) (below_alloc _ _)⟩
 case round=>
  clear HO HB0
  obtain⟨k,hk8,rfl,hown,hfr,hb⟩:=hrel
  have HO:=Lib.hid hown
  have HB:=Lib.hid hb
  have HF:=Lib.hid hfr
  have hsz:w.heap.size+1≤wr.heap.size:=(Array.getElem?_eq_some_iff.1 hfr).1
  clear hown hb hfr
  by_cases hlt:k<8
  ·have c1:=HF.out.c1
   have HX:=Lib.hid (headPart_succ kn body.length sn k)
   have HL:=Lib.hid (headPart_length kn body.length sn k)
   obtain⟨c,hc⟩: ∃ c,c=UInt8.ofNat (sn / 256^k % 256):=⟨_,rfl⟩
   have HC:=Lib.hid (show ((sn / 256^k % 256:Nat):Int)=(c.toNat:Int) by rw [hc,le8_byte])
   rw [←hc] at HX
   obtain⟨p,hp⟩: ∃ p,p=headPart kn body.length sn k:=⟨_,rfl⟩
   rw [←hp] at HX HL HO
   clear hc hp
   have h8:k=0∨k=1∨k=2∨k=3∨k=4∨k=5∨k=6∨k=7:=by omega
   rcases h8 with rfl | rfl | rfl | rfl | rfl | rfl | rfl | rfl
   all_goals
    go_wp2_with (at_builtin;refine wpList_app1 rfl _ _ rfl c rfl rfl HO.out hsz ?c1 ?c2 ?_)
    case c1=>have:=HC.out;simp only [Nat.reducePow,Nat.pow_zero,Nat.div_one] at this;first | exact this | (rw [←this];omega)
    case c2=>have:=HL.out;omega
    intro v' w' h1 h2 h3
    have HF2:=Lib.hid h1
    have HG:=Lib.hid (HB.out.trans (h2.mono (Nat.le_succ _)))
    have HF3:=Lib.hid (HF.out.keep h2 (Nat.lt_succ_self _))
    clear h1 h2 c1
    go_wp2
    go_roundw
    case rel=>exact⟨_,by decide,rfl,by rw [HX.out];exact HF2.out,HF3.out,HG.out⟩
    case measure=>simp [intOf]
  ·obtain rfl:k=8:=by omega
   have HH:=Lib.hid (show headPart kn body.length sn 8=headOf kn body.length sn from rfl)
   have HL:=Lib.hid (headOf_length kn body.length sn)
   rw [HH.out] at HO
   obtain⟨p,hp⟩: ∃ p,p=headOf kn body.length sn:=⟨_,rfl⟩
   rw [←hp] at HO HL
   have HN1:=Lib.hid (HN.out.below HB.out)
   have HS:=Lib.hid (crcSum_any p _ wr HO.out.brow HN1.out (by have:=HL.out;omega))
   have HPH:=Lib.hid hp
   clear hp HH
   obtain⟨ao,bcap,rfl,_,_⟩:=own_shape HO.out
   go_wp2_with fail
   go_at_call 89
   refine HS.out.mono ?_
   rintro e w1 ⟨rfl,hb1⟩
   have HO1:=Lib.hid (HO.out.later hb1)
   have HB1:=Lib.hid (Below.next HB.out hb1)
   have HF1:=Lib.hid (HF.out.below hb1)
   clear hb1 HS HO
   have HT:=Lib.hid (crcFour_any (crcSum p) w1)
   obtain⟨sm,hsm⟩: ∃ sm,sm=crcSum p:=⟨_,rfl⟩
   rw [←hsm] at HT ⊢
   have HSM:=Lib.hid hsm
   clear hsm
   go_wp2_with fail
   go_at_call 88
   refine HT.out.mono ?_
   rintro e w2 ⟨v2,rfl,h1,hb2⟩
   have HO2:=Lib.hid (HO1.out.later hb2)
   have HB2:=Lib.hid (Below.next HB1.out hb2)
   have HF2:=Lib.hid (HF1.out.below hb2)
   have HQ2:=Lib.hid (brow_own (l:=fourOf sm) h1)
   have hsz2:w.heap.size+1≤w2.heap.size:=(Array.getElem?_eq_some_iff.1 HF2.out).1
   clear hb2 h1 HT HO1 HF1
   obtain⟨q,hq⟩: ∃ q,q=fourOf sm:=⟨_,rfl⟩
   have hlen:p.length+q.length≤140737488355328:=by rw [HL.out,hq,fourOf_length];decide
   have hlq:q.length=4:=by rw [hq,fourOf_length]
   rw [←hq] at HQ2
   have HPQ:=Lib.hid (show p++q=headOf kn body.length sn++fourOf (crcSum (headOf kn body.length sn)) by rw [hq,HSM.out,HPH.out])
   clear hq
   have c2:=HF2.out.c2
   go_wp2_with (at_builtin;refine wpList_appB rfl _ _ rfl rfl rfl HO2.out ?c1 HQ2.out hlen ?_)
   case c1=>exact hsz2
   intro v3 w3 h1 h2
   have HO3:=Lib.hid h1
   have HB3:=Lib.hid (HB2.out.trans (h2.mono (Nat.le_succ _)))
   have HF3:=Lib.hid (HF2.out.keep h2 (Nat.lt_succ_self _))
   have hsz3:=Nat.le_trans hsz2 h2.size
   have HV3:=Lib.hid (HV.out.below HB3.out)
   clear h1 h2 c2 HF2 HO2
   obtain⟨p2,hp2⟩: ∃ p2,p2=p++q:=⟨_,rfl⟩
   have hlen2:p2.length+body.length≤140737488355328:=by rw [hp2,List.length_append,HL.out,hlq];omega
   have hl2:p2.length=16:=by rw [hp2,List.length_append,HL.out,hlq]
   rw [←hp2] at HO3 HPQ
   clear hp2
   have c3:=HF3.out.c2
   go_wp2_with (at_builtin;refine wpList_appB rfl _ _ rfl rfl rfl HO3.out ?c1 HV3.out hlen2 ?_)
   case c1=>exact hsz3
   intro v4 w4 h1 h2
   have HO4:=Lib.hid h1
   have HB4:=Lib.hid (HB3.out.trans (h2.mono (Nat.le_succ _)))
   have HF4:=Lib.hid (HF3.out.keep h2 (Nat.lt_succ_self _))
   have hsz4:=Nat.le_trans hsz3 h2.size
   have HV4:=Lib.hid (HV.out.below HB4.out)
   have HS4:=Lib.hid (crcSum_any body _ w4 HV4.out (HN.out.below HB4.out) (by omega))
   clear h1 h2 c3 HF3 HO3
   have c4:=HF4.out.c2
   go_wp2_with fail
   go_at_call 89
   refine HS4.out.mono ?_
   rintro e w5 ⟨rfl,hb5⟩
   have HO5:=Lib.hid (HO4.out.later hb5)
   have HB5:=Lib.hid (Below.next HB4.out hb5)
   have hsz5:=Nat.le_trans hsz4 hb5.size
   clear hb5 HS4 c4 HO4
   have HT5:=Lib.hid (crcFour_any (crcSum body) w5)
   obtain⟨s5,hs5⟩: ∃ s5,s5=crcSum body:=⟨_,rfl⟩
   rw [←hs5] at HT5 ⊢
   have HS5:=Lib.hid hs5
   clear hs5
   go_wp2_with fail
   go_at_call 88
   refine HT5.out.mono ?_
   rintro e w6 ⟨v6,rfl,h1,hb6⟩
   have HO6:=Lib.hid (HO5.out.later hb6)
   have HB6:=Lib.hid (Below.next HB5.out hb6)
   have HQ6:=Lib.hid (brow_own (l:=fourOf s5) h1)
   have hsz6:=Nat.le_trans hsz5 hb6.size
   clear hb6 h1 HT5 HO5
   obtain⟨q6,hq6⟩: ∃ q6,q6=fourOf s5:=⟨_,rfl⟩
   obtain⟨p6,hp6⟩: ∃ p6,p6=p2++body:=⟨_,rfl⟩
   have hlen6:p6.length+q6.length≤140737488355328:=by rw [hp6,hq6,fourOf_length,List.length_append,hl2];omega
   rw [←hq6] at HQ6
   rw [←hp6] at HO6
   have HQ:=Lib.hid (show frameOf (kn:Int).toNat (sn:Int).toNat body=p6++q6 by rw [hq6,hp6,HPQ.out,HS5.out];rfl)
   clear hq6 hp6
   go_wp2_with (at_builtin;refine wpList_appB rfl _ _ rfl rfl rfl HO6.out ?c1 HQ6.out hlen6 ?_)
   case c1=>exact hsz6
   intro v' w' h1 h2
   have HF':=Lib.hid (h1.mono (Nat.le_succ _))
   have HG:=Lib.hid (HB6.out.trans (h2.mono (Nat.le_succ _)))
   clear h1 h2
   go_wp2
   go_ret2
   unfold FramePost
   rw [HE.out,HQ.out]
   exact⟨_,rfl,HF'.out,HG.out⟩
theorem frame_any (k s:Int) (body:List UInt8) (bv:Value) (w:World) (hv:BRow w bv body) (hn:NibTab w):Calls Tryz.prog 54 #[frV k s bv] w (FramePost w (frameEnc k s body)):=by
 by_cases h:(k<1∨7<k∨s<0∨1099511627776<s)∨16384<body.length
 ·obtain⟨oa,cap,rfl,_,_⟩:=hv
  exact frame_bad k s body oa cap w h
 ·exact frame_good k s body bv w hv hn (fun h'=>h (.inl h')) (fun h'=>h (.inr h'))
end Go.Proofs.YtcglcphhfmkccaaGreatDoor
namespace Go.Proofs.YtcglcphhfmkccaaGreatDoor
open Go.RowKit
set_option maxRecDepth 100000 in
theorem nums_two (a b:Nat) (g:Nat) (w:World) (ha:a<9223372036854775808) (hb:b<9223372036854775808) (h0:w.cell? ⟨g,0,none⟩=some (.int .i64 a)) (h1:w.cell? ⟨g,1,none⟩=some (.int .i64 b)):
  Calls Tryz.prog 55 #[.slice (some ⟨g,0,none⟩) 2 2] w fun e w'=> ∃ v,e= .returned v∧OwnB w' w.heap.size v (encV a++encV b)∧Below w.heap.size w w':=by
 have HE:=Lib.hid (fun W=>encode_any a W (by omega))
 have HF:=Lib.hid (fun W=>encode_any b W (by omega))
 have HLa:=Lib.hid (encV_64 (show a<18446744073709551616 by omega))
 have HLb:=Lib.hid (encV_64 (show b<18446744073709551616 by omega))
 have H1:=Lib.hid h1
 clear h1
 go_enter Tryz.func55,Tryz.ntmps55
 go_wp2
 refine wp_loop_rounds 3 ?_
 rw [rounds_succ]
 go_wp2_with fail
 refine(HE.out _).mono ?_
 rintro e w1 ⟨v1,rfl,h2,hb1⟩
 have HO0:=Lib.hid (OwnB.nil w1 w.heap.size)
 have HB1:=Lib.hid hb1
 have H2:=Lib.hid h2.brow
 clear h2 hb1 HE h0
 obtain⟨p,hp⟩: ∃ p,p=encV a:=⟨_,rfl⟩
 rw [←hp] at H2 HLa
 have HP:=Lib.hid hp
 have hlen:([]:List UInt8).length+p.length≤140737488355328:=by have:=HLa.out;simp;omega
 clear hp
 go_wp2_with (at_builtin;refine wpList_appB rfl _ _ rfl rfl rfl HO0.out ?c1 H2.out hlen ?_)
 case c1=>exact HB1.out.size
 intro v2 w2 h3 h4
 have HO2:=Lib.hid (show OwnB w2 w.heap.size v2 p from h3)
 have HB2:=Lib.hid (HB1.out.trans h4)
 have c1:=cell_later HB2.out H1.out
 clear h3 h4 HO0 HB1 H2 hlen H1
 go_wp2
 rw [rounds_succ]
 go_wp2_with fail
 refine(HF.out _).mono ?_
 rintro e w3 ⟨v3,rfl,h5,hb3⟩
 have HO3:=Lib.hid (HO2.out.later hb3)
 have HB3:=Lib.hid (Below.next HB2.out hb3)
 have H5:=Lib.hid h5.brow
 clear h5 hb3 HO2 HB2 HF c1
 obtain⟨q,hq⟩: ∃ q,q=encV b:=⟨_,rfl⟩
 rw [←hq] at H5 HLb
 have HQ:=Lib.hid hq
 have hlen:p.length+q.length≤140737488355328:=by have:=HLa.out;have:=HLb.out;omega
 clear hq
 go_wp2_with (at_builtin;refine wpList_appB rfl _ _ rfl rfl rfl HO3.out ?c1 H5.out hlen ?_)
 case c1=>exact HB3.out.size
 intro v' w' h1 h2
 have HF':=Lib.hid h1
 have HG:=Lib.hid (HB3.out.trans h2)
 clear h1 h2
 go_wp2
 rw [rounds_succ]
 go_wp2
 go_ret
 exact⟨_,rfl,by rw [←HP.out,←HQ.out];exact HF'.out,HG.out⟩
theorem right_any (num first:Int) (w:World):Calls Tryz.prog 53 #[.int .i64 num,.int .i64 first] w fun e w'=>e= .returned (.bool (decide (1≤num)&&decide (num≤999999)&&decide (1≤first)&&decide (first≤1099511627777)))∧w=w':=by
 rcases h1:decide (1≤num)
 ·go_enter Tryz.func53,Tryz.ntmps53
  go_wp2
  go_ret
  exact⟨rfl,rfl⟩
 rcases h2:decide (num≤999999)
 ·go_enter Tryz.func53,Tryz.ntmps53
  go_wp2
  go_ret
  exact⟨rfl,rfl⟩
 rcases h3:decide (1≤first)
 ·go_enter Tryz.func53,Tryz.ntmps53
  go_wp2
  go_ret
  exact⟨rfl,rfl⟩
 rcases h4:decide (first≤1099511627777)
 all_goals
  go_enter Tryz.func53,Tryz.ntmps53
  go_wp2
  go_ret
  exact⟨rfl,rfl⟩
theorem hdrEnc_bad {num first:Int} (h:num<1∨999999<num∨first<1∨1099511627777<first):hdrEnc num first=([],1):=by
 unfold hdrEnc
 rw [if_pos (by simp;omega)]
theorem hdrEnc_good {num first:Int} (h: ¬ (num<1∨999999<num∨first<1∨1099511627777<first)):hdrEnc num first=frameEnc 2 num (encV num.toNat++encV first.toNat):=by
 unfold hdrEnc
 rw [if_neg (by simp;omega)]
set_option maxRecDepth 100000 in
theorem header_any (num first:Int) (w:World) (hn:NibTab w):Calls Tryz.prog 30 #[.int .i64 num,.int .i64 first] w (FramePost w (hdrEnc num first)):=by
 by_cases h:num<1∨999999<num∨first<1∨1099511627777<first
 ·have HE:=Lib.hid (hdrEnc_bad h)
  have HR:=Lib.hid (right_any num first w)
  have HT:=Lib.hid (show (decide (1≤num)&&decide (num≤999999)&&decide (1≤first)&&decide (first≤1099511627777))=false by simp;omega)
  clear h
  go_enter Tryz.func30,Tryz.ntmps30
  go_wp2_with fail
  go_at_call 53
  refine HR.out.mono ?_
  rw [HT.out]
  rintro e w1 ⟨rfl,rfl⟩
  go_wp2
  go_ret2
  unfold FramePost;rw [HE.out]
  exact⟨_,rfl,OwnB.nil _ _,Below.refl _ _⟩
 ·have HE:=Lib.hid (hdrEnc_good h)
  have HR:=Lib.hid (right_any num first w)
  have HT:=Lib.hid (show (decide (1≤num)&&decide (num≤999999)&&decide (1≤first)&&decide (first≤1099511627777))=true by simp;omega)
  obtain⟨nn,rfl⟩:=Int.eq_ofNat_of_zero_le (show 0≤num by omega)
  obtain⟨fn,rfl⟩:=Int.eq_ofNat_of_zero_le (show 0≤first by omega)
  have HN:=Lib.hid hn
  have HW:=Lib.hid (nums_two nn fn w.heap.size (w.alloc (.cells #[.int .i64 nn,.int .i64 fn] 3)) (by omega) (by omega) (by simp [World.cell?_alloc_new]) (by simp [World.cell?_alloc_new]))
  clear h hn
  go_enter Tryz.func30,Tryz.ntmps30
  go_wp2_with fail
  go_at_call 53
  refine HR.out.mono ?_
  rw [HT.out]
  rintro e w1 ⟨rfl,rfl⟩
  go_wp2_with fail
  refine HW.out.mono ?_
  rintro e w1 ⟨v1,rfl,h1,hb1⟩
  obtain⟨bd,hbd⟩: ∃ bd,bd=encV nn++encV fn:=⟨_,rfl⟩
  rw [←hbd] at h1
  have HBD:=Lib.hid hbd
  have HO1:=Lib.hid h1.brow
  have hsh:=h1.brow
  obtain⟨oa1,cap1,rfl,_,hsh2⟩:=hsh
  have HB1:=Lib.hid (Below.next (below_alloc w _) hb1)
  clear h1 hb1 HW hsh2 hbd
  have HFr:=Lib.hid (frame_any 2 nn _ _ w1 HO1.out (HN.out.below HB1.out))
  go_wp2_with fail
  go_at_call 54
  refine HFr.out.mono ?_
  rintro e w2 ⟨v2,rfl,h2,hb2⟩
  obtain⟨r,hr⟩: ∃ r,r=frameEnc 2 (nn:Int) bd:=⟨_,rfl⟩
  rw [←hr] at h2
  rw [←hr]
  have HRR:=Lib.hid hr
  have HO2:=Lib.hid (h2.mono HB1.out.size)
  have HB2:=Lib.hid (Below.next HB1.out hb2)
  clear h2 hb2 HFr hr
  go_wp2
  go_ret2
  unfold FramePost;rw [HE.out]
  have e:frameEnc 2 (nn:Int) (encV (nn:Int).toNat++encV (fn:Int).toNat)=r:=by rw [HRR.out,HBD.out];rfl
  rw [e]
  exact⟨_,rfl,HO2.out,HB2.out⟩
end Go.Proofs.YtcglcphhfmkccaaGreatDoor

namespace Go.Proofs.YtcglcphhfmkccaaGreatDoor
open Go.RowKit
def decGo:Nat→Nat→List UInt8→Nat×Nat×Int
 | _,_,[]=>(0,0,10)
 | i,u,c::r=>if i=9∧1<c.toNat then (0,0,12) else if 128≤c.toNat then decGo (i+1) (u+c.toNat % 128*128^i) r else if c.toNat=0∧0<i then (0,0,11) else (u+c.toNat % 128*128^i,i+1,0)
def decV (b:List UInt8):Nat×Nat×Int:=decGo 0 0 b
theorem decGo_len: ∀ (b:List UInt8) (i u:Nat),(decGo i u b).2.2=0→i<(decGo i u b).2.1∧(decGo i u b).2.1≤i+b.length
 | [],_,_=>by simp [decGo]
 | c::r,i,u=>by
  rw [decGo]
  split
  ·simp
  ·split
   ·intro h
    have:=decGo_len r (i+1) _ h
    simp only [List.length_cons];omega
   ·split
    ·simp
    ·intro _;simp only [List.length_cons];omega
theorem decGo_lt: ∀ (b:List UInt8) (i u:Nat),u<128^i→i≤9→(decGo i u b).1<18446744073709551616
 | [],_,_=>by simp [decGo]
 | c::r,i,u=>by
  intro hu hi
  rw [decGo]
  have hc:c.toNat % 128<128:=Nat.mod_lt _ (by decide)
  have hp:128^(i+1)=128^i*128:=Nat.pow_succ ..
  have hm:c.toNat % 128*128^i≤127*128^i:=Nat.mul_le_mul_right _ (by omega)
  split
  ·simp
  ·rename_i h9
   split
   ·rename_i h1
    have hi8:i≤8:=by
     rcases Nat.lt_or_ge i 9 with h | h
     ·omega
     ·exact absurd ⟨by omega,by omega⟩ h9
    exact decGo_lt r (i+1) _ (by rw [hp];omega) (by omega)
   ·split
    ·simp
    ·show u+c.toNat % 128*128^i<_
     rcases Nat.lt_or_ge i 9 with h | h
     ·have:(128:Nat)^(i+1)≤128^9:=Nat.pow_le_pow_right (by decide) (by omega)
      have h128:(128:Nat)^9=9223372036854775808:=by decide
      rw [hp] at this;omega
     ·have e9:i=9:=by omega
      subst e9
      have h1:c.toNat≤1:=by
       rcases Nat.lt_or_ge 1 c.toNat with h | h
       ·exact absurd ⟨rfl,h⟩ h9
       ·exact h
      have h128:(128:Nat)^9=9223372036854775808:=by decide
      rw [h128] at hu hm ⊢
      have:c.toNat % 128*9223372036854775808≤1*9223372036854775808:=Nat.mul_le_mul_right _ (by omega)
      omega
theorem decV_len {b:List UInt8} (h:(decV b).2.2=0):0<(decV b).2.1∧(decV b).2.1≤b.length:=by
 have:=decGo_len b 0 0 h
 unfold decV;omega
theorem decV_lt (b:List UInt8):(decV b).1<18446744073709551616:=decGo_lt b 0 0 (by decide) (by decide)
def crcOk (b:List UInt8):Bool:=decide (4≤b.length)&&(b.drop (b.length - 4)==fourOf (crcSum (b.take (b.length - 4))))
def leNat:List UInt8→Nat
 | []=>0
 | c::r=>c.toNat+256*leNat r
theorem leNat_lt: ∀ l:List UInt8,leNat l<256^l.length
 | []=>by decide
 | c::r=>by
  have:=leNat_lt r
  have hc:c.toNat<256:=c.toNat_lt
  rw [leNat,List.length_cons,Nat.pow_succ]
  omega
theorem leNat_snoc: ∀ (l:List UInt8) (x:UInt8),leNat (l++[x])=leNat l+x.toNat*256^l.length
 | [],x=>by simp [leNat]
 | c::r,x=>by
  rw [List.cons_append,leNat,leNat_snoc r x,leNat,List.length_cons,Nat.pow_succ,Nat.mul_add,←Nat.add_assoc]
  congr 1
  rw [←Nat.mul_assoc,Nat.mul_comm 256,Nat.mul_assoc,Nat.mul_comm 256]
def byteAt (b:List UInt8) (i:Nat):Nat:=(b.getD i 0).toNat
def peekF (b:List UInt8):Nat×Nat×Nat×Int:=
 if b.length<16 then (0,0,0,60) else if byteAt b 0≠165 then (0,0,0,61) else if crcOk (b.take 16)=false then (0,0,0,62)
 else if byteAt b 1=0∨7<byteAt b 1∨16384<byteAt b 2+byteAt b 3*256∨1099511627776<leNat ((b.drop 4).take 8) then (0,0,0,63)
 else (byteAt b 1,leNat ((b.drop 4).take 8),byteAt b 2+byteAt b 3*256+20,0)
structure Frm where
 k:Nat
 s:Nat
 body:List UInt8
def zFrm:Frm:=⟨0,0,[]⟩
def decF (b:List UInt8):Frm×Nat×Int:=
 if (peekF b).2.2.2≠0 then (zFrm,0,(peekF b).2.2.2) else if b.length<(peekF b).2.2.1 then (zFrm,0,60)
 else if crcOk ((b.take (peekF b).2.2.1).drop 16)=false then (zFrm,0,62)
 else (⟨(peekF b).1,(peekF b).2.1,((b.take (peekF b).2.2.1).drop 16).take ((peekF b).2.2.1 - 20)⟩,(peekF b).2.2.1,0)
theorem peekF_fine {b:List UInt8} (h:(peekF b).2.2.2=0):16≤b.length∧1≤(peekF b).1∧(peekF b).1≤7∧(peekF b).2.1≤1099511627776∧20≤(peekF b).2.2.1∧(peekF b).2.2.1≤16404:=by
 unfold peekF at h ⊢
 split at h
 ·simp at h
 ·split at h
  ·simp at h
  ·split at h
   ·simp at h
   ·split at h
    ·simp at h
    ·rename_i h1 h2 h3 h4
     rw [if_neg h1,if_neg h2,if_neg h3,if_neg h4]
     simp only
     omega
end Go.Proofs.YtcglcphhfmkccaaGreatDoor

namespace Go.Proofs.YtcglcphhfmkccaaGreatDoor
open Go.RowKit
theorem or_add {a k x:Nat} (h:a<2^k):a ||| x*2^k=a+x*2^k:=by
 rw [Nat.or_comm,←Nat.shiftLeft_eq,←Nat.shiftLeft_add_eq_or_of_lt h,Nat.add_comm]
theorem or64 {u x k:Nat} (hu:u<2^k) (hs:u+x*2^k<18446744073709551616):bits .or .u64 (u:Int) (IntKind.u64.wrap ((x:Int)*2^k))=((u+x*2^k:Nat):Int):=by
 have e:(x:Int)*2^k=((x*2^k:Nat):Int):=by push_cast;rfl
 have hw:IntKind.u64.wrap ((x*2^k:Nat):Int)=((x*2^k:Nat):Int):=by
  rw [IntKind.wrap_u64,Int.emod_eq_of_lt (by omega) (by omega)]
 rw [e,hw,u64_or_nat _ _ (by omega) (by omega),or_add hu]
theorem or7 {u k:Nat} (x:UInt8) (hu:u<128^k) (hs:u+x.toNat % 128*128^k<18446744073709551616):bits .or .u64 (u:Int) (IntKind.u64.wrap ((x.toNat:Int) % 128*2^(7*k)))=((u+x.toNat % 128*128^k:Nat):Int):=by
 have e:(128:Nat)^k=2^(7*k):=by rw [Nat.pow_mul]
 rw [e] at hu hs ⊢
 have:=or64 hu hs
 push_cast at this ⊢
 exact this
theorem drop_cons8 {α:Type} {l:List α} {k:Nat} {x:α} (h:l[k]? =some x):l.drop k=x::l.drop (k+1):=by
 obtain⟨hk,rfl⟩:=List.getElem?_eq_some_iff.1 h
 exact List.drop_eq_getElem_cons hk
theorem decGo_a {i u:Nat} {c:UInt8} {r:List UInt8} (h1:i=9) (h2:1<c.toNat):decGo i u (c::r)=(0,0,12):=by rw [decGo,if_pos ⟨h1,h2⟩]
theorem decGo_b {i u:Nat} {c:UInt8} {r:List UInt8} (h1: ¬ (i=9∧1<c.toNat)) (h2:128≤c.toNat):decGo i u (c::r)=decGo (i+1) (u+c.toNat % 128*128^i) r:=by rw [decGo,if_neg h1,if_pos h2]
theorem decGo_c {i u:Nat} {c:UInt8} {r:List UInt8} (h1: ¬ (i=9∧1<c.toNat)) (h2:c.toNat=0) (h3:0<i):decGo i u (c::r)=(0,0,11):=by rw [decGo,if_neg h1,if_neg (by omega),if_pos ⟨h2,h3⟩]
theorem decGo_d {i u:Nat} {c:UInt8} {r:List UInt8} (h1: ¬ (i=9∧1<c.toNat)) (h2: ¬ 128≤c.toNat) (h3: ¬ (c.toNat=0∧0<i)):decGo i u (c::r)=(u+c.toNat % 128*128^i,i+1,0):=by rw [decGo,if_neg h1,if_neg h2,if_neg h3]
theorem sum_lt {u i:Nat} (c:UInt8) (hu:u<128^i) (hi:i≤9) (h1: ¬ (i=9∧1<c.toNat)):u+c.toNat % 128*128^i<18446744073709551616:=by
 have hc:c.toNat % 128<128:=Nat.mod_lt _ (by decide)
 have hm:c.toNat % 128*128^i≤127*128^i:=Nat.mul_le_mul_right _ (by omega)
 have h128:(128:Nat)^9=9223372036854775808:=by decide
 rcases Nat.lt_or_ge i 9 with h | h
 ·have:(128:Nat)^(i+1)≤128^9:=Nat.pow_le_pow_right (by decide) (by omega)
  rw [Nat.pow_succ] at this;omega
 ·have e9:i=9:=by omega
  subst e9
  have:c.toNat % 128*128^9≤1*128^9:=Nat.mul_le_mul_right _ (by omega)
  rw [h128] at hu this ⊢;omega
theorem sum_lt' {u i:Nat} (c:UInt8) (hu:u<128^i):u+c.toNat % 128*128^i<128^(i+1):=by
 have hm:c.toNat % 128*128^i≤127*128^i:=Nat.mul_le_mul_right _ (by have:c.toNat % 128<128:=Nat.mod_lt _ (by decide);omega)
 rw [Nat.pow_succ];omega
set_option maxRecDepth 100000 in
theorem and127_all: ∀ a:Fin 256,a.val&&&127=a.val % 128:=by decide
theorem and127 (x:UInt8):bits .and .u8 (x.toNat:Int) 127=(x.toNat:Int) % 128:=by
 rw [show (127:Int)=((127:Nat):Int) from rfl,u8_and_nat _ _ x.toNat_lt (by decide),and127_all ⟨x.toNat,x.toNat_lt⟩]
 norm_cast
theorem wrap7 (x:UInt8):IntKind.u64.wrap ((x.toNat:Int) % 128)=(x.toNat:Int) % 128:=by
 rw [IntKind.wrap_u64,Int.emod_eq_of_lt (by omega) (by omega)]
def VarPost (w:World) (r:Nat×Nat×Int) (e:Ending) (w':World):Prop:=e= .returned (.tuple #[.int .u64 (r.1:Int),.int .i64 (r.2.1:Int),.int .i64 r.2.2])∧Below w.heap.size w w'
set_option maxRecDepth 100000 in
set_option maxHeartbeats 4000000 in
theorem varDecode_any (l:List UInt8) (v:Value) (w:World) (hv:BRow w v l) (hl:l.length≤9223372036854775807):
  Calls Tryz.prog 86 #[v] w (VarPost w (decV l)):=by
 obtain⟨oa,cap,rfl,hlc,hc⟩:=hv
 have HC:=Lib.hid (show ∀ (i:Nat) x,l[i]? =some x→ ∃ b off,oa=some ⟨b,off,none⟩∧w.cell? ⟨b,off+i,none⟩=some (.int .u8 (x.toNat:Int)) from fun i x hx=>by
  obtain⟨b,off,h1,h2⟩:=hc (by rintro rfl;simp at hx)
  exact⟨b,off,h1,h2 i x hx⟩)
 clear hc
 go_enter Tryz.func86,Tryz.ntmps86
 go_wp2
 go_loopw [5,10] (fun uv iv wr=> ∃ (k u:Nat),k≤l.length∧k≤9∧iv= .int .i64 k∧uv= .int .u64 (u:Int)∧Hid (u<128^k∧decV l=decGo k u (l.drop k))∧Below w.heap.size w wr) (fun _ iv _=>l.length - (intOf iv).toNat)
 case atStart=>exact⟨0,0,Nat.zero_le _,by omega,rfl,rfl,Lib.hid ⟨by decide,rfl⟩,Below.refl _ _⟩
 case round=>
  obtain⟨k,u,hk,hk9,rfl,rfl,HU,hb⟩:=hrel
  have HB:=Lib.hid hb
  clear hb
  by_cases hlt:k<l.length
  ·obtain⟨x,hx,_,_⟩:=nth l k hlt
   obtain⟨b,off,rfl,hcell⟩:=HC.out k x hx
   have q1:(k:Int)<(l.length:Int):=by omega
   have c1:=cell_later HB.out hcell
   have HX:=Lib.hid (show l.drop k=x::l.drop (k+1) from drop_cons8 hx)
   clear hx hcell
   have n2:=and127 x
   have n3:=wrap7 x
   rcases h9:((k:Int)==9) with _ | _
   ·have hk8:k≤8:=by simp at h9;omega
    have HN:=Lib.hid (show ¬ (k=9∧1<x.toNat) from fun hc=>by omega)
    obtain⟨u2,hu2⟩: ∃ u2,u2=u+x.toNat % 128*128^k:=⟨_,rfl⟩
    have n1:=or7 x HU.out.1 (sum_lt x HU.out.1 hk9 HN.out)
    have HU2:=Lib.hid (show u2<128^(k+1) by rw [hu2];exact sum_lt' x HU.out.1)
    rw [←hu2] at n1
    have HD:=Lib.hid hu2
    clear hu2
    rcases h1:decide ((128:Int)≤(x.toNat:Int)) with _ | _
    ·have HN1:=Lib.hid (show ¬ 128≤x.toNat by have:=of_decide_eq_false h1;omega)
     rcases h0:((x.toNat:Int)==0) with _ | _
     ·have HE:=Lib.hid (show decV l=(u2,k+1,0) by rw [HU.out.2,HX.out,decGo_d HN.out HN1.out (fun hc=>by simp at h0;omega),HD.out])
      clear hlt
      go_wp2
      refine bodyPost_ret (v:= .tuple #[.int .u64 (u2:Int),.int .i64 ((k:Int)+1),.int .i64 0]) (by simp [results,Tryz.results86,go_sem]) rfl ⟨by rw [HE.out];push_cast;rfl,HB.out⟩
     ·have hx0:x.toNat=0:=by simp at h0;omega
      have HX0:=Lib.hid hx0
      clear hx0
      rcases hk0:decide (0<k) with _ | _
      ·have HE:=Lib.hid (show decV l=(u2,k+1,0) by rw [HU.out.2,HX.out,decGo_d HN.out HN1.out (fun hc=>by have:=of_decide_eq_false hk0;omega),HD.out])
       clear hlt
       go_wp2
       refine bodyPost_ret (v:= .tuple #[.int .u64 (u2:Int),.int .i64 ((k:Int)+1),.int .i64 0]) (by simp [results,Tryz.results86,go_sem]) rfl ⟨by rw [HE.out];push_cast;rfl,HB.out⟩
      ·have HE:=Lib.hid (show decV l=(0,0,11) by rw [HU.out.2,HX.out,decGo_c HN.out HX0.out (of_decide_eq_true hk0)])
       clear hlt
       go_wp2
       refine bodyPost_ret (v:= .tuple #[.int .u64 0,.int .i64 0,.int .i64 11]) (by simp [results,Tryz.results86,go_sem]) rfl ⟨by rw [HE.out];rfl,HB.out⟩
    ·have hn1:128≤x.toNat:=by have:=of_decide_eq_true h1;omega
     have HR:=Lib.hid (show u2<128^(k+1)∧decV l=decGo (k+1) u2 (l.drop (k+1)) from⟨HU2.out,by rw [HU.out.2,HX.out,decGo_b HN.out hn1,HD.out]⟩)
     clear hn1
     go_wp2
     go_roundw
     case rel=>exact⟨k+1,u2,by omega,by omega,by go_num,rfl,HR,HB.out⟩
     case measure=>simp [intOf];omega
   ·have HK9:=Lib.hid (show k=9 by simp at h9;omega)
    rcases hx1:decide ((1:Int)<(x.toNat:Int)) with _ | _
    ·have HN:=Lib.hid (show ¬ (k=9∧1<x.toNat) from fun hc=>by have:=of_decide_eq_false hx1;omega)
     obtain⟨u2,hu2⟩: ∃ u2,u2=u+x.toNat % 128*128^k:=⟨_,rfl⟩
     have n1:=or7 x HU.out.1 (sum_lt x HU.out.1 hk9 HN.out)
     have HU2:=Lib.hid (show u2<128^(k+1) by rw [hu2];exact sum_lt' x HU.out.1)
     rw [←hu2] at n1
     have HD:=Lib.hid hu2
     clear hu2
     have h1:decide ((128:Int)≤(x.toNat:Int))=false:=by have:=of_decide_eq_false hx1;exact decide_eq_false (by omega)
     have HN1:=Lib.hid (show ¬ 128≤x.toNat by have:=of_decide_eq_false h1;omega)
     rcases h0:((x.toNat:Int)==0) with _ | _
     ·have HE:=Lib.hid (show decV l=(u2,k+1,0) by rw [HU.out.2,HX.out,decGo_d HN.out HN1.out (fun hc=>by simp at h0;omega),HD.out])
      clear hlt
      go_wp2
      refine bodyPost_ret (v:= .tuple #[.int .u64 (u2:Int),.int .i64 ((k:Int)+1),.int .i64 0]) (by simp [results,Tryz.results86,go_sem]) rfl ⟨by rw [HE.out];push_cast;rfl,HB.out⟩
     ·have hx0:x.toNat=0:=by simp at h0;omega
      have HX0:=Lib.hid hx0
      clear hx0
      rcases hk0:decide (0<k) with _ | _
      ·have HE:=Lib.hid (show decV l=(u2,k+1,0) by rw [HU.out.2,HX.out,decGo_d HN.out HN1.out (fun hc=>by have:=of_decide_eq_false hk0;omega),HD.out])
       clear hlt
       go_wp2
       refine bodyPost_ret (v:= .tuple #[.int .u64 (u2:Int),.int .i64 ((k:Int)+1),.int .i64 0]) (by simp [results,Tryz.results86,go_sem]) rfl ⟨by rw [HE.out];push_cast;rfl,HB.out⟩
      ·have HE:=Lib.hid (show decV l=(0,0,11) by rw [HU.out.2,HX.out,decGo_c HN.out HX0.out (of_decide_eq_true hk0)])
       clear hlt
       go_wp2
       refine bodyPost_ret (v:= .tuple #[.int .u64 0,.int .i64 0,.int .i64 11]) (by simp [results,Tryz.results86,go_sem]) rfl ⟨by rw [HE.out];rfl,HB.out⟩
    ·have HE:=Lib.hid (show decV l=(0,0,12) by rw [HU.out.2,HX.out,decGo_a HK9.out (by have:=of_decide_eq_true hx1;omega)])
     clear hlt
     go_wp2
     refine bodyPost_ret (v:= .tuple #[.int .u64 0,.int .i64 0,.int .i64 12]) (by simp [results,Tryz.results86,go_sem]) rfl ⟨by rw [HE.out];rfl,HB.out⟩
  ·obtain rfl:k=l.length:=by omega
   have HE:=Lib.hid (show decV l=(0,0,10) by rw [HU.out.2,List.drop_length];rfl)
   clear hlt
   go_wp2
   refine bodyPost_ret (v:= .tuple #[.int .u64 0,.int .i64 0,.int .i64 10]) (by simp [results,Tryz.results86,go_sem]) rfl ⟨by rw [HE.out];rfl,HB.out⟩
end Go.Proofs.YtcglcphhfmkccaaGreatDoor

namespace Go.Proofs.YtcglcphhfmkccaaGreatDoor
open Go.RowKit
theorem brow_cut {w:World} {oa:Option Addr} {cap lo hi mx:Nat} {l:List UInt8} (h:BRow w (.slice oa l.length cap) l) (h1:lo≤hi) (h2:hi≤l.length) (h3:hi≤mx):BRow w (sliced oa lo hi mx 1) ((l.take hi).drop lo):=by
 obtain⟨oa',cap',e,_,hc⟩:=h
 simp only [Value.slice.injEq,true_and] at e
 obtain⟨rfl,rfl⟩:=e
 have hlen:((l.take hi).drop lo).length=hi - lo:=by rw [List.length_drop,List.length_take];omega
 refine⟨if mx=lo then oa else oa.map (·.add (lo*1)),mx - lo,by rw [hlen];rfl,by rw [hlen];omega,fun hn=> ?_⟩
 have hlt:lo<hi:=by
  rcases Nat.lt_or_ge lo hi with h | h
  ·exact h
  ·exact absurd (List.eq_nil_of_length_eq_zero (by rw [hlen];omega)) hn
 obtain⟨b,off,rfl,hcell⟩:=hc (by rintro rfl;simp at h2;omega)
 rw [if_neg (by omega)]
 refine⟨b,off+lo,by simp [Addr.add],fun i x hx=> ?_⟩
 rw [List.getElem?_drop] at hx
 have hi':lo+i<hi:=by
  have:=(List.getElem?_eq_some_iff.1 hx).1
  rw [List.length_take] at this;omega
 rw [List.getElem?_take,if_pos hi'] at hx
 have:=hcell (lo+i) x hx
 rw [Nat.add_assoc];exact this
theorem run_cut_l (oa:Option Addr) (len cap n:Nat) (h:n≤len) (w:World):(Instr.slice 45 (.slice oa len cap) (some (.int .i64 n)) none none).run Tryz.prog w= .ok (sliced oa n len cap 1) w:=by
 rw [run_slice_l (P:=Tryz.prog) w 45 oa len cap (by kernel_rfl) .i64 n (by omega) (by omega)]
 have:(sizeOf (Tryz.prog.elem 45)).run Tryz.prog w= .ok 1 w:=by kernel_rfl
 rw [this];rfl
theorem run_cut_h (oa:Option Addr) (len cap n:Nat) (h:n≤cap) (w:World):(Instr.slice 45 (.slice oa len cap) none (some (.int .i64 n)) none).run Tryz.prog w= .ok (sliced oa 0 n cap 1) w:=by
 rw [run_slice_h (P:=Tryz.prog) w 45 oa len cap (by kernel_rfl) .i64 n (by omega) (by omega)]
 have:(sizeOf (Tryz.prog.elem 45)).run Tryz.prog w= .ok 1 w:=by kernel_rfl
 rw [this];rfl
theorem run_cut_lh (oa:Option Addr) (len cap lo hi:Nat) (h1:lo≤hi) (h2:hi≤cap) (w:World):(Instr.slice 45 (.slice oa len cap) (some (.int .i64 lo)) (some (.int .i64 hi)) none).run Tryz.prog w= .ok (sliced oa lo hi cap 1) w:=by
 rw [run_slice_lh (P:=Tryz.prog) w 45 oa len cap (by kernel_rfl) .i64 .i64 lo hi (by omega) (by omega) (by omega)]
 have:(sizeOf (Tryz.prog.elem 45)).run Tryz.prog w= .ok 1 w:=by kernel_rfl
 rw [this];rfl
theorem run_cut_lhm (oa:Option Addr) (len cap lo hi mx:Nat) (h1:lo≤hi) (h2:hi≤mx) (h3:mx≤cap) (w:World):(Instr.slice 45 (.slice oa len cap) (some (.int .i64 lo)) (some (.int .i64 hi)) (some (.int .i64 mx))).run Tryz.prog w= .ok (sliced oa lo hi mx 1) w:=by
 rw [run_slice_lhm (P:=Tryz.prog) w 45 oa len cap (by kernel_rfl) .i64 .i64 .i64 lo hi mx (by omega) (by omega) (by omega) (by omega)]
 have:(sizeOf (Tryz.prog.elem 45)).run Tryz.prog w= .ok 1 w:=by kernel_rfl
 rw [this];rfl
theorem sliceAt_b (oa:Option Addr) (len cap:Nat) (x y z:Option Value) (w:World):(Instr.sliceAt 45 (.slice oa len cap) x y z).run Tryz.prog w=(Instr.slice 45 (.slice oa len cap) x y z).run Tryz.prog w:=
 run_sliceAt_slice _ _ _ _ _ _ (by kernel_rfl)
section
variable {ops : Array Oper} {rest : List Oper} {o : Oper} {a : Act} {w : World} {Q : Exit → Act → World → Prop}
theorem wpList_cut_l (hgd:o.guard=none) (x y:Operand) (ho:o.op= .slice 45 x (some y) none none) (oa:Option Addr) (cap n:Nat) (l:List UInt8) (hx:a.eval x= .slice oa l.length cap) (hy:a.eval y= .int .i64 (n:Int))
  (hv:BRow w (.slice oa l.length cap) l) (hn:n≤l.length) (h: ∀ oa' cap',BRow w (.slice oa' (l.length - n) cap') (l.drop n)→wpList Tryz.prog ops Q rest (a.put o.dst (.slice oa' (l.length - n) cap')) w):wpList Tryz.prog ops Q (o::rest) a w:=by
 have hv':=hv
 obtain⟨_,c',e,hl',_⟩:=hv'
 simp only [Value.slice.injEq,true_and] at e
 obtain⟨rfl,rfl⟩:=e
 have hb:=brow_cut (lo:=n) (hi:=l.length) (mx:=cap) hv hn (Nat.le_refl _) hl'
 rw [List.take_length] at hb
 refine wpList_plain hgd fun K hK=> ?_
 unfold Oper.wp execOp
 simp only [ho,hx,hy,Option.map_some,Option.map_none,sliceAt_b,run_cut_l oa l.length cap n hn,Sem.run_bind,Sem.run_pure,Result.andThen_ok]
 exact hK _ _ (h _ _ hb)
theorem wpList_cut_h (hgd:o.guard=none) (x y:Operand) (ho:o.op= .slice 45 x none (some y) none) (oa:Option Addr) (cap n:Nat) (l:List UInt8) (hx:a.eval x= .slice oa l.length cap) (hy:a.eval y= .int .i64 (n:Int))
  (hv:BRow w (.slice oa l.length cap) l) (hn:n≤l.length) (h: ∀ oa' cap',BRow w (.slice oa' n cap') (l.take n)→wpList Tryz.prog ops Q rest (a.put o.dst (.slice oa' n cap')) w):wpList Tryz.prog ops Q (o::rest) a w:=by
 have hv':=hv
 obtain⟨_,c',e,hl',_⟩:=hv'
 simp only [Value.slice.injEq,true_and] at e
 obtain⟨rfl,rfl⟩:=e
 have hb:=brow_cut (lo:=0) (hi:=n) (mx:=cap) hv (Nat.zero_le _) hn (by omega)
 rw [List.drop_zero] at hb
 refine wpList_plain hgd fun K hK=> ?_
 unfold Oper.wp execOp
 simp only [ho,hx,hy,Option.map_some,Option.map_none,sliceAt_b,run_cut_h oa l.length cap n (by omega),Sem.run_bind,Sem.run_pure,Result.andThen_ok]
 exact hK _ _ (h _ _ (by simpa [sliced] using hb))
end
end Go.Proofs.YtcglcphhfmkccaaGreatDoor

namespace Go.Proofs.YtcglcphhfmkccaaGreatDoor
open Go.RowKit
def sgCs (g:Sg):Array Value:= #[.int .i64 g.num,.int .i64 g.first,.int .i64 g.count,.int .i64 g.foot]
@[reducible] def sgV (g : Sg) : Value := .agg #[.int .i64 g.num, .int .i64 g.first, .int .i64 g.count, .int .i64 g.foot]
def SgRow (w:World) (v:Value) (l:List Sg):Prop:=
 ∃ oa cap,v= .slice oa l.length cap∧l.length≤cap∧cap≤9223372036854775807∧ ∀ (i:Nat) g,l[i]? =some g→ ∃ b off,oa=some ⟨b,off,none⟩∧w.rangeAt b (off+i*4) (sgCs g).toList
theorem SgRow.below {w w':World} {v:Value} {l:List Sg} (h:SgRow w v l) (hb:Below w.heap.size w w'):SgRow w' v l:=by
 obtain⟨oa,cap,h1,h2,h3,h4⟩:=h
 exact⟨oa,cap,h1,h2,h3,fun i g hg=>by obtain⟨b,off,e,hc⟩:=h4 i g hg;exact⟨b,off,e,range_later hc hb⟩⟩
theorem sgInfo:(Tryz.prog.info? 63).map (·.size)=some 4:=by kernel_rfl
theorem wpList_load_sg {ops:Array Oper} {rest:List Oper} {o:Oper} {a:Act} {w:World} {Q:Exit→Act→World→Prop} (hgd:o.guard=none) (x:Operand) (ho:o.op= .load 63 x)
  (b off:Nat) (g:Sg) (hx:a.eval x= .pointer (some ⟨b,off,none⟩)) (hE:w.rangeAt b off (sgCs g).toList)
  (h:wpList Tryz.prog ops Q rest (a.put o.dst (sgV g)) w):wpList Tryz.prog ops Q (o::rest) a w:=
 wpList_load_mid hgd 63 x ho b off hx (sgCs g).toList _ hE Tryz.underlying63 rfl sgInfo h
def mnCs (m:Man) (sv:Value):Array Value:= #[.int .i64 m.gen,.int .i64 m.next,.int .i64 m.floor,.int .i64 m.snap,.int .i64 m.snapSeq,sv]
@[reducible] def mnV (m : Man) (sv : Value) : Value := .agg #[.int .i64 m.gen, .int .i64 m.next, .int .i64 m.floor, .int .i64 m.snap, .int .i64 m.snapSeq, sv]
def MnBlk (w:World) (g:Nat) (m:Man) (sv:Value):Prop:=w.heap[g]? =some (.cells (mnCs m sv) 34 (0,0))
theorem MnBlk.lt {w:World} {g:Nat} {m:Man} {sv:Value} (h:MnBlk w g m sv):g<w.heap.size:=(Array.getElem?_eq_some_iff.1 h).1
theorem MnBlk.below {w w':World} {g:Nat} {m:Man} {sv:Value} (h:MnBlk w g m sv) (hb:Below w.heap.size w w'):MnBlk w' g m sv:=by
 unfold MnBlk at *;rw [hb.block g (Array.getElem?_eq_some_iff.1 h).1];exact h
theorem MnBlk.keep {w w':World} {g B:Nat} {m:Man} {sv:Value} (h:MnBlk w g m sv) (hb:Below B w w') (hB:g<B):MnBlk w' g m sv:=by
 unfold MnBlk at *;rw [hb.block g hB];exact h
theorem MnBlk.cell {w:World} {g:Nat} {m:Man} {sv:Value} (h:MnBlk w g m sv) (j:Nat):w.cell? ⟨g,j,none⟩=(mnCs m sv)[j]? :=by
 unfold MnBlk at h;simp [World.cell?,h]
theorem MnBlk.c0 {w:World} {g:Nat} {m:Man} {sv:Value} (h:MnBlk w g m sv):w.cell? ⟨g,0,none⟩=some (.int .i64 m.gen):=h.cell 0
theorem MnBlk.c1 {w:World} {g:Nat} {m:Man} {sv:Value} (h:MnBlk w g m sv):w.cell? ⟨g,1,none⟩=some (.int .i64 m.next):=h.cell 1
theorem MnBlk.c2 {w:World} {g:Nat} {m:Man} {sv:Value} (h:MnBlk w g m sv):w.cell? ⟨g,2,none⟩=some (.int .i64 m.floor):=h.cell 2
theorem MnBlk.c3 {w:World} {g:Nat} {m:Man} {sv:Value} (h:MnBlk w g m sv):w.cell? ⟨g,3,none⟩=some (.int .i64 m.snap):=h.cell 3
theorem MnBlk.c4 {w:World} {g:Nat} {m:Man} {sv:Value} (h:MnBlk w g m sv):w.cell? ⟨g,4,none⟩=some (.int .i64 m.snapSeq):=h.cell 4
theorem MnBlk.c5 {w:World} {g:Nat} {m:Man} {sv:Value} (h:MnBlk w g m sv):w.cell? ⟨g,5,none⟩=some sv:=h.cell 5
theorem mnBlk_alloc (w:World) (m:Man) (sv:Value):MnBlk (w.alloc (.cells (mnCs m sv) 34)) w.heap.size m sv:=heap_alloc_new w _
theorem mnInfo:(Tryz.prog.info? 34).map (·.size)=some 6:=by kernel_rfl
theorem wpList_load_mn {ops:Array Oper} {rest:List Oper} {o:Oper} {a:Act} {w:World} {Q:Exit→Act→World→Prop} (hgd:o.guard=none) (x:Operand) (ho:o.op= .load 34 x)
  (g:Nat) (m:Man) (sv:Value) (hx:a.eval x= .pointer (some ⟨g,0,none⟩)) (hE:MnBlk w g m sv)
  (h:wpList Tryz.prog ops Q rest (a.put o.dst (mnV m sv)) w):wpList Tryz.prog ops Q (o::rest) a w:=
 wpList_load_row hgd 34 x ho g hx 34 (mnCs m sv) (0,0) _ hE Tryz.underlying34 rfl mnInfo h
theorem chain_b1 {nx first num:Int} {g:Sg} {r:List Sg} (h:(g.first != first)=true):chainOk nx first num (g::r)=false:=by
 have: ¬ g.first=first:=by simpa using h
 simp [chainOk,this]
theorem chain_b2 {nx first num:Int} {g:Sg} {r:List Sg} (h: ¬ num<g.num):chainOk nx first num (g::r)=false:=by simp [chainOk,h]
theorem chain_b3 {nx first num:Int} {g:Sg} {r:List Sg} (h: ¬ g.num<nx):chainOk nx first num (g::r)=false:=by simp [chainOk,h]
theorem chain_end {nx first num:Int} {g:Sg} (h1:g.first=first) (h2:num<g.num) (h3:g.num<nx):chainOk nx first num [g]=(decide (g.count=0)&&decide (g.foot=0)&&decide (first≤1099511627777)):=by
 simp [chainOk,h1,h2,h3]
theorem chain_b4 {nx first num:Int} {g x:Sg} {r:List Sg} (h: ¬ (1≤g.count∧g.count≤512)):chainOk nx first num (g::x::r)=false:=by
 rw [chainOk]
 have:(decide (1≤g.count)&&decide (g.count≤512))=false:=by simp;omega
 simp only [List.isEmpty_cons,Bool.false_eq_true,if_false,this,Bool.false_and,Bool.and_false]
theorem chain_b5 {nx first num:Int} {g x:Sg} {r:List Sg} (h: ¬ (1≤g.foot∧g.foot≤1099511627776)):chainOk nx first num (g::x::r)=false:=by
 rw [chainOk]
 have:(decide (1≤g.foot)&&decide (g.foot≤1099511627776))=false:=by simp;omega
 simp only [List.isEmpty_cons,Bool.false_eq_true,if_false,Bool.and_assoc]
 rw [←Bool.and_assoc (decide (1≤g.foot)),this]
 simp
theorem chain_go {nx first num:Int} {g x:Sg} {r:List Sg} (h1:g.first=first) (h2:num<g.num) (h3:g.num<nx) (h4:1≤g.count∧g.count≤512) (h5:1≤g.foot∧g.foot≤1099511627776):
  chainOk nx first num (g::x::r)=chainOk nx (first+g.count) g.num (x::r):=by
 rw [chainOk]
 simp [h1,h2,h3,h4.1,h4.2,h5.1,h5.2]
theorem drop_cons {α:Type} {l:List α} {k:Nat} {x:α} (h:l[k]? =some x):l.drop k=x::l.drop (k+1):=by
 obtain⟨h1,h2⟩:=List.getElem?_eq_some_iff.1 h
 rw [List.drop_eq_getElem_cons h1,h2]
theorem within_any (x lo hi:Int) (w:World):Calls Tryz.prog 68 #[.int .i64 x,.int .i64 lo,.int .i64 hi] w fun e w'=>e= .returned (.bool (decide (lo≤x)&&decide (x≤hi)))∧w=w':=by
 rcases h1:decide (lo≤x)
 ·go_enter Tryz.func68,Tryz.ntmps68
  go_wp2
  go_ret
  exact⟨rfl,rfl⟩
 rcases h2:decide (x≤hi)
 all_goals
  go_enter Tryz.func68,Tryz.ntmps68
  go_wp2
  go_ret
  exact⟨rfl,rfl⟩
end Go.Proofs.YtcglcphhfmkccaaGreatDoor
namespace Go.Proofs.YtcglcphhfmkccaaGreatDoor
open Go.RowKit
set_option maxRecDepth 100000 in
set_option maxHeartbeats 4000000 in
theorem chained_any (m:Man) (sv:Value) (w:World) (hr:SgRow w sv m.segs) (hf0:0≤m.floor) (hf1:m.floor≤1099511627776) (hn:m.segs.length≤256):
  Calls Tryz.prog 69 #[mnV m sv] w fun e w'=>e= .returned (.bool (chainOk m.next (m.floor+1) 0 m.segs))∧Below w.heap.size w w':=by
 obtain⟨oa,cap,rfl,hl1,hl2,hc⟩:=hr
 have HC:=Lib.hid hc
 have HM0:=Lib.hid (mnBlk_alloc w m (.slice oa m.segs.length cap))
 have hfl:IntKind.i64.wrap (m.floor+1)=m.floor+1:=by rw [IntKind.wrap_i64];omega
 clear hc
 go_enter Tryz.func69,Tryz.ntmps69
 go_wp2
 go_loopw [3,4,13] (fun fv nv iv wr=> ∃ (k:Nat) (first num:Int),k≤m.segs.length∧iv= .int .i64 k∧fv= .int .i64 first∧nv= .int .i64 num∧1≤first∧first≤1099511627777+512*(k:Int)∧MnBlk wr w.heap.size m (.slice oa m.segs.length cap)∧
  Hid (chainOk m.next (m.floor+1) 0 m.segs=chainOk m.next first num (m.segs.drop k))∧Below w.heap.size w wr) (fun _ _ iv _=>m.segs.length - (intOf iv).toNat)
 case atStart=>exact⟨0,m.floor+1,0,Nat.zero_le _,rfl,rfl,rfl,by omega,by omega,HM0.out,Lib.hid rfl,below_alloc _ _⟩
 case round=>
  clear HM0 hfl
  obtain⟨k,first,num,hk,rfl,rfl,rfl,hp1,hp2,hmn,HE,hb⟩:=hrel
  have HM:=Lib.hid hmn
  have HB:=Lib.hid hb
  clear hmn hb
  by_cases hlt:k<m.segs.length
  ·obtain⟨g,hg,_,_⟩:=nth m.segs k hlt
   obtain⟨b,off,rfl,hcell⟩:=HC.out k g hg
   have q1:(k:Int)<(m.segs.length:Int):=by omega
   have HCE:=Lib.hid (range_later hcell HB.out)
   have HD:=Lib.hid (drop_cons hg)
   have c1:=HM.out.c1
   have c5:=HM.out.c5
   have c1':=(HM.out.below (below_alloc wr (.cells (sgCs g) 63))).c1
   have c5':=(HM.out.below (below_alloc wr (.cells (sgCs g) 63))).c5
   simp only [sgCs] at c1' c5'
   have HB1:=Lib.hid (fun o=>Below.next HB.out (below_alloc wr o))
   clear hg hcell
   rcases e1:(g.first != first) with _ | _
   case true=>
    have HR:=Lib.hid (show chainOk m.next (m.floor+1) 0 m.segs=false by rw [HE.out,HD.out,chain_b1 e1])
    go_wp2_with (with_reducible refine wpList_load_sg rfl (.tmp 16) rfl b (off+k*4) g rfl HCE.out ?_)
    go_ret
    exact⟨by rw [HR.out];rfl,HB1.out _⟩
   have e1':g.first=first:=by simpa using e1
   by_cases e2:num<g.num
   case neg=>
    have HR:=Lib.hid (show chainOk m.next (m.floor+1) 0 m.segs=false by rw [HE.out,HD.out,chain_b2 e2])
    have t2:decide (g.num≤num)=true:=by simp;omega
    clear e2 e1'
    go_wp2_with (with_reducible refine wpList_load_sg rfl (.tmp 16) rfl b (off+k*4) g rfl HCE.out ?_)
    go_ret
    exact⟨by rw [HR.out];rfl,HB1.out _⟩
   have t2:decide (g.num≤num)=false:=by simp;omega
   by_cases e3:g.num<m.next
   case neg=>
    have HR:=Lib.hid (show chainOk m.next (m.floor+1) 0 m.segs=false by rw [HE.out,HD.out,chain_b3 e3])
    have t3:decide (m.next≤g.num)=true:=by simp;omega
    clear e2 e1' e3
    go_wp2_with (with_reducible refine wpList_load_sg rfl (.tmp 16) rfl b (off+k*4) g rfl HCE.out ?_)
    go_ret
    exact⟨by rw [HR.out];rfl,HB1.out _⟩
   have t3:decide (m.next≤g.num)=false:=by simp;omega
   have HO:=Lib.hid (show g.first=first∧num<g.num∧g.num<m.next from⟨e1',e2,e3⟩)
   clear e2 e1' e3
   by_cases hlast:k+1=m.segs.length
   ·have HR:=Lib.hid (show chainOk m.next (m.floor+1) 0 m.segs=(decide (g.count=0)&&decide (g.foot=0)&&decide (first≤1099511627777)) by
     rw [HE.out,HD.out,List.drop_of_length_le (by omega),chain_end HO.out.1 HO.out.2.1 HO.out.2.2])
    have t4:((k:Int)==(m.segs.length:Int) - 1)=true:=by simp;omega
    rcases u1:(g.count==0) with _ | _
    ·have HR2:=Lib.hid (show chainOk m.next (m.floor+1) 0 m.segs=false by rw [HR.out];simp at u1 ⊢;simp [u1])
     clear HR
     go_wp2_with (with_reducible refine wpList_load_sg rfl (.tmp 16) rfl b (off+k*4) g rfl HCE.out ?_)
     go_ret
     exact⟨by rw [HR2.out];rfl,HB1.out _⟩
    rcases u2:(g.foot==0) with _ | _
    ·have HR2:=Lib.hid (show chainOk m.next (m.floor+1) 0 m.segs=false by rw [HR.out];simp at u2 ⊢;simp [u2])
     clear HR
     go_wp2_with (with_reducible refine wpList_load_sg rfl (.tmp 16) rfl b (off+k*4) g rfl HCE.out ?_)
     go_ret
     exact⟨by rw [HR2.out];rfl,HB1.out _⟩
    rcases u3:decide (first≤1099511627777)
    all_goals
     have HR2:=Lib.hid (show chainOk m.next (m.floor+1) 0 m.segs=decide (first≤1099511627777) by rw [HR.out];simp at u1 u2;simp [u1,u2])
     rw [u3] at HR2
     clear HR
     go_wp2_with (with_reducible refine wpList_load_sg rfl (.tmp 16) rfl b (off+k*4) g rfl HCE.out ?_)
     go_ret
     exact⟨by rw [HR2.out];rfl,HB1.out _⟩
   ·obtain⟨x,hx,_,_⟩:=nth m.segs (k+1) (by omega)
    have HD2:=Lib.hid (drop_cons hx)
    have t4:((k:Int)==(m.segs.length:Int) - 1)=false:=by simp;omega
    clear hx
    by_cases e4:1≤g.count∧g.count≤512
    case neg=>
     have HR:=Lib.hid (show chainOk m.next (m.floor+1) 0 m.segs=false by rw [HE.out,HD.out,HD2.out,chain_b4 e4])
     have HT:=Lib.hid (show (decide (1≤g.count)&&decide (g.count≤512))=false by simp;omega)
     clear e4
     go_wp2_with (first | (with_reducible refine wpList_load_sg rfl (.tmp 16) rfl b (off+k*4) g rfl HCE.out ?_) | (go_at_call 68;refine(within_any _ _ _ _).mono ?_;rw [HT.out];rintro e w1 ⟨rfl,rfl⟩))
     go_ret
     exact⟨by rw [HR.out];rfl,HB1.out _⟩
    have HT:=Lib.hid (show (decide (1≤g.count)&&decide (g.count≤512))=true by simp;omega)
    by_cases e5:1≤g.foot∧g.foot≤1099511627776
    case neg=>
     have HR:=Lib.hid (show chainOk m.next (m.floor+1) 0 m.segs=false by rw [HE.out,HD.out,HD2.out,chain_b5 e5])
     have HT2:=Lib.hid (show (decide (1≤g.foot)&&decide (g.foot≤1099511627776))=false by simp;omega)
     clear e4 e5
     go_wp2_with (first | (with_reducible refine wpList_load_sg rfl (.tmp 16) rfl b (off+k*4) g rfl HCE.out ?_) | (go_at_call 68;refine(within_any _ _ _ _).mono ?_;(first | rw [HT.out] | rw [HT2.out]);rintro e w1 ⟨rfl,rfl⟩))
     go_ret
     exact⟨by rw [HR.out];rfl,HB1.out _⟩
    have HT2:=Lib.hid (show (decide (1≤g.foot)&&decide (g.foot≤1099511627776))=true by simp;omega)
    have HR:=Lib.hid (show chainOk m.next (m.floor+1) 0 m.segs=chainOk m.next (first+g.count) g.num (m.segs.drop (k+1)) by rw [HE.out,HD.out,HD2.out,chain_go HO.out.1 HO.out.2.1 HO.out.2.2 e4 e5])
    have hw:IntKind.i64.wrap (first+g.count)=first+g.count:=by rw [IntKind.wrap_i64];omega
    have hq:1≤first+g.count∧first+g.count≤1099511627777+512*((k+1:Nat):Int):=by omega
    have HQ:=Lib.hid hq
    have HMA:=Lib.hid (fun o=>HM.out.below (below_alloc wr o))
    clear e4 e5 hq
    go_wp2_with (first | (with_reducible refine wpList_load_sg rfl (.tmp 16) rfl b (off+k*4) g rfl HCE.out ?_) | (go_at_call 68;refine(within_any _ _ _ _).mono ?_;(first | rw [HT.out] | rw [HT2.out]);rintro e w1 ⟨rfl,rfl⟩))
    go_roundw
    case rel=>exact⟨k+1,first+g.count,g.num,by omega,by go_num,rfl,rfl,HQ.out.1,HQ.out.2,HMA.out _,HR,HB1.out _⟩
    case measure=>simp [intOf];omega
  ·obtain rfl:k=m.segs.length:=by omega
   have HR:=Lib.hid (show chainOk m.next (m.floor+1) 0 m.segs=false by rw [HE.out,List.drop_of_length_le (Nat.le_refl _)];rfl)
   go_wp2
   go_ret
   exact⟨by rw [HR.out];rfl,HB.out⟩
end Go.Proofs.YtcglcphhfmkccaaGreatDoor
namespace Go.Proofs.YtcglcphhfmkccaaGreatDoor
open Go.RowKit
def W2 (x lo hi:Int):Bool:=decide (lo≤x)&&decide (x≤hi)
theorem manOk_eq (m:Man):manOk m=(W2 m.gen 1 1099511627776&&W2 m.next 2 1000000&&W2 m.snapSeq 0 1099511627776&&W2 m.floor 0 m.snapSeq&&W2 m.snap 0 (m.next - 1)&&((m.snap==0)==(m.snapSeq==0))&&decide (m.segs.length≤256)&&chainOk m.next (m.floor+1) 0 m.segs):=by
 have e:decide (m.snap<m.next)=decide (m.snap≤m.next - 1):=by
  rw [decide_eq_decide];omega
 have e1:decide (m.snap=0)=(m.snap==0):=by by_cases h:m.snap=0<;>simp [h]
 have e2:decide (m.snapSeq=0)=(m.snapSeq==0):=by by_cases h:m.snapSeq=0<;>simp [h]
 unfold manOk W2
 rw [e,e1,e2]
 simp only [Bool.and_assoc]
theorem withinW_any (x lo hi:Int) (w:World):Calls Tryz.prog 68 #[.int .i64 x,.int .i64 lo,.int .i64 hi] w fun e w'=>e= .returned (.bool (W2 x lo hi))∧w=w':=within_any x lo hi w
set_option maxRecDepth 100000 in
set_option maxHeartbeats 4000000 in
theorem manValid_any (m:Man) (sv:Value) (w:World) (hr:SgRow w sv m.segs):
  Calls Tryz.prog 41 #[mnV m sv] w fun e w'=>e= .returned (.bool (manOk m))∧Below w.heap.size w w':=by
 have HR:=Lib.hid (hr.below (below_alloc w (.cells (mnCs m sv) 34)))
 have HB:=Lib.hid (below_alloc w (.cells (mnCs m sv) 34))
 have hm:=mnBlk_alloc w m sv
 have c0:=hm.c0
 have c1:=hm.c1
 have c2:=hm.c2
 have c3:=hm.c3
 have c4:=hm.c4
 have c5:=hm.c5
 simp only [mnCs] at c0 c1 c2 c3 c4 c5
 obtain⟨oa,cap,rfl,_,_,hcc⟩:=hr
 clear hcc hm
 rcases h1:W2 m.gen 1 1099511627776
 ·have HO:=Lib.hid (show manOk m=false by rw [manOk_eq,h1];rfl)
  go_enter Tryz.func41,Tryz.ntmps41
  go_wp2_with (go_at_call 68;refine(withinW_any _ _ _ _).mono ?_;rw [h1];rintro e w1 ⟨rfl,rfl⟩)
  go_ret
  exact⟨by rw [HO.out];rfl,HB.out⟩
 rcases h2:W2 m.next 2 1000000
 ·have HO:=Lib.hid (show manOk m=false by rw [manOk_eq,h1,h2];rfl)
  go_enter Tryz.func41,Tryz.ntmps41
  go_wp2_with (go_at_call 68;refine(withinW_any _ _ _ _).mono ?_;(first | rw [h1] | rw [h2]);rintro e w1 ⟨rfl,rfl⟩)
  go_ret
  exact⟨by rw [HO.out];rfl,HB.out⟩
 rcases h3:W2 m.snapSeq 0 1099511627776
 ·have HO:=Lib.hid (show manOk m=false by rw [manOk_eq,h1,h2,h3];rfl)
  go_enter Tryz.func41,Tryz.ntmps41
  go_wp2_with (go_at_call 68;refine(withinW_any _ _ _ _).mono ?_;(first | rw [h1] | rw [h2] | rw [h3]);rintro e w1 ⟨rfl,rfl⟩)
  go_ret
  exact⟨by rw [HO.out];rfl,HB.out⟩
 rcases h4:W2 m.floor 0 m.snapSeq
 ·have HO:=Lib.hid (show manOk m=false by rw [manOk_eq,h1,h2,h3,h4];rfl)
  go_enter Tryz.func41,Tryz.ntmps41
  go_wp2_with (go_at_call 68;refine(withinW_any _ _ _ _).mono ?_;(first | rw [h1] | rw [h2] | rw [h3] | rw [h4]);rintro e w1 ⟨rfl,rfl⟩)
  go_ret
  exact⟨by rw [HO.out];rfl,HB.out⟩
 have hB:2≤m.next∧m.next≤1000000∧0≤m.floor∧m.floor≤1099511627776:=by
  simp only [W2,Bool.and_eq_true,decide_eq_true_eq] at h2 h3 h4;omega
 have hw:IntKind.i64.wrap (m.next - 1)=m.next - 1:=by rw [IntKind.wrap_i64];omega
 rcases h5:W2 m.snap 0 (m.next - 1)
 ·have HO:=Lib.hid (show manOk m=false by rw [manOk_eq,h1,h2,h3,h4,h5];rfl)
  go_enter Tryz.func41,Tryz.ntmps41
  go_wp2_with (go_at_call 68;refine(withinW_any _ _ _ _).mono ?_;(first | rw [h1] | rw [h2] | rw [h3] | rw [h4] | rw [h5]);rintro e w1 ⟨rfl,rfl⟩)
  go_ret
  exact⟨by rw [HO.out];rfl,HB.out⟩
 rcases h6:((m.snap==0)==(m.snapSeq==0))
 ·have HO:=Lib.hid (show manOk m=false by rw [manOk_eq,h1,h2,h3,h4,h5,h6];rfl)
  go_enter Tryz.func41,Tryz.ntmps41
  go_wp2_with (go_at_call 68;refine(withinW_any _ _ _ _).mono ?_;(first | rw [h1] | rw [h2] | rw [h3] | rw [h4] | rw [h5]);rintro e w1 ⟨rfl,rfl⟩)
  go_ret
  exact⟨by rw [HO.out];rfl,HB.out⟩
 by_cases h7:m.segs.length≤256
 case neg=>
  have HO:=Lib.hid (show manOk m=false by rw [manOk_eq,h1,h2,h3,h4,h5,h6,decide_eq_false h7];rfl)
  have t7:decide ((m.segs.length:Int)≤256)=false:=by simp;omega
  clear h7
  go_enter Tryz.func41,Tryz.ntmps41
  go_wp2_with (go_at_call 68;refine(withinW_any _ _ _ _).mono ?_;(first | rw [h1] | rw [h2] | rw [h3] | rw [h4] | rw [h5]);rintro e w1 ⟨rfl,rfl⟩)
  go_ret
  exact⟨by rw [HO.out];rfl,HB.out⟩
 have HO:=Lib.hid (show manOk m=chainOk m.next (m.floor+1) 0 m.segs by rw [manOk_eq,h1,h2,h3,h4,h5,h6,decide_eq_true h7];rfl)
 have t7:decide ((m.segs.length:Int)≤256)=true:=by simp;omega
 have HCH:=Lib.hid (chained_any m _ _ HR.out hB.2.2.1 hB.2.2.2 h7)
 clear h7 hB
 go_enter Tryz.func41,Tryz.ntmps41
 go_wp2_with (first | (go_at_call 68;refine(withinW_any _ _ _ _).mono ?_;(first | rw [h1] | rw [h2] | rw [h3] | rw [h4] | rw [h5]);rintro e w1 ⟨rfl,rfl⟩) | (go_at_call 69;refine HCH.out.mono ?_;rintro e w1 ⟨rfl,hb1⟩))
 go_ret
 exact⟨by rw [HO.out];rfl,Below.next HB.out hb1⟩
end Go.Proofs.YtcglcphhfmkccaaGreatDoor

namespace Go.Proofs.YtcglcphhfmkccaaGreatDoor
open Go.RowKit
attribute [local go_sem] Oper.semAt_some
def maxU (us:List Nat):Nat:=us.foldl Nat.max 0
theorem maxU_snoc (us:List Nat) (x:Nat):maxU (us++[x])=Nat.max (maxU us) x:=by simp [maxU]
theorem maxU_take {us:List Nat} {k x:Nat} (h:us[k]? =some x):maxU (us.take (k+1))=Nat.max (maxU (us.take k)) x:=by
 obtain⟨h1,h2⟩:=List.getElem?_eq_some_iff.1 h
 rw [List.take_succ_eq_append_getElem h1,h2,maxU_snoc]
theorem maxU_le {us:List Nat}: ∀ {x:Nat},x∈us→x≤maxU us:=by
 suffices h: ∀ (us:List Nat) (a:Nat),a≤us.foldl Nat.max a∧ ∀ x∈us,x≤us.foldl Nat.max a from fun {x} hx=>(h us 0).2 x hx
 intro us
 induction us with
 | nil=>intro a;exact⟨Nat.le_refl _,fun _ h=>by cases h⟩
 | cons y ys ih=>
  intro a
  obtain⟨h1,h2⟩:=ih (Nat.max a y)
  refine⟨Nat.le_trans (Nat.le_max_left _ _) h1,fun x hx=> ?_⟩
  rcases List.mem_cons.1 hx with rfl | hx
  ·exact Nat.le_trans (Nat.le_max_right _ _) h1
  ·exact h2 x hx
set_option maxRecDepth 100000 in
set_option maxHeartbeats 2000000 in
theorem max_any (us:List Nat) (v:Value) (w:World) (hv:URow w v us) (hne:0<us.length) (hl:us.length≤1000000):
  Calls Tryz.prog 51 #[v] w fun e w'=>e= .returned (.int .u64 (maxU us:Int))∧w=w':=by
 obtain⟨oa,cap,rfl,hlc,hc⟩:=hv
 have HC:=Lib.hid hc
 obtain⟨x0,hx0,_,_⟩:=nth us 0 hne
 obtain⟨b,off,rfl,hc0⟩:=hc 0 x0 hx0
 rw [Nat.add_zero] at hc0
 have HX:=Lib.hid (show maxU (us.take 1)=x0 by rw [maxU_take hx0];simp [maxU])
 have t1:decide ((us.length:Int)<1)=false:=by simp;omega
 have q0:(0:Int)<(us.length:Int):=by omega
 clear hc hx0
 go_enter Tryz.func51,Tryz.ntmps51
 go_wp2
 clear hc0
 go_loopw [3,4] (fun mv iv wr=> ∃ k:Nat,1≤k∧k≤us.length∧iv= .int .i64 (k:Int)∧mv= .int .u64 ((maxU (us.take k):Nat):Int)∧wr=w) (fun _ iv _=>us.length - (intOf iv).toNat)
 case atStart=>exact⟨1,Nat.le_refl _,by omega,rfl,by rw [HX.out],rfl⟩
 case round=>
  clear q0 t1
  obtain⟨k,hk1,hk,rfl,rfl,rfl⟩:=hrel
  by_cases hlt:k<us.length
  ·obtain⟨x,hx,_,_⟩:=nth us k hlt
   have q1:(k:Int)<(us.length:Int):=by omega
   obtain⟨b',off',e',hcx⟩:=HC.out k x hx
   simp only [Option.some.injEq,Addr.mk.injEq,and_true] at e'
   obtain⟨rfl,rfl⟩:=e'
   have HM:=Lib.hid (maxU_take hx)
   obtain⟨m,hm⟩: ∃ m,m=maxU (us.take k):=⟨_,rfl⟩
   rw [←hm] at HM ⊢
   clear hx hm
   go_wp2
   go_roundw
   case rel=>exact⟨k+1,by omega,by omega,by go_num,by rw [HM.out];congr 1;show _=((max m x:Nat):Int);omega,by first | rfl | trivial⟩
   case measure=>simp [intOf];omega
  ·obtain rfl:k=us.length:=by omega
   have HT:=Lib.hid (show us.take us.length=us from List.take_length)
   go_wp2
   go_ret
   first | exact⟨rfl,rfl⟩ | exact⟨by rw [HT.out];rfl,rfl⟩ | exact⟨by simp,rfl⟩
theorem run_cutU_l (oa:Option Addr) (len cap n:Nat) (h:n≤len) (w:World):(Instr.slice 108 (.slice oa len cap) (some (.int .i64 n)) none none).run Tryz.prog w= .ok (sliced oa n len cap 1) w:=by
 rw [run_slice_l (P:=Tryz.prog) w 108 oa len cap (by kernel_rfl) .i64 n (by omega) (by omega)]
 have:(sizeOf (Tryz.prog.elem 108)).run Tryz.prog w= .ok 1 w:=by kernel_rfl
 rw [this];rfl
theorem run_cutU_lhm (oa:Option Addr) (len cap lo hi mx:Nat) (h1:lo≤hi) (h2:hi≤mx) (h3:mx≤cap) (w:World):(Instr.slice 108 (.slice oa len cap) (some (.int .i64 lo)) (some (.int .i64 hi)) (some (.int .i64 mx))).run Tryz.prog w= .ok (sliced oa lo hi mx 1) w:=by
 rw [run_slice_lhm (P:=Tryz.prog) w 108 oa len cap (by kernel_rfl) .i64 .i64 .i64 lo hi mx (by omega) (by omega) (by omega) (by omega)]
 have:(sizeOf (Tryz.prog.elem 108)).run Tryz.prog w= .ok 1 w:=by kernel_rfl
 rw [this];rfl
theorem sliceAt_u (oa:Option Addr) (len cap:Nat) (x y z:Option Value) (w:World):(Instr.sliceAt 108 (.slice oa len cap) x y z).run Tryz.prog w=(Instr.slice 108 (.slice oa len cap) x y z).run Tryz.prog w:=
 run_sliceAt_slice _ _ _ _ _ _ (by kernel_rfl)
theorem run_ch_tail (b off len cap i:Nat) (h:i<len) (h2:len≤cap) (w:World):(Instr.sliceAt 108 (.slice (some ⟨b,off,none⟩) len cap) (some (.int .i64 (i:Int))) none none).run Tryz.prog w= .ok (.slice (some ⟨b,off+i,none⟩) (len - i) (cap - i)) w:=by
 rw [sliceAt_u,run_cutU_l _ _ _ _ (by omega)]
 unfold sliced
 rw [if_neg (by omega)]
 simp [Addr.add]
theorem run_ch_cut (b off len cap i:Nat) (h:i+4≤cap) (w:World):(Instr.sliceAt 108 (.slice (some ⟨b,off,none⟩) len cap) (some (.int .i64 (i:Int))) (some (.int .i64 ((i:Int)+4))) (some (.int .i64 ((i:Int)+4)))).run Tryz.prog w= .ok (.slice (some ⟨b,off+i,none⟩) 4 4) w:=by
 have:=run_cutU_lhm (some ⟨b,off,none⟩) len cap i (i+4) (i+4) (by omega) (by omega) h w
 have e4:((i+4:Nat):Int)=(i:Int)+4:=by omega
 rw [e4] at this
 rw [sliceAt_u,this]
 unfold sliced
 rw [if_neg (by omega)]
 simp [Addr.add]
def fours:List Nat→List (List Nat)
 | a::b::c::d::r=>[a,b,c,d]::fours r
 | _=>[]
theorem fours_len: ∀ us:List Nat,(fours us).length≤us.length
 | []=>by simp [fours]
 | [_]=>by simp [fours]
 | [_,_]=>by simp [fours]
 | [_,_,_]=>by simp [fours]
 | a::b::c::d::r=>by
  have:=fours_len r
  simp only [fours,List.length_cons]
  omega
abbrev ChX:=List Nat×Value
def chEnc (x:ChX):Array Value:= #[x.2]
def ChR (us:List Nat) (b:Nat) (pre:List ChX) (x:ChX) (_ W:World):Prop:=(pre++[x]).map (·.1) <+: fours us∧(∀ u∈x.1,u≤maxU us)∧x.1.length=4∧ ∃ off,x.2= .slice (some ⟨b,off,none⟩) 4 4∧ ∀ (i:Nat) u,x.1[i]? =some u→W.cell? ⟨b,off+i,none⟩=some (.int .u64 (u:Int))
def ChKeep (g1 g2 b off cap:Nat) (us:List Nat) (W:World):Prop:=W.cell? ⟨g1,0,none⟩=some (.slice (some ⟨b,off,none⟩) us.length cap)∧W.cell? ⟨g2,0,none⟩=some (.int .i64 4)∧ ∀ (i:Nat) u,us[i]? =some u→W.cell? ⟨b,off+i,none⟩=some (.int .u64 (u:Int))
theorem ChKeep.below {g1 g2 b off cap:Nat} {us:List Nat} {W W':World} (h:ChKeep g1 g2 b off cap us W) (hb:Below W.heap.size W W'):ChKeep g1 g2 b off cap us W':=⟨cell_later hb h.1,cell_later hb h.2.1,fun i u hu=>cell_later hb (h.2.2 i u hu)⟩
theorem Kept.ofB {B:Nat} {W W':World} (h:Below W.heap.size W W'):Kept B W W':=⟨h.os,h.tape,h.output,h.size,fun k _ hk _=>(h.block k (Array.getElem?_eq_some_iff.1 hk).1).trans hk⟩
theorem fours_step {us:List Nat} {i a b c d:Nat} (h0:us[i]? =some a) (h1:us[i+1]? =some b) (h2:us[i+2]? =some c) (h3:us[i+3]? =some d):fours (us.drop i)=[a,b,c,d]::fours (us.drop (i+4)):=by
 rw [drop_cons8 h0,drop_cons8 h1,drop_cons8 h2,drop_cons8 h3];rfl
set_option maxRecDepth 100000 in
set_option maxHeartbeats 4000000 in
theorem chunk1_seq (us:List Nat) (m g1 g2 b off cap:Nat) (hm:us.length=4*m) (hl:us.length≤1000000) (hcap:us.length≤cap) (w:World) (Kp:World→World→Prop) (hE:ChKeep g1 g2 b off cap us w)
  (hK: ∀ W W',w.heap.size≤W.heap.size→ChKeep g1 g2 b off cap us W→Kp W W'→ChKeep g1 g2 b off cap us W'∧W.heap.size≤W'.heap.size):
  SeqR Tryz.prog 87 #[.pointer (some ⟨g1,0,none⟩),.pointer (some ⟨g2,0,none⟩)] chEnc (ChR us b) Kp (fun xs=>xs.map (·.1)=fours us) (fun _=>True) w:=fun l J Jx W hW hJ hJx hY h0=>by
 have HE:=Lib.hid (hE.below hW)
 have HK:=Lib.hid hK
 have HY:=Lib.hid hY
 have HJ:=Lib.hid hJ
 have H0:=Lib.hid h0
 have HW:=Lib.hid hW.size
 have HM:=Lib.hid hm
 clear hE hK hY hJ hJx h0 hW
 refine callsIn_of_wp Tryz.func87 rfl trivial ?_ rfl
 simp only [Tryz.ntmps87,List.size_toArray,List.length_cons,List.length_nil,Nat.reduceAdd,Nat.reduceSub,Array.replicate_succ,Array.replicate_zero,List.push_toArray,List.append_toArray,List.nil_append,List.cons_append]
 gi_wp2
 gi_loopw [4] (fun i wr=> ∃ (p:Nat) (pre:List ChX),p≤us.length∧i= .int .i64 (p:Int)∧Hid (p % 4=0)∧Hid (J pre wr)∧Hid (ChKeep g1 g2 b off cap us wr)∧Hid (W.heap.size≤wr.heap.size)∧Hid (fours us=pre.map (·.1)++fours (us.drop p))) (fun i _=>us.length - (intOf i).toNat)
 case atStart=>exact⟨0,[],Nat.zero_le _,rfl,Lib.hid rfl,H0,HE,Lib.hid (Nat.le_refl _),Lib.hid rfl⟩
 case round=>
  clear HE H0 hm
  obtain⟨i,pre,hk,rfl,HP4,HJr,HEr,HSr,HF⟩:=hrel
  have c1:=HEr.out.1
  have c2:=HEr.out.2.1
  by_cases hlt:i<us.length
  ·have q1:(i:Int)<(us.length:Int):=by omega
   have hi4:i+4≤us.length:=by have:=HM.out;have:=HP4.out;omega
   have htail:=fun W=>run_ch_tail b off us.length cap i hlt hcap W
   obtain⟨n,hn⟩: ∃ n,n=us.length - i:=⟨_,rfl⟩
   rw [←hn] at htail
   have hmin:min (4:Int) (n:Int)=4:=by omega
   have hcut:=fun W=>run_ch_cut b off us.length cap i (by omega) W
   have hw4:IntKind.i64.wrap ((i:Int)+4)=(i:Int)+4:=by rw [IntKind.wrap_i64];omega
   obtain⟨a0,ha0,_,_⟩:=nth us i (by omega)
   obtain⟨a1,ha1,_,_⟩:=nth us (i+1) (by omega)
   obtain⟨a2,ha2,_,_⟩:=nth us (i+2) (by omega)
   obtain⟨a3,ha3,_,_⟩:=nth us (i+3) (by omega)
   have HFS:=Lib.hid (fours_step ha0 ha1 ha2 ha3)
   have hmx: ∀ u∈ [a0,a1,a2,a3],u≤maxU us:=fun u hu=>by
    simp only [List.mem_cons,List.not_mem_nil,or_false] at hu
    rcases hu with rfl | rfl | rfl | rfl
    ·exact maxU_le (List.mem_of_getElem? ha0)
    ·exact maxU_le (List.mem_of_getElem? ha1)
    ·exact maxU_le (List.mem_of_getElem? ha2)
    ·exact maxU_le (List.mem_of_getElem? ha3)
   have hpf:(pre++[(([a0,a1,a2,a3]:List Nat),Value.slice (some ⟨b,off+i,none⟩) 4 4)]).map (·.1) <+: fours us:=by
    rw [HF.out,HFS.out,List.map_append]
    exact(List.prefix_append_right_inj _).2 ⟨_,rfl⟩
   have HXR:=Lib.hid (show ∀ W,ChKeep g1 g2 b off cap us W→ChR us b pre ([a0,a1,a2,a3],.slice (some ⟨b,off+i,none⟩) 4 4) wr W from fun W h=>⟨hpf,hmx,rfl,off+i,rfl,fun j u hj=>by
    rw [Nat.add_assoc]
    refine h.2.2 (i+j) u ?_
    match j,hj with
    | 0,hj=>simp at hj;subst hj;exact ha0
    | 1,hj=>simp at hj;subst hj;exact ha1
    | 2,hj=>simp at hj;subst hj;exact ha2
    | 3,hj=>simp at hj;subst hj;exact ha3⟩)
   clear ha0 ha1 ha2 ha3 hn hmx hpf
   gi_wp2
   refine(wpIn_wide (n:=2)).2 ?_
   go_quiet (fail)
   have HB2:=Lib.hid (below_drewN' wr nq)
   have HE2:=Lib.hid (HEr.out.below HB2.out)
   have HK2:=Lib.hid (Kept.ofB (B:=W.heap.size) HB2.out)
   have HS2:=Lib.hid (Nat.le_trans HSr.out HB2.out.size)
   have HW2:=Lib.hid (Nat.le_trans HW.out HS2.out)
   generalize wr.drewN nq=w2 at*
   have c1:=HE2.out.1
   have c2:=HE2.out.2.1
   clear htail HB2 HEr hmin
   obtain⟨fn,tmps,assign,body,hy,hR⟩:=HY.out pre ([a0,a1,a2,a3],.slice (some ⟨b,off+i,none⟩) 4 4) wr w2 HJr.out HSr.out HK2.out (HXR.out _ HE2.out)
   simp only [chEnc] at hy
   gi_wp2
   refine hR.mono ?_
   rintro e W3 (⟨rfl,hJ3,hk3⟩ | ⟨rfl,hJx3⟩)
   ·obtain⟨hE3,hs3⟩:=HK.out _ _ HW2.out HE2.out hk3
    have HE3:=Lib.hid hE3
    have HS3:=Lib.hid (Nat.le_trans HS2.out hs3)
    have HJ3:=Lib.hid hJ3
    have c2:=hE3.2.1
    clear hE3 hs3 hJ3 hk3 hy hR HE2
    gi_wp2
    go_roundw
    case rel=>exact⟨i+4,pre++[([a0,a1,a2,a3],.slice (some ⟨b,off+i,none⟩) 4 4)],by omega,by go_num,Lib.hid (by have:=HP4.out;omega),HJ3,HE3,HS3,Lib.hid (by rw [HF.out,HFS.out];simp)⟩
    case measure=>simp [intOf];omega
   ·gi_wp2
    refine bodyPost_ret (results_none rfl _ _ _) rfl ?_
    exact⟨⟨_,rfl⟩,.inr ⟨_,trivial,hJx3⟩⟩
  ·obtain rfl:i=us.length:=by omega
   have HFE:=Lib.hid (show pre.map (·.1)=fours us by rw [HF.out,List.drop_length];simp [fours])
   gi_wp2
   go_end0
   exact⟨⟨_,rfl⟩,.inl ⟨_,HFE.out,HJr.out⟩⟩
theorem chunk_any (b off len cap:Nat) (w:World):Calls Tryz.prog 52 #[.slice (some ⟨b,off,none⟩) len cap,.int .i64 4] w fun e w'=>e= .returned (.func (.func 87) #[] #[.pointer (some ⟨w.heap.size,0,none⟩),.pointer (some ⟨w.heap.size+1,0,none⟩)])∧
  w'=(w.alloc (.cells #[.slice (some ⟨b,off,none⟩) len cap] 108)).alloc (.cells #[.int .i64 4] 3):=by
 have hmk: ∀ (fn:Fn) (first cap:Array Value) (W:World),(Instr.makeFunc fn first cap).run Tryz.prog W= .ok (.func fn first cap) W:=fun _ _ _ _=>rfl
 have c2:((w.alloc (.cells #[.slice (some ⟨b,off,none⟩) len cap] 108)).alloc (.cells #[.int .i64 4] 3)).cell? ⟨w.heap.size+1,0,none⟩=some (.int .i64 4):=by
  have:=World.cell?_alloc_new (w.alloc (.cells #[.slice (some ⟨b,off,none⟩) len cap] 108)) #[.int .i64 4] 3 0
  rw [World.size_alloc] at this
  rw [this];rfl
 go_enter Tryz.func52,Tryz.ntmps52
 go_wp2
 go_ret
 exact⟨rfl,rfl⟩
end Go.Proofs.YtcglcphhfmkccaaGreatDoor

namespace Go.Proofs.YtcglcphhfmkccaaGreatDoor
open Go.RowKit
def uCells (us:List Nat):List Value:=us.map fun(u:Nat)=>Value.int .u64 (u:Int)
def OwnU (w:World) (B:Nat) (v:Value) (us:List Nat):Prop:=w.ownsRow B 111 1 v us.length (uCells us)
theorem OwnU.later {w w':World} {B:Nat} {v:Value} {us:List Nat} (h:OwnU w B v us) (hb:Below w.heap.size w w'):OwnU w' B v us:=own_later h hb
theorem OwnU.row {w:World} {B:Nat} {v:Value} {us:List Nat} (h:OwnU w B v us):URow w v us:=by
 by_cases hn:us=[]
 ·subst hn
  obtain⟨oa,cap,rfl,h1,_⟩:=own_shape h
  exact⟨oa,cap,rfl,h1,fun i u hu=>by simp at hu⟩
 ·obtain⟨g,cap,rfl,_,_,h1,_,h3⟩:=own_get h (List.length_pos_iff.2 hn)
  exact⟨_,cap,rfl,h1,fun i u hu=>⟨g,0,rfl,by rw [Nat.zero_add];exact h3 i _ (by rw [uCells,List.getElem?_map,hu];rfl)⟩⟩
theorem infoU64:(Tryz.prog.info? 111).map (fun i=>(i.zero,i.size,i.bytes))=some (some (.int .u64 0),1,8):=by kernel_rfl
theorem own_lit4 (w:World) (a b c d:Nat):OwnU (w.alloc (.cells #[.int .u64 (a:Int),.int .u64 (b:Int),.int .u64 (c:Int),.int .u64 (d:Int)] 111)) w.heap.size (.slice (some ⟨w.heap.size,0,none⟩) 4 4) [a,b,c,d]:=
 World.ownsRow_lit (base:=w.heap.size) (e:=111) (size:=1) w #[.int .u64 (a:Int),.int .u64 (b:Int),.int .u64 (c:Int),.int .u64 (d:Int)] 4 (Nat.le_refl _) (by decide) rfl
theorem wpList_app4 {ops:Array Oper} {rest:List Oper} {o:Oper} {a:Act} {Q:Exit→Act→World→Prop} {w:World} (hgd:o.guard=none) (s y:Operand) (ho:o.op= .call {callee:= .builtin .append,args:= #[s,y],argTypes:= #[108,108]}) {B:Nat} {v:Value} {us:List Nat} {p q r t N:Nat} {pv qv rv tv:Int}
  (hs:a.eval s=v) (hN:N=w.heap.size) (hy:a.eval y= .slice (some ⟨N,0,none⟩) 4 4) (hown:OwnU w B v us) (hB:B≤w.heap.size) (h1:pv=(p:Int)) (h2:qv=(q:Int)) (h3:rv=(r:Int)) (h4:tv=(t:Int)) (hl:us.length≤100000)
  (h: ∀ v' w',OwnU w' B v' (us++[p,q,r,t])→Below B w w'→w.heap.size≤w'.heap.size→wpList Tryz.prog ops Q rest (a.put o.dst v') w'):wpList Tryz.prog ops Q (o::rest) a (w.alloc (.cells #[.int .u64 pv,.int .u64 qv,.int .u64 rv,.int .u64 tv] 111)):=by
 subst h1 h2 h3 h4 hN
 obtain⟨i0,hi,hz0,hz1,hz2⟩:=info_parts infoU64
 have hb:=below_alloc w (.cells #[.int .u64 (p:Int),.int .u64 (q:Int),.int .u64 (r:Int),.int .u64 (t:Int)] 111)
 refine wpList_append_own _ hgd s y 108 ho B 111 i0 (.int .u64 0) 1 8 Tryz.underlying108 hi hz0 hz1 hz2 rfl (by decide) v us.length (uCells us) hs (own_later hown hb) ⟨w.heap.size,0,none⟩ 4 4 [.int .u64 (p:Int),.int .u64 (q:Int),.int .u64 (r:Int),.int .u64 (t:Int)] hy rfl (fun j u hj=> ?_) (fun u hu=> ?_) (by unfold maxLen;omega) (by omega) (Nat.le_trans hB hb.size) ?_
 ·rw [addr_add,Nat.zero_add,World.cell?_alloc_new]
  simpa using hj
 ·simp at hu;rcases hu with rfl | rfl | rfl | rfl<;>rfl
 ·intro v' w' hown' hg _
  refine h v' w' ?_ ((hb.mono hB).trans (below_of_grown (own_later hown hb) (Nat.le_trans hB hb.size) hg)) (Nat.le_trans hb.size hg.size)
  unfold OwnU
  rw [List.length_append,show uCells (us++[p,q,r,t])=uCells us++[.int .u64 (p:Int),.int .u64 (q:Int),.int .u64 (r:Int),.int .u64 (t:Int)] by simp [uCells]]
  exact hown'
def manPart (m:Man) (k:Nat):List Nat:=[m.next.toNat,m.floor.toNat,m.snap.toNat,m.snapSeq.toNat]++(m.segs.take k).flatMap sgNums
theorem manPart_succ {m:Man} {k:Nat} {g:Sg} (h:m.segs[k]? =some g):manPart m (k+1)=manPart m k++[g.num.toNat,g.first.toNat,g.count.toNat,g.foot.toNat]:=by
 obtain⟨h1,h2⟩:=List.getElem?_eq_some_iff.1 h
 unfold manPart
 rw [List.take_succ_eq_append_getElem h1,h2,List.append_assoc]
 simp [sgNums]
theorem manPart_length (m:Man) (k:Nat) (hk:k≤m.segs.length):(manPart m k).length=4+4*k:=by
 unfold manPart
 rw [List.length_append,sgNums_length,List.length_take,Nat.min_eq_left hk]
 rfl
theorem toNatI {x:Int} (h:0≤x):x=((x.toNat:Nat):Int):=by omega
theorem encMan_bad {m:Man} (h:manOk m=false):encMan m=([],80):=by unfold encMan;rw [h];rfl
theorem encMan_good {m:Man} (h:manOk m=true):encMan m=frameEnc 4 m.gen (encAll (manNums m)):=by unfold encMan;rw [h];rfl
set_option maxRecDepth 100000 in
set_option maxHeartbeats 4000000 in
theorem manEncode_any (m:Man) (sv:Value) (w:World) (hr:SgRow w sv m.segs) (hn:NibTab w):Calls Tryz.prog 56 #[mnV m sv] w (FramePost w (encMan m)):=by
 have HR:=Lib.hid hr
 have HV:=Lib.hid (manValid_any m sv _ (hr.below (below_alloc w (.cells (mnCs m sv) 34))))
 have HM0:=Lib.hid (mnBlk_alloc w m sv)
 have HB0:=Lib.hid (below_alloc w (.cells (mnCs m sv) 34))
 obtain⟨oa,cap,rfl,_,_,hc⟩:=hr
 have HC:=Lib.hid hc
 clear hc
 rcases hok:manOk m with _ | _
 ·have HE:=Lib.hid (encMan_bad hok)
  rw [hok] at HV
  clear hok
  go_enter Tryz.func56,Tryz.ntmps56
  go_wp2_with (first | (with_reducible refine wpList_load_mn rfl (.tmp 1) rfl w.heap.size m (.slice oa m.segs.length cap) rfl HM0.out ?_) | (go_at_call 41;refine HV.out.mono ?_;rintro e w1 ⟨rfl,hb1⟩))
  go_ret2
  unfold FramePost;rw [HE.out]
  exact⟨_,rfl,OwnB.nil _ _,Below.next HB0.out hb1⟩
 have HE:=Lib.hid (encMan_good hok)
 have HFine:=Lib.hid (manFine hok)
 rw [hok] at HV
 have hf:=manFine hok
 have hnx:=hf.next
 have hfl:=hf.floor
 have hsn:=hf.snap
 have hss:=hf.snapSeq
 have y1:m.next % 18446744073709551616=m.next:=by omega
 have y2:m.floor % 18446744073709551616=m.floor:=by omega
 have y3:m.snap % 18446744073709551616=m.snap:=by omega
 have y4:m.snapSeq % 18446744073709551616=m.snapSeq:=by omega
 have HO4:=Lib.hid (fun W=>own_lit4 W m.next.toNat m.floor.toNat m.snap.toNat m.snapSeq.toNat)
 rw [←toNatI (show 0≤m.next by omega),←toNatI (show 0≤m.floor by omega),←toNatI (show 0≤m.snap by omega),←toNatI (show 0≤m.snapSeq by omega)] at HO4
 have HNB:=Lib.hid hn
 clear hok hf hnx hfl hsn hss hn
 go_enter Tryz.func56,Tryz.ntmps56
 go_wp2_with (first | (with_reducible refine wpList_load_mn rfl (.tmp 1) rfl w.heap.size m (.slice oa m.segs.length cap) rfl HM0.out ?_))
 refine HV.out.mono ?_
 rintro e w1 ⟨rfl,hb1⟩
 have HM1:=Lib.hid (HM0.out.below hb1)
 have HB1:=Lib.hid (Below.next HB0.out hb1)
 have hsz1:w.heap.size+1≤w1.heap.size:=HM1.out.lt
 have c1:=HM1.out.c1
 have c2:=HM1.out.c2
 have c3:=HM1.out.c3
 have c4:=HM1.out.c4
 have c5:=HM1.out.c5
 clear hb1 HV HM0 HB0
 have c5':=(HM1.out.below (below_alloc w1 (.cells #[.int .u64 m.next,.int .u64 m.floor,.int .u64 m.snap,.int .u64 m.snapSeq] 111))).c5
 have HML:=Lib.hid (HM1.out.below (below_alloc w1 (.cells #[.int .u64 m.next,.int .u64 m.floor,.int .u64 m.snap,.int .u64 m.snapSeq] 111)))
 have HBL:=Lib.hid (Below.next HB1.out (below_alloc w1 (.cells #[.int .u64 m.next,.int .u64 m.floor,.int .u64 m.snap,.int .u64 m.snapSeq] 111)))
 have HO5:=Lib.hid (show OwnU (w1.alloc (.cells #[.int .u64 m.next,.int .u64 m.floor,.int .u64 m.snap,.int .u64 m.snapSeq] 111)) (w.heap.size+1) (.slice (some ⟨w1.heap.size,0,none⟩) 4 4) (manPart m 0) by
  have h:=HO4.out w1
  refine⟨h.1,?_⟩
  rcases h.2 with hz | ⟨g,cap,cur,e1,e2,rest⟩
  ·exact .inl hz
  ·exact .inr ⟨g,cap,cur,e1,by omega,rest⟩)
 go_wp2
 go_loopw [4,26] (fun uv iv wr=> ∃ k:Nat,k≤m.segs.length∧iv= .int .i64 k∧OwnU wr (w.heap.size+1) uv (manPart m k)∧MnBlk wr w.heap.size m (.slice oa m.segs.length cap)∧Below w.heap.size w wr) (fun _ iv _=>m.segs.length - (intOf iv).toNat)
 case atStart=>exact⟨0,Nat.zero_le _,rfl,HO5.out,HML.out,HBL.out⟩
 case round=>
  clear HO5 HML HBL HO4 c1 c2 c3 c4 c5 c5' y1 y2 y3 y4
  obtain⟨k,hk,rfl,hown,hmn,hb⟩:=hrel
  have HO:=Lib.hid hown
  have HM:=Lib.hid hmn
  have HB:=Lib.hid hb
  have hsz:w.heap.size+1≤wr.heap.size:=hmn.lt
  clear hown hmn hb
  by_cases hlt:k<m.segs.length
  ·obtain⟨g,hg,_,hgm⟩:=nth m.segs k hlt
   obtain⟨b,off,rfl,hcell⟩:=HC.out k g hg
   have q1:(k:Int)<(m.segs.length:Int):=by omega
   have HCE:=Lib.hid (range_later hcell HB.out)
   have HX:=Lib.hid (manPart_succ hg)
   have hgf:=HFine.out.seg g hgm
   have hnx:=HFine.out.next
   have y1:g.num % 18446744073709551616=g.num:=by omega
   have y2:g.first % 18446744073709551616=g.first:=by omega
   have y3:g.count % 18446744073709551616=g.count:=by omega
   have y4:g.foot % 18446744073709551616=g.foot:=by omega
   have HI:=Lib.hid (show g.num=((g.num.toNat:Nat):Int)∧g.first=((g.first.toNat:Nat):Int)∧g.count=((g.count.toNat:Nat):Int)∧g.foot=((g.foot.toNat:Nat):Int) from⟨toNatI (by omega),toNatI (by omega),toNatI (by omega),toNatI (by omega)⟩)
   have HA:=Lib.hid (below_alloc wr (.cells (sgCs g) 63))
   have HOA:=Lib.hid (HO.out.later HA.out)
   have HMA:=Lib.hid (HM.out.below HA.out)
   have hln:(manPart m k).length≤100000:=by rw [manPart_length m k hk];have:=HFine.out.len;omega
   have c5:=HM.out.c5
   obtain⟨us,hus⟩: ∃ us,us=manPart m k:=⟨_,rfl⟩
   rw [←hus] at HX HOA hln
   clear hg hcell hgm hgf hus HO hnx
   have HSZ:=Lib.hid (show wr.heap.size+1=(wr.alloc (.cells (sgCs g) 63)).heap.size by simp)
   have hszA:w.heap.size+1≤(wr.alloc (.cells (sgCs g) 63)).heap.size:=Nat.le_trans hsz HA.out.size
   go_wp2_with (first | (with_reducible refine wpList_load_sg rfl (.tmp 28) rfl b (off+k*4) g rfl HCE.out ?_) | (at_builtin;refine wpList_app4 rfl (.tmp 30) (.tmp 43) rfl rfl HSZ.out rfl HOA.out hszA HI.out.1 HI.out.2.1 HI.out.2.2.1 HI.out.2.2.2 hln ?_))
   intro v' w' h1 h2 h3
   have HF:=Lib.hid h1
   have HG:=Lib.hid (HB.out.trans ((HA.out.mono (Nat.le_trans (Nat.le_succ _) hsz)).trans (h2.mono (Nat.le_succ _))))
   have HMF:=Lib.hid (HMA.out.keep h2 (Nat.lt_succ_self _))
   clear h1 h2
   go_wp2
   go_roundw
   case rel=>exact⟨k+1,by omega,by go_num,by rw [HX.out];exact HF.out,HMF.out,HG.out⟩
   case measure=>simp [intOf];omega
  ·obtain rfl:k=m.segs.length:=by omega
   have HA:=Lib.hid (show manPart m m.segs.length=manNums m by unfold manPart manNums;rw [List.take_length])
   rw [HA.out] at HO
   have HU:=Lib.hid HO.out.row
   obtain⟨ub,ucap,rfl,_,_⟩:=own_shape HO.out
   have hnl:(manNums m).length≤1000000000000:=by rw [manNums_length];have:=HFine.out.len;omega
   have HN:=Lib.hid (show ∀ W:World,Below wr.heap.size wr W→Calls Tryz.prog 91 #[.slice ub (manNums m).length ucap] W fun e w'=> ∃ v',e= .returned v'∧OwnB w' W.heap.size v' (encAll (manNums m))∧Below W.heap.size W w' from fun W hb=>
    encodeAll_any (manNums m) _ W (HU.out.below hb) (fun u hu=>Nat.lt_trans (manNums_lt HFine.out u hu) (by decide)) hnl)
   have HD:=Lib.hid (show MnBlk wr.drew w.heap.size m (.slice oa m.segs.length cap)∧Below wr.heap.size wr wr.drew from⟨HM.out.below (below_drewN' wr 1),below_drewN' wr 1⟩)
   go_wp2_with fail
   refine wp_region_held_drew (S:=fun w'=>MnBlk w' w.heap.size m (.slice oa m.segs.length cap)∧Below wr.heap.size wr w') (by kernel_rfl) HD.out (fun hHeld=> ?_)
   have FX1:=Lib.hid (fun(wF:World) (hSw:(fun w'=>MnBlk w' w.heap.size m (.slice oa m.segs.length cap)∧Below wr.heap.size wr w') wF)=>(hSw.1.c0))
   refine tf FX1 0 rfl ?_
   refine tf FX1 1 rfl ?_
   refine tf FX1 2 rfl ?_
   clear FX1
   refine wpAnyH_ready (rs:=[3]) (by kernel_rfl) (by simp) ?_
   refine AllReadyH.cons rfl (fun K hK=> ?_) AllReadyH.nil
   go_simp
   go_at_call 91
   refine(HN.out _ hHeld.2).mono ?_
   rintro e w2 ⟨v2,rfl,ho2,hb2⟩
   have HO2:=Lib.hid ho2.brow
   have hsh:=ho2.brow
   obtain⟨eb,hebd⟩: ∃ eb,eb=encAll (manNums m):=⟨_,rfl⟩
   rw [←hebd] at HO2 hsh
   have HEB:=Lib.hid hebd
   obtain⟨o2,cap2,rfl,_,hsh2⟩:=hsh
   have HB2:=Lib.hid (Below.next hHeld.2 hb2)
   have HM2:=Lib.hid (hHeld.1.below hb2)
   clear ho2 hb2 hsh2 hebd
   go_wp2_with fail
   refine hK.out _ _ ⟨HM2.out,HB2.out⟩ (fun hHeld=> ?_)
   clear hK K
   have FX2:=Lib.hid (fun(wF:World) (hSw:(fun w'=>MnBlk w' w.heap.size m (.slice oa m.segs.length cap)∧Below wr.heap.size wr w') wF)=>(hSw.1.c0))
   refine tf FX2 4 rfl ?_
   clear FX2
   have HFr:=Lib.hid (frame_any 4 m.gen eb _ w2 HO2.out (HNB.out.below (Below.next HB.out HB2.out)))
   refine wpAnyH_ready (rs:=[5]) (by kernel_rfl) (by simp) ?_
   refine AllReadyH.cons rfl (fun K hK=> ?_) AllReadyH.nil
   go_simp
   go_at_call 54
   refine HFr.out.mono ?_
   rintro e w3 ⟨v3,rfl,h3,hb3⟩
   obtain⟨r,hr⟩: ∃ r,r=frameEnc 4 m.gen eb:=⟨_,rfl⟩
   rw [←hr] at h3
   rw [←hr]
   have HRR:=Lib.hid hr
   have HO3:=Lib.hid (h3.mono (show w.heap.size≤w2.heap.size from Nat.le_trans HB.out.size HB2.out.size))
   have HB3:=Lib.hid (Below.next (Below.next HB.out HB2.out) hb3)
   go_wp2_with fail
   refine hK.out _ _ ⟨HM2.out.below hb3,Below.next HB2.out hb3⟩ (fun hHeld=> ?_)
   clear hK K h3 hb3 hr
   have FX3:=Lib.hid (fun(wF:World) (hSw:(fun w'=>MnBlk w' w.heap.size m (.slice oa m.segs.length cap)∧Below wr.heap.size wr w') wF)=>(hSw.1.c0))
   refine tf FX3 6 rfl ?_
   refine tf FX3 7 rfl ?_
   clear FX3
   have FX4:=Lib.hid (fun(wF:World) (hSw:(fun w'=>MnBlk w' w.heap.size m (.slice oa m.segs.length cap)∧Below wr.heap.size wr w') wF)=>(hSw.1.c0))
   refine tf FX4 8 rfl ?_
   refine tf FX4 9 rfl ?_
   clear FX4
   refine wpAnyH_done (by kernel_rfl) ?_ _
   go_wp2
   go_ret2
   unfold FramePost;rw [HE.out]
   have e:frameEnc 4 m.gen (encAll (manNums m))=r:=by rw [HRR.out,HEB.out]
   rw [e]
   exact⟨_,by rw [show r=frameEnc 4 m.gen eb from HRR.out];rfl,HO3.out,HB3.out⟩
end Go.Proofs.YtcglcphhfmkccaaGreatDoor

namespace Go.Proofs.YtcglcphhfmkccaaGreatDoor
open Go.RowKit
theorem wpList_appU1 {ops:Array Oper} {rest:List Oper} {o:Oper} {a:Act} {Q:Exit→Act→World→Prop} {w:World} (hgd:o.guard=none) (s y:Operand) (ho:o.op= .call {callee:= .builtin .append,args:= #[s,y],argTypes:= #[108,108]}) {B:Nat} {v:Value} {us:List Nat} {p N:Nat} {pv:Int}
  (hs:a.eval s=v) (hN:N=w.heap.size) (hy:a.eval y= .slice (some ⟨N,0,none⟩) 1 1) (hown:OwnU w B v us) (hB:B≤w.heap.size) (h1:pv=(p:Int)) (hl:us.length≤100000)
  (h: ∀ v' w',OwnU w' B v' (us++[p])→Below B w w'→w.heap.size≤w'.heap.size→wpList Tryz.prog ops Q rest (a.put o.dst v') w'):wpList Tryz.prog ops Q (o::rest) a (w.alloc (.cells #[.int .u64 pv] 111)):=by
 subst h1 hN
 obtain⟨i0,hi,hz0,hz1,hz2⟩:=info_parts infoU64
 have hb:=below_alloc w (.cells #[.int .u64 (p:Int)] 111)
 refine wpList_append_own _ hgd s y 108 ho B 111 i0 (.int .u64 0) 1 8 Tryz.underlying108 hi hz0 hz1 hz2 rfl (by decide) v us.length (uCells us) hs (own_later hown hb) ⟨w.heap.size,0,none⟩ 1 1 [.int .u64 (p:Int)] hy rfl (fun j u hj=> ?_) (fun u hu=> ?_) (by unfold maxLen;omega) (by omega) (Nat.le_trans hB hb.size) ?_
 ·rw [addr_add,Nat.zero_add,World.cell?_alloc_new]
  simpa using hj
 ·simp at hu;rcases hu with rfl;rfl
 ·intro v' w' hown' hg _
  refine h v' w' ?_ ((hb.mono hB).trans (below_of_grown (own_later hown hb) (Nat.le_trans hB hb.size) hg)) (Nat.le_trans hb.size hg.size)
  unfold OwnU
  rw [List.length_append,show uCells (us++[p])=uCells us++[.int .u64 (p:Int)] by simp [uCells]]
  exact hown'
def decNs:Nat→List UInt8→Nat→List Nat→List Nat×Nat×Int
 | 0,_,at_,us=>(us,at_,0)
 | n+1,b,at_,us=>if (decV (b.drop at_)).2.2≠0 then ([],0,(decV (b.drop at_)).2.2) else decNs n b (at_+(decV (b.drop at_)).2.1) (us++[(decV (b.drop at_)).1])
def decAll (b:List UInt8) (most:Nat):List Nat×Nat×Int:=
 if (decV b).2.2≠0 then ([],0,(decV b).2.2) else if most<(decV b).1 then ([],0,24) else decNs (decV b).1 b (decV b).2.1 []
theorem decNs_stop {n:Nat} {b:List UInt8} {a:Nat} {us:List Nat} {e:Int} (h:(decV (b.drop a)).2.2=e) (he:e≠0):decNs (n+1) b a us=([],0,e):=by rw [decNs,h,if_pos he]
theorem decNs_go {n:Nat} {b:List UInt8} {a:Nat} {us:List Nat} (h:(decV (b.drop a)).2.2=0):decNs (n+1) b a us=decNs n b (a+(decV (b.drop a)).2.1) (us++[(decV (b.drop a)).1]):=by rw [decNs,h,if_neg (by decide)]
def AllPost (w:World) (r:List Nat×Nat×Int) (e:Ending) (w':World):Prop:= ∃ v,e= .returned (.tuple #[v,.int .i64 (r.2.1:Int),.int .i64 r.2.2])∧OwnU w' w.heap.size v r.1∧Below w.heap.size w w'
theorem ownU_nil (w:World) (B:Nat):OwnU w B (.slice none 0 0) []:=⟨rfl,.inl ⟨rfl,rfl⟩⟩
set_option maxRecDepth 100000 in
set_option maxHeartbeats 4000000 in
theorem decodeAll_any (l:List UInt8) (v:Value) (most:Nat) (w:World) (hv:BRow w v l) (hl:l.length≤140737488355328) (hm:most≤100000) (hm0:0<most):
  Calls Tryz.prog 50 #[v,.int .i64 (most:Int)] w (AllPost w (decAll l most)):=by
 have HV:=Lib.hid (fun W (hb:Below w.heap.size w W)=>hv.below hb)
 have HD0:=Lib.hid (varDecode_any l v w hv (by omega))
 have HLT:=Lib.hid (decV_lt l)
 have HLN:=Lib.hid (@decV_len l)
 obtain⟨oa,cap,rfl,hlc,hc⟩:=hv
 have HALL:=Lib.hid (show decAll l most=if (decV l).2.2≠0 then ([],0,(decV l).2.2) else if most<(decV l).1 then ([],0,24) else decNs (decV l).1 l (decV l).2.1 [] from rfl)
 obtain⟨r,hr⟩: ∃ r,r=decV l:=⟨_,rfl⟩
 rw [←hr] at HD0 HLT HLN HALL
 clear hc hr
 obtain⟨n,at0,e0⟩:=r
 unfold VarPost at HD0
 have hn:=HLT.out
 simp only at hn
 have hw0:IntKind.u64.wrap (max 0 (most:Int))=(most:Int):=by rw [IntKind.wrap_u64];omega
 have hw1:IntKind.u64.wrap (most:Int)=(most:Int):=by rw [IntKind.wrap_u64];omega
 go_enter Tryz.func50,Tryz.ntmps50
 go_wp2_with fail
 refine HD0.out.mono ?_
 rintro e w1 ⟨rfl,hb1⟩
 have HB1:=Lib.hid hb1
 clear hb1 HD0
 rcases he0:(e0 != 0) with _ | _
 ·have HE0:=Lib.hid (show e0=0 by simpa using he0)
  rcases hmn:decide (most<n) with _ | _
  ·have hmn': ¬ most<n:=of_decide_eq_false hmn
   have HA:=Lib.hid (show decAll l most=decNs n l at0 [] by rw [HALL.out];simp [HE0.out,hmn'])
   have HL0:=Lib.hid (show at0≤l.length by have:=(HLN.out HE0.out).2;exact this)
   have HMN:=Lib.hid hmn'
   clear HALL HLN HLT hmn'
   go_wp2
   clear he0 hmn
   go_loopw [8,10,29] (fun av uv cv wr=> ∃ (k at_:Nat) (us:List Nat),k≤n∧cv= .int .u64 (k:Int)∧av= .int .i64 (at_:Int)∧us.length=k∧at_≤l.length∧OwnU wr w.heap.size uv us∧Hid (decAll l most=decNs (n - k) l at_ us)∧Below w.heap.size w wr) (fun _ _ cv _=>n - (intOf cv).toNat)
   case atStart=>exact⟨0,at0,[],Nat.zero_le _,rfl,rfl,rfl,HL0.out,ownU_nil _ _,HA,HB1.out⟩
   case round=>
    clear HA HL0 HB1
    obtain⟨k,at_,us,hk,rfl,rfl,hus,hat,hown,HD,hb⟩:=hrel
    have HO:=Lib.hid hown
    have HB:=Lib.hid hb
    clear hown hb
    by_cases hlt:k<n
    ·have q1:(k:Int)<(n:Int):=by omega
     have HBR:=Lib.hid (HV.out wr HB.out)
     have HST:=Lib.hid (fun e=> @decNs_stop (n - (k+1)) l at_ us e)
     have HGO:=Lib.hid (@decNs_go (n - (k+1)) l at_ us)
     have HNK:=Lib.hid (show n - k=(n - (k+1))+1 by omega)
     rw [HNK.out] at HD
     have HDV:=Lib.hid (fun oa' cap' (hv:BRow wr (.slice oa' (l.length - at_) cap') (l.drop at_))=>varDecode_any (l.drop at_) _ wr hv (by rw [List.length_drop];omega))
     have HLN:=Lib.hid (@decV_len (l.drop at_))
     have HLT:=Lib.hid (decV_lt (l.drop at_))
     obtain⟨r,hr⟩: ∃ r,r=decV (l.drop at_):=⟨_,rfl⟩
     rw [←hr] at HDV HLT HLN HST HGO
     clear hr HNK
     obtain⟨u,n1,e1⟩:=r
     unfold VarPost at HDV
     have hu:=HLT.out
     simp only at hu
     go_wp2_with (with_reducible refine wpList_cut_l rfl (.tmp 32) (.tmp 33) rfl oa cap at_ l rfl rfl HBR.out hat ?_)
     intro oa' cap' hbr
     go_wp2_with fail
     refine(HDV.out oa' cap' hbr).mono ?_
     rintro e w2 ⟨rfl,hb2⟩
     have HB2:=Lib.hid (Below.next HB.out hb2)
     have HO2:=Lib.hid (HO.out.later hb2)
     clear hb2 hbr HDV HO
     rcases he1:(e1 != 0) with _ | _
     ·have HE1:=Lib.hid (show e1=0 by simpa using he1)
      have hn1:at_+n1≤l.length:=by have:=(HLN.out HE1.out).2;rw [List.length_drop] at this;omega
      have HD2:=Lib.hid (show decAll l most=decNs (n - (k+1)) l (at_+n1) (us++[u]) by rw [HD.out];exact HGO.out HE1.out)
      have hsz:=HB2.out.size
      have hul:us.length≤100000:=by have:=HMN.out;omega
      clear HLN HLT HST HGO HD
      go_wp2_with (with_reducible refine wpList_appU1 (p:=u) rfl (.tmp 42) (.tmp 44) rfl rfl rfl rfl HO2.out hsz rfl hul ?_)
      intro v' w3 ho3 hb3 _
      have HO3:=Lib.hid ho3
      have HB3:=Lib.hid (HB2.out.trans hb3)
      clear ho3 hb3 HO2 HB2
      have hk1:IntKind.u64.wrap ((k:Int)+1)=(k:Int)+1:=by rw [IntKind.wrap_u64];omega
      go_wp2
      go_roundw
      case rel=>exact⟨k+1,at_+n1,us++[u],by omega,by first | rfl | (push_cast;rfl),by first | rfl | (push_cast;rfl),by simp [hus],hn1,HO3.out,HD2,HB3.out⟩
      case measure=>simp [intOf];omega
     ·have HE:=Lib.hid (show decAll l most=([],0,e1) by rw [HD.out];exact HST.out _ rfl (by simpa using he1))
      go_wp2
      refine bodyPost_ret (v:= .tuple #[.slice none 0 0,.int .i64 0,.int .i64 e1]) (by simp [results,Tryz.results50,go_sem]) rfl ⟨_,by rw [HE.out];rfl,by rw [HE.out];exact ownU_nil _ _,HB2.out⟩
    ·obtain rfl:k=n:=by omega
     have HE:=Lib.hid (show decAll l most=(us,at_,0) by rw [HD.out,Nat.sub_self];rfl)
     go_wp2
     refine bodyPost_ret (v:= .tuple #[_,.int .i64 (at_:Int),.int .i64 0]) (by simp [results,Tryz.results50,go_sem];first | rfl | skip) rfl ⟨_,by rw [HE.out],by rw [HE.out];exact HO.out,HB.out⟩
  ·have hmn':most<n:=of_decide_eq_true hmn
   have HA:=Lib.hid (show decAll l most=([],0,24) by rw [HALL.out];simp [HE0.out,hmn'])
   clear hmn'
   go_wp2
   refine bodyPost_ret (v:= .tuple #[.slice none 0 0,.int .i64 0,.int .i64 24]) (by simp [results,Tryz.results50,go_sem]) rfl ⟨_,by rw [HA.out];rfl,by rw [HA.out];exact ownU_nil _ _,HB1.out⟩
 ·have HA:=Lib.hid (show decAll l most=([],0,e0) by rw [HALL.out];rw [if_pos (show e0≠0 by simpa using he0)])
  go_wp2
  refine bodyPost_ret (v:= .tuple #[.slice none 0 0,.int .i64 0,.int .i64 e0]) (by simp [results,Tryz.results50,go_sem]) rfl ⟨_,by rw [HA.out];rfl,by rw [HA.out];exact ownU_nil _ _,HB1.out⟩
end Go.Proofs.YtcglcphhfmkccaaGreatDoor

namespace Go.Proofs
open Go.Shelf
def Tryz.lays103_ren:Go.Shelf.Ren:=⟨fun | 103=>66 | 210=>104 | 206=>125 | n=>n,fun | 9=>9 | 4=>4 | 24=>144 | 3=>3 | n=>n,fun | n=>n⟩
theorem Tryz.lays103:Go.Proofs.Lays.n103 Tryz.prog Tryz.lays103_ren:={
 mixed:=by kernel_rfl
 f103:=Tryz.func66.trans (congrArg some (by kernel_rfl))
 f206:=Tryz.func125.trans (congrArg some (by kernel_rfl))
 f210:=Tryz.func104.trans (congrArg some (by kernel_rfl))
 t3:=Tryz.underlying3
 a3:=Tryz.isAgg3
 z3:=Tryz.sizeOf3
 v3:=Tryz.zeroValue3
 t4:=Tryz.underlying4
 a4:=Tryz.isAgg4
 z4:=Tryz.sizeOf4
 v4:=Tryz.zeroValue4
 t9:=Tryz.underlying9
 a9:=Tryz.isAgg9
 z9:=Tryz.sizeOf9
 v9:=Tryz.zeroValue9
 t24:=Tryz.underlying144
 a24:=Tryz.isAgg144
 z24:=Tryz.sizeOf144
 v24:=Tryz.zeroValue144}
open Go.RowKit in
theorem Tryz.strings_CutPrefix (s p:ByteArray) (w:World):
  Calls Tryz.prog 66 #[.string s,.string p] w fun e w'=>e= .returned (.tuple #[.string ⟨(Lib.trimPrefix s.data.toList p.data.toList).toArray⟩,.bool (Lib.hasPrefix s.data.toList p.data.toList)])∧w'=w:=Any.strings_CutPrefix Tryz.lays103 s p w
def Tryz.lays190_ren:Go.Shelf.Ren:=⟨fun | 190=>25 | 125=>47 | 258=>46 | 128=>83 | 129=>84 | 302=>74 | 303=>75 | 304=>76 | 305=>77 | 306=>78 | 307=>79 | 308=>80 | 309=>81 | 310=>82 | 333=>110 | 329=>111 | 330=>112 | 334=>113 | 335=>114 | 336=>115 | 344=>126 | n=>n,fun | 31=>35 | 9=>9 | 3=>3 | 46=>101 | 0=>0 | 51=>159 | 53=>111 | 4=>4 | 183=>152 | 182=>151 | 131=>82 | 5=>5 | 218=>189 | 222=>193 | 228=>211 | 229=>93 | n=>n,fun | n=>n⟩
theorem Tryz.lays190:Go.Proofs.Lays.n190 Tryz.prog Tryz.lays190_ren:={
 mixed:=by kernel_rfl
 f125:=Tryz.func47.trans (congrArg some (by kernel_rfl))
 f128:=Tryz.func83.trans (congrArg some (by kernel_rfl))
 f129:=Tryz.func84.trans (congrArg some (by kernel_rfl))
 f190:=Tryz.func25.trans (congrArg some (by kernel_rfl))
 f258:=Tryz.func46.trans (congrArg some (by kernel_rfl))
 f302:=Tryz.func74.trans (congrArg some (by kernel_rfl))
 f303:=Tryz.func75.trans (congrArg some (by kernel_rfl))
 f304:=Tryz.func76.trans (congrArg some (by kernel_rfl))
 f305:=Tryz.func77.trans (congrArg some (by kernel_rfl))
 f306:=Tryz.func78.trans (congrArg some (by kernel_rfl))
 f307:=Tryz.func79.trans (congrArg some (by kernel_rfl))
 f308:=Tryz.func80.trans (congrArg some (by kernel_rfl))
 f309:=Tryz.func81.trans (congrArg some (by kernel_rfl))
 f310:=Tryz.func82.trans (congrArg some (by kernel_rfl))
 f329:=Tryz.func111.trans (congrArg some (by kernel_rfl))
 f330:=Tryz.func112.trans (congrArg some (by kernel_rfl))
 f333:=Tryz.func110.trans (congrArg some (by kernel_rfl))
 f334:=Tryz.func113.trans (congrArg some (by kernel_rfl))
 f335:=Tryz.func114.trans (congrArg some (by kernel_rfl))
 f336:=Tryz.func115.trans (congrArg some (by kernel_rfl))
 f344:=Tryz.func126.trans (congrArg some (by kernel_rfl))
 t0:=Tryz.underlying0
 a0:=Tryz.isAgg0
 z0:=Tryz.sizeOf0
 v0:=Tryz.zeroValue0
 t3:=Tryz.underlying3
 a3:=Tryz.isAgg3
 z3:=Tryz.sizeOf3
 v3:=Tryz.zeroValue3
 t4:=Tryz.underlying4
 a4:=Tryz.isAgg4
 z4:=Tryz.sizeOf4
 v4:=Tryz.zeroValue4
 t5:=Tryz.underlying5
 a5:=Tryz.isAgg5
 z5:=Tryz.sizeOf5
 v5:=Tryz.zeroValue5
 t9:=Tryz.underlying9
 a9:=Tryz.isAgg9
 z9:=Tryz.sizeOf9
 v9:=Tryz.zeroValue9
 t31:=Tryz.underlying35
 a31:=Tryz.isAgg35
 z31:=Tryz.sizeOf35
 v31:=Tryz.zeroValue35
 t46:=Tryz.underlying101
 a46:=Tryz.isAgg101
 z46:=Tryz.sizeOf101
 v46:=Tryz.zeroValue101
 t51:=Tryz.underlying159
 a51:=Tryz.isAgg159
 z51:=Tryz.sizeOf159
 v51:=Tryz.zeroValue159
 t53:=Tryz.underlying111
 a53:=Tryz.isAgg111
 z53:=Tryz.sizeOf111
 v53:=Tryz.zeroValue111
 t131:=Tryz.underlying82
 a131:=Tryz.isAgg82
 z131:=Tryz.sizeOf82
 v131:=Tryz.zeroValue82
 t182:=Tryz.underlying151
 a182:=Tryz.isAgg151
 z182:=Tryz.sizeOf151
 v182:=Tryz.zeroValue151
 t183:=Tryz.underlying152
 a183:=Tryz.isAgg152
 z183:=Tryz.sizeOf152
 v183:=Tryz.zeroValue152
 t218:=Tryz.underlying189
 a218:=Tryz.isAgg189
 z218:=Tryz.sizeOf189
 v218:=Tryz.zeroValue189
 t222:=Tryz.underlying193
 a222:=Tryz.isAgg193
 z222:=Tryz.sizeOf193
 v222:=Tryz.zeroValue193
 t228:=Tryz.underlying211
 a228:=Tryz.isAgg211
 z228:=Tryz.sizeOf211
 v228:=Tryz.zeroValue211
 t229:=Tryz.underlying93
 a229:=Tryz.isAgg93
 z229:=Tryz.sizeOf93
 v229:=Tryz.zeroValue93}
open Go.Sort Go.RowKit in
theorem Tryz.slices_Sort_string (blk off cap:Nat) (ss:List (List UInt8)) (w:World) (hH:Holds encStr w blk off ss.toArray) (hblk:blk<w.heap.size) (hsz:ss.length<4611686018427387904):
  Calls Tryz.prog 25 #[.slice (some ⟨blk,off,none⟩) ss.length cap] w fun e w'=>
   e= .returned (.tuple #[])∧ ∃ n os,w'=grow (putRow encStr (Sort.ahead w n) blk off (ss.mergeSort fun x y=>decide (x≤y)).toArray) os:=Any.slices_Sort_string Tryz.lays190 blk off cap ss w hH hblk hsz
def Tryz.lays264_ren:Go.Shelf.Ren:=⟨fun | 264=>138 | n=>n,fun | 53=>111 | 46=>101 | n=>n,fun | n=>n⟩
theorem Tryz.lays264:Go.Proofs.Lays.n264 Tryz.prog Tryz.lays264_ren:={
 mixed:=by kernel_rfl
 f264:=Tryz.func138.trans (congrArg some (by kernel_rfl))
 t46:=Tryz.underlying101
 a46:=Tryz.isAgg101
 z46:=Tryz.sizeOf101
 v46:=Tryz.zeroValue101
 t53:=Tryz.underlying111
 a53:=Tryz.isAgg111
 z53:=Tryz.sizeOf111
 v53:=Tryz.zeroValue111}
open Go.RowKit Go.Lib in
theorem Tryz.bits_Mul64 (x y:Nat) (hx:x<18446744073709551616) (hy:y<18446744073709551616) (w:World):
  Calls Tryz.prog 138 #[.int .u64 x,.int .u64 y] w fun e w'=>e= .returned (.tuple #[.int .u64 ((x*y / 18446744073709551616:Nat):Int),.int .u64 ((x*y % 18446744073709551616:Nat):Int)])∧w'=w:=Any.bits_Mul64 Tryz.lays264 x y hx hy w
end Go.Proofs

namespace Go.Proofs.YtcglcphhfmkccaaGreatDoor
open Go.RowKit
def dgt (n:Int) (m k:Nat):Int:=if k<m then 48+n / 10^k % 10 else 48
def sixv (n:Int) (m:Nat):Array Value:= #[.int .u8 (dgt n m 5),.int .u8 (dgt n m 4),.int .u8 (dgt n m 3),.int .u8 (dgt n m 2),.int .u8 (dgt n m 1),.int .u8 (dgt n m 0)]
def six (n:Int):List UInt8:=[UInt8.ofNat (dgt n 6 5).toNat,UInt8.ofNat (dgt n 6 4).toNat,UInt8.ofNat (dgt n 6 3).toNat,UInt8.ofNat (dgt n 6 2).toNat,UInt8.ofNat (dgt n 6 1).toNat,UInt8.ofNat (dgt n 6 0).toNat]
def segName (n:Int):List UInt8:=if 1≤n∧n≤999999 then [115,101,103,45]++six n else []
def bookName (n:Int):List UInt8:=if 1≤n∧n≤999999 then [98,111,111,107,45]++six n else []
theorem sixv_set (n:Int) (k:Nat) (hk:k<6):(sixv n k).setIfInBounds (5 - k) (.int .u8 (48+n / 10^k % 10))=sixv n (k+1):=by
 have:k=0∨k=1∨k=2∨k=3∨k=4∨k=5:=by omega
 rcases this with rfl | rfl | rfl | rfl | rfl | rfl<;>simp [sixv,dgt]
theorem sixv_get (n:Int) (k:Nat) (hk:k<6):(sixv n k)[5 - k]? =some (.int .u8 48):=by
 have:k=0∨k=1∨k=2∨k=3∨k=4∨k=5:=by omega
 rcases this with rfl | rfl | rfl | rfl | rfl | rfl<;>simp [sixv,dgt]
theorem dgt_bd (n:Int) (m k:Nat):48≤dgt n m k∧dgt n m k≤57:=by unfold dgt;split<;>omega
theorem pow10_pos (k:Nat):(0:Int)≤10^k:=by exact_mod_cast Nat.zero_le _
theorem dgt_done (n:Int) (k:Nat) (hz:n / 10^k=0) (j:Nat):dgt n k j=dgt n 6 j∨6≤j:=by
 by_cases h6:j<6
 ·left
  unfold dgt
  rw [if_pos h6]
  by_cases hj:j<k
  ·rw [if_pos hj]
  ·rw [if_neg hj]
   obtain⟨i,rfl⟩: ∃ i,j=k+i:=⟨j - k,by omega⟩
   have:n / 10^(k+i)=0:=by
    rw [Int.pow_add,←Int.ediv_ediv_of_nonneg (pow10_pos k),hz];simp
   rw [this];simp
 ·right;omega
theorem sixv_done (n:Int) (k:Nat) (hz:n / 10^k=0):sixv n k=sixv n 6:=by
 have h:=fun j (hj:j<6)=>(dgt_done n k hz j).resolve_right (by omega)
 simp [sixv,h]
theorem sixv_six (n:Int) (j:Nat) (hj:j<(six n).length):(sixv n 6)[j]? =some (.int .u8 ((six n)[j].toNat:Int)):=by
 have h:=fun j=>dgt_bd n 6 j
 have e: ∀ j,((UInt8.ofNat (dgt n 6 j).toNat).toNat:Int)=dgt n 6 j:=fun j=>by
  have:=h j
  simp;omega
 have:j=0∨j=1∨j=2∨j=3∨j=4∨j=5:=by simp [six] at hj;omega
 rcases this with rfl | rfl | rfl | rfl | rfl | rfl<;>simp only [sixv,six,List.getElem_cons_zero,List.getElem_cons_succ,e]<;>rfl
set_option maxHeartbeats 400000 in
theorem numbered_yes (p:List UInt8) (n:Int) (w:World) (hp:p.length≤100) (h1:1≤n) (h2:n≤999999):
  Calls Tryz.prog 57 #[.string ⟨p.toArray⟩,.int .i64 n] w fun e w'=>e= .returned (.string ⟨(p++six n).toArray⟩)∧Below w.heap.size w w':=by
 have kc:=fun(w:World) (C:Array Value) (n c:Nat)=>Lib.run_convert_bytes_const (P:=Tryz.prog) w 45 5 C n c Tryz.underlying45 Tryz.underlying5
 go_enter Tryz.func57,Tryz.ntmps57
 go_wp2
 go_loopw [1,6] (fun nv iv wr=> ∃ k:Nat,k≤6∧iv= .int .i64 (5 - k)∧nv= .int .i64 (n / 10^k)∧Below w.heap.size w wr∧w.heap.size<wr.heap.size∧
   wr.heap[w.heap.size]? =some (.cells (sixv n k) 5 (6,7))) (fun _ iv _=>(intOf iv+1).toNat)
 case atStart=>exact⟨0,by omega,rfl,by simp,(Below.refl _ _).alloc (Nat.le_refl _) _,by simp,(heap_alloc_new w _).trans (by simp [sixv,dgt])⟩
 case round=>
  obtain⟨k,hk,rfl,rfl,hb,hs,hblk⟩:=hrel
  have hn0:0≤n / 10^k:=Int.ediv_nonneg (by omega) (pow10_pos k)
  have hn1:n / 10^k≤999999:=Int.le_trans (Int.ediv_le_self _ (by omega)) h2
  by_cases hz:n / 10^k=0
  ·rw [sixv_done n k hz] at hblk
   have hcv: ∀ c,(convert 45 9 (.slice (some ⟨w.heap.size,0,none⟩) 6 c)).run Tryz.prog wr= .ok (.string ⟨(six n).toArray⟩) wr:=fun c=>
    run_convert_bytes_back (P:=Tryz.prog) wr 45 9 5 ⟨w.heap.size,0,none⟩ c (six n) Tryz.underlying45 Tryz.underlying5 Tryz.underlying9 (fun j hj=>by
     rw [addr_add,World.cell?,hblk];simpa using sixv_six n j hj)
   have hl6:(six n).length=6:=rfl
   go_wp2
   go_ret
   exact⟨ret_str (ba_append _ _),hb⟩
  ·have hk6:k<6:=by
    rcases Nat.lt_or_ge k 6 with h | h
    ·exact h
    ·exfalso;apply hz
     obtain rfl:k=6:=by omega
     omega
   have hc:wr.cell? ⟨w.heap.size,5 - k,none⟩=some (.int .u8 48):=by simp [World.cell?,hblk,sixv_get n k hk6]
   have hf:wr.frozen? ⟨w.heap.size,5 - k,none⟩=false:=by simp [World.frozen?,hblk];omega
   go_wp2
   go_roundw
   case rel=>exact⟨k+1,by omega,by go_num,by rw [Int.pow_succ,←Int.ediv_ediv_of_nonneg (pow10_pos k)],hb.setCell (Nat.le_refl _) _,by simpa using hs,by rw [Joins.block_setCell hblk,sixv_set n k hk6]⟩
   case measure=>simp [intOf];omega
theorem numbered_no (p:ByteArray) (n:Int) (w:World) (h:n<1∨999999<n):
  Calls Tryz.prog 57 #[.string p,.int .i64 n] w fun e w'=>e= .returned (.string ⟨([]:List UInt8).toArray⟩)∧w'=w:=by
 rcases h with h | h
 ·go_enter Tryz.func57,Tryz.ntmps57
  go_wp2
  go_ret
  exact⟨rfl,rfl⟩
 ·have h': ¬ n<1:=by omega
  go_enter Tryz.func57,Tryz.ntmps57
  go_wp2
  go_ret
  exact⟨rfl,rfl⟩
theorem Segment_any (n:Int) (w:World):
  Calls Tryz.prog 36 #[.int .i64 n] w fun e w'=>e= .returned (.string ⟨(segName n).toArray⟩)∧Below w.heap.size w w':=by
 by_cases h:1≤n∧n≤999999
 ·rw [segName,if_pos h]
  go_enter Tryz.func36,Tryz.ntmps36
  go_wp2_with (go_at_call 57;refine(numbered_yes [115,101,103,45] n _ (by decide) h.1 h.2).mono ?_;rintro e w' ⟨rfl,hb⟩)
  go_ret
  exact⟨rfl,hb⟩
 ·rw [segName,if_neg h]
  go_enter Tryz.func36,Tryz.ntmps36
  go_wp2_with (go_at_call 57;refine(numbered_no _ n _ (by omega)).mono ?_;rintro e w' ⟨rfl,rfl⟩)
  go_ret
  exact⟨rfl,Below.refl _ _⟩
theorem Book_any (n:Int) (w:World):
  Calls Tryz.prog 34 #[.int .i64 n] w fun e w'=>e= .returned (.string ⟨(bookName n).toArray⟩)∧Below w.heap.size w w':=by
 by_cases h:1≤n∧n≤999999
 ·rw [bookName,if_pos h]
  go_enter Tryz.func34,Tryz.ntmps34
  go_wp2_with (go_at_call 57;refine(numbered_yes [98,111,111,107,45] n _ (by decide) h.1 h.2).mono ?_;rintro e w' ⟨rfl,hb⟩)
  go_ret
  exact⟨rfl,hb⟩
 ·rw [bookName,if_neg h]
  go_enter Tryz.func34,Tryz.ntmps34
  go_wp2_with (go_at_call 57;refine(numbered_no _ n _ (by omega)).mono ?_;rintro e w' ⟨rfl,rfl⟩)
  go_ret
  exact⟨rfl,Below.refl _ _⟩
def isDig (c:UInt8):Bool:=decide (48≤(c.toNat:Int))&&decide ((c.toNat:Int)≤57)
def decOf (l:List UInt8):Int:=l.foldl (fun n c=>10*n+((c.toNat:Int) - 48)) 0
def numOf (l:List UInt8):Int:=if l.length=6∧l.all isDig then decOf l else 0
theorem decOf_snoc (l:List UInt8) (c:UInt8):decOf (l++[c])=10*decOf l+((c.toNat:Int) - 48):=by simp [decOf]
theorem isDig_iff (c:UInt8):isDig c=true↔48≤(c.toNat:Int)∧(c.toNat:Int)≤57:=by simp [isDig]
theorem decOf_bd (l:List UInt8) (h:l.all isDig=true):0≤decOf l∧decOf l<10^l.length:=by
 revert h
 refine snoc_ind (P:=fun l=>l.all isDig=true→0≤decOf l∧decOf l<10^l.length) (by simp [decOf]) ?_ l
 ·intro l c ih h
  simp only [List.all_append,List.all_cons,List.all_nil,Bool.and_true,Bool.and_eq_true] at h
  have h1:=ih h.1
  have h2:=(isDig_iff c).1 h.2
  rw [decOf_snoc]
  simp only [List.length_append,List.length_cons,List.length_nil,Nat.zero_add,Int.pow_succ]
  omega
set_option maxRecDepth 100000 in
set_option maxHeartbeats 1000000 in
theorem number_any (l:List UInt8) (w:World):
  Calls Tryz.prog 67 #[.string ⟨l.toArray⟩] w fun e w'=>e= .returned (.int .i64 (numOf l))∧Below w.heap.size w w':=by
 by_cases h6:l.length=6
 ·go_enter Tryz.func67,Tryz.ntmps67
  go_wp2
  obtain⟨c,w1,hcv,hb,hs,hc,hcell⟩:=conv_bytes w l
  go_simp
  go_wp2
  have h6':=Lib.hid h6
  clear h6 hcv
  go_loop [3,12] (fun nv iv=> ∃ k:Nat,k≤6∧iv= .int .i64 k∧nv= .int .i64 (decOf (l.take k))∧(l.take k).all isDig=true) (fun _ iv=>(6 - intOf iv).toNat)
  case atStart=>exact⟨0,by omega,rfl,rfl,rfl⟩
  case round=>
   obtain⟨k,hk,rfl,rfl,hall⟩:=hrel
   have h6:=h6'.out
   have hbd:=decOf_bd _ hall
   have hpw:(10:Int)^(l.take k).length≤1000000:=by
    rw [List.length_take]
    have:min k l.length=0∨min k l.length=1∨min k l.length=2∨min k l.length=3∨min k l.length=4∨min k l.length=5∨min k l.length=6:=by omega
    rcases this with h | h | h | h | h | h | h<;>rw [h]<;>decide
   by_cases hk6:k<6
   ·obtain⟨x,hx,hts,hmem⟩:=nth l k (by omega)
    have hcl:=hcell k x hx
    have HT:=Lib.hid hts
    have hn1:decOf (l.take k)<1000000:=by omega
    have hn0:=hbd.1
    have HA:=Lib.hid hall
    have hno:Hid (isDig x=false→numOf l=0):=Lib.hid fun hf=>by
     rw [numOf,if_neg]
     rintro⟨_,ha⟩
     have:=List.all_eq_true.1 ha x hmem
     rw [hf] at this
     cases this
    clear hpw hbd hall hx hts h6 hcell hmem
    go_wp2
    ·go_ret
     have hd:isDig x=false:=by have h:57<(x.toNat:Int):=by omega
                               simp [isDig];omega
     exact⟨ret_int (hno.out hd).symm,hb⟩
    ·go_round
     case rel=>
      have hd:isDig x=true:=(isDig_iff x).2 ⟨by omega,by omega⟩
      exact⟨k+1,by omega,by go_num,by rw [HT.out,decOf_snoc],by rw [HT.out];simp [HA.out,hd]⟩
     case measure=>simp [intOf];omega
    ·go_ret
     have hd:isDig x=false:=by simp [isDig];omega
     exact⟨ret_int (hno.out hd).symm,hb⟩
   ·obtain rfl:k=6:=by omega
    go_wp2
    go_ret
    have e:l.take 6=l:=List.take_of_length_le (by omega)
    rw [e] at hall
    exact⟨ret_int (by rw [numOf,if_pos ⟨h6,hall⟩,e]),hb⟩
 ·go_enter Tryz.func67,Tryz.ntmps67
  go_wp2
  go_ret
  exact⟨ret_int (by rw [numOf,if_neg (by simp [h6])]),Below.refl _ _⟩
theorem cutPrefix_l (l p:List UInt8) (w:World):Calls Tryz.prog 66 #[.string ⟨l.toArray⟩,.string ⟨p.toArray⟩] w fun e w'=>
  e= .returned (.tuple #[.string ⟨(Lib.trimPrefix l p).toArray⟩,.bool (Lib.hasPrefix l p)])∧w=w':=
 (Tryz.strings_CutPrefix ⟨l.toArray⟩ ⟨p.toArray⟩ w).mono fun _ _ ⟨h1,h2⟩=>⟨by simpa using h1,h2.symm⟩
def segPre:List UInt8:=[115,101,103,45]
def bookPre:List UInt8:=[98,111,111,107,45]
def manName:List UInt8:=[109,97,110,105,102,101,115,116]
def tmpName:List UInt8:=[109,97,110,105,102,101,115,116,46,116,109,112]
def parseK (k n:Int):Int×Int:=if n=0 then (0,0) else (k,n)
def parseOf (l:List UInt8):Int×Int:=
 if l=manName then (1,0) else if l=tmpName then (2,0)
 else if Lib.hasPrefix l segPre=true then parseK 3 (numOf (Lib.trimPrefix l segPre))
 else if Lib.hasPrefix l bookPre=true then parseK 4 (numOf (Lib.trimPrefix l bookPre)) else (0,0)
set_option maxHeartbeats 1000000 in
theorem Parse_any (l:List UInt8) (w:World):
  Calls Tryz.prog 40 #[.string ⟨l.toArray⟩] w fun e w'=>e= .returned (.tuple #[.int .i64 (parseOf l).1,.int .i64 (parseOf l).2])∧Below w.heap.size w w':=by
 by_cases h1:l=manName
 ·subst h1
  have hp:parseOf manName=(1,0):=by decide
  rw [hp]
  unfold manName
  go_enter Tryz.func40,Tryz.ntmps40
  go_wp2
  go_ret2
  exact⟨rfl,Below.refl _ _⟩
 have h1':(l== [109,97,110,105,102,101,115,116])=false:=by simpa [manName] using h1
 by_cases h2:l=tmpName
 ·subst h2
  have hp:parseOf tmpName=(2,0):=by decide
  rw [hp]
  unfold tmpName
  clear h1' h1
  go_enter Tryz.func40,Tryz.ntmps40
  go_wp2
  go_ret2
  exact⟨rfl,Below.refl _ _⟩
 have h2':(l== [109,97,110,105,102,101,115,116,46,116,109,112])=false:=by simpa [tmpName] using h2
 by_cases h3:Lib.hasPrefix l segPre=true
 ·have hp:Hid (parseOf l=parseK 3 (numOf (Lib.trimPrefix l segPre))):=Lib.hid (by rw [parseOf,if_neg h1,if_neg h2,if_pos h3])
  clear h1 h2
  unfold segPre at h3
  generalize hm:numOf (Lib.trimPrefix l segPre)=m at hp
  have HM:=Lib.hid hm
  clear hm
  by_cases h0:m=0
  all_goals
   go_enter Tryz.func40,Tryz.ntmps40
   go_wp2_with (first | (go_at_call 66;(with_reducible refine(cutPrefix_l _ _ _).mono ?_);rintro e w' ⟨rfl,rfl⟩) | (go_at_call 67;refine(number_any _ _).mono ?_;rw [show numOf (Lib.trimPrefix l [115,101,103,45])=m from HM.out];rintro e w' ⟨rfl,hb⟩))
   go_ret2
   exact⟨by rw [hp.out];simp [parseK,h0],hb⟩
 have h3':Lib.hasPrefix l [115,101,103,45]=false:=by simpa [segPre] using h3
 by_cases h4:Lib.hasPrefix l bookPre=true
 ·have hp:Hid (parseOf l=parseK 4 (numOf (Lib.trimPrefix l bookPre))):=Lib.hid (by rw [parseOf,if_neg h1,if_neg h2,if_neg h3,if_pos h4])
  clear h1 h2 h3
  unfold bookPre at h4
  generalize hm:numOf (Lib.trimPrefix l bookPre)=m at hp
  have HM:=Lib.hid hm
  clear hm
  by_cases h0:m=0
  all_goals
   go_enter Tryz.func40,Tryz.ntmps40
   go_wp2_with (first | (go_at_call 66;(with_reducible refine(cutPrefix_l _ _ _).mono ?_);rintro e w' ⟨rfl,rfl⟩) | (go_at_call 67;refine(number_any _ _).mono ?_;rw [show numOf (Lib.trimPrefix l [98,111,111,107,45])=m from HM.out];rintro e w' ⟨rfl,hb⟩))
   go_ret2
   exact⟨by rw [hp.out];simp [parseK,h0],hb⟩
 ·have h4':Lib.hasPrefix l [98,111,111,107,45]=false:=by simpa [bookPre] using h4
  have hp:Hid (parseOf l=(0,0)):=Lib.hid (by rw [parseOf,if_neg h1,if_neg h2,if_neg h3,if_neg h4])
  clear h1 h2 h3 h4
  go_enter Tryz.func40,Tryz.ntmps40
  go_wp2_with (go_at_call 66;(with_reducible refine(cutPrefix_l _ _ _).mono ?_);rintro e w' ⟨rfl,rfl⟩)
  go_ret2
  exact⟨by rw [hp.out];rfl,Below.refl _ _⟩
end Go.Proofs.YtcglcphhfmkccaaGreatDoor

namespace Go.Proofs.YtcglcphhfmkccaaGreatDoor
open Go.RowKit
def okCh (c:UInt8):Bool:=decide (97≤(c.toNat:Int))&&decide ((c.toNat:Int)≤122) || decide (48≤(c.toNat:Int))&&decide ((c.toNat:Int)≤57) || decide ((c.toNat:Int)=45) || decide ((c.toNat:Int)=46)
def rightName (l:List UInt8):Bool:=decide (1≤l.length)&&decide (l.length≤24)&&l.all okCh
set_option maxHeartbeats 1000000 in
theorem Right_any (l:List UInt8) (w:World):
  Calls Tryz.prog 14 #[.string ⟨l.toArray⟩] w fun e w'=>e= .returned (.bool (rightName l))∧w=w':=by
 by_cases h0:l=[]
 ·subst h0
  go_enter Tryz.func14,Tryz.ntmps14
  go_wp2
  go_ret
  exact⟨rfl,rfl⟩
 have h0':l.isEmpty=false:=by simpa using h0
 have h0p:0<l.length:=List.length_pos_iff.2 h0
 by_cases h1:24<l.length
 ·have hp:Hid (rightName l=false):=Lib.hid (by simp [rightName];omega)
  clear h0
  go_enter Tryz.func14,Tryz.ntmps14
  go_wp2
  go_ret
  exact⟨by rw [hp.out];rfl,rfl⟩
 clear h0
 go_enter Tryz.func14,Tryz.ntmps14
 go_wp2
 go_loop [14] (fun iv=> ∃ k:Nat,k≤l.length∧iv= .int .i64 k∧(l.take k).all okCh=true) (fun iv=>(l.length - intOf iv).toNat)
 case atStart=>exact⟨0,by omega,rfl,rfl⟩
 case round=>
  obtain⟨k,hk,rfl,hall⟩:=hrel
  have HA:=Lib.hid hall
  by_cases hk6:k<l.length
  ·obtain⟨x,hx,hts,hmem⟩:=nth l k hk6
   have hy:=ba_get hx
   have HT:=Lib.hid hts
   have hno:Hid (okCh x=false→rightName l=false):=Lib.hid fun hf=>by
    rw [rightName]
    have:l.all okCh=false:=by
     rw [Bool.eq_false_iff];intro ha
     have:=List.all_eq_true.1 ha x hmem
     rw [hf] at this;cases this
    rw [this];simp
   clear hx hts hall hmem
   by_cases hc:okCh x=true
   ·have hrel:Hid (∃ j:Nat,j≤l.length∧Value.int .i64 ((k:Int)+1)= .int .i64 j∧(l.take j).all okCh=true):=Lib.hid ⟨k+1,hk6,by go_num,by rw [HT.out];simp [HA.out,hc]⟩
    simp only [okCh,Bool.or_eq_true,Bool.and_eq_true,decide_eq_true_eq] at hc
    go_wp2
    all_goals first | (go_round;(case rel=>exact hrel.out);(case measure=>simp [intOf];omega)) | (exfalso;simp only [bne_iff_ne,ne_eq] at *;omega)
   ·have hc':okCh x=false:=by simpa using hc
    have hp:Hid (rightName l=false):=Lib.hid (hno.out hc')
    clear hno hc
    simp only [okCh,Bool.or_eq_false_iff,Bool.and_eq_false_iff,decide_eq_false_iff_not] at hc'
    go_wp2
    all_goals first | (go_ret;exact⟨by rw [hp.out];rfl,rfl⟩) | (exfalso;simp only [bne_eq_false_iff_eq] at *;omega)
  ·obtain rfl:k=l.length:=by omega
   rw [List.take_length] at hall
   have hp:Hid (rightName l=true):=Lib.hid (by simp [rightName,hall];omega)
   clear hall HA
   go_wp2
   go_ret
   exact⟨by rw [hp.out];rfl,rfl⟩
end Go.Proofs.YtcglcphhfmkccaaGreatDoor

namespace Go.Proofs.YtcglcphhfmkccaaGreatDoor
open Go.WideAt Go.WideShapes
structure Fil where
 name:List UInt8
 data:List UInt8
 safe:Int
structure Disk where
 files:List Fil
 room:Int
 fuse:Int
 down:Bool
 steps:Int
 reads:Int
def Rise (fs:List Fil):Prop:=fs.Pairwise fun a b=>bytesBefore a.name b.name=true
def atF (fs:List Fil) (n:List UInt8):Option Fil:=fs.find? fun f=>f.name==n
def putF (f:Fil):List Fil→List Fil
 | []=>[f]
 | y::r=>if bytesBefore f.name y.name then f::y::r else y::putF f r
def takeF (n:List UInt8) (fs:List Fil):List Fil:=fs.filter fun f=> !(f.name==n)
def usedF (fs:List Fil):Nat:=(fs.map fun f=>f.data.length).sum
def setF (n:List UInt8) (g:Fil→Fil) (fs:List Fil):List Fil:=fs.map fun f=>if f.name==n then g f else f
theorem bytes_asymm {a b:List UInt8} (h:bytesBefore a b=true):bytesBefore b a=false:=by
 rcases hb:bytesBefore b a
 ·rfl
 ·have:=bytes_trans _ _ _ h hb
  rw [bytes_irrefl] at this
  cases this
theorem bytes_ne {a b:List UInt8} (h:bytesBefore a b=true):a≠b:=fun e=>by rw [e,bytes_irrefl] at h;cases h
theorem mem_putF {f x:Fil}: ∀ {fs:List Fil},x∈putF f fs↔x=f∨x∈fs
 | []=>by simp [putF]
 | y::r=>by
  unfold putF
  split
  ·simp
  ·simp only [List.mem_cons,mem_putF (fs:=r)]
   constructor
   ·rintro(h | h | h)
    ·exact .inr (.inl h)
    ·exact .inl h
    ·exact .inr (.inr h)
   ·rintro(h | h | h)
    ·exact .inr (.inl h)
    ·exact .inl h
    ·exact .inr (.inr h)
theorem putF_length (f:Fil): ∀ fs:List Fil,(putF f fs).length=fs.length+1
 | []=>rfl
 | y::r=>by unfold putF;split<;>simp [putF_length f r]
theorem usedF_put (f:Fil): ∀ fs:List Fil,usedF (putF f fs)=f.data.length+usedF fs
 | []=>by simp [usedF,putF]
 | y::r=>by
  have h:=usedF_put f r
  unfold putF
  split
  ·simp [usedF]
  ·simp only [usedF,List.map_cons,List.sum_cons] at h ⊢
   omega
theorem rise_put {f:Fil}: ∀ {fs:List Fil},Rise fs→(∀ x∈fs,x.name≠f.name)→Rise (putF f fs)
 | [],_,_=>by simp [Rise,putF]
 | y::r,h,hn=>by
  obtain⟨h1,h2⟩:=List.pairwise_cons.1 h
  unfold putF
  split
  ·rename_i hb
   exact List.pairwise_cons.2 ⟨fun x hx=>by
    rcases List.mem_cons.1 hx with rfl | hx
    ·exact hb
    ·exact bytes_trans _ _ _ hb (h1 x hx),h⟩
  ·rename_i hb
   have hyf:bytesBefore y.name f.name=true:=by
    rcases bytes_total f.name y.name (Ne.symm (hn y (by simp))) with h3 | h3
    ·exact absurd h3 hb
    ·exact h3
   exact List.pairwise_cons.2 ⟨fun x hx=>by
    rcases mem_putF.1 hx with rfl | hx
    ·exact hyf
    ·exact h1 x hx,rise_put h2 fun x hx=>hn x (by simp [hx])⟩
theorem rise_take {n:List UInt8} {fs:List Fil} (h:Rise fs):Rise (takeF n fs):=h.sublist List.filter_sublist
theorem rise_set' {n:List UInt8} {g:Fil→Fil} {fs:List Fil} (h:Rise fs) (hg: ∀ f∈fs,n=f.name→(g f).name=f.name):Rise (setF n g fs):=by
 unfold Rise setF at*
 rw [List.pairwise_map]
 have hs: ∀ f∈fs,(if f.name==n then g f else f).name=f.name:=fun f hf=>by
  split
  ·rename_i hc;exact hg f hf (by simpa using (beq_iff_eq.1 hc).symm)
  ·rfl
 refine h.imp_of_mem fun {a b} ha hb hab=> ?_
 rw [hs a ha,hs b hb]
 exact hab
theorem take_none {n:List UInt8} {fs:List Fil} (h:atF fs n=none):takeF n fs=fs:=by
 unfold takeF
 rw [List.filter_eq_self]
 intro x hx
 have:=List.find?_eq_none.1 h x hx
 simpa using this
theorem rise_one: ∀ {fs:List Fil} {n:List UInt8} {f x:Fil},Rise fs→atF fs n=some f→x∈fs→x.name=n→x=f
 | [],_,_,_,_,_,hx,_=>by cases hx
 | y::r,n,f,x,h,ha,hx,hn=>by
  obtain⟨h1,h2⟩:=List.pairwise_cons.1 h
  unfold atF at ha
  rw [List.find?_cons] at ha
  by_cases hy:y.name=n
  ·rw [show (y.name==n)=true by simpa using hy] at ha
   simp only [Option.some.injEq] at ha
   rcases List.mem_cons.1 hx with rfl | hx
   ·exact ha
   ·exact absurd (hy.trans hn.symm) (bytes_ne (h1 x hx))
  ·rw [show (y.name==n)=false by simpa using hy] at ha
   rcases List.mem_cons.1 hx with rfl | hx
   ·exact absurd hn hy
   ·exact rise_one h2 ha hx hn
theorem at_name {fs:List Fil} {n:List UInt8} {f:Fil} (h:atF fs n=some f):f.name=n∧f∈fs:=by
 have h1:=List.find?_some h
 exact⟨by simpa using h1,List.mem_of_find?_eq_some h⟩
theorem put_take: ∀ {fs:List Fil} {n:List UInt8} {f f':Fil},Rise fs→atF fs n=some f→f'.name=n→putF f' (takeF n fs)=setF n (fun _=>f') fs
 | [],_,_,_,_,h,_=>by cases h
 | y::r,n,f,f',h,ha,hn=>by
  obtain⟨h1,h2⟩:=List.pairwise_cons.1 h
  unfold atF at ha
  rw [List.find?_cons] at ha
  by_cases hy:y.name=n
  ·have e1:takeF n (y::r)=r:=by
    unfold takeF
    rw [List.filter_cons,show (y.name==n)=true by simpa using hy]
    simp only [Bool.not_true,Bool.false_eq_true,if_false]
    rw [List.filter_eq_self]
    intro x hx
    have:=bytes_ne (h1 x hx)
    rw [hy] at this
    simpa using this.symm
   have e2:setF n (fun _=>f') (y::r)=f'::r:=by
    unfold setF
    rw [List.map_cons,show (y.name==n)=true by simpa using hy]
    simp only [if_true]
    congr 1
    rw [List.map_congr_left (g:=id) (fun x hx=>by
     have:=bytes_ne (h1 x hx)
     rw [hy] at this
     simp [this.symm])]
    simp
   rw [e1,e2]
   match r,h1 with
   | [],_=>rfl
   | z::r',h1=>rw [putF,if_pos (by rw [hn,←hy];exact h1 z (by simp))]
  ·rw [show (y.name==n)=false by simpa using hy] at ha
   have e1:takeF n (y::r)=y::takeF n r:=by
    unfold takeF
    rw [List.filter_cons,show (y.name==n)=false by simpa using hy]
    rfl
   have e2:setF n (fun _=>f') (y::r)=y::setF n (fun _=>f') r:=by
    unfold setF
    rw [List.map_cons,show (y.name==n)=false by simpa using hy]
    rfl
   have hyf:=h1 f (List.mem_of_find?_eq_some ha)
   have hfn:f.name=n:=by have:=List.find?_some ha;simpa using this
   rw [e1,e2,putF,if_neg (by rw [hn,←hfn,bytes_asymm hyf];simp),put_take h2 ha hn]
end Go.Proofs.YtcglcphhfmkccaaGreatDoor
namespace Go.Proofs.YtcglcphhfmkccaaGreatDoor
structure DOp where
 k:Int
 name:List UInt8
 to:List UInt8
 b:List UInt8
 n:Int
 m:Int
 keep:List Int
def barD (d:Disk) (o:DOp):Int:=
 if d.down then 3
 else if !rightName o.name || (decide (o.k=3)&& !rightName o.to) then 50
 else match atF d.files o.name with
  | none=>if decide (o.k=0) then (if decide (700≤d.files.length) then 53 else 0) else 51
  | some f=>
   if decide (o.k=0) then 52
   else if decide (o.k=1)&&decide (d.room - (usedF d.files:Int)<(o.b.length:Int)) then 54
   else if decide (o.k=5)&&(decide (o.n<0) || decide ((f.data.length:Int)<o.n)) then 1
   else if decide (o.k=6)&&(decide (o.n<0) || decide (o.m<0) || decide ((f.data.length:Int)<o.n) || decide ((f.data.length:Int) - o.n<o.m)) then 1
   else 0
def chgF (o:DOp) (f:Fil):Fil:=
 if o.k=1 then {f with data:=f.data++o.b}
 else if o.k=2 then {f with safe:=(f.data.length:Int)}
 else if o.k=3 then {f with name:=o.to}
 else if o.k=5 then {f with data:=f.data.take o.n.toNat,safe:=if o.n<f.safe then o.n else f.safe}
 else f
def chgD (d:Disk) (o:DOp):Disk:=
 if o.k=0 then {d with files:=putF ⟨o.name,[],0⟩ d.files}
 else match atF d.files o.name with
  | none=>d
  | some f=>
   if o.k=4 then {d with files:=takeF o.name d.files}
   else if o.k=3 then {d with files:=putF (chgF o f) (takeF o.to (takeF o.name d.files))}
   else {d with files:=putF (chgF o f) (takeF o.name d.files)}
def keptN (f:Fil) (k:Int):Int:=if 0<k then (if (f.data.length:Int) - f.safe<k then (f.data.length:Int) else f.safe+k) else f.safe
def restF:List Fil→List Int→List Fil
 | [],_=>[]
 | f::r,ks=>⟨f.name,f.data.take (keptN f (ks.headD 0)).toNat,keptN f (ks.headD 0)⟩::restF r ks.tail
def doD (d:Disk) (o:DOp):Disk×List UInt8×Int×Int:=
 if o.k=8 then ({d with files:=restF d.files o.keep,down:=false,fuse:=0},[],0,0)
 else if o.k=9 then ({d with fuse:=if 0<o.n then o.n else 0},[],0,0)
 else if o.k<0∨9<o.k then (d,[],0,0)
 else if barD d o≠0 then (d,[],0,barD d o)
 else if o.k=6 then ({d with reads:=IntKind.i64.wrap (d.reads+o.m)},match atF d.files o.name with | none=>[] | some f=>(f.data.drop o.n.toNat).take o.m.toNat,0,0)
 else if o.k=7 then (d,[],match atF d.files o.name with | none=>0 | some f=>(f.data.length:Int),0)
 else if d.fuse=1 then ((if o.k=1 then chgD {d with fuse:=0,down:=true} o else {d with fuse:=0,down:=true}),[],0,3)
 else (chgD {d with fuse:=if 1<d.fuse then d.fuse - 1 else d.fuse,steps:=d.steps+1} o,[],0,0)
structure DiskOk (d:Disk):Prop where
 rise:Rise d.files
 names: ∀ f∈d.files,rightName f.name=true
 safe: ∀ f∈d.files,0≤f.safe∧f.safe≤(f.data.length:Int)
 count:d.files.length≤700
 room:0≤d.room∧d.room≤67108864
 used:(usedF d.files:Int)≤d.room
 fuse:0≤d.fuse∧d.fuse≤9223372036854775807
 steps:0≤d.steps
 reads: -9223372036854775808≤d.reads∧d.reads≤9223372036854775807
end Go.Proofs.YtcglcphhfmkccaaGreatDoor
namespace Go.Proofs.YtcglcphhfmkccaaGreatDoor
theorem usedF_take: ∀ {fs:List Fil} {n:List UInt8} {f:Fil},Rise fs→atF fs n=some f→usedF (takeF n fs)+f.data.length=usedF fs
 | [],_,_,_,h=>by cases h
 | y::r,n,f,h,ha=>by
  obtain⟨h1,h2⟩:=List.pairwise_cons.1 h
  unfold atF at ha
  rw [List.find?_cons] at ha
  by_cases hy:y.name=n
  ·rw [show (y.name==n)=true by simpa using hy] at ha
   simp only [Option.some.injEq] at ha
   subst ha
   have e1:takeF n (y::r)=r:=by
    unfold takeF
    rw [List.filter_cons,show (y.name==n)=true by simpa using hy]
    simp only [Bool.not_true,Bool.false_eq_true,if_false]
    rw [List.filter_eq_self]
    intro x hx
    have:=bytes_ne (h1 x hx)
    rw [hy] at this
    simpa using this.symm
   rw [e1]
   simp only [usedF,List.map_cons,List.sum_cons]
   omega
  ·rw [show (y.name==n)=false by simpa using hy] at ha
   have e1:takeF n (y::r)=y::takeF n r:=by
    unfold takeF
    rw [List.filter_cons,show (y.name==n)=false by simpa using hy]
    rfl
   have:=usedF_take h2 ha
   rw [e1]
   simp only [usedF,List.map_cons,List.sum_cons] at this ⊢
   omega
theorem usedF_take_none {fs:List Fil} {n:List UInt8} (h:atF fs n=none):usedF (takeF n fs)=usedF fs:=by rw [take_none h]
theorem usedF_set {fs:List Fil} {n:List UInt8} {f f':Fil} (h:Rise fs) (ha:atF fs n=some f) (hn:f'.name=n):usedF (setF n (fun _=>f') fs)+f.data.length=usedF fs+f'.data.length:=by
 have h1:=usedF_take h ha
 rw [←put_take h ha hn,usedF_put]
 omega
theorem len_le_used {fs:List Fil} {f:Fil} (h:f∈fs):f.data.length≤usedF fs:=by
 induction fs with
 | nil=>cases h
 | cons y r ih=>
  simp only [usedF,List.map_cons,List.sum_cons] at ih ⊢
  rcases List.mem_cons.1 h with rfl | h
  ·omega
  ·have:=ih h;omega
theorem mem_setF {n:List UInt8} {f' x:Fil} {fs:List Fil} (h:x∈setF n (fun _=>f') fs):x=f'∨x∈fs:=by
 obtain⟨y,hy,rfl⟩:=List.mem_map.1 h
 by_cases hc:(y.name==n)=true
 ·rw [if_pos hc];exact .inl rfl
 ·rw [if_neg hc];exact .inr hy
theorem DiskOk.files {d:Disk} (h:DiskOk d) {fs:List Fil} (h1:Rise fs) (h2: ∀ f∈fs,rightName f.name=true) (h3: ∀ f∈fs,0≤f.safe∧f.safe≤(f.data.length:Int)) (h4:fs.length≤700) (h5:(usedF fs:Int)≤d.room):DiskOk {d with files:=fs}:=
 ⟨h1,h2,h3,h4,h.room,h5,h.fuse,h.steps,h.reads⟩
theorem DiskOk.setFile {d:Disk} (h:DiskOk d) {n:List UInt8} {f f':Fil} (ha:atF d.files n=some f) (hn:f'.name=n) (hs:0≤f'.safe∧f'.safe≤(f'.data.length:Int)) (hu:(usedF d.files:Int)+f'.data.length≤d.room+f.data.length):DiskOk {d with files:=setF n (fun _=>f') d.files}:=by
 have hu':=usedF_set h.rise ha hn
 obtain⟨hfn,hfm⟩:=at_name ha
 refine h.files (rise_set' h.rise fun y hy hyn=>by rw [hn,hyn]) (fun x hx=> ?_) (fun x hx=> ?_) (by simp [setF];exact h.count) (by omega)
 ·rcases mem_setF hx with rfl | hx
  ·rw [hn,←hfn];exact h.names f hfm
  ·exact h.names x hx
 ·rcases mem_setF hx with rfl | hx
  ·exact hs
  ·exact h.safe x hx
theorem DiskOk.take {d:Disk} (h:DiskOk d) (n:List UInt8):DiskOk {d with files:=takeF n d.files}:=by
 have hl:(takeF n d.files).length≤d.files.length:=List.length_filter_le _ _
 refine h.files (rise_take h.rise) (fun x hx=>h.names x (List.mem_filter.1 hx).1) (fun x hx=>h.safe x (List.mem_filter.1 hx).1) (Nat.le_trans hl h.count) ?_
 rcases ha:atF d.files n with _ | f
 ·rw [take_none ha];exact h.used
 ·have:=usedF_take h.rise ha
  have:=h.used
  omega
theorem DiskOk.put {d:Disk} (h:DiskOk d) {f:Fil} (hr:rightName f.name=true) (hs:0≤f.safe∧f.safe≤(f.data.length:Int)) (hn: ∀ x∈d.files,x.name≠f.name) (hc:d.files.length<700) (hu:(usedF d.files:Int)+f.data.length≤d.room):DiskOk {d with files:=putF f d.files}:=by
 refine h.files (rise_put h.rise hn) (fun x hx=> ?_) (fun x hx=> ?_) (by rw [putF_length];omega) (by rw [usedF_put];omega)
 ·rcases mem_putF.1 hx with rfl | hx
  ·exact hr
  ·exact h.names x hx
 ·rcases mem_putF.1 hx with rfl | hx
  ·exact hs
  ·exact h.safe x hx
def stepD (d:Disk):Disk:=if d.fuse=1 then {d with fuse:=0,down:=true} else {d with fuse:=if 1<d.fuse then d.fuse - 1 else d.fuse,steps:=d.steps+1}
theorem stepD_files (d:Disk):(stepD d).files=d.files:=by unfold stepD;split<;>rfl
theorem stepD_room (d:Disk):(stepD d).room=d.room:=by unfold stepD;split<;>rfl
theorem DiskOk.step {d:Disk} (h:DiskOk d):DiskOk (stepD d):=by
 have hf:=h.fuse
 have hs:=h.steps
 unfold stepD
 split
 ·exact⟨h.rise,h.names,h.safe,h.count,h.room,h.used,⟨by simp,by simp⟩,hs,h.reads⟩
 ·refine⟨h.rise,h.names,h.safe,h.count,h.room,h.used,?_,?_,h.reads⟩
  ·show 0≤(if 1<d.fuse then d.fuse - 1 else d.fuse)∧(if 1<d.fuse then d.fuse - 1 else d.fuse)≤9223372036854775807
   split<;>omega
  ·show 0≤d.steps+1
   omega
def opCreate (n:List UInt8):DOp:=⟨0,n,[],[],0,0,[]⟩
def opAppend (n b:List UInt8):DOp:=⟨1,n,[],b,0,0,[]⟩
def opSync (n:List UInt8):DOp:=⟨2,n,[],[],0,0,[]⟩
def opRename (n t:List UInt8):DOp:=⟨3,n,t,[],0,0,[]⟩
def opRemove (n:List UInt8):DOp:=⟨4,n,[],[],0,0,[]⟩
def opCut (n:List UInt8) (k:Int):DOp:=⟨5,n,[],[],k,0,[]⟩
def opSize (n:List UInt8):DOp:=⟨7,n,[],[],0,0,[]⟩
def opFuse (n:Int):DOp:=⟨9,[],[],[],n,0,[]⟩
def openE (d:Disk) (n:List UInt8):Int:=if d.down then 3 else if !rightName n then 50 else if (atF d.files n).isNone then 51 else 0
theorem openE_zero {d:Disk} {n:List UInt8} (h:openE d n=0):d.down=false∧rightName n=true∧ ∃ f,atF d.files n=some f:=by
 unfold openE at h
 rcases hd:d.down
 ·rcases hr:rightName n
  ·rw [hd,hr] at h;simp at h
  ·rcases ha:atF d.files n with _ | f
   ·rw [hd,hr,ha] at h;simp at h
   ·exact⟨rfl,rfl,f,rfl⟩
 ·rw [hd] at h;simp at h
theorem openE_cases (d:Disk) (n:List UInt8):(openE d n=3∧d.down=true)∨(openE d n=50∧d.down=false∧rightName n=false)∨(openE d n=51∧d.down=false∧rightName n=true∧atF d.files n=none)∨(openE d n=0∧d.down=false∧rightName n=true∧ ∃ f,atF d.files n=some f):=by
 unfold openE
 rcases hd:d.down
 ·rcases hr:rightName n
  ·exact .inr (.inl ⟨by simp,rfl,rfl⟩)
  ·rcases ha:atF d.files n with _ | f
   ·exact .inr (.inr (.inl ⟨by simp,rfl,rfl,rfl⟩))
   ·exact .inr (.inr (.inr ⟨by simp,rfl,rfl,f,rfl⟩))
 ·exact .inl ⟨by simp,rfl⟩
theorem doD_barred {d:Disk} {o:DOp} (hk:0≤o.k∧o.k≤7) (hb:barD d o≠0):doD d o=(d,[],0,barD d o):=by
 unfold doD
 rw [if_neg (by omega),if_neg (by omega),if_neg (by omega),if_pos hb]
theorem doD_step {d:Disk} {o:DOp} (hk:0≤o.k∧o.k≤5) (hb:barD d o=0):doD d o=(if d.fuse=1 then (if o.k=1 then chgD (stepD d) o else stepD d) else chgD (stepD d) o,[],0,if d.fuse=1 then 3 else 0):=by
 unfold doD stepD
 rw [if_neg (by omega),if_neg (by omega),if_neg (by omega),if_neg (by simp [hb]),if_neg (by omega),if_neg (by omega)]
 by_cases hf:d.fuse=1
 ·rw [if_pos hf,if_pos hf,if_pos hf,if_pos hf]
 ·rw [if_neg hf,if_neg hf,if_neg hf,if_neg hf]
theorem bar_sync (d:Disk) (n:List UInt8):barD d (opSync n)=openE d n:=by
 unfold barD openE opSync
 cases d.down
 ·cases rightName n
  ·rfl
  ·cases atF d.files n<;>rfl
 ·rfl
theorem bar_remove (d:Disk) (n:List UInt8):barD d (opRemove n)=openE d n:=by
 unfold barD openE opRemove
 cases d.down
 ·cases rightName n
  ·rfl
  ·cases atF d.files n<;>rfl
 ·rfl
theorem bar_size (d:Disk) (n:List UInt8):barD d (opSize n)=openE d n:=by
 unfold barD openE opSize
 cases d.down
 ·cases rightName n
  ·rfl
  ·cases atF d.files n<;>rfl
 ·rfl
theorem bar_cut {d:Disk} {n:List UInt8} {k:Int}:barD d (opCut n k)=if openE d n≠0 then openE d n else match atF d.files n with | none=>0 | some f=>if decide (k<0) || decide ((f.data.length:Int)<k) then 1 else 0:=by
 unfold barD openE opCut
 cases d.down
 ·cases rightName n
  ·rfl
  ·cases atF d.files n<;>rfl
 ·rfl
theorem bar_append {d:Disk} {n b:List UInt8}:barD d (opAppend n b)=if openE d n≠0 then openE d n else if decide (d.room - (usedF d.files:Int)<(b.length:Int)) then 54 else 0:=by
 unfold barD openE opAppend
 cases d.down
 ·cases rightName n
  ·rfl
  ·cases atF d.files n
   ·rfl
   ·simp
 ·rfl
theorem bar_create {d:Disk} {n:List UInt8}:barD d (opCreate n)=if openE d n=0 then 52 else if openE d n≠51 then openE d n else if decide (700≤d.files.length) then 53 else 0:=by
 unfold barD openE opCreate
 cases d.down
 ·cases rightName n
  ·rfl
  ·cases atF d.files n<;>rfl
 ·rfl
theorem bar_rename {d:Disk} {n t:List UInt8}:barD d (opRename n t)=if (openE d n=0∨openE d n=51)∧rightName t=false then 50 else openE d n:=by
 unfold barD openE opRename
 cases d.down
 ·cases rightName n
  ·cases rightName t<;>rfl
  ·cases rightName t
   ·cases atF d.files n<;>rfl
   ·cases atF d.files n<;>rfl
 ·rfl
end Go.Proofs.YtcglcphhfmkccaaGreatDoor

namespace Go.Proofs.YtcglcphhfmkccaaGreatDoor
open Go.RowKit
def flCs (f:Fil) (v:Value):Array Value:= #[.string ⟨f.name.toArray⟩,v,.int .i64 f.safe]
@[reducible] def flV (f : Fil) (v : Value) : Value := .agg #[.string ⟨f.name.toArray⟩, v, .int .i64 f.safe]
def BRowIn (A:Nat→Prop) (w:World) (v:Value) (l:List UInt8):Prop:=
 ∃ oa cap,v= .slice oa l.length cap∧l.length≤cap∧(l≠ []→ ∃ b off,oa=some ⟨b,off,none⟩∧A b∧ ∀ (i:Nat) x,l[i]? =some x→w.cell? ⟨b,off+i,none⟩=some (.int .u8 (x.toNat:Int)))
theorem BRowIn.brow {A:Nat→Prop} {w:World} {v:Value} {l:List UInt8} (h:BRowIn A w v l):BRow w v l:=by
 obtain⟨oa,cap,h1,h2,h3⟩:=h
 exact⟨oa,cap,h1,h2,fun hn=>by obtain⟨b,off,e,_,hc⟩:=h3 hn;exact⟨b,off,e,hc⟩⟩
theorem BRowIn.mono {A A':Nat→Prop} {w:World} {v:Value} {l:List UInt8} (h:BRowIn A w v l) (hA: ∀ k,A k→A' k):BRowIn A' w v l:=by
 obtain⟨oa,cap,h1,h2,h3⟩:=h
 exact⟨oa,cap,h1,h2,fun hn=>by obtain⟨b,off,e,ha,hc⟩:=h3 hn;exact⟨b,off,e,hA b ha,hc⟩⟩
theorem BRowIn.below {A:Nat→Prop} {w w':World} {v:Value} {l:List UInt8} (h:BRowIn A w v l) (hb:Below w.heap.size w w'):BRowIn A w' v l:=by
 obtain⟨oa,cap,h1,h2,h3⟩:=h
 exact⟨oa,cap,h1,h2,fun hn=>by obtain⟨b,off,e,ha,hc⟩:=h3 hn;exact⟨b,off,e,ha,fun i x hx=>cell_later hb (hc i x hx)⟩⟩
theorem browIn_own {A:Nat→Prop} {w:World} {B:Nat} {v:Value} {l:List UInt8} (h:w.ownsRow B 5 1 v l.length (Lib.byteCells l)) (hA: ∀ k,B≤k→A k):BRowIn A w v l:=by
 by_cases hn:l=[]
 ·subst hn
  obtain⟨oa,cap,rfl,h1,_⟩:=own_shape h
  exact⟨oa,cap,rfl,h1,fun h=>absurd rfl h⟩
 ·obtain⟨g,cap,rfl,hB,_,h1,_,h3⟩:=own_get h (List.length_pos_iff.2 hn)
  exact⟨_,cap,rfl,h1,fun _=>⟨g,0,rfl,hA g hB,fun i x hi=>by rw [Nat.zero_add];exact h3 i _ (by rw [Lib.byteCells,List.getElem?_map,hi];rfl)⟩⟩
def FilAt (A:Nat→Prop) (w:World) (b o:Nat) (f:Fil):Prop:= ∃ dv,w.rangeAt b o (flCs f dv).toList∧BRowIn A w dv f.data
def FilesIn (A:Nat→Prop) (w:World) (v:Value) (fs:List Fil):Prop:=
 ∃ oa cap,v= .slice oa fs.length cap∧fs.length≤cap∧cap≤maxLen∧(fs≠ []→ ∃ b off,oa=some ⟨b,off,none⟩∧A b∧ ∀ (i:Nat) f,fs[i]? =some f→FilAt A w b (off+i*3) f)
theorem FilAt.below {A:Nat→Prop} {w w':World} {b o:Nat} {f:Fil} (h:FilAt A w b o f) (hb:Below w.heap.size w w'):FilAt A w' b o f:=by
 obtain⟨dv,h1,h2⟩:=h
 exact⟨dv,range_later h1 hb,h2.below hb⟩
theorem FilesIn.below {A:Nat→Prop} {w w':World} {v:Value} {fs:List Fil} (h:FilesIn A w v fs) (hb:Below w.heap.size w w'):FilesIn A w' v fs:=by
 obtain⟨oa,cap,h1,h2,h3,h4⟩:=h
 refine⟨oa,cap,h1,h2,h3,fun hn=> ?_⟩
 obtain⟨b,off,e,ha,hc⟩:=h4 hn
 exact⟨b,off,e,ha,fun i f hf=>(hc i f hf).below hb⟩
theorem FilesIn.shape {A:Nat→Prop} {w:World} {v:Value} {fs:List Fil} (h:FilesIn A w v fs): ∃ oa cap,v= .slice oa fs.length cap∧fs.length≤cap∧cap≤9223372036854775807∧
  ∀ (i:Nat) f,fs[i]? =some f→ ∃ b off,oa=some ⟨b,off,none⟩∧A b∧FilAt A w b (off+i*3) f:=by
 obtain⟨oa,cap,rfl,h2,h3,h4⟩:=h
 refine⟨oa,cap,rfl,h2,by unfold maxLen at h3;omega,fun i f hf=> ?_⟩
 obtain⟨b,off,rfl,ha,h6⟩:=h4 (by rintro rfl;simp at hf)
 exact⟨b,off,rfl,ha,h6 i f hf⟩
def flCells (l:List (Fil×Value)):List Value:=l.flatMap fun p=>(flCs p.1 p.2).toList
theorem flCells_at: ∀ (rs:List (Fil×Value)) (i:Nat) (r:Fil×Value),rs[i]? =some r→ ∀ (j:Nat) u,(flCs r.1 r.2)[j]? =some u→(flCells rs)[i*3+j]? =some u
 | [],i,r,h,_,_,_=>by simp at h
 | x::rs,0,r,h,j,u,hj=>by
  simp at h;subst h
  have hl:j<3:=by have:=(Array.getElem?_eq_some_iff.1 hj).1;simpa [flCs] using this
  unfold flCells
  rw [List.flatMap_cons,Nat.zero_mul,Nat.zero_add,List.getElem?_append_left (by simpa [flCs] using hl)]
  simpa using hj
 | x::rs,i+1,r,h,j,u,hj=>by
  have:=flCells_at rs i r (by simpa using h) j u hj
  unfold flCells at this ⊢
  rw [List.flatMap_cons,List.getElem?_append_right (by simp [flCs];omega)]
  rw [←this]
  congr 1
  simp [flCs];omega
theorem files_own {A:Nat→Prop} {w:World} {B:Nat} {v:Value} {ps:List (Fil×Value)} (h:w.ownsRow B 47 3 v ps.length (flCells ps)) (hA: ∀ k,B≤k→A k)
  (hd: ∀ p∈ps,BRowIn A w p.2 p.1.data):FilesIn A w v (ps.map (·.1)):=by
 by_cases hn:ps=[]
 ·subst hn
  rcases h.2 with⟨rfl,_⟩ | ⟨g,cap,cur,rfl,_,_,h1,h2,_⟩
  ·exact⟨none,0,rfl,Nat.le_refl _,by decide,fun h=>absurd rfl h⟩
  ·exact⟨_,cap,rfl,h1,h2,fun h=>absurd rfl h⟩
 ·obtain⟨g,cap,rfl,hB,_,h1,h2,h3⟩:=own_get h (List.length_pos_iff.2 hn)
  refine⟨_,cap,by rw [List.length_map],by rw [List.length_map];exact h1,h2,fun _=>⟨g,0,rfl,hA g hB,fun i f hf=> ?_⟩⟩
  rw [List.getElem?_map] at hf
  obtain⟨p,hp,rfl⟩:=Option.map_eq_some_iff.1 hf
  exact⟨p.2,fun j u hj=>by rw [Nat.zero_add];exact h3 _ _ (flCells_at ps i p hp j u (by simpa using hj)),hd p (List.mem_of_getElem? hp)⟩
theorem flInfo:(Tryz.prog.info? 47).map (·.size)=some 3:=by kernel_rfl
def zeroFl:Value:= .agg #[.string ByteArray.empty,.slice none 0 0,.int .i64 0]
theorem infoFl:(Tryz.prog.info? 47).map (fun i=>(i.zero,i.size,i.bytes))=some (some zeroFl,3,48):=by kernel_rfl
end Go.Proofs.YtcglcphhfmkccaaGreatDoor
