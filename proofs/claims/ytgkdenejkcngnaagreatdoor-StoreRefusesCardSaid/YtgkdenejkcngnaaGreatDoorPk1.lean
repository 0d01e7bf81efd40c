import Derived.WalkKit
import Derived.WalkSpells
import Derived.WalkLawsBesides
import Derived.Lib.SlBytesConst
import Derived.Lib.SmallJoins
import Derived.Laws.BytesArg
import Derived.Lib.Hide
import Derived.RangeFuncNested
import Derived.RangeFuncBound
import Derived.RangeFuncCalls
import Derived.RangeFuncLeaves
import Derived.Shelf.Abstract
import Derived.OwnWalkIn
import Derived.TacticsInMore
import Derived.LoopNIn
import Derived.LoopIn
import Derived.OrdersHeld
import Derived.Deep.RegionHeld
import Derived.RangeFuncWrites
import Derived.Deep.QuietTactic
import Derived.BigQuiet
import Derived.Deep.RegionWith
import Derived.IntWalk
import Derived.Laws.OwnMore
import Derived.Laws.MakeOwn
import Derived.Deep.MidRow
import Derived.Deep.RegionHeld3
import Derived.Laws.AppendOwn
import Derived.ProofKit
import Derived.Laws.BitsAllLaws
import Derived.Lib.LaidTab
import Derived.Shelf.Small.Wraps
import Derived.Shelf.Strconv.Itoa0
import Derived.Shelf.Sort.Plain
import Derived.Shelf.Strings.Prefix
import Derived.Shelf.Bits.Mul64
import Derived.Shelf.Slices.In.SortNone
import Derived.WideAt
import Derived.WideShapes
import Derived.Maps.OwnSet
import Derived.Deep.AppendSrc
import Derived.Deep.Upon
import Derived.StringKeys
import Derived.Test.YtgkdenejkcngnaaGreatDoorRows
import Derived.Test.YtgkdenejkcngnaaGreatDoorProg
set_option maxRecDepth 100000
set_option maxHeartbeats 8000000
namespace Go.Proofs.YtgkdenejkcngnaaGreatDoor
open Go.RowKit
abbrev γ := @if_neg
abbrev δ := @Array.getElem?_eq_some_iff
abbrev ζ := @if_pos
abbrev η := @List.length_append
abbrev κ := @IntKind.wrap_i64
abbrev μ := @Nat.le_trans
abbrev ν := @decide_eq_true
abbrev ξ := @Nat.le_refl
abbrev π := @bodyPost_ret
abbrev ρ := @decide_eq_false
abbrev σ := @heap_alloc_new
abbrev τ := @Below.refl
abbrev φ := @List.length_cons
abbrev χ := @of_decide_eq_true
abbrev ψ := @Option.some.inj
abbrev ω := @wp_region_held_drew
abbrev ε := @of_decide_eq_false
abbrev θ := @Nat.zero_le
abbrev Γ := @List.mem_cons
abbrev Δ := @List.getElem?_eq_getElem
abbrev Θ := @List.length_take
abbrev Λ := @wpAnyH_done
abbrev Ξ := @List.length_drop
abbrev Φ := @List.length_nil
abbrev Ψ := @List.length_pos_iff
abbrev Ω := @World.size_alloc
theorem Rd {P : Program} {ops : Array Oper} {Q : Exit → Act → World → Prop} {md : Region.Mode} {S : World → Prop} {fuel : Nat} {listed : Array Bool} {a : Act} {w : World} {o : Oper} (i : Nat) (ho : ops[i]? = some o)
    (h : ∀ K' : Act → World → Prop, Shut (∀ a w, S w → (S w → wpAnyH P md ops Q S fuel (listed.setIfInBounds i true) a w) → K' a w) → if Region.wanted o (yielded ops a.tmps) = true then Oper.wp P o a w K' Q else K' (a.put o.dst undef) w)
    (hr : Region.ready md ops listed = [i] := by kernel_rfl) : wpAnyH P md ops Q S (fuel + 1) listed a w := wpAnyH_ready (rs := [i]) hr (by simp) (AllReadyH.cons ho h AllReadyH.nil)
open Go.RowKit in
theorem Qh {p : Prop} (h : p) : Hid p := h
theorem Bc (b o j:Nat):(⟨b,o,none⟩:Addr).add j=⟨b,o+j,none⟩:=by unfold Addr.add;split<;>simp_all
theorem snoc_ind {α:Type} {P:List α→Prop} (h0:P []) (h1: ∀ l a,P l→P (l++[a])) (l:List α):P l:=by
 have key: ∀ m:List α,P m.reverse:=fun m=>by
  induction m with
  | nil=>exact h0
  | cons a m ih=>rw [List.reverse_cons];exact h1 _ _ ih
 have:=key l.reverse
 rwa [List.reverse_reverse] at this
theorem take_snoc {α:Type} (l:List α) (k:Nat) (h:k<l.length):l.take (k+1)=l.take k++[l[k]]:=by
 rw [List.take_succ_eq_append_getElem h]
theorem Kc {α:Type} (l:List α) (k:Nat) (h:k<l.length): ∃ x,l[k]? =some x∧l.take (k+1)=l.take k++[x]∧x∈l:=
 ⟨l[k],Δ h,take_snoc l k h,List.getElem_mem h⟩
theorem getElem?_lt {α:Type} {l:List α} {j:Nat} {x:α} (h:l[j]? =some x):j<l.length:=(List.getElem?_eq_some_iff.1 h).1
theorem ba_get {l:List UInt8} {j:Nat} {x:UInt8} (h:l[j]? =some x): ∀ hh,(⟨l.toArray⟩:ByteArray)[j]'hh=x:=by
 intro hh
 have hj:=getElem?_lt h
 rw [Δ hj] at h
 have e:(⟨l.toArray⟩:ByteArray)[j]'hh=l[j]:=rfl
 rw [e];simpa using h
theorem ret_str {a b:ByteArray} (h:a=b):Ending.returned (.string a)= .returned (.string b):=by rw [h]
theorem ret_int {k:IntKind} {a b:Int} (h:a=b):Ending.returned (.int k a)= .returned (.int k b):=by rw [h]
theorem ba_append (a b:List UInt8):(⟨a.toArray⟩:ByteArray)++⟨b.toArray⟩=⟨(a++b).toArray⟩:=by
 apply ByteArray.ext;simp
theorem conv_bytes (w:World) (l:List UInt8):
  ∃ c w',(convert 9 39 (.string ⟨l.toArray⟩)).run Tryz.prog w= .ok (.slice (some ⟨w.heap.size,0,none⟩) l.length c) w'∧Below w.heap.size w w'∧w'.heap.size=w.heap.size+1∧
   l.length≤c∧(∀ j x,l[j]? =some x→w'.cell? ⟨w.heap.size,j,none⟩=some (.int .u8 (x.toNat:Int))):=by
 have hr:=run_bytes_of_string (P:=Tryz.prog) w 9 39 5 ⟨l.toArray⟩ Tryz.underlying9 Tryz.underlying39 Tryz.underlying5
 refine⟨_,_,hr,?_,by simp,grownCap_ge _ _ _ _,fun j x h=> ?_⟩
 ·exact((τ _ _).drew).alloc (ξ _) _
 ·refine(World.cell?_alloc_mark w.drew _ _ _ j).trans ?_
  have h':=getElem?_lt h
  rw [bytesRow_at _ _ _ (by simpa using h')]
  rw [Δ h'] at h
  simp at h ⊢;rw [h]
theorem Below.next {a b c:World} (h:Below a.heap.size a b) (k:Below b.heap.size b c):Below a.heap.size a c:=h.trans (k.mono h.size)
section
variable {P : Program} {ops : Array Oper} {Q : Exit → Act → World → Prop} {n l : Nat}
theorem uponIn_round {o:Oper} {a:Act} {K:Act→World→Prop} {r:Result Next} (h:o.upon P a K Q r):o.uponIn (Fence.wide.inRound l) n P a K Q r:=by
 unfold Oper.upon at h
 split at h
 ·exact h
 ·exact h
 ·exact h
 ·exact⟨fun hd=>(by cases hd),CallsIn.inRound l (callsIn_wide.2 h)⟩
 ·refine⟨fun hd=>(by cases hd),fun c cs _=> ?_⟩
  obtain⟨v,w2,hR,hs⟩:=h c cs
  exact⟨v,w2,hR,stepsIn_wide.2 hs⟩
 ·exact h
 ·exact h.elim
def Kw (ops:List Oper):Bool:=ops.all fun o=>match o.op with
 | .defer _=>false
 | _=>true
theorem noDefer_mem {o:Oper} {os:List Oper} (h:Kw os=true) (ho:o∈os): ∀ c,o.op≠ .defer c:=fun c hc=>by
 have:=List.all_eq_true.1 h o ho
 rw [hc] at this
 cases this
theorem operIn_round {o:Oper} {a:Act} {w:World} {K:Act→World→Prop} (hd: ∀ c,o.op≠ .defer c) (h:o.wp P a w K Q):o.wpIn (Fence.wide.inRound l) n P a w K Q:=by
 refine⟨fun _ _=>trivial,?_⟩
 rw [Oper.semAt_eq _ _ _ hd]
 exact uponIn_round h
theorem Ku (hQ: ¬ LetsOut Q): ∀ {os:List Oper} {a:Act} {w:World},Kw os=true→wpList P ops Q os a w→wpListIn (Fence.wide.inRound l) n P ops Q os a w
 | [],_,_,_,h=>h
 | o::rest,a,w,hd,h=>by
  have hr:Kw rest=true:=by
   unfold Kw at hd ⊢
   rw [List.all_cons,Bool.and_eq_true] at hd
   exact hd.2
  unfold wpList at h
  unfold wpListIn
  split at h
  ·rename_i hw
   rw [ζ hw]
   rcases h with h | ⟨_,h⟩
   ·exact Oper.wpIn_mono (fun a w=>Ku hQ hr) (operIn_round (noDefer_mem hd List.mem_cons_self) h)
   ·exact absurd h hQ
  ·rename_i hw
   rw [γ hw]
   exact⟨fun _ _=>trivial,Ku hQ hr h⟩
theorem I5 {md:Region.Mode} (hQ: ¬ LetsOut Q) (hd:Kw ops.toList=true): ∀ (fuel:Nat) {listed:Array Bool} {a:Act} {w:World},wpAny P md ops Q fuel listed a w→wpAnyIn (Fence.wide.inRound l) n P md ops Q fuel listed a w
 | 0,_,_,_,h=>h
 | fuel+1,listed,a,w,h=>by
  refine⟨h.1,fun i hi=> ?_⟩
  have:=h.2 i hi
  unfold wpOp at this
  unfold wpOpIn
  split at this
  ·rename_i he
   rw [he]
   exact I5 hQ hd fuel this
  ·rename_i o he
   rw [he]
   simp only
   split at this
   ·rename_i hw
    rw [ζ hw]
    rcases this with h | ⟨_,h⟩
    ·exact Oper.wpIn_mono (fun a w=>I5 hQ hd fuel) (operIn_round (noDefer_mem hd (by
      have:=Array.mem_of_getElem? he
      exact Array.mem_def.1 this)) h)
    ·exact absurd h hQ
   ·rename_i hw
    rw [γ hw]
    exact⟨fun _ _=>trivial,I5 hQ hd fuel this⟩
theorem wpIn_region_held {id:Nat} {S:World→Prop} {a:Act} {w:World} (hm:P.follows .mixedOrders=true) (hd:Kw ops.toList=true) (hQ: ¬ LetsOut Q) (hS:S w.drew)
  (h:S w.drew→wpAnyH P .any ops Q S ops.size (Array.replicate ops.size false) a w.drew):(Code.region id ops true).wpIn (Fence.wide.inRound l) n P Q a w:=
 wpIn_region_any hm (I5 hQ hd _ (wpAny_of_held _ _ _ _ (h hS)))
theorem Bq {id:Nat} {os:List Oper} {a:Act} {w:World} (hd:Kw os=true) (hQ: ¬ LetsOut Q) (h:wpList P os.toArray Q os a w):(Code.region id os.toArray false).wpIn (Fence.wide.inRound l) n P Q a w:=
 wpIn_region_lit (Ku hQ hd h)
theorem B6 {K:Act→World→Prop} (h: ¬ LetsOut Q): ¬ LetsOut (Exit.then K Q):=fun⟨a,w,hh⟩=>h ⟨a,w,hh⟩
theorem Cj {id:Nat} (h: ¬ LetsOut Q): ¬ LetsOut (Exit.inBlock id Q):=fun⟨a,w,hh⟩=>h ⟨a,w,hh⟩
theorem Fj {α:Type} {B:Nat} {Kp:World→World→Prop} {I:List α→World→Prop} {Ix:Code→List α→World→Prop} {xs:List α} {W:World}: ¬ LetsOut (ownPostG B Kp I Ix xs W):=fun⟨_,_,hh⟩=>hh
end
structure Dj (B:Nat) (W W':World):Prop where
 os:W'.os=W.os
 tape:W'.tape=W.tape
 output:W'.output=W.output
 size:W.heap.size≤W'.heap.size
 block: ∀ k o,W.heap[k]? =some o→(k<B∨o.isCells=true)→W'.heap[k]? =some o
theorem Dj.trans {B:Nat} {X Y Z:World} (h:Dj B X Y) (k:Dj B Y Z):Dj B X Z:=
 ⟨k.os.trans h.os,k.tape.trans h.tape,k.output.trans h.output,μ h.size k.size,fun i o hi ho=>k.block i o (h.block i o hi ho) ho⟩
theorem Dj.below {B:Nat} {W W':World} (h:Below W.heap.size W W'):Dj B W W':=
 ⟨h.os,h.tape,h.output,h.size,fun k _ hk _=>(h.block k (δ.1 hk).1).trans hk⟩
theorem Dj.grown {B:Nat} {W W':World} {row:Option Nat} (h:W.grownBy W' row) (hr: ∀ r,row=some r→B≤r∧ ∃ o:Obj,W.heap[r]? =some o∧o.isCells=false):Dj B W W':=
 ⟨h.os,h.tape,h.output,h.size,fun k o hk ho=>(h.block k (δ.1 hk).1 (fun e=>by
  obtain⟨h1,o',h2,h3⟩:=hr k e.symm
  rw [hk] at h2
  cases h2
  rcases ho with ho | ho
  ·omega
  ·rw [ho] at h3;cases h3)).trans hk⟩
theorem Dj.putObj {B:Nat} {W:World} {l:Nat} {o:Obj} (o':Obj) (hB:B≤l) (hl:W.heap[l]? =some o) (ho:o.isCells=false):Dj B W (W.putObj l o'):=
 Dj.grown (grownBy_putObj' W l o') (fun r e=>by cases e;exact⟨hB,o,hl,ho⟩)
theorem Dj.cell {B:Nat} {W W':World} (h:Dj B W W') {a:Addr} {v:Value} (hc:W.cell? a=some v):W'.cell? a=some v:=by
 unfold World.cell? at hc ⊢
 rcases hx:W.heap[a.block]? with _ | o
 ·rw [hx] at hc;simp at hc
 ·cases o with
  | cells cs ty fz=>rw [h.block a.block _ hx (.inr rfl)];rw [hx] at hc;exact hc
  | _=>rw [hx] at hc;simp at hc
theorem Dj.blk {B:Nat} {W W':World} (h:Dj B W W') {k:Nat} {cs:Array Value} {ty:TypeId} {fz:Nat×Nat} (hb:W.heap[k]? =some (.cells cs ty fz)):W'.heap[k]? =some (.cells cs ty fz):=h.block k _ hb (.inr rfl)
theorem Dj.after {B:Nat} {w W W':World} (h:Dj B W W') (hb:Below w.heap.size w W) (hB:w.heap.size≤B):Below w.heap.size w W':=
 ⟨h.os.trans hb.os,h.tape.trans hb.tape,h.output.trans hb.output,μ hb.size h.size,fun k hk=>by
  have h1:=hb.block k hk
  rcases hx:w.heap[k]? with _ | o
  ·rw [Array.getElem?_eq_getElem hk] at hx;cases hx
  ·rw [hx] at h1;exact h.block k o h1 (.inl (by omega))⟩
def Ha {β:Type} (B:Nat) (I:β→World→Prop):Prop:= ∀ s W W',I s W→Dj B W W'→I s W'
theorem Ha.own {β:Type} {B:Nat} {I:β→World→Prop} (h:Ha B I) {s:β} {W:World} {l:Nat} {o:Obj} (o':Obj) (hs:I s W) (hB:B≤l) (hl:W.heap[l]? =some o) (ho:o.isCells=false):I s (W.putObj l o'):=h s _ _ hs (Dj.putObj o' hB hl ho)
def SeqR {α:Type} (P:Program) (gf:Nat) (lb:Array Value) (encs:α→Array Value) (R:List α→α→World→World→Prop) (Kp:World→World→Prop) (S Sp:List α→Prop) (w:World):Prop:=
 ∀ (l:Nat) (J Jx:List α→World→Prop) (W:World),Below w.heap.size w W→Ha W.heap.size J→Ha W.heap.size Jx→
  (∀ pre x Wo W1,J pre Wo→W.heap.size≤Wo.heap.size→Dj W.heap.size Wo W1→R pre x Wo W1→YieldAt Fence.wide 1 P l (encs x) W1 fun e W'=>
   (e= .returned (.bool true)∧J (pre++[x]) W'∧Kp W1 W')∨(e= .returned (.bool false)∧Jx (pre++[x]) W'))→
  J [] W→
  CallsIn Fence.wide 2 P gf (#[.func (.yield l) #[] #[]]++lb) W fun e W'=>(∃ v,e= .returned v)∧((∃ xs,S xs∧J xs W')∨(∃ pre,Sp pre∧Jx pre W'))
theorem wp_rangeFuncR {α:Type} {P:Program} {g:Operand} {ps:Array Tmp} {assign body:Code} {Q:Exit→Act→World→Prop} {a:Act} {w:World}
  {gf:Nat} {lb:Array Value} (hg:a.eval g= .func (.func gf) #[] lb) (eg: ∀ args w,(callFunc gf args).run P w= .ok (.enter gf args) w)
  {encs:α→Array Value} {R:List α→α→World→World→Prop} {Kp:World→World→Prop} {S Sp:List α→Prop} (hseq:SeqR P gf lb encs R Kp S Sp w)
  (hKt: ∀ {A B C:World},Kp A B→Kp B C→Kp A C) (hKb: ∀ (W:World) (l:Nat) (o o':Obj),w.heap.size≤l→W.heap[l]? =some o→o.isCells=false→Kp W (W.putObj l o')) (hps: ∀ x,(encs x).size=ps.size)
  (I:List α→World→Prop) (Ix:Code→List α→World→Prop) (hI:Ha w.heap.size I) (hIx: ∀ c,Ha w.heap.size (Ix c)) (h0:I [] w)
  (hround: ∀ (l:Nat) (pre:List α) (x:α) (Wo W:World),w.heap.size≤l→w.heap.size≤Wo.heap.size→I pre Wo→Dj w.heap.size Wo W→R pre x Wo W→
   assign.wpIn (Fence.wide.inRound l) 1 P (Exit.then (fun a₁ W₁=>KeepsFrom w.heap.size W W₁∧Kp W W₁∧ ∀ W₂,Dj w.heap.size W₁ W₂→body.wpIn (Fence.wide.inRound l) 1 P (ownPostG w.heap.size Kp I Ix (pre++[x]) W₂) a₁ W₂) (fun _ _ _=>False))
    {tmps:=(ps.zip (encs x)).foldl (fun t (p,v)=>t.setIfInBounds p v) a.tmps,defers:=[]} W)
  (hdone: ∀ (D:Nat) (xs:List α) (W:World),w.heap.size≤D→S xs→I xs W→W.heap[D]? =some (.deferred (some []))→Q .normal {a with defers:={target:= .collected D,args:= #[]}::a.defers} W)
  (hstop: ∀ (D:Nat) (c:Code) (pre:List α) (W:World),w.heap.size≤D→Sp pre→Ix c pre W→W.heap[D]? =some (.deferred (some []))→c.wp P Q {a with defers:={target:= .collected D,args:= #[]}::a.defers} W):
  (Code.rangeFunc g ps assign body).wp P Q a w:=by
 refine(wpIn_wide (n:=3)).1 (wpIn_rangeFunc fun fn hfn=> ?_)
 obtain⟨W1,hW1⟩: ∃ W1,W1=(w.alloc (.deferred (some []))).alloc (.loop {state:= .ready,pending:=none,fn,tmps:=a.tmps,params:=ps,assign,body,defers:=w.heap.size}):=⟨_,rfl⟩
 have sz1:W1.heap.size=w.heap.size+2:=by rw [hW1];simp
 have hb1:Below w.heap.size w W1:=by rw [hW1];exact((τ _ w).alloc (ξ _) _).alloc (by simp) _
 have hk1:Dj w.heap.size w W1:=Dj.below hb1
 have hL1:W1.heap[w.heap.size+1]? =some (.loop {state:= .ready,pending:=none,fn,tmps:=a.tmps,params:=ps,assign,body,defers:=w.heap.size}):=by
  rw [hW1]
  have:=World.alloc_heap_new (w.alloc (.deferred (some []))) (.loop {state:= .ready,pending:=none,fn,tmps:=a.tmps,params:=ps,assign,body,defers:=w.heap.size})
  rwa [Ω] at this
 have hD1:W1.heap[w.heap.size]? =some (.deferred (some [])):=by
  rw [hW1];exact(Below.heap_alloc _ _ _ (by simp)).trans (World.alloc_heap_new w _)
 refine⟨w.heap.size+1,[{target:= .collected w.heap.size,args:= #[]}],W1,{target:= .fn (.func gf) lb,args:= #[.func (.yield (w.heap.size+1)) #[] #[]]},W1,gf,
  #[.func (.yield (w.heap.size+1)) #[] #[]]++lb,W1,?_,?_,fun _ _=>trivial,?_,fun h=>(by cases h),?_⟩
 ·rw [hW1];exact run_enterLoop_outer _ _ _ _ _
 ·simp only [resolve,hg];simp [go_sem]
 ·simp [invoke,go_sem,eg]
 have hsame: ∀ {A B:World} {k:Nat} {o:Obj},Dj W1.heap.size A B→A.heap[k]? =some o→k<W1.heap.size→B.heap[k]? =some o:=fun h hk hlt=>h.block _ _ hk (.inl hlt)
 have hkept: ∀ {A B:World},Dj W1.heap.size A B→Dj w.heap.size A B:=fun h=>⟨h.os,h.tape,h.output,h.size,fun k o hk ho=>h.block k o hk (by
  rcases ho with ho | ho
  ·exact .inl (by omega)
  ·exact .inr ho)⟩
 refine(hseq (w.heap.size+1)
  (fun pre W=>I pre W∧W1.heap.size≤W.heap.size∧W.heap[w.heap.size+1]? =some (.loop {state:= .ready,pending:=none,fn,tmps:=a.tmps,params:=ps,assign,body,defers:=w.heap.size})∧W.heap[w.heap.size]? =some (.deferred (some [])))
  (fun pre W=> ∃ c,Ix c pre W∧W.heap[w.heap.size+1]? =some (.loop {state:= .done,pending:=some c,fn,tmps:=a.tmps,params:=ps,assign,body,defers:=w.heap.size})∧W.heap[w.heap.size]? =some (.deferred (some [])))
  W1 hb1
  (fun s A B hs hk=>⟨hI s A B hs.1 (hkept hk),μ hs.2.1 hk.size,hsame hk hs.2.2.1 (by omega),hsame hk hs.2.2.2 (by omega)⟩)
  (fun s A B ⟨c,hc,hl,hd⟩ hk=>⟨c,hIx c s A B hc (hkept hk),hsame hk hl (by omega),hsame hk hd (by omega)⟩)
  ?_ ⟨hI _ _ _ h0 hk1,ξ _,hL1,hD1⟩).mono ?_
 ·
  rintro pre x Wo W ⟨hi,hszo,hlo,hdo⟩ _ hko hr
  have hsz:W1.heap.size≤W.heap.size:=μ hszo hko.size
  have hl:=hsame hko hlo (by omega)
  have hd:=hsame hko hdo (by omega)
  have hlt:w.heap.size+1<W.heap.size:=(δ.1 hl).1
  refine⟨_,_,_,_,run_yield (P:=P) (args:=encs x) hl (hps x),roundIn_of_wpIn trivial (wpIn_mono (hround (w.heap.size+1) pre x Wo W (by omega) (by omega) hi (hkept hko) hr) ?_)⟩
  intro e a₁ Wa he
  cases e with
  | normal=>
   obtain⟨hkf,hkp,hbody⟩:=he
   have hla:=hkf.same _ _ (by omega) hl rfl
   have hda:=hkf.same _ _ (by omega) hd rfl
   have hlta:w.heap.size+1<Wa.heap.size:=(δ.1 hla).1
   refine⟨_,run_beginRound hla rfl,wpIn_mono (hbody _ (Dj.putObj _ (by omega) hla rfl)) ?_⟩
   have hl2:(Wa.putObj (w.heap.size+1) (.loop {state:= .busy,pending:=none,fn,tmps:=a.tmps,params:=ps,assign,body,defers:=w.heap.size})).heap[w.heap.size+1]? =some (.loop {state:= .busy,pending:=none,fn,tmps:=a.tmps,params:=ps,assign,body,defers:=w.heap.size}):=World.putObj_heap_same hlta
   have hd2:(Wa.putObj (w.heap.size+1) (.loop {state:= .busy,pending:=none,fn,tmps:=a.tmps,params:=ps,assign,body,defers:=w.heap.size})).heap[w.heap.size]? =some (.deferred (some [])):=(World.putObj_heap_other (by omega)).trans hda
   have hkp2:Kp W (Wa.putObj (w.heap.size+1) (.loop {state:= .busy,pending:=none,fn,tmps:=a.tmps,params:=ps,assign,body,defers:=w.heap.size})):=hKt hkp (hKb _ _ _ _ (by omega) hla rfl)
   have hsz2:W1.heap.size≤(Wa.putObj (w.heap.size+1) (.loop {state:= .busy,pending:=none,fn,tmps:=a.tmps,params:=ps,assign,body,defers:=w.heap.size})).heap.size:=by
    have:=hkf.size
    have h2:(Wa.putObj (w.heap.size+1) (.loop {state:= .busy,pending:=none,fn,tmps:=a.tmps,params:=ps,assign,body,defers:=w.heap.size})).heap.size=Wa.heap.size:=by simp
    omega
   generalize Wa.putObj (w.heap.size+1) (.loop {state:= .busy,pending:=none,fn,tmps:=a.tmps,params:=ps,assign,body,defers:=w.heap.size})=Wb at*
   have out: ∀ {jump:Option Code} {W3:World},KeepsFrom w.heap.size Wb W3→W3.heap[w.heap.size+1]? =some (.loop {state:= .busy,pending:=none,fn,tmps:=a.tmps,params:=ps,assign,body,defers:=w.heap.size})∧
     W3.heap[w.heap.size]? =some (.deferred (some [])):=fun h=>⟨h.same _ _ (by omega) hl2 rfl,h.same _ _ (by omega) hd2 rfl⟩
   have leave: ∀ {c:Code} {W3:World},KeepsFrom w.heap.size Wb W3→Ix c (pre++[x]) W3→ ∃ v w',(Instr.endRound (w.heap.size+1) (some c)).run P W3= .ok v w'∧v= .bool false∧ ∃ c,Ix c (pre++[x]) w'∧
     w'.heap[w.heap.size+1]? =some (.loop {state:= .done,pending:=some c,fn,tmps:=a.tmps,params:=ps,assign,body,defers:=w.heap.size})∧w'.heap[w.heap.size]? =some (.deferred (some [])):=fun {c W3} h hx=>by
    obtain⟨h1,h2⟩:=out (jump:=none) h
    have hlt3:w.heap.size+1<W3.heap.size:=(δ.1 h1).1
    exact⟨_,_,run_endRound (some c) h1,rfl,c,(hIx c).own _ hx (by omega) h1 rfl,World.putObj_heap_same hlt3,(World.putObj_heap_other (by omega)).trans h2⟩
   intro e3 a3 W3 hp
   cases e3 with
   | normal=>
    obtain⟨h3,hkp3,hi3⟩:=hp
    obtain⟨h1,h2⟩:=out (jump:=none) h3
    have hlt3:w.heap.size+1<W3.heap.size:=(δ.1 h1).1
    refine⟨_,_,run_endRound none h1,.inl ⟨rfl,⟨hI.own _ hi3 (by omega) h1 rfl,?_,World.putObj_heap_same hlt3,(World.putObj_heap_other (by omega)).trans h2⟩,hKt (hKt hkp2 hkp3) (hKb _ _ _ _ (by omega) h1 rfl)⟩⟩
    have:=h3.size
    simp
    omega
   | ret=>obtain⟨v,w',h1,rfl,h2⟩:=leave hp.1 hp.2;exact⟨_,_,h1,.inr ⟨rfl,h2⟩⟩
   | exit id=>obtain⟨v,w',h1,rfl,h2⟩:=leave hp.1 hp.2;exact⟨_,_,h1,.inr ⟨rfl,h2⟩⟩
   | goto t=>obtain⟨v,w',h1,rfl,h2⟩:=leave hp.1 hp.2;exact⟨_,_,h1,.inr ⟨rfl,h2⟩⟩
   | panic ch=>exact hp.elim
   | outgrown=>exact hp.elim
  | _=>exact he.elim
 ·
  rintro e W2 ⟨⟨v,rfl⟩,(⟨xs,hS,hi,_,hl,hd⟩ | ⟨pre,hSp,c,hi,hl,hd⟩)⟩
  ·exact⟨none,_,run_endLoop hl (by simp),hdone _ xs _ (ξ _) hS (hI.own _ hi (by omega) hl rfl) ((World.putObj_heap_other (by omega)).trans hd)⟩
  ·exact⟨some c,_,run_endLoop hl (by simp),(wpIn_wide (n:=3)).2 (hstop _ c pre _ (ξ _) hSp ((hIx c).own _ hi (by omega) hl rfl) ((World.putObj_heap_other (by omega)).trans hd))⟩
theorem own_later {w w':World} {B size n:Nat} {e:TypeId} {v:Value} {xs:List Value} (h:w.ownsRow B e size v n xs) (hb:Below w.heap.size w w'):w'.ownsRow B e size v n xs:=by
 refine⟨h.1,?_⟩
 rcases h.2 with hn | ⟨g,cap,cur,rfl,hb1,hg,rest⟩
 ·exact .inl hn
 ·exact .inr ⟨g,cap,cur,rfl,hb1,by rw [hb.block _ (δ.1 hg).1];exact hg,rest⟩
theorem Ac {w:World} {B size n:Nat} {e:TypeId} {v:Value} {xs:List Value} (h:w.ownsRow B e size v n xs): ∃ oa cap,v= .slice oa n cap∧n≤cap∧cap≤maxLen:=by
 rcases h.2 with⟨rfl,rfl⟩ | ⟨g,cap,cur,rfl,_,_,h1,h2,_⟩
 ·exact⟨none,0,rfl,ξ _,by decide⟩
 ·exact⟨_,cap,rfl,h1,h2⟩
theorem B8 {w:World} {B size n:Nat} {e:TypeId} {v:Value} {xs:List Value} (h:w.ownsRow B e size v n xs) (hn:0<n):
  ∃ g cap,v= .slice (some ⟨g,0,none⟩) n cap∧B≤g∧g<w.heap.size∧n≤cap∧cap≤maxLen∧ ∀ (j:Nat) u,xs[j]? =some u→w.cell? ⟨g,j,none⟩=some u:=by
 have hx:=h
 rcases h.2 with⟨rfl,rfl⟩ | ⟨g,cap,cur,rfl,h0,hg,h1,h2,_⟩
 ·omega
 ·refine⟨g,cap,rfl,h0,(δ.1 hg).1,h1,h2,fun j u hj=> ?_⟩
  rw [hx.cellAt j (by rw [←hx.1];exact getElem?_lt hj)]
  exact hj
def A2 (w:World) (v:Value) (l:List UInt8):Prop:=
 ∃ oa cap,v= .slice oa l.length cap∧l.length≤cap∧
  (l≠ []→ ∃ b off,oa=some ⟨b,off,none⟩∧ ∀ (i:Nat) x,l[i]? =some x→w.cell? ⟨b,off+i,none⟩=some (.int .u8 (x.toNat:Int)))
theorem A2.below {w w':World} {v:Value} {l:List UInt8} (h:A2 w v l) (hb:Below w.heap.size w w'):A2 w' v l:=by
 obtain⟨oa,cap,h1,h2,h5⟩:=h
 refine⟨oa,cap,h1,h2,fun hn=> ?_⟩
 obtain⟨b,off,e,hc⟩:=h5 hn
 exact⟨b,off,e,fun i x hx=>cell_later hb (hc i x hx)⟩
theorem below_drewN' (w:World) (n:Nat):Below w.heap.size w (w.drewN n):=⟨rfl,rfl,rfl,ξ _,fun _ _=>rfl⟩
theorem brow_own {w:World} {B:Nat} {v:Value} {l:List UInt8} (h:w.ownsRow B 5 1 v l.length (Lib.byteCells l)):A2 w v l:=by
 by_cases hn:l=[]
 ·subst hn
  obtain⟨oa,cap,rfl,h1,_⟩:=Ac h
  exact⟨oa,cap,rfl,h1,fun h=>absurd rfl h⟩
 ·obtain⟨g,cap,rfl,_,_,h1,_,h3⟩:=B8 h (Ψ.2 hn)
  exact⟨_,cap,rfl,h1,fun _=>⟨g,0,rfl,fun i x hi=>by rw [Nat.zero_add];exact h3 i _ (by rw [Lib.byteCells,List.getElem?_map,hi];rfl)⟩⟩
theorem infoByteB:(Tryz.prog.info? 5).map (fun i=>(i.zero,i.size,i.bytes))=some (some (.int .u8 0),1,1):=by kernel_rfl
theorem own_free {w:World} {B g n cap:Nat} {e:TypeId} {xs:List Value} (h:w.ownsRow B e 1 (.slice (some ⟨g,0,none⟩) n cap) n xs) (j:Nat):w.frozen? ⟨g,j,none⟩=false:=by
 rcases h.2 with⟨h',_⟩ | ⟨g',cap',cur,h',_,hg,_⟩
 ·cases h'
 ·simp only [Value.slice.injEq,Option.some.injEq,Addr.mk.injEq,and_true,true_and] at h'
  obtain⟨rfl,rfl⟩:=h'
  simp [World.frozen?,hg]
theorem copyBytes_any (l:List UInt8) (v:Value) (w:World) (hv:A2 w v l) (hn:l.length≤140737488355328):
  Calls Tryz.prog 22 #[v] w fun x w'=> ∃ v',x= .returned v'∧w'.ownsRow w.heap.size 5 1 v' l.length (Lib.byteCells l)∧Below w.heap.size w w':=by
 obtain⟨i0,hi,hz0,hz1,hz2⟩:=info_parts infoByteB
 obtain⟨w2,hmk,hown,hgrow⟩:=run_make_full (P:=Tryz.prog) w w.heap.size 39 5 i0 (.int .u8 0) 1 Tryz.underlying39 hi hz0 hz1 .i64 .i64 l.length (by rw [hz2];omega) (by unfold maxLen;omega) (ξ _)
 have HB2:=Qh (show Below w.heap.size w w2 from(τ _ _).grown hgrow (ξ _) (fun k e=>by cases e))
 have HO2:=Qh hown
 obtain⟨oa,cap,rfl,hlc,hc⟩:=hv
 have HC:=Qh (show ∀ (i:Nat) x,l[i]? =some x→ ∃ b off,oa=some ⟨b,off,none⟩∧w.cell? ⟨b,off+i,none⟩=some (.int .u8 (x.toNat:Int)) from fun i x hx=>by
  obtain⟨b,off,h1,h2⟩:=hc (by rintro rfl;simp at hx)
  exact⟨b,off,h1,h2 i x hx⟩)
 clear hown hgrow hc
 go_enter Tryz.func22,Tryz.ntmps22
 go_wp2
 go_loopw [10] (fun iv wr=> ∃ (k:Nat) (xs:List Value),k≤l.length∧iv= .int .i64 k∧wr.ownsRow w.heap.size 5 1 (.slice (some ⟨w.heap.size,0,none⟩) l.length l.length) l.length xs∧Below w.heap.size w wr∧Hid (∀ j x,j<k→l[j]? =some x→xs[j]? =some (.int .u8 (x.toNat:Int)))) (fun iv _=>l.length - (intOf iv).toNat)
 case atStart=>exact⟨0,_,θ _,rfl,HO2.out,HB2.out,Qh fun j x h=>by omega⟩
 case round=>
  obtain⟨k,xs,hk,rfl,hown,hb,HX⟩:=hrel
  have HO:=Qh hown
  have HB:=Qh hb
  have hxl:xs.length=l.length:=by rw [hown.1];omega
  clear hown hb
  by_cases hlt:k<l.length
  ·obtain⟨x,hx,_,_⟩:=Kc l k hlt
   obtain⟨b,off,rfl,hcell⟩:=HC.out k x hx
   have q1:(k:Int)<(l.length:Int):=by omega
   have c1:=cell_later HB.out hcell
   have f1:=own_free HO.out k
   obtain⟨u,hu⟩: ∃ u,wr.cell? ⟨w.heap.size,k,none⟩=some u:=⟨xs[k],by rw [HO.out.cellAt k (by omega)];exact Δ (by omega)⟩
   have HS:=Qh (HO.out.stored k (.int .u8 (x.toNat:Int)))
   have HXK:=Qh (show ∀ j y,j<k+1→l[j]? =some y→(xs.set k (.int .u8 (x.toNat:Int)))[j]? =some (.int .u8 (y.toNat:Int)) from fun j y hj hy=>by
    by_cases hjk:j=k
    ·subst hjk
     rw [hx] at hy
     obtain rfl:=ψ hy
     rw [List.getElem?_set_self (by omega)]
    ·rw [List.getElem?_set_ne (by omega)]
     exact HX.out j y (by omega) hy)
   clear hx hcell
   go_wp2
   go_roundw
   case rel=>exact⟨k+1,_,by omega,by go_num,HS.out.1,HB.out.setCell (p:=⟨w.heap.size,k,none⟩) (ξ _) _,HXK⟩
   case measure=>simp [intOf];omega
  ·obtain rfl:k=l.length:=by omega
   have hxs:xs=Lib.byteCells l:=by
    refine List.ext_getElem? fun j=> ?_
    by_cases hj:j<l.length
    ·rw [HX.out j l[j] hj (Δ hj),Lib.byteCells,List.getElem?_map,Δ hj];rfl
    ·rw [List.getElem?_eq_none (by omega),List.getElem?_eq_none (by rw [Lib.byteCells_length];omega)]
   have HF:=Qh (hxs▸HO.out)
   clear hxs
   go_wp2
   go_ret
   exact⟨_,rfl,HF.out,HB.out⟩
theorem Jj (w:World) (b o:Nat) (ty:TypeId) (v:Value) (old:Value) (hi:(Tryz.prog.info? ty).map (·.size)=some 1) (h1:v.oneCell'=true) (hc:w.cell? ⟨b,o,none⟩=some old) (hf:w.frozen? ⟨b,o,none⟩=false):
  (storeVar ty ⟨b,o,none⟩ v).run Tryz.prog w= .ok () (w.setCell ⟨b,o,none⟩ v):=by
 have:=run_storeCells_cells (P:=Tryz.prog) b o [v] 0 w (fun j hj=>by
   simp at hj;subst hj;simp [hc]) (fun j hj=>by simp at hj;subst hj;exact hf) (fun x hx=>by simp at hx;subst hx;exact h1)
 have hcc:v.cells= #[v]:=by cases v<;>first | rfl | cases h1
 cases hq:Tryz.prog.info? ty with
 | none=>simp [hq] at hi
 | some i=>
  have hs:i.size=1:=by simpa [hq] using hi
  simp only [Nat.add_zero] at this
  simp [storeVar,sizeOf,typeInfo,hq,hcc,hs]
  exact this
theorem wpList_store_cellV {ops:Array Oper} {rest:List Oper} {op:Oper} {a:Act} {w:World} {Q:Exit→Act→World→Prop} (hgd:op.guard=none) (ty:TypeId) (x y:Operand) (ho:op.op= .store ty x y)
  (b o:Nat) (v old:Value) (hi:(Tryz.prog.info? ty).map (·.size)=some 1) (h1:v.oneCell'=true) (hx:a.eval x= .pointer (some ⟨b,o,none⟩)) (hy:a.eval y=v) (hc:w.cell? ⟨b,o,none⟩=some old) (hf:w.frozen? ⟨b,o,none⟩=false)
  (h: ∀ W,Hid (W=w.setCell ⟨b,o,none⟩ v)→wpList Tryz.prog ops Q rest (a.put op.dst undef) W):wpList Tryz.prog ops Q (op::rest) a w:=
 wpList_plain hgd fun _ hK=>by
  unfold Oper.wp execOp
  simp only [ho,hx,hy,Instr.storeAt,Instr.sureAddr,Sem.run_bind,Sem.run_pure,Result.andThen_ok,Jj w b o ty v old hi h1 hc hf]
  exact hK _ _ (h _ (Qh rfl))
theorem Da {op:Oper} {a:Act} {w:World} {K:Act→World→Prop} {Q:Exit→Act→World→Prop} (ty:TypeId) (x y:Operand) (ho:op.op= .store ty x y)
  (b o:Nat) (v old:Value) (hi:(Tryz.prog.info? ty).map (·.size)=some 1) (h1:v.oneCell'=true) (hx:a.eval x= .pointer (some ⟨b,o,none⟩)) (hy:a.eval y=v) (hc:w.cell? ⟨b,o,none⟩=some old) (hf:w.frozen? ⟨b,o,none⟩=false)
  (h:K (a.put op.dst undef) (w.setCell ⟨b,o,none⟩ v)):op.wp Tryz.prog a w K Q:=by
 unfold Oper.wp execOp
 simp only [ho,hx,hy,Instr.storeAt,Instr.sureAddr,Sem.run_bind,Sem.run_pure,Result.andThen_ok,Jj w b o ty v old hi h1 hc hf]
 exact h
section
variable {P : Program} {ops : Array Oper} {Q : Exit → Act → World → Prop} {md : Region.Mode} {S : World → Prop}
theorem tk {d:Option Tmp} {o:Op} {t:TypeId} {p:String} {af:Array Edge} {g:Option (Nat×Bool)} {fuel:Nat} {listed:Array Bool} {a:Act} {w:World} (i:Nat) (hi:ops[i]? =some ⟨d,o,t,p,af,g⟩) (v:Value)
  (hy: ∀ w,S w→(execOp a.eval ⟨d,o,t,p,af,g⟩).run P w= .ok (.value v) w) (h:wpAnyH P md ops Q S fuel (listed.setIfInBounds i true) (a.put d v) w)
  (hs:Region.noSelect ops=true:=by kernel_rfl) (hf:Region.free md ops listed i=true:=by kernel_rfl) (hr:(Region.ready md ops listed).contains i=true:=by kernel_rfl)
  (hQ: ∀ c a w,Q (.panic c) (a.put d v) w→Q (.panic c) a w:=by exact fun _ _ _ h=>h) (hw:Region.wanted ⟨d,o,t,p,af,g⟩ (yielded ops a.tmps)=true:=by kernel_rfl) (hS:S w:=by assumption):
  wpAnyH P md ops Q S (fuel+1) listed a w:=wpAnyH_take hi hs hf hr hQ (Or.inl ⟨hw,hy⟩) hS h
theorem tkn {d:Option Tmp} {o:Op} {t:TypeId} {p:String} {af:Array Edge} {g:Option (Nat×Bool)} {fuel:Nat} {listed:Array Bool} {a:Act} {w:World} (i:Nat) (hi:ops[i]? =some ⟨d,o,t,p,af,g⟩)
  (h:wpAnyH P md ops Q S fuel (listed.setIfInBounds i true) (a.put d undef) w)
  (hs:Region.noSelect ops=true:=by kernel_rfl) (hf:Region.free md ops listed i=true:=by kernel_rfl) (hr:(Region.ready md ops listed).contains i=true:=by kernel_rfl)
  (hQ: ∀ c a w,Q (.panic c) (a.put d undef) w→Q (.panic c) a w:=by exact fun _ _ _ h=>h) (hw:Region.wanted ⟨d,o,t,p,af,g⟩ (yielded ops a.tmps)=false:=by kernel_rfl) (hS:S w:=by assumption):
  wpAnyH P md ops Q S (fuel+1) listed a w:=wpAnyH_take hi hs hf hr hQ (Or.inr ⟨hw,rfl⟩) hS h
end
theorem pA (a:Act) (d:Tmp) (v:Value):a.put (some d) v={a with tmps:=a.tmps.setIfInBounds d v}:=rfl
theorem pB {α:Type} (l:List α) (i:Nat) (x:α):l.toArray.setIfInBounds i x=(l.set i x).toArray:=List.setIfInBounds_toArray ..
theorem pC {α:Type} (y:α) (l:List α) (x:α):(y::l).set 0 x=x::l:=rfl
theorem pD {α:Type} (y:α) (l:List α) (i:Nat) (x:α):(y::l).set (i+1) x=y::l.set i x:=rfl
section
variable {P : Program} {ops : Array Oper} {Q : Exit → Act → World → Prop} {md : Region.Mode} {S : World → Prop}
theorem tq {d:Option Tmp} {o:Op} {t:TypeId} {p:String} {af:Array Edge} {g:Option (Nat×Bool)} {fuel:Nat} {listed:Array Bool} {a a':Act} {w:World} {v:Value} (i:Nat) (hi:ops[i]? =some ⟨d,o,t,p,af,g⟩)
  (h:wpAnyH P md ops Q S fuel (listed.setIfInBounds i true) a' w)
  (hy: ∀ w,S w→(execOp a.eval ⟨d,o,t,p,af,g⟩).run P w= .ok (.value v) w:=by intro w hSw;go_simp;try with_reducible rfl)
  (ha:a.put d v=a':=by (simp only [pA,pB,pC,pD];exact rfl))
  (hs:Region.noSelect ops=true:=by kernel_rfl) (hf:Region.free md ops listed i=true:=by kernel_rfl) (hr:(Region.ready md ops listed).contains i=true:=by kernel_rfl)
  (hQ: ∀ c a w,Q (.panic c) (a.put d v) w→Q (.panic c) a w:=by exact fun _ _ _ h=>h) (hw:Region.wanted ⟨d,o,t,p,af,g⟩ (yielded ops a.tmps)=true:=by kernel_rfl) (hS:S w:=by assumption):
  wpAnyH P md ops Q S (fuel+1) listed a w:=wpAnyH_take hi hs hf hr hQ (Or.inl ⟨hw,hy⟩) hS (ha▸h)
theorem tf {C:World→Prop} {d:Option Tmp} {o:Op} {t:TypeId} {p:String} {af:Array Edge} {g:Option (Nat×Bool)} {fuel:Nat} {listed:Array Bool} {a a':Act} {w:World} {v:Value} (F:Hid (∀ w,S w→C w)) (i:Nat) (hi:ops[i]? =some ⟨d,o,t,p,af,g⟩)
  (h:wpAnyH P md ops Q S fuel (listed.setIfInBounds i true) a' w)
  (hy: ∀ w,S w→C w→(execOp a.eval ⟨d,o,t,p,af,g⟩).run P w= .ok (.value v) w:=by intro w hSw hC;go_simp;try with_reducible rfl)
  (ha:a.put d v=a':=by (simp only [pA,pB,pC,pD];exact rfl))
  (hs:Region.noSelect ops=true:=by kernel_rfl) (hf:Region.free md ops listed i=true:=by kernel_rfl) (hr:(Region.ready md ops listed).contains i=true:=by kernel_rfl)
  (hQ: ∀ c a w,Q (.panic c) (a.put d v) w→Q (.panic c) a w:=by exact fun _ _ _ h=>h) (hw:Region.wanted ⟨d,o,t,p,af,g⟩ (yielded ops a.tmps)=true:=by kernel_rfl) (hS:S w:=by assumption):
  wpAnyH P md ops Q S (fuel+1) listed a w:=wpAnyH_take hi hs hf hr hQ (Or.inl ⟨hw,fun w hS=>hy w hS (F.out w hS)⟩) hS (ha▸h)
end
theorem Ax {w w':World} {b off:Nat} {cs:List Value} (h:w.rangeAt b off cs) (hb:Below w.heap.size w w'):w'.rangeAt b off cs:=fun j u hj=>cell_later hb (h j u hj)
theorem own_fresh (w:World) (e size:Nat) (B:Nat) (hB:B≤w.heap.size):(w.alloc (.cells #[] e)).ownsRow B e size (.slice (some ⟨w.heap.size,0,none⟩) 0 0) 0 []:=
 ⟨by simp,.inr ⟨w.heap.size,0,#[],rfl,hB,σ w _,ξ _,by decide,by simp,by simp⟩⟩
theorem own_set {w:World} {B size n k j:Nat} {e:TypeId} {v u:Value} {xs:List Value} (h:w.ownsRow B e size v n xs) (hk:k<B):(w.setCell ⟨k,j,none⟩ u).ownsRow B e size v n xs:=by
 refine⟨h.1,?_⟩
 rcases h.2 with hn | ⟨g,cap,cur,rfl,hb1,hg,rest⟩
 ·exact .inl hn
 ·refine .inr ⟨g,cap,cur,rfl,hb1,?_,rest⟩
  simp only [World.setCell]
  rw [Array.getElem?_modify]
  simp [hg,show k≠g by omega]
theorem below_alloc (w:World) (o:Obj):Below w.heap.size w (w.alloc o):=(τ _ _).alloc (ξ _) _
def OwnB (w:World) (B:Nat) (v:Value) (bs:List UInt8):Prop:=w.ownsRow B 5 1 v bs.length (Lib.byteCells bs)
theorem OwnB.brow {w:World} {B:Nat} {v:Value} {bs:List UInt8} (h:OwnB w B v bs):A2 w v bs:=brow_own h
theorem OwnB.later {w w':World} {B:Nat} {v:Value} {bs:List UInt8} (h:OwnB w B v bs) (hb:Below w.heap.size w w'):OwnB w' B v bs:=own_later h hb
theorem OwnB.mono {w:World} {B B':Nat} {v:Value} {bs:List UInt8} (h:OwnB w B v bs) (hB:B'≤B):OwnB w B' v bs:=by
 refine⟨h.1,?_⟩
 rcases h.2 with hn | ⟨g,cap,cur,h1,h2,rest⟩
 ·exact .inl hn
 ·exact .inr ⟨g,cap,cur,h1,by omega,rest⟩
theorem OwnB.nil (w:World) (B:Nat):OwnB w B (.slice none 0 0) []:=⟨rfl,.inl ⟨rfl,rfl⟩⟩
theorem Bf {B:Nat} {w w':World} {v:Value} {e:TypeId} {size n:Nat} {xs:List Value} (h:w.ownsRow B e size v n xs) (hB:B≤w.heap.size) (hg:w.grownBy w' v.ownBlock):Below B w w':=
 ⟨hg.os,hg.tape,hg.output,hg.size,fun k hk=>hg.block k (Nat.lt_of_lt_of_le hk hB) fun e=>by have:=(h.lt k e.symm).1;omega⟩
theorem run_appB {B:Nat} {w:World} {v x:Value} {bs m:List UInt8} (hown:OwnB w B v bs) (hB:B≤w.heap.size) (hx:A2 w x m) (hl:bs.length+m.length≤140737488355328) (ty:TypeId):
  ∃ v' w',(Builtin.append_ #[39,39] ty #[v,x]).run Tryz.prog w= .ok v' w'∧OwnB w' B v' (bs++m)∧Below B w w':=by
 obtain⟨i0,hi,hz0,hz1,hz2⟩:=info_parts infoByteB
 obtain⟨oa,xc,rfl,hxl,hxc⟩:=hx
 have key: ∀ a:Addr,oa=some a→(∀ j u,(Lib.byteCells m)[j]? =some u→w.cell? (a.add j)=some u)→
   ∃ v' w',(Builtin.append_ #[39,39] ty #[v,.slice oa m.length xc]).run Tryz.prog w= .ok v' w'∧OwnB w' B v' (bs++m)∧Below B w w':=by
  rintro a rfl hc
  obtain⟨v',w',h1,h2,h3,_⟩:=run_append_own (P:=Tryz.prog) w B 39 ty 5 i0 (.int .u8 0) 1 1 Tryz.underlying39 hi hz0 hz1 hz2 rfl (by decide) v bs.length _ hown a m.length xc (Lib.byteCells m) (by simp [Lib.byteCells]) hc (fun u hu=>by obtain⟨_,_,rfl⟩:=List.mem_map.1 hu;rfl) (by unfold maxLen;omega) (by omega) hB
  exact⟨v',w',h1,by unfold OwnB;rw [η,show Lib.byteCells (bs++m)=Lib.byteCells bs++Lib.byteCells m by simp [Lib.byteCells]];exact h2,Bf hown hB h3⟩
 by_cases hm:m=[]
 ·subst hm
  rcases oa with _ | a
  ·obtain⟨ao,cap,rfl,hc,_⟩:=Ac hown
   refine⟨.slice ao bs.length cap,w,?_,by simpa using hown,τ _ _⟩
   rcases ao with _ | ao<;>simp [Builtin.append_,run_underlying Tryz.underlying39,sizeOf,typeInfo,hi,Builtin.lenOf,Builtin.firstCells,hc,storeCells]
  ·exact key a rfl (fun j u hj=>by simp [Lib.byteCells] at hj)
 ·obtain⟨b,off,rfl,hc⟩:=hxc hm
  refine key _ rfl fun j u hj=> ?_
  rw [Bc]
  rw [Lib.byteCells,List.getElem?_map] at hj
  obtain⟨y,hy,rfl⟩:=Option.map_eq_some_iff.1 hj
  exact hc j y hy
section
variable {ops : Array Oper} {rest : List Oper} {o : Oper} {a : Act} {Q : Exit → Act → World → Prop}
theorem wpList_appB {w:World} (hgd:o.guard=none) (s y:Operand) (ho:o.op= .call {callee:= .builtin .append,args:= #[s,y],argTypes:= #[39,39]}) {B:Nat} {v x:Value} {bs m:List UInt8}
  (hs:a.eval s=v) (hy:a.eval y=x) (hown:OwnB w B v bs) (hB:B≤w.heap.size) (hx:A2 w x m) (hl:bs.length+m.length≤140737488355328)
  (h: ∀ v' w',OwnB w' B v' (bs++m)→Below B w w'→wpList Tryz.prog ops Q rest (a.put o.dst v') w'):wpList Tryz.prog ops Q (o::rest) a w:=by
 refine wpList_plain hgd fun K hK=> ?_
 obtain⟨v',w',hr,h1,h2⟩:=run_appB hown hB hx hl o.type
 unfold Oper.wp
 simp [execOp,ho,resolve,invoke,builtin,hs,hy,hr,Result.andThen]
 exact hK _ _ (h v' w' h1 h2)
theorem wpList_app1 {w:World} (hgd:o.guard=none) (s y:Operand) (ho:o.op= .call {callee:= .builtin .append,args:= #[s,y],argTypes:= #[39,39]}) {B:Nat} {v:Value} {bs:List UInt8} {cv:Int} (c:UInt8)
  (hs:a.eval s=v) (hy:a.eval y= .slice (some ⟨w.heap.size,0,none⟩) 1 1) (hown:OwnB w B v bs) (hB:B≤w.heap.size) (hc:cv=(c.toNat:Int)) (hl:bs.length+1≤140737488355328)
  (h: ∀ v' w',OwnB w' B v' (bs++[c])→Below B w w'→w.heap.size≤w'.heap.size→wpList Tryz.prog ops Q rest (a.put o.dst v') w'):wpList Tryz.prog ops Q (o::rest) a (w.alloc (.cells #[.int .u8 cv] 5)):=by
 have hb:=below_alloc w (.cells #[.int .u8 cv] 5)
 refine wpList_appB hgd s y ho hs hy (own_later hown hb) (μ hB hb.size) (m:=[c]) ⟨_,1,rfl,ξ _,fun _=>⟨w.heap.size,0,rfl,fun i x hi=> ?_⟩⟩ (by simpa using hl) fun v' w' h1 h2=>h v' w' h1 ((hb.mono hB).trans h2) (μ hb.size h2.size)
 rw [World.cell?_alloc_new]
 match i,hi with
 | 0,hi=>simp at hi;subst hi;simp [hc]
end
def Kk:BitVec 32:=0xEDB88320#32
def crcBit (c:BitVec 32):BitVec 32:=if c.getLsbD 0 then (c >>> 1)^^^Kk else c >>> 1
def De:Nat→BitVec 32→BitVec 32
 | 0,c=>c
 | n+1,c=>De n (crcBit c)
def Ey:List (BitVec 32):=[0x00000000#32,0x1db71064#32,0x3b6e20c8#32,0x26d930ac#32,0x76dc4190#32,0x6b6b51f4#32,0x4db26158#32,0x5005713c#32,
 0xedb88320#32,0xf00f9344#32,0xd6d6a3e8#32,0xcb61b38c#32,0x9b64c2b0#32,0x86d3d2d4#32,0xa00ae278#32,0xbdbdf21c#32]
def crcNib (c:BitVec 32):BitVec 32:=(c >>> 4)^^^Ey.getD (c.toNat % 16) 0
def I8 (c:BitVec 32) (x:UInt8):BitVec 32:=De 8 (c^^^BitVec.ofNat 32 x.toNat)
def crcStep (c:BitVec 32) (x:UInt8):BitVec 32:=crcNib (crcNib (c^^^BitVec.ofNat 32 x.toNat))
theorem crcBit_xor (a b:BitVec 32):crcBit (a^^^b)=crcBit a^^^crcBit b:=by
 unfold crcBit
 rw [BitVec.getLsbD_xor]
 rcases h:a.getLsbD 0<;>rcases h':b.getLsbD 0<;>simp [BitVec.ushiftRight_xor_distrib]
 ·ac_rfl
 ·ac_rfl
 ·have: ∀ x y:BitVec 32,x^^^y=x^^^Kk^^^(y^^^Kk):=fun x y=>by
   rw [show x^^^Kk^^^(y^^^Kk)=x^^^y^^^(Kk^^^Kk) by ac_rfl,BitVec.xor_self,BitVec.xor_zero]
  exact this _ _
theorem crcBits_xor: ∀ (n:Nat) (a b:BitVec 32),De n (a^^^b)=De n a^^^De n b
 | 0,_,_=>rfl
 | n+1,a,b=>by simp only [De,crcBit_xor,crcBits_xor n]
theorem crcBit_low {c:BitVec 32} (h:c.getLsbD 0=false):crcBit c=c >>> 1:=by unfold crcBit;rw [h];rfl
theorem crcBits_low: ∀ (n:Nat) (c:BitVec 32),(∀ i,i<n→c.getLsbD i=false)→De n c=c >>> n
 | 0,c,_=>by simp [De]
 | n+1,c,h=>by
  rw [De,crcBit_low (h 0 (by omega)),crcBits_low n _ (fun i hi=>by rw [BitVec.getLsbD_ushiftRight];exact h (1+i) (by omega)),←BitVec.shiftRight_add]
  rw [Nat.add_comm]
theorem crcTable_ok: ∀ n,n<16→De 4 (BitVec.ofNat 32 n)=Ey.getD n 0:=by decide
theorem crc_parts (c:BitVec 32):c=((c >>> 4) <<< 4)^^^BitVec.ofNat 32 (c.toNat % 16):=by
 apply BitVec.eq_of_getLsbD_eq
 intro i hi
 rw [BitVec.getLsbD_xor,BitVec.getLsbD_shiftLeft,BitVec.getLsbD_ushiftRight,BitVec.getLsbD_ofNat,show (16:Nat)=2^4 from rfl,Nat.testBit_mod_two_pow]
 by_cases h4:i<4
 ·simp [h4,hi,BitVec.getLsbD]
 ·simp only [h4,hi,decide_true,decide_false,Bool.true_and,Bool.false_and,Bool.not_false,Bool.xor_false,Bool.and_false]
  rw [show 4+(i - 4)=i by omega]
theorem crcNib_bits (c:BitVec 32):crcNib c=De 4 c:=by
 have h:=crc_parts c
 have h1:De 4 ((c >>> 4) <<< 4)=c >>> 4:=by
  rw [crcBits_low 4 _ (fun i hi=>by simp [BitVec.getLsbD_shiftLeft,hi])]
  apply BitVec.eq_of_getLsbD_eq
  intro i hi
  simp only [BitVec.getLsbD_ushiftRight,BitVec.getLsbD_shiftLeft]
  by_cases h5:4+i<32
  ·simp [h5]
  ·simp [h5,BitVec.getLsbD_of_ge c (4+i) (by omega)]
 rw [crcNib]
 conv=>rhs;rw [h]
 rw [crcBits_xor,h1,crcTable_ok _ (Nat.mod_lt _ (by decide))]
theorem crcBits_add: ∀ (m n:Nat) (c:BitVec 32),De (m+n) c=De n (De m c)
 | 0,n,c=>by simp [De]
 | m+1,n,c=>by rw [show m+1+n=(m+n)+1 by omega,De,crcBits_add m n,De]
theorem crcStep_take (c:BitVec 32) (x:UInt8):crcStep c x=I8 c x:=by
 unfold crcStep I8
 rw [crcNib_bits,crcNib_bits,←crcBits_add]
def It (c:BitVec 32) (l:List UInt8):BitVec 32:=l.foldl I8 c
theorem crcReg_snoc (c:BitVec 32) (l:List UInt8) (x:UInt8):It c (l++[x])=I8 (It c l) x:=by simp [It]
def crcUpdate (s:BitVec 32) (l:List UInt8):BitVec 32:= ~~~ It (~~~ s) l
def Dz (l:List UInt8):BitVec 32:=crcUpdate 0 l
def Cq (s:BitVec 32):List UInt8:=[UInt8.ofNat (s.toNat % 256),UInt8.ofNat (s.toNat / 256 % 256),UInt8.ofNat (s.toNat / 65536 % 256),UInt8.ofNat (s.toNat / 16777216)]
def encV (n:Nat):List UInt8:=if h:n<128 then [UInt8.ofNat n] else UInt8.ofNat (128+n % 128)::encV (n / 128)
termination_by n
decreasing_by omega
theorem encV_low {n:Nat} (h:n<128):encV n=[UInt8.ofNat n]:=by rw [encV,dif_pos h]
theorem encV_high {n:Nat} (h: ¬ n<128):encV n=UInt8.ofNat (128+n % 128)::encV (n / 128):=by rw [encV,dif_neg h]
theorem encV_len: ∀ (k n:Nat),n<128^(k+1)→(encV n).length≤k+1
 | 0,n,h=>by rw [encV_low (by omega)];simp
 | k+1,n,h=>by
  by_cases hl:n<128
  ·rw [encV_low hl];simp
  ·rw [encV_high hl,φ]
   have:=encV_len k (n / 128) (by rw [Nat.div_lt_iff_lt_mul (by decide)];rw [Nat.pow_succ] at h;exact h)
   omega
theorem Bl {n:Nat} (h:n<18446744073709551616):(encV n).length≤10:=encV_len 9 n (Nat.lt_trans h (by decide))
theorem encV_pos (n:Nat):0<(encV n).length:=by
 by_cases hl:n<128
 ·rw [encV_low hl];simp
 ·rw [encV_high hl];simp
def encAll (us:List Nat):List UInt8:=encV us.length++us.flatMap encV
theorem encs_snoc (us:List Nat) (u:Nat):(us++[u]).flatMap encV=us.flatMap encV++encV u:=by simp
theorem encs_len: ∀ (us:List Nat),(∀ u∈us,u<18446744073709551616)→(us.flatMap encV).length≤10*us.length
 | [],_=>by simp
 | u::us,h=>by
  have h1:=Bl (h u (by simp))
  have h2:=encs_len us fun x hx=>h x (by simp [hx])
  simp only [List.flatMap_cons,η,φ]
  omega
theorem encAll_len (us:List Nat) (h: ∀ u∈us,u<18446744073709551616) (hl:us.length<18446744073709551616):(encAll us).length≤10*us.length+10:=by
 have h1:=Bl hl
 have h2:=encs_len us h
 unfold encAll
 rw [η]
 omega
def le8 (n:Nat) (k:Nat):List UInt8:=(List.range k).map fun i=>UInt8.ofNat (n / 256^i % 256)
theorem le8_succ (n k:Nat):le8 n (k+1)=le8 n k++[UInt8.ofNat (n / 256^k % 256)]:=by simp [le8,List.range_succ]
theorem le8_length (n k:Nat):(le8 n k).length=k:=by simp [le8]
def Jo (kind len seq:Nat):List UInt8:=[165,UInt8.ofNat kind,UInt8.ofNat (len % 256),UInt8.ofNat (len / 256)]++le8 seq 8
theorem Jp (kind len seq:Nat):(Jo kind len seq).length=12:=by simp [Jo,le8_length]
theorem El (s:BitVec 32):(Cq s).length=4:=rfl
def frameOf (kind seq:Nat) (body:List UInt8):List UInt8:=
 Jo kind body.length seq++Cq (Dz (Jo kind body.length seq))++body++Cq (Dz body)
theorem An (kind seq:Nat) (body:List UInt8):(frameOf kind seq body).length=body.length+20:=by
 simp only [frameOf,η,Jp,El]
 omega
def Bg (kind seq:Int) (body:List UInt8):List UInt8×Int:=
 if decide (kind<1) || decide (7<kind) || decide (seq<0) || decide (1099511627776<seq) then ([],63)
 else if decide (16384<body.length) then ([],24) else (frameOf kind.toNat seq.toNat body,0)
def E4 (num first:Int):List UInt8×Int:=
 if decide (num<1) || decide (999999<num) || decide (first<1) || decide (1099511627777<first) then ([],1)
 else Bg 2 num (encV num.toNat++encV first.toNat)
structure Sg where
 num:Int
 first:Int
 count:Int
 foot:Int
structure B3 where
 gen:Int
 next:Int
 floor:Int
 snap:Int
 snapSeq:Int
 segs:List Sg
def chainOk (nx:Int):Int→Int→List Sg→Bool
 | _,_,[]=>false
 | first,num,g::r=>
  decide (g.first=first)&&decide (num<g.num)&&decide (g.num<nx)&&
   (if r.isEmpty then decide (g.count=0)&&decide (g.foot=0)&&decide (first≤1099511627777)
    else decide (1≤g.count)&&decide (g.count≤512)&&decide (1≤g.foot)&&decide (g.foot≤1099511627776)&&chainOk nx (first+g.count) g.num r)
def Bt (m:B3):Bool:=
 decide (1≤m.gen)&&decide (m.gen≤1099511627776)&&decide (2≤m.next)&&decide (m.next≤1000000)&&decide (0≤m.snapSeq)&&decide (m.snapSeq≤1099511627776)&&
  decide (0≤m.floor)&&decide (m.floor≤m.snapSeq)&&decide (0≤m.snap)&&decide (m.snap<m.next)&&(decide (m.snap=0)==decide (m.snapSeq=0))&&decide (m.segs.length≤256)&&chainOk m.next (m.floor+1) 0 m.segs
theorem chain_mem (nx:Int): ∀ (l:List Sg) (first num:Int),chainOk nx first num l=true→0≤num→1≤first→ ∀ g∈l,1≤g.num∧g.num<nx∧1≤g.first∧g.first≤first+512*l.length∧0≤g.count∧g.count≤512∧0≤g.foot∧g.foot≤1099511627776
 | [],_,_,h,_,_=>by simp [chainOk] at h
 | g::r,first,num,h,h0,h1=>by
  simp only [chainOk,Bool.and_eq_true,decide_eq_true_eq] at h
  obtain⟨⟨⟨a1,a2⟩,a3⟩,a4⟩:=h
  intro x hx
  by_cases hr:r=[]
  ·subst hr
   simp only [List.isEmpty_nil,if_true,Bool.and_eq_true,decide_eq_true_eq] at a4
   rcases Γ.1 hx with rfl | hx
   ·simp only [φ,Φ];omega
   ·cases hx
  ·rw [γ (by cases r<;>simp_all)] at a4
   simp only [Bool.and_eq_true,decide_eq_true_eq] at a4
   obtain⟨⟨⟨⟨b1,b2⟩,b3⟩,b4⟩,b5⟩:=a4
   rcases Γ.1 hx with rfl | hx
   ·simp only [φ];omega
   ·have:=chain_mem nx r (first+g.count) g.num b5 (by omega) (by omega) x hx
    simp only [φ]
    omega
theorem Is (nx:Int): ∀ (l:List Sg) (first num:Int),chainOk nx first num l=true→ ∃ g,l.getLast? =some g∧g.count=0∧g.foot=0∧g.first≤1099511627777∧g∈l
 | [],_,_,h=>by simp [chainOk] at h
 | g::r,first,num,h=>by
  simp only [chainOk,Bool.and_eq_true,decide_eq_true_eq] at h
  obtain⟨⟨⟨a1,a2⟩,a3⟩,a4⟩:=h
  by_cases hr:r=[]
  ·subst hr
   simp only [List.isEmpty_nil,if_true,Bool.and_eq_true,decide_eq_true_eq] at a4
   exact⟨g,rfl,a4.1.1,a4.1.2,by omega,by simp⟩
  ·rw [γ (by cases r<;>simp_all)] at a4
   simp only [Bool.and_eq_true,decide_eq_true_eq] at a4
   obtain⟨x,h1,h2,h3,h4,h5⟩:=Is nx r _ _ a4.2
   exact⟨x,by rw [List.getLast?_cons,h1];rfl,h2,h3,h4,by simp [h5]⟩
def sgNums (g:Sg):List Nat:=[g.num.toNat,g.first.toNat,g.count.toNat,g.foot.toNat]
def manNums (m:B3):List Nat:=[m.next.toNat,m.floor.toNat,m.snap.toNat,m.snapSeq.toNat]++m.segs.flatMap sgNums
def Bs (m:B3):List UInt8×Int:=if Bt m then Bg 4 m.gen (encAll (manNums m)) else ([],80)
theorem Jr: ∀ l:List Sg,(l.flatMap sgNums).length=4*l.length
 | []=>rfl
 | g::l=>by simp only [List.flatMap_cons,η,Jr l,φ,sgNums,Φ];omega
theorem Iy (m:B3):(manNums m).length=4+4*m.segs.length:=by
 rw [manNums,η,Jr];simp
structure ManFine (m:B3):Prop where
 gen:1≤m.gen∧m.gen≤1099511627776
 next:2≤m.next∧m.next≤1000000
 snapSeq:0≤m.snapSeq∧m.snapSeq≤1099511627776
 floor:0≤m.floor∧m.floor≤m.snapSeq
 snap:0≤m.snap∧m.snap<m.next
 len:m.segs.length≤256
 chain:chainOk m.next (m.floor+1) 0 m.segs=true
 seg: ∀ g∈m.segs,1≤g.num∧g.num<m.next∧1≤g.first∧g.first≤1099511758849∧0≤g.count∧g.count≤512∧0≤g.foot∧g.foot≤1099511627776
theorem B7 {m:B3} (h:Bt m=true):ManFine m:=by
 simp only [Bt,Bool.and_eq_true,decide_eq_true_eq] at h
 obtain⟨⟨⟨⟨⟨⟨⟨⟨⟨⟨⟨⟨a,b⟩,c⟩,d⟩,e⟩,f⟩,g⟩,i⟩,j⟩,k⟩,l⟩,n⟩,o⟩:=h
 refine⟨⟨a,b⟩,⟨c,d⟩,⟨e,f⟩,⟨g,i⟩,⟨j,k⟩,n,o,fun x hx=> ?_⟩
 have:=chain_mem m.next m.segs (m.floor+1) 0 o (by omega) (by omega) x hx
 omega
theorem manNums_lt {m:B3} (h:ManFine m): ∀ u∈manNums m,u<2199023255552:=by
 intro u hu
 simp only [manNums,List.mem_append,Γ,List.not_mem_nil,or_false,List.mem_flatMap,sgNums] at hu
 have h1:=h.next
 have h2:=h.snapSeq
 have h3:=h.floor
 have h4:=h.snap
 rcases hu with(rfl | rfl | rfl | rfl) | ⟨g,hg,hu⟩
 ·omega
 ·omega
 ·omega
 ·omega
 ·have h5:=h.seg g hg
  rcases hu with rfl | rfl | rfl | rfl<;>omega
theorem manBody_len {m:B3} (h:ManFine m):(encAll (manNums m)).length≤10290:=by
 have h1:=h.len
 have h2:=Iy m
 have:=encAll_len (manNums m) (fun u hu=>Nat.lt_trans (manNums_lt h u hu) (by decide)) (by omega)
 omega
theorem encMan_ok {m:B3} (h:Bt m=true):Bs m=(frameOf 4 m.gen.toNat (encAll (manNums m)),0):=by
 have hf:=B7 h
 have h1:=hf.gen
 have h2:=manBody_len hf
 rw [Bs,ζ h,Bg,γ (by simp;omega),γ (by simp;omega)]
 rfl
theorem hdrEnc_ok {num first:Int} (h1:1≤num) (h2:num≤999999) (h3:1≤first) (h4:first≤1099511627777):E4 num first=(frameOf 2 num.toNat (encV num.toNat++encV first.toNat),0):=by
 have a:=Bl (show num.toNat<18446744073709551616 by omega)
 have b:=Bl (show first.toNat<18446744073709551616 by omega)
 rw [E4,γ (by simp;omega),Bg,γ (by simp;omega),γ (by simp;omega)]
 rfl
def nibs:List Int:=Ey.map fun c=>(c.toNat:Int)
def NibTab (w:World):Prop:=Lib.TabIs Tryz.prog w "daybook/crc.nibbles" .u32 nibs
theorem NibTab.below {w w':World} (h:NibTab w) (hb:Below w.heap.size w w'):NibTab w':=Joins.tab_stays (g:=1) (by kernel_rfl) h hb (ξ _)
theorem NibTab.at {w:World} (h:NibTab w) (k:Nat) (hk:k<16):w.cell? ⟨1,k,none⟩=some (.int .u32 ((Ey.getD k 0).toNat:Int)):=by
 have:=Lib.TabIs.cell (g:=1) h (by kernel_rfl) k (by simp [nibs,Ey];omega)
 rw [this]
 congr 2
 simp only [nibs,List.getD_eq_getElem?_getD,List.getElem?_map]
 rw [Δ (show k<Ey.length by simp [Ey];omega)]
 rfl
theorem xorNat (a b:BitVec 32):bits .xor .u32 (a.toNat:Int) (b.toNat:Int)=((a^^^b).toNat:Int):=by
 rw [u32_xor_nat _ _ a.isLt b.isLt,BitVec.toNat_xor]
theorem byteNat (x:UInt8):(x.toNat:Int)=((BitVec.ofNat 32 x.toNat).toNat:Int):=by
 have h:x.toNat<256:=x.toNat_lt
 rw [BitVec.toNat_ofNat,Nat.mod_eq_of_lt (by omega)]
theorem and15 (a:BitVec 32):bits .and .u32 (a.toNat:Int) 15=((a.toNat % 16:Nat):Int):=by
 rw [show (15:Int)=((15:Nat):Int) from rfl,u32_and_nat _ _ a.isLt (by decide)]
 congr 1
 exact Nat.and_two_pow_sub_one_eq_mod a.toNat 4
theorem shr4 (a:BitVec 32):(a.toNat:Int) / (16:Int)=((a >>> 4).toNat:Int):=by
 rw [BitVec.toNat_ushiftRight,Nat.shiftRight_eq_div_pow]
 norm_cast
theorem crcStep_any (c:BitVec 32) (x:UInt8) (w:World) (ht:NibTab w):
  Calls Tryz.prog 174 #[.int .u32 (c.toNat:Int),.int .u8 (x.toNat:Int)] w fun e w'=>e= .returned (.int .u32 ((I8 c x).toNat:Int))∧w=w':=by
 obtain⟨c1,hc1⟩: ∃ c1,c1=c^^^BitVec.ofNat 32 x.toNat:=⟨_,rfl⟩
 have e1:bits .xor .u32 (c.toNat:Int) ((x.toNat:Int) % 4294967296)=(c1.toNat:Int):=by
  have h:x.toNat<256:=x.toNat_lt
  rw [Int.emod_eq_of_lt (by omega) (by omega),byteNat,xorNat,hc1]
 have a1:=and15 c1
 have k1:=ht.at (c1.toNat % 16) (Nat.mod_lt _ (by decide))
 obtain⟨c2,hc2⟩: ∃ c2,c2=crcNib c1:=⟨_,rfl⟩
 have e2:bits .xor .u32 ((c1.toNat:Int) / (16:Int)) ((Ey.getD (c1.toNat % 16) 0).toNat:Int)=(c2.toNat:Int):=by rw [shr4,xorNat,hc2,crcNib]
 have a2:=and15 c2
 have k2:=ht.at (c2.toNat % 16) (Nat.mod_lt _ (by decide))
 have e3:bits .xor .u32 ((c2.toNat:Int) / (16:Int)) ((Ey.getD (c2.toNat % 16) 0).toNat:Int)=((I8 c x).toNat:Int):=by rw [shr4,xorNat,←crcNib,hc2,hc1,←crcStep_take,crcStep]
 have b1:((c1.toNat % 16:Nat):Int)<16:=by omega
 have b2:((c2.toNat % 16:Nat):Int)<16:=by omega
 clear hc1 hc2 ht
 generalize (Ey.getD (c1.toNat % 16) 0)=t1 at*
 generalize (Ey.getD (c2.toNat % 16) 0)=t2 at*
 generalize c1.toNat % 16=n1 at*
 generalize c2.toNat % 16=n2 at*
 generalize I8 c x=c3 at*
 go_enter Tryz.func174,Tryz.ntmps174
 go_wp2
 go_ret
 exact⟨rfl,rfl⟩
theorem crcReg_take (c:BitVec 32) (l:List UInt8) (k:Nat) (x:UInt8) (h:l[k]? =some x):It c (l.take (k+1))=I8 (It c (l.take k)) x:=by
 obtain⟨h1,h2⟩:=List.getElem?_eq_some_iff.1 h
 rw [List.take_succ_eq_append_getElem h1,h2,crcReg_snoc]
theorem not32 (c:BitVec 32):bits .xor .u32 IntKind.u32.max (c.toNat:Int)=((~~~c).toNat:Int):=by
 have h:=xorNat (BitVec.allOnes 32) c
 rw [BitVec.allOnes_xor] at h
 exact h
theorem crcUpdate_any (s:BitVec 32) (l:List UInt8) (v:Value) (w:World) (hv:A2 w v l) (ht:NibTab w) (hl:l.length≤9223372036854775807):
  Calls Tryz.prog 139 #[.int .u32 (s.toNat:Int),v] w fun e w'=>e= .returned (.int .u32 ((crcUpdate s l).toNat:Int))∧Below w.heap.size w w':=by
 obtain⟨oa,cap,rfl,hlc,hc⟩:=hv
 have HC:=Qh (show ∀ (i:Nat) x,l[i]? =some x→ ∃ b off,oa=some ⟨b,off,none⟩∧w.cell? ⟨b,off+i,none⟩=some (.int .u8 (x.toNat:Int)) from fun i x hx=>by
  obtain⟨b,off,h1,h2⟩:=hc (by rintro rfl;simp at hx)
  exact⟨b,off,h1,h2 i x hx⟩)
 obtain⟨s0,hs0⟩: ∃ s0,s0= ~~~s:=⟨_,rfl⟩
 have n1:bits .xor .u32 IntKind.u32.max (s.toNat:Int)=(s0.toNat:Int):=by rw [not32,hs0]
 have HS0:=Qh hs0
 have HT:=Qh ht
 clear hc ht hs0
 go_enter Tryz.func139,Tryz.ntmps139
 go_wp2
 go_loopw [5,12] (fun cv iv wr=> ∃ k:Nat,k≤l.length∧iv= .int .i64 k∧cv= .int .u32 ((It s0 (l.take k)).toNat:Int)∧Below w.heap.size w wr) (fun _ iv _=>l.length - (intOf iv).toNat)
 case atStart=>exact⟨0,θ _,rfl,rfl,τ _ _⟩
 case round=>
  obtain⟨k,hk,rfl,rfl,hb⟩:=hrel
  have HB:=Qh hb
  clear hb
  by_cases hlt:k<l.length
  ·obtain⟨x,hx,_,_⟩:=Kc l k hlt
   obtain⟨b,off,rfl,hcell⟩:=HC.out k x hx
   have q1:(k:Int)<(l.length:Int):=by omega
   have c1:=cell_later HB.out hcell
   have HS:=Qh (crcStep_any (It s0 (l.take k)) x wr (HT.out.below HB.out))
   have HX:=Qh (crcReg_take s0 l k x hx)
   clear hx hcell n1
   generalize It s0 (l.take k)=r0 at*
   go_wp2_with fail
   go_at_call 174
   refine HS.out.mono ?_
   rintro e w1 ⟨rfl,rfl⟩
   go_wp2
   go_roundw
   case rel=>exact⟨k+1,by omega,by go_num,by rw [HX.out],HB.out⟩
   case measure=>simp [intOf];omega
  ·obtain rfl:k=l.length:=by omega
   obtain⟨r1,hr1⟩: ∃ r1,r1=crcUpdate s l:=⟨_,rfl⟩
   have n2:bits .xor .u32 IntKind.u32.max ((It s0 (l.take l.length)).toNat:Int)=(r1.toNat:Int):=by rw [not32,List.take_length,HS0.out,hr1];rfl
   have HR:=Qh hr1
   clear n1 hr1
   generalize It s0 (l.take l.length)=r0 at*
   go_wp2
   go_ret
   exact⟨by rw [←HR.out];rfl,HB.out⟩
theorem crcSum_any (l:List UInt8) (v:Value) (w:World) (hv:A2 w v l) (ht:NibTab w) (hl:l.length≤9223372036854775807):
  Calls Tryz.prog 106 #[v] w fun e w'=>e= .returned (.int .u32 ((Dz l).toNat:Int))∧Below w.heap.size w w':=by
 have HU:=Qh (crcUpdate_any 0 l v w hv ht hl)
 obtain⟨oa,cap,rfl,hlc,hc⟩:=hv
 clear hc
 go_enter Tryz.func106,Tryz.ntmps106
 go_wp2_with fail
 go_at_call 139
 refine HU.out.mono ?_
 rintro e w1 ⟨rfl,hb⟩
 go_wp2
 go_ret
 exact⟨rfl,hb⟩
theorem fourCells (s:BitVec 32):Lib.byteCells (Cq s)=[.int .u8 ((s.toNat:Int) % 256),.int .u8 ((s.toNat:Int) / 256 % 256),.int .u8 ((s.toNat:Int) / 65536 % 256),.int .u8 ((s.toNat:Int) / 16777216)]:=by
 have:=s.isLt
 have g: ∀ x:Nat,x<256→(((UInt8.ofNat x).toNat:Nat):Int)=(x:Int):=fun x hx=>by rw [UInt8.toNat_ofNat',Nat.mod_eq_of_lt (by omega)]
 simp only [Lib.byteCells,Cq,List.map_cons,List.map_nil]
 rw [g _ (by omega),g _ (by omega),g _ (by omega),g _ (by omega)]
 have e1:((s.toNat % 256:Nat):Int)=(s.toNat:Int) % 256:=by omega
 have e2:((s.toNat / 256 % 256:Nat):Int)=(s.toNat:Int) / 256 % 256:=by omega
 have e3:((s.toNat / 65536 % 256:Nat):Int)=(s.toNat:Int) / 65536 % 256:=by omega
 have e4:((s.toNat / 16777216:Nat):Int)=(s.toNat:Int) / 16777216:=by omega
 rw [e1,e2,e3,e4]
theorem own_lit (w:World) (l:List UInt8) (hl:l.length≤maxLen):(w.alloc (.cells (Lib.byteCells l).toArray 5)).ownsRow w.heap.size 5 1 (.slice (some ⟨w.heap.size,0,none⟩) l.length l.length) l.length (Lib.byteCells l):=by
 have:=World.ownsRow_lit (base:=w.heap.size) (e:=5) (size:=1) w (Lib.byteCells l).toArray l.length (ξ _) hl (by simp [Lib.byteCells])
 simpa using this
theorem crcFour_any (s:BitVec 32) (w:World):
  Calls Tryz.prog 105 #[.int .u32 (s.toNat:Int)] w fun e w'=> ∃ v,e= .returned v∧w'.ownsRow w.heap.size 5 1 v 4 (Lib.byteCells (Cq s))∧Below w.heap.size w w':=by
 have HO:=Qh (own_lit w (Cq s) (show 4≤maxLen by decide))
 have HC:=Qh (fourCells s)
 have hs:=s.isLt
 go_enter Tryz.func105,Tryz.ntmps105
 go_wp2
 go_ret
 refine⟨_,rfl,?_,below_alloc _ _⟩
 have h:=HO.out
 rw [HC.out] at h ⊢
 exact h
theorem low7 (n:Nat):(((UInt8.ofNat (128+n % 128)).toNat:Nat):Int)=(n:Int) % 128+128:=by
 rw [UInt8.toNat_ofNat',Nat.mod_eq_of_lt (by omega)];omega
theorem or128_all: ∀ a:Fin 256,a.val ||| 128=a.val % 128+128:=by decide
theorem or128 (a:Nat) (h:a<256):bits .or .u8 (a:Int) 128=((a % 128+128:Nat):Int):=by
 rw [show (128:Int)=((128:Nat):Int) from rfl,u8_or_nat a 128 h (by decide)]
 exact congrArg _ (or128_all ⟨a,h⟩)
theorem byte7 {n:Nat} (h:n<128):(((UInt8.ofNat n).toNat:Nat):Int)=(n:Int):=by rw [UInt8.toNat_ofNat',Nat.mod_eq_of_lt (by omega)]
theorem make10 (w:World):(Instr.makeSlice 39 (.int .i64 0) (.int .i64 10)).run Tryz.prog w= .ok (.slice (some ⟨w.heap.size,0,none⟩) 0 10) (w.alloc (.cells #[.int .u8 0,.int .u8 0,.int .u8 0,.int .u8 0,.int .u8 0,.int .u8 0,.int .u8 0,.int .u8 0,.int .u8 0,.int .u8 0] 5)):=by kernel_rfl
theorem own10 (w:World):OwnB (w.alloc (.cells #[.int .u8 0,.int .u8 0,.int .u8 0,.int .u8 0,.int .u8 0,.int .u8 0,.int .u8 0,.int .u8 0,.int .u8 0,.int .u8 0] 5)) w.heap.size (.slice (some ⟨w.heap.size,0,none⟩) 0 10) []:=
 ⟨rfl,.inr ⟨w.heap.size,10,_,rfl,ξ _,σ w _,by simp,by decide,rfl,by simp [Lib.byteCells]⟩⟩
theorem Ds (n:Nat) (w:World) (hn:n<18446744073709551616):
  Calls Tryz.prog 67 #[.int .u64 (n:Int)] w fun e w'=> ∃ v,e= .returned v∧OwnB w' w.heap.size v (encV n)∧Below w.heap.size w w':=by
 have hmk:=make10 w
 have HO:=Qh (own10 w)
 go_enter Tryz.func67,Tryz.ntmps67
 go_wp2
 go_loopw [0,3] (fun uv bv wr=> ∃ (m:Nat) (bs:List UInt8),uv= .int .u64 (m:Int)∧m<18446744073709551616∧OwnB wr w.heap.size bv bs∧Hid (bs++encV m=encV n)∧Below w.heap.size w wr) (fun uv _ _=>(intOf uv).toNat)
 case atStart=>exact⟨n,[],rfl,hn,HO.out,Qh rfl,below_alloc _ _⟩
 case round=>
  clear hmk HO
  obtain⟨m,bs,rfl,hm,hown,HE,hb⟩:=hrel
  have HO:=Qh hown
  have HB:=Qh hb
  have hsz:=hb.size
  have hlen:bs.length≤10:=by
   have:=Bl hn
   rw [←HE.out,η] at this
   omega
  clear hown hb
  by_cases hlt:m<128
  ·have t1:decide ((128:Int)≤(m:Int))=false:=by simp;omega
   have HL:=Qh (encV_low hlt)
   have HC:=Qh (byte7 hlt)
   go_wp2_with (at_builtin;refine wpList_app1 rfl _ _ rfl (UInt8.ofNat m) rfl rfl HO.out hsz ?c1 ?c2 ?_)
   case c1=>exact HC.out.symm
   case c2=>omega
   intro v' w' h1 h2 _
   have HF:=Qh h1
   have HG:=Qh (HB.out.trans h2)
   clear h1 h2
   go_wp2
   go_ret
   exact⟨v',rfl,by have:=HF.out;rwa [←HL.out,HE.out] at this,HG.out⟩
  ·have t1:decide ((128:Int)≤(m:Int))=true:=by simp;omega
   have HL:=Qh (encV_high hlt)
   obtain⟨c,hc⟩: ∃ c,c=UInt8.ofNat (128+m % 128):=⟨_,rfl⟩
   have HC:=Qh (show bits .or .u8 ((m:Int) % 256) 128=(c.toNat:Int) by
    rw [hc,low7,show (m:Int) % 256=((m % 256:Nat):Int) by omega,or128 _ (Nat.mod_lt _ (by decide))];omega)
   have HX:=Qh hc
   clear hc
   go_wp2_with (at_builtin;refine wpList_app1 rfl _ _ rfl c rfl rfl HO.out hsz ?c1 ?c2 ?_)
   case c1=>exact HC.out
   case c2=>omega
   intro v' w' h1 h2 h3
   have HF:=Qh h1
   have HG:=Qh (HB.out.trans h2)
   clear h1 h2
   go_wp2
   go_roundw
   case rel=>exact⟨m / 128,bs++[c],by go_num,by omega,HF.out,Qh (by rw [List.append_assoc,List.singleton_append,HX.out,←HL.out,HE.out]),HG.out⟩
   case measure=>simp [intOf];omega
def URow (w:World) (v:Value) (us:List Nat):Prop:=
 ∃ oa cap,v= .slice oa us.length cap∧us.length≤cap∧ ∀ (i:Nat) u,us[i]? =some u→ ∃ b off,oa=some ⟨b,off,none⟩∧w.cell? ⟨b,off+i,none⟩=some (.int .u64 (u:Int))
theorem URow.below {w w':World} {v:Value} {us:List Nat} (h:URow w v us) (hb:Below w.heap.size w w'):URow w' v us:=by
 obtain⟨oa,cap,h1,h2,h3⟩:=h
 exact⟨oa,cap,h1,h2,fun i u hu=>by obtain⟨b,off,e,hc⟩:=h3 i u hu;exact⟨b,off,e,cell_later hb hc⟩⟩
def F3 (us:List Nat) (k:Nat):List UInt8:=encV us.length++(us.take k).flatMap encV
theorem encPart_zero (us:List Nat):F3 us 0=encV us.length:=by simp [F3]
theorem encPart_succ {us:List Nat} {k u:Nat} (h:us[k]? =some u):F3 us (k+1)=F3 us k++encV u:=by
 obtain⟨h1,h2⟩:=List.getElem?_eq_some_iff.1 h
 unfold F3
 rw [List.take_succ_eq_append_getElem h1,h2,encs_snoc,List.append_assoc]
theorem encPart_all (us:List Nat):F3 us us.length=encAll us:=by simp [F3,encAll]
theorem encPart_len (us:List Nat) (k:Nat) (hk:k≤us.length) (hu: ∀ u∈us,u<18446744073709551616) (hl:us.length≤1000000000000):(F3 us k).length≤10*us.length+10:=by
 have h1:=Bl (show us.length<18446744073709551616 by omega)
 have h2:=encs_len (us.take k) fun x hx=>hu x (List.mem_of_mem_take hx)
 rw [Θ] at h2
 unfold F3
 rw [η]
 omega
theorem encodeAll_any (us:List Nat) (v:Value) (w:World) (hv:URow w v us) (hu: ∀ u∈us,u<18446744073709551616) (hl:us.length≤1000000000000):
  Calls Tryz.prog 157 #[v] w fun e w'=> ∃ v',e= .returned v'∧OwnB w' w.heap.size v' (encAll us)∧Below w.heap.size w w':=by
 obtain⟨oa,cap,rfl,hlc,hc⟩:=hv
 have HC:=Qh hc
 have HU:=Qh hu
 have HE0:=Qh (Ds us.length w (by omega))
 clear hc hu
 go_enter Tryz.func157,Tryz.ntmps157
 go_wp2_with fail
 go_at_call 67
 refine HE0.out.mono ?_
 rintro e w0 ⟨v0,rfl,ho0,hb0⟩
 have HO0:=Qh ho0
 have HB0:=Qh hb0
 clear ho0 hb0 HE0
 go_wp2
 go_loopw [3,12] (fun bv iv wr=> ∃ k:Nat,k≤us.length∧iv= .int .i64 k∧OwnB wr w.heap.size bv (F3 us k)∧Below w.heap.size w wr) (fun _ iv _=>us.length - (intOf iv).toNat)
 case atStart=>exact⟨0,θ _,rfl,by rw [encPart_zero];exact HO0.out,HB0.out⟩
 case round=>
  clear HO0 HB0
  obtain⟨k,hk,rfl,hown,hb⟩:=hrel
  have HO:=Qh hown
  have HB:=Qh hb
  clear hown hb
  by_cases hlt:k<us.length
  ·obtain⟨u,hx,_,hm⟩:=Kc us k hlt
   obtain⟨b,off,rfl,hcell⟩:=HC.out k u hx
   have q1:(k:Int)<(us.length:Int):=by omega
   have c1:=cell_later HB.out hcell
   have HS:=Qh (Ds u wr (HU.out u hm))
   have HX:=Qh (encPart_succ hx)
   have HL:=Qh (encPart_len us (k+1) (by omega) HU.out hl)
   clear hx hcell hm
   go_wp2_with fail
   go_at_call 67
   refine HS.out.mono ?_
   rintro e w1 ⟨v1,rfl,h1,h2⟩
   have H1:=Qh h1
   have HB1:=Qh (Below.next HB.out h2)
   have HO1:=Qh (HO.out.later h2)
   clear h1 h2 HS HO
   obtain⟨p,hp⟩: ∃ p,p=F3 us k:=⟨_,rfl⟩
   obtain⟨q,hq⟩: ∃ q,q=encV u:=⟨_,rfl⟩
   have HPQ:=Qh (show F3 us (k+1)=p++q by rw [HX.out,hp,hq])
   rw [←hp] at HO1
   rw [←hq] at H1
   have hlen:p.length+q.length≤140737488355328:=by have:=HL.out;rw [HPQ.out,η] at this;omega
   clear HX hp hq
   go_wp2_with (at_builtin;refine wpList_appB rfl _ _ rfl rfl rfl HO1.out ?c1 H1.out.brow hlen ?_)
   case c1=>exact HB1.out.size
   intro v' w' h1 h2
   have HF:=Qh h1
   have HG:=Qh (HB1.out.trans h2)
   clear h1 h2
   go_wp2
   go_roundw
   case rel=>exact⟨k+1,by omega,by go_num,by rw [HPQ.out];exact HF.out,HG.out⟩
   case measure=>simp [intOf];omega
  ·obtain rfl:k=us.length:=by omega
   have HA:=Qh (encPart_all us)
   go_wp2
   go_ret
   exact⟨_,rfl,by rw [←HA.out];exact HO.out,HB.out⟩
@[reducible] def frV (k s : Int) (bv : Value) : Value := .agg #[.int .i64 k, .int .i64 s, bv]
def frCs (k s:Int) (bv:Value):Array Value:= #[.int .i64 k,.int .i64 s,bv]
theorem le8_byte (n k:Nat):(((UInt8.ofNat (n / 256^k % 256)).toNat:Nat):Int)=((n / 256^k % 256:Nat):Int):=by
 rw [UInt8.toNat_ofNat',Nat.mod_eq_of_lt (Nat.mod_lt _ (by decide))]
def Ej (kind len seq k:Nat):List UInt8:=[165,UInt8.ofNat kind,UInt8.ofNat (len % 256),UInt8.ofNat (len / 256)]++le8 seq k
theorem headPart_succ (kind len seq k:Nat):Ej kind len seq (k+1)=Ej kind len seq k++[UInt8.ofNat (seq / 256^k % 256)]:=by
 unfold Ej
 rw [le8_succ,List.append_assoc]
theorem F5 (kind len seq k:Nat):(Ej kind len seq k).length=4+k:=by simp [Ej,le8_length];omega
theorem headCells {kind len:Nat} (h1:kind≤7) (h2:len≤16384):Lib.byteCells [165,UInt8.ofNat kind,UInt8.ofNat (len % 256),UInt8.ofNat (len / 256)]=[.int .u8 165,.int .u8 (kind:Int),.int .u8 ((len:Int) % 256),.int .u8 ((len:Int) / 256)]:=by
 have g: ∀ x:Nat,x<256→(((UInt8.ofNat x).toNat:Nat):Int)=(x:Int):=fun x hx=>by rw [UInt8.toNat_ofNat',Nat.mod_eq_of_lt (by omega)]
 simp only [Lib.byteCells,List.map_cons,List.map_nil]
 rw [g _ (by omega),g _ (by omega),g _ (by omega)]
 have e2:((len % 256:Nat):Int)=(len:Int) % 256:=by omega
 have e3:((len / 256:Nat):Int)=(len:Int) / 256:=by omega
 rw [e2,e3]
 rfl
def Ck (w:World) (g:Nat) (k s:Int) (bv:Value):Prop:=w.heap[g]? =some (.cells (frCs k s bv) 101 (0,0))
theorem Ck.below {w w':World} {g:Nat} {k s:Int} {bv:Value} (h:Ck w g k s bv) (hb:Below w.heap.size w w'):Ck w' g k s bv:=by
 unfold Ck at*
 rw [hb.block g (δ.1 h).1];exact h
theorem Ck.keep {w w':World} {g B:Nat} {k s:Int} {bv:Value} (h:Ck w g k s bv) (hb:Below B w w') (hB:g<B):Ck w' g k s bv:=by
 unfold Ck at*
 rw [hb.block g hB];exact h
theorem Ck.c0 {w:World} {g:Nat} {k s:Int} {bv:Value} (h:Ck w g k s bv):w.cell? ⟨g,0,none⟩=some (.int .i64 k):=by unfold Ck at h;simp [World.cell?,h,frCs]
theorem Ck.c1 {w:World} {g:Nat} {k s:Int} {bv:Value} (h:Ck w g k s bv):w.cell? ⟨g,1,none⟩=some (.int .i64 s):=by unfold Ck at h;simp [World.cell?,h,frCs]
theorem Ck.c2 {w:World} {g:Nat} {k s:Int} {bv:Value} (h:Ck w g k s bv):w.cell? ⟨g,2,none⟩=some bv:=by unfold Ck at h;simp [World.cell?,h,frCs]
theorem C7 (w:World) (k s:Int) (bv:Value):Ck (w.alloc (.cells (frCs k s bv) 101)) w.heap.size k s bv:=σ w _
theorem Ib {k s:Int} {body:List UInt8} (h:k<1∨7<k∨s<0∨1099511627776<s):Bg k s body=([],63):=by
 unfold Bg
 rw [ζ (by simp;omega)]
theorem frameEnc_big {k s:Int} {body:List UInt8} (h: ¬ (k<1∨7<k∨s<0∨1099511627776<s)) (hb:16384<body.length):Bg k s body=([],24):=by
 unfold Bg
 rw [γ (by simp;omega),ζ (by simpa using hb)]
theorem Jb {k s:Int} {body:List UInt8} (h: ¬ (k<1∨7<k∨s<0∨1099511627776<s)) (hb: ¬ 16384<body.length):Bg k s body=(frameOf k.toNat s.toNat body,0):=by
 unfold Bg
 rw [γ (by simp;omega),γ (by simpa using hb)]
def Bd (w:World) (r:List UInt8×Int) (e:Ending) (w':World):Prop:= ∃ v,e= .returned (.tuple #[v,.int .i64 r.2])∧OwnB w' w.heap.size v r.1∧Below w.heap.size w w'
theorem frame_bad (k s:Int) (body:List UInt8) (oa:Option Addr) (cap:Nat) (w:World) (h:(k<1∨7<k∨s<0∨1099511627776<s)∨16384<body.length):
  Calls Tryz.prog 68 #[frV k s (.slice oa body.length cap)] w (Bd w (Bg k s body)):=by
 by_cases h1:k<1
 ·have HE:=Qh (Ib (body:=body) (.inl h1) (s:=s))
  have t1:decide (k≤0)=true:=by simp;omega
  clear h h1
  go_enter Tryz.func68,Tryz.ntmps68
  go_wp2
  go_ret2
  unfold Bd;rw [HE.out]
  exact⟨_,rfl,OwnB.nil _ _,below_alloc _ _⟩
 have t1:decide (k≤0)=false:=by simp;omega
 by_cases h2:7<k
 ·have HE:=Qh (Ib (body:=body) (.inr (.inl h2)) (s:=s))
  have t2:decide (7<k)=true:=by simpa using h2
  clear h h1 h2
  go_enter Tryz.func68,Tryz.ntmps68
  go_wp2
  go_ret2
  unfold Bd;rw [HE.out]
  exact⟨_,rfl,OwnB.nil _ _,below_alloc _ _⟩
 have t2:decide (7<k)=false:=by simpa using h2
 by_cases h3:s<0
 ·have HE:=Qh (Ib (body:=body) (.inr (.inr (.inl h3))) (k:=k))
  have t3:decide (s<0)=true:=by simpa using h3
  clear h h1 h2 h3
  go_enter Tryz.func68,Tryz.ntmps68
  go_wp2
  go_ret2
  unfold Bd;rw [HE.out]
  exact⟨_,rfl,OwnB.nil _ _,below_alloc _ _⟩
 have t3:decide (s<0)=false:=by simpa using h3
 by_cases h4:1099511627776<s
 ·have HE:=Qh (Ib (body:=body) (.inr (.inr (.inr h4))) (k:=k))
  have t4:decide (1099511627776<s)=true:=by simpa using h4
  clear h h1 h2 h3 h4
  go_enter Tryz.func68,Tryz.ntmps68
  go_wp2
  go_ret2
  unfold Bd;rw [HE.out]
  exact⟨_,rfl,OwnB.nil _ _,below_alloc _ _⟩
 have t4:decide (1099511627776<s)=false:=by simpa using h4
 have h5:16384<body.length:=by omega
 have HE:=Qh (frameEnc_big (k:=k) (s:=s) (by omega) h5)
 have t5:decide (16384<(body.length:Int))=true:=by simp;omega
 clear h h1 h2 h3 h4 h5
 go_enter Tryz.func68,Tryz.ntmps68
 go_wp2
 go_ret2
 unfold Bd;rw [HE.out]
 exact⟨_,rfl,OwnB.nil _ _,below_alloc _ _⟩
theorem frame_good (k s:Int) (body:List UInt8) (bv:Value) (w:World) (hv:A2 w bv body) (hn:NibTab w) (h: ¬ (k<1∨7<k∨s<0∨1099511627776<s)) (h5: ¬ 16384<body.length):
  Calls Tryz.prog 68 #[frV k s bv] w (Bd w (Bg k s body)):=by
 have HE:=Qh (Jb h h5)
 have t1:decide (k≤0)=false:=by simp;omega
 have t2:decide (7<k)=false:=by simp;omega
 have t3:decide (s<0)=false:=by simp;omega
 have t4:decide (1099511627776<s)=false:=by simp;omega
 have t5:decide (16384<(body.length:Int))=false:=by simp;omega
 obtain⟨kn,rfl⟩:=Int.eq_ofNat_of_zero_le (show 0≤k by omega)
 obtain⟨sn,rfl⟩:=Int.eq_ofNat_of_zero_le (show 0≤s by omega)
 have HV:=Qh hv
 have HN:=Qh hn
 obtain⟨oa,cap,rfl,_,hcc⟩:=hv
 clear hcc hn
 have hl:body.length≤16384:=by omega
 have hk:kn≤7:=by omega
 have hs:sn≤1099511627776:=by omega
 have t0: ¬ kn=0:=by omega
 have HB0:=Qh (C7 w kn sn (.slice oa body.length cap))
 have HO:=Qh (show ∀ W:World,OwnB (W.alloc (.cells #[.int .u8 165,.int .u8 (kn:Int),.int .u8 ((body.length:Int) % 256),.int .u8 ((body.length:Int) / 256)] 5)) W.heap.size (.slice (some ⟨W.heap.size,0,none⟩) 4 4) (Ej kn body.length sn 0) by
  intro W
  have:=own_lit W (Ej kn body.length sn 0) (by rw [F5];decide)
  rw [F5] at this
  have e:Lib.byteCells (Ej kn body.length sn 0)=[.int .u8 165,.int .u8 (kn:Int),.int .u8 ((body.length:Int) % 256),.int .u8 ((body.length:Int) / 256)]:=by rw [←headCells hk hl];simp [Ej,le8]
  unfold OwnB
  rw [F5]
  rw [e] at this ⊢
  exact this)
 clear h h5
 go_enter Tryz.func68,Tryz.ntmps68
 go_wp2
 go_loopw [5,6,42] (fun bv _ iv wr=> ∃ k:Nat,k≤8∧iv= .int .i64 k∧OwnB wr (w.heap.size+1) bv (Ej kn body.length sn k)∧Ck wr w.heap.size kn sn (.slice oa body.length cap)∧Below w.heap.size w wr) (fun _ _ iv _=>8 - (intOf iv).toNat)
 case atStart=>exact⟨0,by omega,rfl,by have:=HO.out (w.alloc (.cells (frCs kn sn (.slice oa body.length cap)) 101));simp at this;exact this,HB0.out.below (below_alloc _ _),Below.next (below_alloc _ _) (below_alloc _ _)⟩
 case round=>
  clear HO HB0
  obtain⟨k,hk8,rfl,hown,hfr,hb⟩:=hrel
  have HO:=Qh hown
  have HB:=Qh hb
  have HF:=Qh hfr
  have hsz:w.heap.size+1≤wr.heap.size:=(δ.1 hfr).1
  clear hown hb hfr
  by_cases hlt:k<8
  ·have c1:=HF.out.c1
   have HX:=Qh (headPart_succ kn body.length sn k)
   have HL:=Qh (F5 kn body.length sn k)
   obtain⟨c,hc⟩: ∃ c,c=UInt8.ofNat (sn / 256^k % 256):=⟨_,rfl⟩
   have HC:=Qh (show ((sn / 256^k % 256:Nat):Int)=(c.toNat:Int) by rw [hc,le8_byte])
   rw [←hc] at HX
   obtain⟨p,hp⟩: ∃ p,p=Ej kn body.length sn k:=⟨_,rfl⟩
   rw [←hp] at HX HL HO
   clear hc hp
   have h8:k=0∨k=1∨k=2∨k=3∨k=4∨k=5∨k=6∨k=7:=by omega
   rcases h8 with rfl | rfl | rfl | rfl | rfl | rfl | rfl | rfl
   all_goals
    go_wp2_with (at_builtin;refine wpList_app1 rfl _ _ rfl c rfl rfl HO.out hsz ?c1 ?c2 ?_)
    case c1=>have:=HC.out;simp only [Nat.reducePow,Nat.pow_zero,Nat.div_one] at this;first | exact this | (rw [←this];omega)
    case c2=>have:=HL.out;omega
    intro v' w' h1 h2 h3
    have HF2:=Qh h1
    have HG:=Qh (HB.out.trans (h2.mono (Nat.le_succ _)))
    have HF3:=Qh (HF.out.keep h2 (Nat.lt_succ_self _))
    clear h1 h2 c1
    go_wp2
    go_roundw
    case rel=>exact⟨_,by decide,rfl,by rw [HX.out];exact HF2.out,HF3.out,HG.out⟩
    case measure=>simp [intOf]
  ·obtain rfl:k=8:=by omega
   have HH:=Qh (show Ej kn body.length sn 8=Jo kn body.length sn from rfl)
   have HL:=Qh (Jp kn body.length sn)
   rw [HH.out] at HO
   obtain⟨p,hp⟩: ∃ p,p=Jo kn body.length sn:=⟨_,rfl⟩
   rw [←hp] at HO HL
   have HN1:=Qh (HN.out.below HB.out)
   have HS:=Qh (crcSum_any p _ wr HO.out.brow HN1.out (by have:=HL.out;omega))
   have HPH:=Qh hp
   clear hp HH
   obtain⟨ao,bcap,rfl,_,_⟩:=Ac HO.out
   go_wp2_with fail
   go_at_call 106
   refine HS.out.mono ?_
   rintro e w1 ⟨rfl,hb1⟩
   have HO1:=Qh (HO.out.later hb1)
   have HB1:=Qh (Below.next HB.out hb1)
   have HF1:=Qh (HF.out.below hb1)
   clear hb1 HS HO
   have HT:=Qh (crcFour_any (Dz p) w1)
   obtain⟨sm,hsm⟩: ∃ sm,sm=Dz p:=⟨_,rfl⟩
   rw [←hsm] at HT ⊢
   have HSM:=Qh hsm
   clear hsm
   go_wp2_with fail
   go_at_call 105
   refine HT.out.mono ?_
   rintro e w2 ⟨v2,rfl,h1,hb2⟩
   have HO2:=Qh (HO1.out.later hb2)
   have HB2:=Qh (Below.next HB1.out hb2)
   have HF2:=Qh (HF1.out.below hb2)
   have HQ2:=Qh (brow_own (l:=Cq sm) h1)
   have hsz2:w.heap.size+1≤w2.heap.size:=(δ.1 HF2.out).1
   clear hb2 h1 HT HO1 HF1
   obtain⟨q,hq⟩: ∃ q,q=Cq sm:=⟨_,rfl⟩
   have hlen:p.length+q.length≤140737488355328:=by rw [HL.out,hq,El];decide
   have hlq:q.length=4:=by rw [hq,El]
   rw [←hq] at HQ2
   have HPQ:=Qh (show p++q=Jo kn body.length sn++Cq (Dz (Jo kn body.length sn)) by rw [hq,HSM.out,HPH.out])
   clear hq
   have c2:=HF2.out.c2
   go_wp2_with (at_builtin;refine wpList_appB rfl _ _ rfl rfl rfl HO2.out ?c1 HQ2.out hlen ?_)
   case c1=>exact hsz2
   intro v3 w3 h1 h2
   have HO3:=Qh h1
   have HB3:=Qh (HB2.out.trans (h2.mono (Nat.le_succ _)))
   have HF3:=Qh (HF2.out.keep h2 (Nat.lt_succ_self _))
   have hsz3:=μ hsz2 h2.size
   have HV3:=Qh (HV.out.below HB3.out)
   clear h1 h2 c2 HF2 HO2
   obtain⟨p2,hp2⟩: ∃ p2,p2=p++q:=⟨_,rfl⟩
   have hlen2:p2.length+body.length≤140737488355328:=by rw [hp2,η,HL.out,hlq];omega
   have hl2:p2.length=16:=by rw [hp2,η,HL.out,hlq]
   rw [←hp2] at HO3 HPQ
   clear hp2
   have c3:=HF3.out.c2
   go_wp2_with (at_builtin;refine wpList_appB rfl _ _ rfl rfl rfl HO3.out ?c1 HV3.out hlen2 ?_)
   case c1=>exact hsz3
   intro v4 w4 h1 h2
   have HO4:=Qh h1
   have HB4:=Qh (HB3.out.trans (h2.mono (Nat.le_succ _)))
   have HF4:=Qh (HF3.out.keep h2 (Nat.lt_succ_self _))
   have hsz4:=μ hsz3 h2.size
   have HV4:=Qh (HV.out.below HB4.out)
   have HS4:=Qh (crcSum_any body _ w4 HV4.out (HN.out.below HB4.out) (by omega))
   clear h1 h2 c3 HF3 HO3
   have c4:=HF4.out.c2
   go_wp2_with fail
   go_at_call 106
   refine HS4.out.mono ?_
   rintro e w5 ⟨rfl,hb5⟩
   have HO5:=Qh (HO4.out.later hb5)
   have HB5:=Qh (Below.next HB4.out hb5)
   have hsz5:=μ hsz4 hb5.size
   clear hb5 HS4 c4 HO4
   have HT5:=Qh (crcFour_any (Dz body) w5)
   obtain⟨s5,hs5⟩: ∃ s5,s5=Dz body:=⟨_,rfl⟩
   rw [←hs5] at HT5 ⊢
   have HS5:=Qh hs5
   clear hs5
   go_wp2_with fail
   go_at_call 105
   refine HT5.out.mono ?_
   rintro e w6 ⟨v6,rfl,h1,hb6⟩
   have HO6:=Qh (HO5.out.later hb6)
   have HB6:=Qh (Below.next HB5.out hb6)
   have HQ6:=Qh (brow_own (l:=Cq s5) h1)
   have hsz6:=μ hsz5 hb6.size
   clear hb6 h1 HT5 HO5
   obtain⟨q6,hq6⟩: ∃ q6,q6=Cq s5:=⟨_,rfl⟩
   obtain⟨p6,hp6⟩: ∃ p6,p6=p2++body:=⟨_,rfl⟩
   have hlen6:p6.length+q6.length≤140737488355328:=by rw [hp6,hq6,El,η,hl2];omega
   rw [←hq6] at HQ6
   rw [←hp6] at HO6
   have HQ:=Qh (show frameOf (kn:Int).toNat (sn:Int).toNat body=p6++q6 by rw [hq6,hp6,HPQ.out,HS5.out];rfl)
   clear hq6 hp6
   go_wp2_with (at_builtin;refine wpList_appB rfl _ _ rfl rfl rfl HO6.out ?c1 HQ6.out hlen6 ?_)
   case c1=>exact hsz6
   intro v' w' h1 h2
   have HF':=Qh (h1.mono (Nat.le_succ _))
   have HG:=Qh (HB6.out.trans (h2.mono (Nat.le_succ _)))
   clear h1 h2
   go_wp2
   go_ret2
   unfold Bd
   rw [HE.out,HQ.out]
   exact⟨_,rfl,HF'.out,HG.out⟩
theorem frame_any (k s:Int) (body:List UInt8) (bv:Value) (w:World) (hv:A2 w bv body) (hn:NibTab w):Calls Tryz.prog 68 #[frV k s bv] w (Bd w (Bg k s body)):=by
 by_cases h:(k<1∨7<k∨s<0∨1099511627776<s)∨16384<body.length
 ·obtain⟨oa,cap,rfl,_,_⟩:=hv
  exact frame_bad k s body oa cap w h
 ·exact frame_good k s body bv w hv hn (fun h'=>h (.inl h')) (fun h'=>h (.inr h'))
theorem nums_two (a b:Nat) (g:Nat) (w:World) (ha:a<9223372036854775808) (hb:b<9223372036854775808) (h0:w.cell? ⟨g,0,none⟩=some (.int .i64 a)) (h1:w.cell? ⟨g,1,none⟩=some (.int .i64 b)):
  Calls Tryz.prog 124 #[.slice (some ⟨g,0,none⟩) 2 2] w fun e w'=> ∃ v,e= .returned v∧OwnB w' w.heap.size v (encV a++encV b)∧Below w.heap.size w w':=by
 have HE:=Qh (fun W=>Ds a W (by omega))
 have HF:=Qh (fun W=>Ds b W (by omega))
 have HLa:=Qh (Bl (show a<18446744073709551616 by omega))
 have HLb:=Qh (Bl (show b<18446744073709551616 by omega))
 have H1:=Qh h1
 clear h1
 go_enter Tryz.func124,Tryz.ntmps124
 go_wp2
 refine wp_loop_rounds 3 ?_
 rw [rounds_succ]
 go_wp2_with fail
 refine(HE.out _).mono ?_
 rintro e w1 ⟨v1,rfl,h2,hb1⟩
 have HO0:=Qh (OwnB.nil w1 w.heap.size)
 have HB1:=Qh hb1
 have H2:=Qh h2.brow
 clear h2 hb1 HE h0
 obtain⟨p,hp⟩: ∃ p,p=encV a:=⟨_,rfl⟩
 rw [←hp] at H2 HLa
 have HP:=Qh hp
 have hlen:([]:List UInt8).length+p.length≤140737488355328:=by have:=HLa.out;simp;omega
 clear hp
 go_wp2_with (at_builtin;refine wpList_appB rfl _ _ rfl rfl rfl HO0.out ?c1 H2.out hlen ?_)
 case c1=>exact HB1.out.size
 intro v2 w2 h3 h4
 have HO2:=Qh (show OwnB w2 w.heap.size v2 p from h3)
 have HB2:=Qh (HB1.out.trans h4)
 have c1:=cell_later HB2.out H1.out
 clear h3 h4 HO0 HB1 H2 hlen H1
 go_wp2
 rw [rounds_succ]
 go_wp2_with fail
 refine(HF.out _).mono ?_
 rintro e w3 ⟨v3,rfl,h5,hb3⟩
 have HO3:=Qh (HO2.out.later hb3)
 have HB3:=Qh (Below.next HB2.out hb3)
 have H5:=Qh h5.brow
 clear h5 hb3 HO2 HB2 HF c1
 obtain⟨q,hq⟩: ∃ q,q=encV b:=⟨_,rfl⟩
 rw [←hq] at H5 HLb
 have HQ:=Qh hq
 have hlen:p.length+q.length≤140737488355328:=by have:=HLa.out;have:=HLb.out;omega
 clear hq
 go_wp2_with (at_builtin;refine wpList_appB rfl _ _ rfl rfl rfl HO3.out ?c1 H5.out hlen ?_)
 case c1=>exact HB3.out.size
 intro v' w' h1 h2
 have HF':=Qh h1
 have HG:=Qh (HB3.out.trans h2)
 clear h1 h2
 go_wp2
 rw [rounds_succ]
 go_wp2
 go_ret
 exact⟨_,rfl,by rw [←HP.out,←HQ.out];exact HF'.out,HG.out⟩
theorem right_any (num first:Int) (w:World):Calls Tryz.prog 63 #[.int .i64 num,.int .i64 first] w fun e w'=>e= .returned (.bool (decide (1≤num)&&decide (num≤999999)&&decide (1≤first)&&decide (first≤1099511627777)))∧w=w':=by
 rcases h1:decide (1≤num)
 ·go_enter Tryz.func63,Tryz.ntmps63
  go_wp2
  go_ret
  exact⟨rfl,rfl⟩
 rcases h2:decide (num≤999999)
 ·go_enter Tryz.func63,Tryz.ntmps63
  go_wp2
  go_ret
  exact⟨rfl,rfl⟩
 rcases h3:decide (1≤first)
 ·go_enter Tryz.func63,Tryz.ntmps63
  go_wp2
  go_ret
  exact⟨rfl,rfl⟩
 rcases h4:decide (first≤1099511627777)
 all_goals
  go_enter Tryz.func63,Tryz.ntmps63
  go_wp2
  go_ret
  exact⟨rfl,rfl⟩
theorem hdrEnc_bad {num first:Int} (h:num<1∨999999<num∨first<1∨1099511627777<first):E4 num first=([],1):=by
 unfold E4
 rw [ζ (by simp;omega)]
theorem hdrEnc_good {num first:Int} (h: ¬ (num<1∨999999<num∨first<1∨1099511627777<first)):E4 num first=Bg 2 num (encV num.toNat++encV first.toNat):=by
 unfold E4
 rw [γ (by simp;omega)]
theorem header_any (num first:Int) (w:World) (hn:NibTab w):Calls Tryz.prog 80 #[.int .i64 num,.int .i64 first] w (Bd w (E4 num first)):=by
 by_cases h:num<1∨999999<num∨first<1∨1099511627777<first
 ·have HE:=Qh (hdrEnc_bad h)
  have HR:=Qh (right_any num first w)
  have HT:=Qh (show (decide (1≤num)&&decide (num≤999999)&&decide (1≤first)&&decide (first≤1099511627777))=false by simp;omega)
  clear h
  go_enter Tryz.func80,Tryz.ntmps80
  go_wp2_with fail
  go_at_call 63
  refine HR.out.mono ?_
  rw [HT.out]
  rintro e w1 ⟨rfl,rfl⟩
  go_wp2
  go_ret2
  unfold Bd;rw [HE.out]
  exact⟨_,rfl,OwnB.nil _ _,τ _ _⟩
 ·have HE:=Qh (hdrEnc_good h)
  have HR:=Qh (right_any num first w)
  have HT:=Qh (show (decide (1≤num)&&decide (num≤999999)&&decide (1≤first)&&decide (first≤1099511627777))=true by simp;omega)
  obtain⟨nn,rfl⟩:=Int.eq_ofNat_of_zero_le (show 0≤num by omega)
  obtain⟨fn,rfl⟩:=Int.eq_ofNat_of_zero_le (show 0≤first by omega)
  have HN:=Qh hn
  have HW:=Qh (nums_two nn fn w.heap.size (w.alloc (.cells #[.int .i64 nn,.int .i64 fn] 3)) (by omega) (by omega) (by simp [World.cell?_alloc_new]) (by simp [World.cell?_alloc_new]))
  clear h hn
  go_enter Tryz.func80,Tryz.ntmps80
  go_wp2_with fail
  go_at_call 63
  refine HR.out.mono ?_
  rw [HT.out]
  rintro e w1 ⟨rfl,rfl⟩
  go_wp2_with fail
  refine HW.out.mono ?_
  rintro e w1 ⟨v1,rfl,h1,hb1⟩
  obtain⟨bd,hbd⟩: ∃ bd,bd=encV nn++encV fn:=⟨_,rfl⟩
  rw [←hbd] at h1
  have HBD:=Qh hbd
  have HO1:=Qh h1.brow
  have hsh:=h1.brow
  obtain⟨oa1,cap1,rfl,_,hsh2⟩:=hsh
  have HB1:=Qh (Below.next (below_alloc w _) hb1)
  clear h1 hb1 HW hsh2 hbd
  have HFr:=Qh (frame_any 2 nn _ _ w1 HO1.out (HN.out.below HB1.out))
  go_wp2_with fail
  go_at_call 68
  refine HFr.out.mono ?_
  rintro e w2 ⟨v2,rfl,h2,hb2⟩
  obtain⟨r,hr⟩: ∃ r,r=Bg 2 (nn:Int) bd:=⟨_,rfl⟩
  rw [←hr] at h2
  rw [←hr]
  have HRR:=Qh hr
  have HO2:=Qh (h2.mono HB1.out.size)
  have HB2:=Qh (Below.next HB1.out hb2)
  clear h2 hb2 HFr hr
  go_wp2
  go_ret2
  unfold Bd;rw [HE.out]
  have e:Bg 2 (nn:Int) (encV (nn:Int).toNat++encV (fn:Int).toNat)=r:=by rw [HRR.out,HBD.out];rfl
  rw [e]
  exact⟨_,rfl,HO2.out,HB2.out⟩
def decGo:Nat→Nat→List UInt8→Nat×Nat×Int
 | _,_,[]=>(0,0,10)
 | i,u,c::r=>if i=9∧1<c.toNat then (0,0,12) else if 128≤c.toNat then decGo (i+1) (u+c.toNat % 128*128^i) r else if c.toNat=0∧0<i then (0,0,11) else (u+c.toNat % 128*128^i,i+1,0)
def decV (b:List UInt8):Nat×Nat×Int:=decGo 0 0 b
theorem decGo_len: ∀ (b:List UInt8) (i u:Nat),(decGo i u b).2.2=0→i<(decGo i u b).2.1∧(decGo i u b).2.1≤i+b.length
 | [],_,_=>by simp [decGo]
 | c::r,i,u=>by
  rw [decGo]
  split
  ·simp
  ·split
   ·intro h
    have:=decGo_len r (i+1) _ h
    simp only [φ];omega
   ·split
    ·simp
    ·intro _;simp only [φ];omega
theorem decGo_lt: ∀ (b:List UInt8) (i u:Nat),u<128^i→i≤9→(decGo i u b).1<18446744073709551616
 | [],_,_=>by simp [decGo]
 | c::r,i,u=>by
  intro hu hi
  rw [decGo]
  have hc:c.toNat % 128<128:=Nat.mod_lt _ (by decide)
  have hp:128^(i+1)=128^i*128:=Nat.pow_succ ..
  have hm:c.toNat % 128*128^i≤127*128^i:=Nat.mul_le_mul_right _ (by omega)
  split
  ·simp
  ·rename_i h9
   split
   ·rename_i h1
    have hi8:i≤8:=by
     rcases Nat.lt_or_ge i 9 with h | h
     ·omega
     ·exact absurd ⟨by omega,by omega⟩ h9
    exact decGo_lt r (i+1) _ (by rw [hp];omega) (by omega)
   ·split
    ·simp
    ·show u+c.toNat % 128*128^i<_
     rcases Nat.lt_or_ge i 9 with h | h
     ·have:(128:Nat)^(i+1)≤128^9:=Nat.pow_le_pow_right (by decide) (by omega)
      have h128:(128:Nat)^9=9223372036854775808:=by decide
      rw [hp] at this;omega
     ·have e9:i=9:=by omega
      subst e9
      have h1:c.toNat≤1:=by
       rcases Nat.lt_or_ge 1 c.toNat with h | h
       ·exact absurd ⟨rfl,h⟩ h9
       ·exact h
      have h128:(128:Nat)^9=9223372036854775808:=by decide
      rw [h128] at hu hm ⊢
      have:c.toNat % 128*9223372036854775808≤1*9223372036854775808:=Nat.mul_le_mul_right _ (by omega)
      omega
theorem Gn {b:List UInt8} (h:(decV b).2.2=0):0<(decV b).2.1∧(decV b).2.1≤b.length:=by
 have:=decGo_len b 0 0 h
 unfold decV;omega
theorem decV_lt (b:List UInt8):(decV b).1<18446744073709551616:=decGo_lt b 0 0 (by decide) (by decide)
def Hf (b:List UInt8):Bool:=decide (4≤b.length)&&(b.drop (b.length - 4)==Cq (Dz (b.take (b.length - 4))))
def leNat:List UInt8→Nat
 | []=>0
 | c::r=>c.toNat+256*leNat r
theorem leNat_lt: ∀ l:List UInt8,leNat l<256^l.length
 | []=>by decide
 | c::r=>by
  have:=leNat_lt r
  have hc:c.toNat<256:=c.toNat_lt
  rw [leNat,φ,Nat.pow_succ]
  omega
theorem leNat_snoc: ∀ (l:List UInt8) (x:UInt8),leNat (l++[x])=leNat l+x.toNat*256^l.length
 | [],x=>by simp [leNat]
 | c::r,x=>by
  rw [List.cons_append,leNat,leNat_snoc r x,leNat,φ,Nat.pow_succ,Nat.mul_add,←Nat.add_assoc]
  congr 1
  rw [←Nat.mul_assoc,Nat.mul_comm 256,Nat.mul_assoc,Nat.mul_comm 256]
def byteAt (b:List UInt8) (i:Nat):Nat:=(b.getD i 0).toNat
def B4 (b:List UInt8):Nat×Nat×Nat×Int:=
 if b.length<16 then (0,0,0,60) else if byteAt b 0≠165 then (0,0,0,61) else if Hf (b.take 16)=false then (0,0,0,62)
 else if byteAt b 1=0∨7<byteAt b 1∨16384<byteAt b 2+byteAt b 3*256∨1099511627776<leNat ((b.drop 4).take 8) then (0,0,0,63)
 else (byteAt b 1,leNat ((b.drop 4).take 8),byteAt b 2+byteAt b 3*256+20,0)
structure Frm where
 k:Nat
 s:Nat
 body:List UInt8
def Jv:Frm:=⟨0,0,[]⟩
def decF (b:List UInt8):Frm×Nat×Int:=
 if (B4 b).2.2.2≠0 then (Jv,0,(B4 b).2.2.2) else if b.length<(B4 b).2.2.1 then (Jv,0,60)
 else if Hf ((b.take (B4 b).2.2.1).drop 16)=false then (Jv,0,62)
 else (⟨(B4 b).1,(B4 b).2.1,((b.take (B4 b).2.2.1).drop 16).take ((B4 b).2.2.1 - 20)⟩,(B4 b).2.2.1,0)
theorem peekF_fine {b:List UInt8} (h:(B4 b).2.2.2=0):16≤b.length∧1≤(B4 b).1∧(B4 b).1≤7∧(B4 b).2.1≤1099511627776∧20≤(B4 b).2.2.1∧(B4 b).2.2.1≤16404:=by
 unfold B4 at h ⊢
 split at h
 ·simp at h
 ·split at h
  ·simp at h
  ·split at h
   ·simp at h
   ·split at h
    ·simp at h
    ·rename_i h1 h2 h3 h4
     rw [γ h1,γ h2,γ h3,γ h4]
     simp only
     omega
theorem or_add {a k x:Nat} (h:a<2^k):a ||| x*2^k=a+x*2^k:=by
 rw [Nat.or_comm,←Nat.shiftLeft_eq,←Nat.shiftLeft_add_eq_or_of_lt h,Nat.add_comm]
theorem or64 {u x k:Nat} (hu:u<2^k) (hs:u+x*2^k<18446744073709551616):bits .or .u64 (u:Int) (IntKind.u64.wrap ((x:Int)*2^k))=((u+x*2^k:Nat):Int):=by
 have e:(x:Int)*2^k=((x*2^k:Nat):Int):=by push_cast;rfl
 have hw:IntKind.u64.wrap ((x*2^k:Nat):Int)=((x*2^k:Nat):Int):=by
  rw [IntKind.wrap_u64,Int.emod_eq_of_lt (by omega) (by omega)]
 rw [e,hw,u64_or_nat _ _ (by omega) (by omega),or_add hu]
theorem or7 {u k:Nat} (x:UInt8) (hu:u<128^k) (hs:u+x.toNat % 128*128^k<18446744073709551616):bits .or .u64 (u:Int) (IntKind.u64.wrap ((x.toNat:Int) % 128*2^(7*k)))=((u+x.toNat % 128*128^k:Nat):Int):=by
 have e:(128:Nat)^k=2^(7*k):=by rw [Nat.pow_mul]
 rw [e] at hu hs ⊢
 have:=or64 hu hs
 push_cast at this ⊢
 exact this
theorem Ez {α:Type} {l:List α} {k:Nat} {x:α} (h:l[k]? =some x):l.drop k=x::l.drop (k+1):=by
 obtain⟨hk,rfl⟩:=List.getElem?_eq_some_iff.1 h
 exact List.drop_eq_getElem_cons hk
theorem decGo_a {i u:Nat} {c:UInt8} {r:List UInt8} (h1:i=9) (h2:1<c.toNat):decGo i u (c::r)=(0,0,12):=by rw [decGo,ζ ⟨h1,h2⟩]
theorem decGo_b {i u:Nat} {c:UInt8} {r:List UInt8} (h1: ¬ (i=9∧1<c.toNat)) (h2:128≤c.toNat):decGo i u (c::r)=decGo (i+1) (u+c.toNat % 128*128^i) r:=by rw [decGo,γ h1,ζ h2]
theorem decGo_c {i u:Nat} {c:UInt8} {r:List UInt8} (h1: ¬ (i=9∧1<c.toNat)) (h2:c.toNat=0) (h3:0<i):decGo i u (c::r)=(0,0,11):=by rw [decGo,γ h1,γ (by omega),ζ ⟨h2,h3⟩]
theorem decGo_d {i u:Nat} {c:UInt8} {r:List UInt8} (h1: ¬ (i=9∧1<c.toNat)) (h2: ¬ 128≤c.toNat) (h3: ¬ (c.toNat=0∧0<i)):decGo i u (c::r)=(u+c.toNat % 128*128^i,i+1,0):=by rw [decGo,γ h1,γ h2,γ h3]
theorem sum_lt {u i:Nat} (c:UInt8) (hu:u<128^i) (hi:i≤9) (h1: ¬ (i=9∧1<c.toNat)):u+c.toNat % 128*128^i<18446744073709551616:=by
 have hc:c.toNat % 128<128:=Nat.mod_lt _ (by decide)
 have hm:c.toNat % 128*128^i≤127*128^i:=Nat.mul_le_mul_right _ (by omega)
 have h128:(128:Nat)^9=9223372036854775808:=by decide
 rcases Nat.lt_or_ge i 9 with h | h
 ·have:(128:Nat)^(i+1)≤128^9:=Nat.pow_le_pow_right (by decide) (by omega)
  rw [Nat.pow_succ] at this;omega
 ·have e9:i=9:=by omega
  subst e9
  have:c.toNat % 128*128^9≤1*128^9:=Nat.mul_le_mul_right _ (by omega)
  rw [h128] at hu this ⊢;omega
theorem sum_lt' {u i:Nat} (c:UInt8) (hu:u<128^i):u+c.toNat % 128*128^i<128^(i+1):=by
 have hm:c.toNat % 128*128^i≤127*128^i:=Nat.mul_le_mul_right _ (by have:c.toNat % 128<128:=Nat.mod_lt _ (by decide);omega)
 rw [Nat.pow_succ];omega
theorem and127_all: ∀ a:Fin 256,a.val&&&127=a.val % 128:=by decide
theorem and127 (x:UInt8):bits .and .u8 (x.toNat:Int) 127=(x.toNat:Int) % 128:=by
 rw [show (127:Int)=((127:Nat):Int) from rfl,u8_and_nat _ _ x.toNat_lt (by decide),and127_all ⟨x.toNat,x.toNat_lt⟩]
 norm_cast
theorem wrap7 (x:UInt8):IntKind.u64.wrap ((x.toNat:Int) % 128)=(x.toNat:Int) % 128:=by
 rw [IntKind.wrap_u64,Int.emod_eq_of_lt (by omega) (by omega)]
def VarPost (w:World) (r:Nat×Nat×Int) (e:Ending) (w':World):Prop:=e= .returned (.tuple #[.int .u64 (r.1:Int),.int .i64 (r.2.1:Int),.int .i64 r.2.2])∧Below w.heap.size w w'
theorem F2 (l:List UInt8) (v:Value) (w:World) (hv:A2 w v l) (hl:l.length≤9223372036854775807):
  Calls Tryz.prog 76 #[v] w (VarPost w (decV l)):=by
 obtain⟨oa,cap,rfl,hlc,hc⟩:=hv
 have HC:=Qh (show ∀ (i:Nat) x,l[i]? =some x→ ∃ b off,oa=some ⟨b,off,none⟩∧w.cell? ⟨b,off+i,none⟩=some (.int .u8 (x.toNat:Int)) from fun i x hx=>by
  obtain⟨b,off,h1,h2⟩:=hc (by rintro rfl;simp at hx)
  exact⟨b,off,h1,h2 i x hx⟩)
 clear hc
 go_enter Tryz.func76,Tryz.ntmps76
 go_wp2
 go_loopw [5,10] (fun uv iv wr=> ∃ (k u:Nat),k≤l.length∧k≤9∧iv= .int .i64 k∧uv= .int .u64 (u:Int)∧Hid (u<128^k∧decV l=decGo k u (l.drop k))∧Below w.heap.size w wr) (fun _ iv _=>l.length - (intOf iv).toNat)
 case atStart=>exact⟨0,0,θ _,by omega,rfl,rfl,Qh ⟨by decide,rfl⟩,τ _ _⟩
 case round=>
  obtain⟨k,u,hk,hk9,rfl,rfl,HU,hb⟩:=hrel
  have HB:=Qh hb
  clear hb
  by_cases hlt:k<l.length
  ·obtain⟨x,hx,_,_⟩:=Kc l k hlt
   obtain⟨b,off,rfl,hcell⟩:=HC.out k x hx
   have q1:(k:Int)<(l.length:Int):=by omega
   have c1:=cell_later HB.out hcell
   have HX:=Qh (show l.drop k=x::l.drop (k+1) from Ez hx)
   clear hx hcell
   have n2:=and127 x
   have n3:=wrap7 x
   rcases h9:((k:Int)==9) with _ | _
   ·have hk8:k≤8:=by simp at h9;omega
    have HN:=Qh (show ¬ (k=9∧1<x.toNat) from fun hc=>by omega)
    obtain⟨u2,hu2⟩: ∃ u2,u2=u+x.toNat % 128*128^k:=⟨_,rfl⟩
    have n1:=or7 x HU.out.1 (sum_lt x HU.out.1 hk9 HN.out)
    have HU2:=Qh (show u2<128^(k+1) by rw [hu2];exact sum_lt' x HU.out.1)
    rw [←hu2] at n1
    have HD:=Qh hu2
    clear hu2
    rcases h1:decide ((128:Int)≤(x.toNat:Int)) with _ | _
    ·have HN1:=Qh (show ¬ 128≤x.toNat by have:=ε h1;omega)
     rcases h0:((x.toNat:Int)==0) with _ | _
     ·have HE:=Qh (show decV l=(u2,k+1,0) by rw [HU.out.2,HX.out,decGo_d HN.out HN1.out (fun hc=>by simp at h0;omega),HD.out])
      clear hlt
      go_wp2
      refine π (v:= .tuple #[.int .u64 (u2:Int),.int .i64 ((k:Int)+1),.int .i64 0]) (by simp [results,Tryz.results76,go_sem]) rfl ⟨by rw [HE.out];push_cast;rfl,HB.out⟩
     ·have hx0:x.toNat=0:=by simp at h0;omega
      have HX0:=Qh hx0
      clear hx0
      rcases hk0:decide (0<k) with _ | _
      ·have HE:=Qh (show decV l=(u2,k+1,0) by rw [HU.out.2,HX.out,decGo_d HN.out HN1.out (fun hc=>by have:=ε hk0;omega),HD.out])
       clear hlt
       go_wp2
       refine π (v:= .tuple #[.int .u64 (u2:Int),.int .i64 ((k:Int)+1),.int .i64 0]) (by simp [results,Tryz.results76,go_sem]) rfl ⟨by rw [HE.out];push_cast;rfl,HB.out⟩
      ·have HE:=Qh (show decV l=(0,0,11) by rw [HU.out.2,HX.out,decGo_c HN.out HX0.out (χ hk0)])
       clear hlt
       go_wp2
       refine π (v:= .tuple #[.int .u64 0,.int .i64 0,.int .i64 11]) (by simp [results,Tryz.results76,go_sem]) rfl ⟨by rw [HE.out];rfl,HB.out⟩
    ·have hn1:128≤x.toNat:=by have:=χ h1;omega
     have HR:=Qh (show u2<128^(k+1)∧decV l=decGo (k+1) u2 (l.drop (k+1)) from⟨HU2.out,by rw [HU.out.2,HX.out,decGo_b HN.out hn1,HD.out]⟩)
     clear hn1
     go_wp2
     go_roundw
     case rel=>exact⟨k+1,u2,by omega,by omega,by go_num,rfl,HR,HB.out⟩
     case measure=>simp [intOf];omega
   ·have HK9:=Qh (show k=9 by simp at h9;omega)
    rcases hx1:decide ((1:Int)<(x.toNat:Int)) with _ | _
    ·have HN:=Qh (show ¬ (k=9∧1<x.toNat) from fun hc=>by have:=ε hx1;omega)
     obtain⟨u2,hu2⟩: ∃ u2,u2=u+x.toNat % 128*128^k:=⟨_,rfl⟩
     have n1:=or7 x HU.out.1 (sum_lt x HU.out.1 hk9 HN.out)
     have HU2:=Qh (show u2<128^(k+1) by rw [hu2];exact sum_lt' x HU.out.1)
     rw [←hu2] at n1
     have HD:=Qh hu2
     clear hu2
     have h1:decide ((128:Int)≤(x.toNat:Int))=false:=by have:=ε hx1;exact ρ (by omega)
     have HN1:=Qh (show ¬ 128≤x.toNat by have:=ε h1;omega)
     rcases h0:((x.toNat:Int)==0) with _ | _
     ·have HE:=Qh (show decV l=(u2,k+1,0) by rw [HU.out.2,HX.out,decGo_d HN.out HN1.out (fun hc=>by simp at h0;omega),HD.out])
      clear hlt
      go_wp2
      refine π (v:= .tuple #[.int .u64 (u2:Int),.int .i64 ((k:Int)+1),.int .i64 0]) (by simp [results,Tryz.results76,go_sem]) rfl ⟨by rw [HE.out];push_cast;rfl,HB.out⟩
     ·have hx0:x.toNat=0:=by simp at h0;omega
      have HX0:=Qh hx0
      clear hx0
      rcases hk0:decide (0<k) with _ | _
      ·have HE:=Qh (show decV l=(u2,k+1,0) by rw [HU.out.2,HX.out,decGo_d HN.out HN1.out (fun hc=>by have:=ε hk0;omega),HD.out])
       clear hlt
       go_wp2
       refine π (v:= .tuple #[.int .u64 (u2:Int),.int .i64 ((k:Int)+1),.int .i64 0]) (by simp [results,Tryz.results76,go_sem]) rfl ⟨by rw [HE.out];push_cast;rfl,HB.out⟩
      ·have HE:=Qh (show decV l=(0,0,11) by rw [HU.out.2,HX.out,decGo_c HN.out HX0.out (χ hk0)])
       clear hlt
       go_wp2
       refine π (v:= .tuple #[.int .u64 0,.int .i64 0,.int .i64 11]) (by simp [results,Tryz.results76,go_sem]) rfl ⟨by rw [HE.out];rfl,HB.out⟩
    ·have HE:=Qh (show decV l=(0,0,12) by rw [HU.out.2,HX.out,decGo_a HK9.out (by have:=χ hx1;omega)])
     clear hlt
     go_wp2
     refine π (v:= .tuple #[.int .u64 0,.int .i64 0,.int .i64 12]) (by simp [results,Tryz.results76,go_sem]) rfl ⟨by rw [HE.out];rfl,HB.out⟩
  ·obtain rfl:k=l.length:=by omega
   have HE:=Qh (show decV l=(0,0,10) by rw [HU.out.2,List.drop_length];rfl)
   clear hlt
   go_wp2
   refine π (v:= .tuple #[.int .u64 0,.int .i64 0,.int .i64 10]) (by simp [results,Tryz.results76,go_sem]) rfl ⟨by rw [HE.out];rfl,HB.out⟩
theorem Gl {w:World} {oa:Option Addr} {cap lo hi mx:Nat} {l:List UInt8} (h:A2 w (.slice oa l.length cap) l) (h1:lo≤hi) (h2:hi≤l.length) (h3:hi≤mx):A2 w (sliced oa lo hi mx 1) ((l.take hi).drop lo):=by
 obtain⟨oa',cap',e,_,hc⟩:=h
 simp only [Value.slice.injEq,true_and] at e
 obtain⟨rfl,rfl⟩:=e
 have hlen:((l.take hi).drop lo).length=hi - lo:=by rw [Ξ,Θ];omega
 refine⟨if mx=lo then oa else oa.map (·.add (lo*1)),mx - lo,by rw [hlen];rfl,by rw [hlen];omega,fun hn=> ?_⟩
 have hlt:lo<hi:=by
  rcases Nat.lt_or_ge lo hi with h | h
  ·exact h
  ·exact absurd (List.eq_nil_of_length_eq_zero (by rw [hlen];omega)) hn
 obtain⟨b,off,rfl,hcell⟩:=hc (by rintro rfl;simp at h2;omega)
 rw [γ (by omega)]
 refine⟨b,off+lo,by simp [Addr.add],fun i x hx=> ?_⟩
 rw [List.getElem?_drop] at hx
 have hi':lo+i<hi:=by
  have:=(List.getElem?_eq_some_iff.1 hx).1
  rw [Θ] at this;omega
 rw [List.getElem?_take,ζ hi'] at hx
 have:=hcell (lo+i) x hx
 rw [Nat.add_assoc];exact this
theorem J8 (oa:Option Addr) (len cap n:Nat) (h:n≤len) (w:World):(Instr.slice 39 (.slice oa len cap) (some (.int .i64 n)) none none).run Tryz.prog w= .ok (sliced oa n len cap 1) w:=by
 rw [run_slice_l (P:=Tryz.prog) w 39 oa len cap (by kernel_rfl) .i64 n (by omega) (by omega)]
 have:(sizeOf (Tryz.prog.elem 39)).run Tryz.prog w= .ok 1 w:=by kernel_rfl
 rw [this];rfl
theorem run_cut_h (oa:Option Addr) (len cap n:Nat) (h:n≤cap) (w:World):(Instr.slice 39 (.slice oa len cap) none (some (.int .i64 n)) none).run Tryz.prog w= .ok (sliced oa 0 n cap 1) w:=by
 rw [run_slice_h (P:=Tryz.prog) w 39 oa len cap (by kernel_rfl) .i64 n (by omega) (by omega)]
 have:(sizeOf (Tryz.prog.elem 39)).run Tryz.prog w= .ok 1 w:=by kernel_rfl
 rw [this];rfl
theorem run_cut_lh (oa:Option Addr) (len cap lo hi:Nat) (h1:lo≤hi) (h2:hi≤cap) (w:World):(Instr.slice 39 (.slice oa len cap) (some (.int .i64 lo)) (some (.int .i64 hi)) none).run Tryz.prog w= .ok (sliced oa lo hi cap 1) w:=by
 rw [run_slice_lh (P:=Tryz.prog) w 39 oa len cap (by kernel_rfl) .i64 .i64 lo hi (by omega) (by omega) (by omega)]
 have:(sizeOf (Tryz.prog.elem 39)).run Tryz.prog w= .ok 1 w:=by kernel_rfl
 rw [this];rfl
theorem run_cut_lhm (oa:Option Addr) (len cap lo hi mx:Nat) (h1:lo≤hi) (h2:hi≤mx) (h3:mx≤cap) (w:World):(Instr.slice 39 (.slice oa len cap) (some (.int .i64 lo)) (some (.int .i64 hi)) (some (.int .i64 mx))).run Tryz.prog w= .ok (sliced oa lo hi mx 1) w:=by
 rw [run_slice_lhm (P:=Tryz.prog) w 39 oa len cap (by kernel_rfl) .i64 .i64 .i64 lo hi mx (by omega) (by omega) (by omega) (by omega)]
 have:(sizeOf (Tryz.prog.elem 39)).run Tryz.prog w= .ok 1 w:=by kernel_rfl
 rw [this];rfl
theorem Fl (oa:Option Addr) (len cap:Nat) (x y z:Option Value) (w:World):(Instr.sliceAt 39 (.slice oa len cap) x y z).run Tryz.prog w=(Instr.slice 39 (.slice oa len cap) x y z).run Tryz.prog w:=
 run_sliceAt_slice _ _ _ _ _ _ (by kernel_rfl)
section
variable {ops : Array Oper} {rest : List Oper} {o : Oper} {a : Act} {w : World} {Q : Exit → Act → World → Prop}
theorem wpList_cut_l (hgd:o.guard=none) (x y:Operand) (ho:o.op= .slice 39 x (some y) none none) (oa:Option Addr) (cap n:Nat) (l:List UInt8) (hx:a.eval x= .slice oa l.length cap) (hy:a.eval y= .int .i64 (n:Int))
  (hv:A2 w (.slice oa l.length cap) l) (hn:n≤l.length) (h: ∀ oa' cap',A2 w (.slice oa' (l.length - n) cap') (l.drop n)→wpList Tryz.prog ops Q rest (a.put o.dst (.slice oa' (l.length - n) cap')) w):wpList Tryz.prog ops Q (o::rest) a w:=by
 have hv':=hv
 obtain⟨_,c',e,hl',_⟩:=hv'
 simp only [Value.slice.injEq,true_and] at e
 obtain⟨rfl,rfl⟩:=e
 have hb:=Gl (lo:=n) (hi:=l.length) (mx:=cap) hv hn (ξ _) hl'
 rw [List.take_length] at hb
 refine wpList_plain hgd fun K hK=> ?_
 unfold Oper.wp execOp
 simp only [ho,hx,hy,Option.map_some,Option.map_none,Fl,J8 oa l.length cap n hn,Sem.run_bind,Sem.run_pure,Result.andThen_ok]
 exact hK _ _ (h _ _ hb)
theorem wpList_cut_h (hgd:o.guard=none) (x y:Operand) (ho:o.op= .slice 39 x none (some y) none) (oa:Option Addr) (cap n:Nat) (l:List UInt8) (hx:a.eval x= .slice oa l.length cap) (hy:a.eval y= .int .i64 (n:Int))
  (hv:A2 w (.slice oa l.length cap) l) (hn:n≤l.length) (h: ∀ oa' cap',A2 w (.slice oa' n cap') (l.take n)→wpList Tryz.prog ops Q rest (a.put o.dst (.slice oa' n cap')) w):wpList Tryz.prog ops Q (o::rest) a w:=by
 have hv':=hv
 obtain⟨_,c',e,hl',_⟩:=hv'
 simp only [Value.slice.injEq,true_and] at e
 obtain⟨rfl,rfl⟩:=e
 have hb:=Gl (lo:=0) (hi:=n) (mx:=cap) hv (θ _) hn (by omega)
 rw [List.drop_zero] at hb
 refine wpList_plain hgd fun K hK=> ?_
 unfold Oper.wp execOp
 simp only [ho,hx,hy,Option.map_some,Option.map_none,Fl,run_cut_h oa l.length cap n (by omega),Sem.run_bind,Sem.run_pure,Result.andThen_ok]
 exact hK _ _ (h _ _ (by simpa [sliced] using hb))
end
def sgCs (g:Sg):Array Value:= #[.int .i64 g.num,.int .i64 g.first,.int .i64 g.count,.int .i64 g.foot]
@[reducible] def sgV (g : Sg) : Value := .agg #[.int .i64 g.num, .int .i64 g.first, .int .i64 g.count, .int .i64 g.foot]
def Jz (w:World) (v:Value) (l:List Sg):Prop:=
 ∃ oa cap,v= .slice oa l.length cap∧l.length≤cap∧cap≤9223372036854775807∧ ∀ (i:Nat) g,l[i]? =some g→ ∃ b off,oa=some ⟨b,off,none⟩∧w.rangeAt b (off+i*4) (sgCs g).toList
theorem Jz.below {w w':World} {v:Value} {l:List Sg} (h:Jz w v l) (hb:Below w.heap.size w w'):Jz w' v l:=by
 obtain⟨oa,cap,h1,h2,h3,h4⟩:=h
 exact⟨oa,cap,h1,h2,h3,fun i g hg=>by obtain⟨b,off,e,hc⟩:=h4 i g hg;exact⟨b,off,e,Ax hc hb⟩⟩
theorem sgInfo:(Tryz.prog.info? 72).map (·.size)=some 4:=by kernel_rfl
theorem wpList_load_sg {ops:Array Oper} {rest:List Oper} {o:Oper} {a:Act} {w:World} {Q:Exit→Act→World→Prop} (hgd:o.guard=none) (x:Operand) (ho:o.op= .load 72 x)
  (b off:Nat) (g:Sg) (hx:a.eval x= .pointer (some ⟨b,off,none⟩)) (hE:w.rangeAt b off (sgCs g).toList)
  (h:wpList Tryz.prog ops Q rest (a.put o.dst (sgV g)) w):wpList Tryz.prog ops Q (o::rest) a w:=
 wpList_load_mid hgd 72 x ho b off hx (sgCs g).toList _ hE Tryz.underlying72 rfl sgInfo h
def mnCs (m:B3) (sv:Value):Array Value:= #[.int .i64 m.gen,.int .i64 m.next,.int .i64 m.floor,.int .i64 m.snap,.int .i64 m.snapSeq,sv]
@[reducible] def mnV (m : B3) (sv : Value) : Value := .agg #[.int .i64 m.gen, .int .i64 m.next, .int .i64 m.floor, .int .i64 m.snap, .int .i64 m.snapSeq, sv]
def Ah (w:World) (g:Nat) (m:B3) (sv:Value):Prop:=w.heap[g]? =some (.cells (mnCs m sv) 69 (0,0))
theorem Ah.lt {w:World} {g:Nat} {m:B3} {sv:Value} (h:Ah w g m sv):g<w.heap.size:=(δ.1 h).1
theorem Ah.below {w w':World} {g:Nat} {m:B3} {sv:Value} (h:Ah w g m sv) (hb:Below w.heap.size w w'):Ah w' g m sv:=by
 unfold Ah at *;rw [hb.block g (δ.1 h).1];exact h
theorem Ah.keep {w w':World} {g B:Nat} {m:B3} {sv:Value} (h:Ah w g m sv) (hb:Below B w w') (hB:g<B):Ah w' g m sv:=by
 unfold Ah at *;rw [hb.block g hB];exact h
theorem Ah.cell {w:World} {g:Nat} {m:B3} {sv:Value} (h:Ah w g m sv) (j:Nat):w.cell? ⟨g,j,none⟩=(mnCs m sv)[j]? :=by
 unfold Ah at h;simp [World.cell?,h]
theorem Ah.c0 {w:World} {g:Nat} {m:B3} {sv:Value} (h:Ah w g m sv):w.cell? ⟨g,0,none⟩=some (.int .i64 m.gen):=h.cell 0
theorem Ah.c1 {w:World} {g:Nat} {m:B3} {sv:Value} (h:Ah w g m sv):w.cell? ⟨g,1,none⟩=some (.int .i64 m.next):=h.cell 1
theorem Ah.c2 {w:World} {g:Nat} {m:B3} {sv:Value} (h:Ah w g m sv):w.cell? ⟨g,2,none⟩=some (.int .i64 m.floor):=h.cell 2
theorem Ah.c3 {w:World} {g:Nat} {m:B3} {sv:Value} (h:Ah w g m sv):w.cell? ⟨g,3,none⟩=some (.int .i64 m.snap):=h.cell 3
theorem Ah.c4 {w:World} {g:Nat} {m:B3} {sv:Value} (h:Ah w g m sv):w.cell? ⟨g,4,none⟩=some (.int .i64 m.snapSeq):=h.cell 4
theorem Ah.c5 {w:World} {g:Nat} {m:B3} {sv:Value} (h:Ah w g m sv):w.cell? ⟨g,5,none⟩=some sv:=h.cell 5
theorem A4 (w:World) (m:B3) (sv:Value):Ah (w.alloc (.cells (mnCs m sv) 69)) w.heap.size m sv:=σ w _
theorem mnInfo:(Tryz.prog.info? 69).map (·.size)=some 6:=by kernel_rfl
theorem wpList_load_mn {ops:Array Oper} {rest:List Oper} {o:Oper} {a:Act} {w:World} {Q:Exit→Act→World→Prop} (hgd:o.guard=none) (x:Operand) (ho:o.op= .load 69 x)
  (g:Nat) (m:B3) (sv:Value) (hx:a.eval x= .pointer (some ⟨g,0,none⟩)) (hE:Ah w g m sv)
  (h:wpList Tryz.prog ops Q rest (a.put o.dst (mnV m sv)) w):wpList Tryz.prog ops Q (o::rest) a w:=
 wpList_load_row hgd 69 x ho g hx 69 (mnCs m sv) (0,0) _ hE Tryz.underlying69 rfl mnInfo h
theorem chain_b1 {nx first num:Int} {g:Sg} {r:List Sg} (h:(g.first != first)=true):chainOk nx first num (g::r)=false:=by
 have: ¬ g.first=first:=by simpa using h
 simp [chainOk,this]
theorem chain_b2 {nx first num:Int} {g:Sg} {r:List Sg} (h: ¬ num<g.num):chainOk nx first num (g::r)=false:=by simp [chainOk,h]
theorem chain_b3 {nx first num:Int} {g:Sg} {r:List Sg} (h: ¬ g.num<nx):chainOk nx first num (g::r)=false:=by simp [chainOk,h]
theorem chain_end {nx first num:Int} {g:Sg} (h1:g.first=first) (h2:num<g.num) (h3:g.num<nx):chainOk nx first num [g]=(decide (g.count=0)&&decide (g.foot=0)&&decide (first≤1099511627777)):=by
 simp [chainOk,h1,h2,h3]
theorem chain_b4 {nx first num:Int} {g x:Sg} {r:List Sg} (h: ¬ (1≤g.count∧g.count≤512)):chainOk nx first num (g::x::r)=false:=by
 rw [chainOk]
 have:(decide (1≤g.count)&&decide (g.count≤512))=false:=by simp;omega
 simp only [List.isEmpty_cons,Bool.false_eq_true,if_false,this,Bool.false_and,Bool.and_false]
theorem chain_b5 {nx first num:Int} {g x:Sg} {r:List Sg} (h: ¬ (1≤g.foot∧g.foot≤1099511627776)):chainOk nx first num (g::x::r)=false:=by
 rw [chainOk]
 have:(decide (1≤g.foot)&&decide (g.foot≤1099511627776))=false:=by simp;omega
 simp only [List.isEmpty_cons,Bool.false_eq_true,if_false,Bool.and_assoc]
 rw [←Bool.and_assoc (decide (1≤g.foot)),this]
 simp
theorem chain_go {nx first num:Int} {g x:Sg} {r:List Sg} (h1:g.first=first) (h2:num<g.num) (h3:g.num<nx) (h4:1≤g.count∧g.count≤512) (h5:1≤g.foot∧g.foot≤1099511627776):
  chainOk nx first num (g::x::r)=chainOk nx (first+g.count) g.num (x::r):=by
 rw [chainOk]
 simp [h1,h2,h3,h4.1,h4.2,h5.1,h5.2]
theorem drop_cons {α:Type} {l:List α} {k:Nat} {x:α} (h:l[k]? =some x):l.drop k=x::l.drop (k+1):=by
 obtain⟨h1,h2⟩:=List.getElem?_eq_some_iff.1 h
 rw [List.drop_eq_getElem_cons h1,h2]
theorem K7 (x lo hi:Int) (w:World):Calls Tryz.prog 134 #[.int .i64 x,.int .i64 lo,.int .i64 hi] w fun e w'=>e= .returned (.bool (decide (lo≤x)&&decide (x≤hi)))∧w=w':=by
 rcases h1:decide (lo≤x)
 ·go_enter Tryz.func134,Tryz.ntmps134
  go_wp2
  go_ret
  exact⟨rfl,rfl⟩
 rcases h2:decide (x≤hi)
 all_goals
  go_enter Tryz.func134,Tryz.ntmps134
  go_wp2
  go_ret
  exact⟨rfl,rfl⟩
theorem chained_any (m:B3) (sv:Value) (w:World) (hr:Jz w sv m.segs) (hf0:0≤m.floor) (hf1:m.floor≤1099511627776) (hn:m.segs.length≤256):
  Calls Tryz.prog 135 #[mnV m sv] w fun e w'=>e= .returned (.bool (chainOk m.next (m.floor+1) 0 m.segs))∧Below w.heap.size w w':=by
 obtain⟨oa,cap,rfl,hl1,hl2,hc⟩:=hr
 have HC:=Qh hc
 have HM0:=Qh (A4 w m (.slice oa m.segs.length cap))
 have hfl:IntKind.i64.wrap (m.floor+1)=m.floor+1:=by rw [κ];omega
 clear hc
 go_enter Tryz.func135,Tryz.ntmps135
 go_wp2
 go_loopw [3,4,13] (fun fv nv iv wr=> ∃ (k:Nat) (first num:Int),k≤m.segs.length∧iv= .int .i64 k∧fv= .int .i64 first∧nv= .int .i64 num∧1≤first∧first≤1099511627777+512*(k:Int)∧Ah wr w.heap.size m (.slice oa m.segs.length cap)∧
  Hid (chainOk m.next (m.floor+1) 0 m.segs=chainOk m.next first num (m.segs.drop k))∧Below w.heap.size w wr) (fun _ _ iv _=>m.segs.length - (intOf iv).toNat)
 case atStart=>exact⟨0,m.floor+1,0,θ _,rfl,rfl,rfl,by omega,by omega,HM0.out,Qh rfl,below_alloc _ _⟩
 case round=>
  clear HM0 hfl
  obtain⟨k,first,num,hk,rfl,rfl,rfl,hp1,hp2,hmn,HE,hb⟩:=hrel
  have HM:=Qh hmn
  have HB:=Qh hb
  clear hmn hb
  by_cases hlt:k<m.segs.length
  ·obtain⟨g,hg,_,_⟩:=Kc m.segs k hlt
   obtain⟨b,off,rfl,hcell⟩:=HC.out k g hg
   have q1:(k:Int)<(m.segs.length:Int):=by omega
   have HCE:=Qh (Ax hcell HB.out)
   have HD:=Qh (drop_cons hg)
   have c1:=HM.out.c1
   have c5:=HM.out.c5
   have c1':=(HM.out.below (below_alloc wr (.cells (sgCs g) 72))).c1
   have c5':=(HM.out.below (below_alloc wr (.cells (sgCs g) 72))).c5
   simp only [sgCs] at c1' c5'
   have HB1:=Qh (fun o=>Below.next HB.out (below_alloc wr o))
   clear hg hcell
   rcases e1:(g.first != first) with _ | _
   case true=>
    have HR:=Qh (show chainOk m.next (m.floor+1) 0 m.segs=false by rw [HE.out,HD.out,chain_b1 e1])
    go_wp2_with (with_reducible refine wpList_load_sg rfl (.tmp 16) rfl b (off+k*4) g rfl HCE.out ?_)
    go_ret
    exact⟨by rw [HR.out];rfl,HB1.out _⟩
   have e1':g.first=first:=by simpa using e1
   by_cases e2:num<g.num
   case neg=>
    have HR:=Qh (show chainOk m.next (m.floor+1) 0 m.segs=false by rw [HE.out,HD.out,chain_b2 e2])
    have t2:decide (g.num≤num)=true:=by simp;omega
    clear e2 e1'
    go_wp2_with (with_reducible refine wpList_load_sg rfl (.tmp 16) rfl b (off+k*4) g rfl HCE.out ?_)
    go_ret
    exact⟨by rw [HR.out];rfl,HB1.out _⟩
   have t2:decide (g.num≤num)=false:=by simp;omega
   by_cases e3:g.num<m.next
   case neg=>
    have HR:=Qh (show chainOk m.next (m.floor+1) 0 m.segs=false by rw [HE.out,HD.out,chain_b3 e3])
    have t3:decide (m.next≤g.num)=true:=by simp;omega
    clear e2 e1' e3
    go_wp2_with (with_reducible refine wpList_load_sg rfl (.tmp 16) rfl b (off+k*4) g rfl HCE.out ?_)
    go_ret
    exact⟨by rw [HR.out];rfl,HB1.out _⟩
   have t3:decide (m.next≤g.num)=false:=by simp;omega
   have HO:=Qh (show g.first=first∧num<g.num∧g.num<m.next from⟨e1',e2,e3⟩)
   clear e2 e1' e3
   by_cases hlast:k+1=m.segs.length
   ·have HR:=Qh (show chainOk m.next (m.floor+1) 0 m.segs=(decide (g.count=0)&&decide (g.foot=0)&&decide (first≤1099511627777)) by
     rw [HE.out,HD.out,List.drop_of_length_le (by omega),chain_end HO.out.1 HO.out.2.1 HO.out.2.2])
    have t4:((k:Int)==(m.segs.length:Int) - 1)=true:=by simp;omega
    rcases u1:(g.count==0) with _ | _
    ·have HR2:=Qh (show chainOk m.next (m.floor+1) 0 m.segs=false by rw [HR.out];simp at u1 ⊢;simp [u1])
     clear HR
     go_wp2_with (with_reducible refine wpList_load_sg rfl (.tmp 16) rfl b (off+k*4) g rfl HCE.out ?_)
     go_ret
     exact⟨by rw [HR2.out];rfl,HB1.out _⟩
    rcases u2:(g.foot==0) with _ | _
    ·have HR2:=Qh (show chainOk m.next (m.floor+1) 0 m.segs=false by rw [HR.out];simp at u2 ⊢;simp [u2])
     clear HR
     go_wp2_with (with_reducible refine wpList_load_sg rfl (.tmp 16) rfl b (off+k*4) g rfl HCE.out ?_)
     go_ret
     exact⟨by rw [HR2.out];rfl,HB1.out _⟩
    rcases u3:decide (first≤1099511627777)
    all_goals
     have HR2:=Qh (show chainOk m.next (m.floor+1) 0 m.segs=decide (first≤1099511627777) by rw [HR.out];simp at u1 u2;simp [u1,u2])
     rw [u3] at HR2
     clear HR
     go_wp2_with (with_reducible refine wpList_load_sg rfl (.tmp 16) rfl b (off+k*4) g rfl HCE.out ?_)
     go_ret
     exact⟨by rw [HR2.out];rfl,HB1.out _⟩
   ·obtain⟨x,hx,_,_⟩:=Kc m.segs (k+1) (by omega)
    have HD2:=Qh (drop_cons hx)
    have t4:((k:Int)==(m.segs.length:Int) - 1)=false:=by simp;omega
    clear hx
    by_cases e4:1≤g.count∧g.count≤512
    case neg=>
     have HR:=Qh (show chainOk m.next (m.floor+1) 0 m.segs=false by rw [HE.out,HD.out,HD2.out,chain_b4 e4])
     have HT:=Qh (show (decide (1≤g.count)&&decide (g.count≤512))=false by simp;omega)
     clear e4
     go_wp2_with (first | (with_reducible refine wpList_load_sg rfl (.tmp 16) rfl b (off+k*4) g rfl HCE.out ?_) | (go_at_call 134;refine(K7 _ _ _ _).mono ?_;rw [HT.out];rintro e w1 ⟨rfl,rfl⟩))
     go_ret
     exact⟨by rw [HR.out];rfl,HB1.out _⟩
    have HT:=Qh (show (decide (1≤g.count)&&decide (g.count≤512))=true by simp;omega)
    by_cases e5:1≤g.foot∧g.foot≤1099511627776
    case neg=>
     have HR:=Qh (show chainOk m.next (m.floor+1) 0 m.segs=false by rw [HE.out,HD.out,HD2.out,chain_b5 e5])
     have HT2:=Qh (show (decide (1≤g.foot)&&decide (g.foot≤1099511627776))=false by simp;omega)
     clear e4 e5
     go_wp2_with (first | (with_reducible refine wpList_load_sg rfl (.tmp 16) rfl b (off+k*4) g rfl HCE.out ?_) | (go_at_call 134;refine(K7 _ _ _ _).mono ?_;(first | rw [HT.out] | rw [HT2.out]);rintro e w1 ⟨rfl,rfl⟩))
     go_ret
     exact⟨by rw [HR.out];rfl,HB1.out _⟩
    have HT2:=Qh (show (decide (1≤g.foot)&&decide (g.foot≤1099511627776))=true by simp;omega)
    have HR:=Qh (show chainOk m.next (m.floor+1) 0 m.segs=chainOk m.next (first+g.count) g.num (m.segs.drop (k+1)) by rw [HE.out,HD.out,HD2.out,chain_go HO.out.1 HO.out.2.1 HO.out.2.2 e4 e5])
    have hw:IntKind.i64.wrap (first+g.count)=first+g.count:=by rw [κ];omega
    have hq:1≤first+g.count∧first+g.count≤1099511627777+512*((k+1:Nat):Int):=by omega
    have HQ:=Qh hq
    have HMA:=Qh (fun o=>HM.out.below (below_alloc wr o))
    clear e4 e5 hq
    go_wp2_with (first | (with_reducible refine wpList_load_sg rfl (.tmp 16) rfl b (off+k*4) g rfl HCE.out ?_) | (go_at_call 134;refine(K7 _ _ _ _).mono ?_;(first | rw [HT.out] | rw [HT2.out]);rintro e w1 ⟨rfl,rfl⟩))
    go_roundw
    case rel=>exact⟨k+1,first+g.count,g.num,by omega,by go_num,rfl,rfl,HQ.out.1,HQ.out.2,HMA.out _,HR,HB1.out _⟩
    case measure=>simp [intOf];omega
  ·obtain rfl:k=m.segs.length:=by omega
   have HR:=Qh (show chainOk m.next (m.floor+1) 0 m.segs=false by rw [HE.out,List.drop_of_length_le (ξ _)];rfl)
   go_wp2
   go_ret
   exact⟨by rw [HR.out];rfl,HB.out⟩
def W2 (x lo hi:Int):Bool:=decide (lo≤x)&&decide (x≤hi)
theorem Hk (m:B3):Bt m=(W2 m.gen 1 1099511627776&&W2 m.next 2 1000000&&W2 m.snapSeq 0 1099511627776&&W2 m.floor 0 m.snapSeq&&W2 m.snap 0 (m.next - 1)&&((m.snap==0)==(m.snapSeq==0))&&decide (m.segs.length≤256)&&chainOk m.next (m.floor+1) 0 m.segs):=by
 have e:decide (m.snap<m.next)=decide (m.snap≤m.next - 1):=by
  rw [decide_eq_decide];omega
 have e1:decide (m.snap=0)=(m.snap==0):=by by_cases h:m.snap=0<;>simp [h]
 have e2:decide (m.snapSeq=0)=(m.snapSeq==0):=by by_cases h:m.snapSeq=0<;>simp [h]
 unfold Bt W2
 rw [e,e1,e2]
 simp only [Bool.and_assoc]
theorem Ee (x lo hi:Int) (w:World):Calls Tryz.prog 134 #[.int .i64 x,.int .i64 lo,.int .i64 hi] w fun e w'=>e= .returned (.bool (W2 x lo hi))∧w=w':=K7 x lo hi w
theorem Kv (m:B3) (sv:Value) (w:World) (hr:Jz w sv m.segs):
  Calls Tryz.prog 91 #[mnV m sv] w fun e w'=>e= .returned (.bool (Bt m))∧Below w.heap.size w w':=by
 have HR:=Qh (hr.below (below_alloc w (.cells (mnCs m sv) 69)))
 have HB:=Qh (below_alloc w (.cells (mnCs m sv) 69))
 have hm:=A4 w m sv
 have c0:=hm.c0
 have c1:=hm.c1
 have c2:=hm.c2
 have c3:=hm.c3
 have c4:=hm.c4
 have c5:=hm.c5
 simp only [mnCs] at c0 c1 c2 c3 c4 c5
 obtain⟨oa,cap,rfl,_,_,hcc⟩:=hr
 clear hcc hm
 rcases h1:W2 m.gen 1 1099511627776
 ·have HO:=Qh (show Bt m=false by rw [Hk,h1];rfl)
  go_enter Tryz.func91,Tryz.ntmps91
  go_wp2_with (go_at_call 134;refine(Ee _ _ _ _).mono ?_;rw [h1];rintro e w1 ⟨rfl,rfl⟩)
  go_ret
  exact⟨by rw [HO.out];rfl,HB.out⟩
 rcases h2:W2 m.next 2 1000000
 ·have HO:=Qh (show Bt m=false by rw [Hk,h1,h2];rfl)
  go_enter Tryz.func91,Tryz.ntmps91
  go_wp2_with (go_at_call 134;refine(Ee _ _ _ _).mono ?_;(first | rw [h1] | rw [h2]);rintro e w1 ⟨rfl,rfl⟩)
  go_ret
  exact⟨by rw [HO.out];rfl,HB.out⟩
 rcases h3:W2 m.snapSeq 0 1099511627776
 ·have HO:=Qh (show Bt m=false by rw [Hk,h1,h2,h3];rfl)
  go_enter Tryz.func91,Tryz.ntmps91
  go_wp2_with (go_at_call 134;refine(Ee _ _ _ _).mono ?_;(first | rw [h1] | rw [h2] | rw [h3]);rintro e w1 ⟨rfl,rfl⟩)
  go_ret
  exact⟨by rw [HO.out];rfl,HB.out⟩
 rcases h4:W2 m.floor 0 m.snapSeq
 ·have HO:=Qh (show Bt m=false by rw [Hk,h1,h2,h3,h4];rfl)
  go_enter Tryz.func91,Tryz.ntmps91
  go_wp2_with (go_at_call 134;refine(Ee _ _ _ _).mono ?_;(first | rw [h1] | rw [h2] | rw [h3] | rw [h4]);rintro e w1 ⟨rfl,rfl⟩)
  go_ret
  exact⟨by rw [HO.out];rfl,HB.out⟩
 have hB:2≤m.next∧m.next≤1000000∧0≤m.floor∧m.floor≤1099511627776:=by
  simp only [W2,Bool.and_eq_true,decide_eq_true_eq] at h2 h3 h4;omega
 have hw:IntKind.i64.wrap (m.next - 1)=m.next - 1:=by rw [κ];omega
 rcases h5:W2 m.snap 0 (m.next - 1)
 ·have HO:=Qh (show Bt m=false by rw [Hk,h1,h2,h3,h4,h5];rfl)
  go_enter Tryz.func91,Tryz.ntmps91
  go_wp2_with (go_at_call 134;refine(Ee _ _ _ _).mono ?_;(first | rw [h1] | rw [h2] | rw [h3] | rw [h4] | rw [h5]);rintro e w1 ⟨rfl,rfl⟩)
  go_ret
  exact⟨by rw [HO.out];rfl,HB.out⟩
 rcases h6:((m.snap==0)==(m.snapSeq==0))
 ·have HO:=Qh (show Bt m=false by rw [Hk,h1,h2,h3,h4,h5,h6];rfl)
  go_enter Tryz.func91,Tryz.ntmps91
  go_wp2_with (go_at_call 134;refine(Ee _ _ _ _).mono ?_;(first | rw [h1] | rw [h2] | rw [h3] | rw [h4] | rw [h5]);rintro e w1 ⟨rfl,rfl⟩)
  go_ret
  exact⟨by rw [HO.out];rfl,HB.out⟩
 by_cases h7:m.segs.length≤256
 case neg=>
  have HO:=Qh (show Bt m=false by rw [Hk,h1,h2,h3,h4,h5,h6,ρ h7];rfl)
  have t7:decide ((m.segs.length:Int)≤256)=false:=by simp;omega
  clear h7
  go_enter Tryz.func91,Tryz.ntmps91
  go_wp2_with (go_at_call 134;refine(Ee _ _ _ _).mono ?_;(first | rw [h1] | rw [h2] | rw [h3] | rw [h4] | rw [h5]);rintro e w1 ⟨rfl,rfl⟩)
  go_ret
  exact⟨by rw [HO.out];rfl,HB.out⟩
 have HO:=Qh (show Bt m=chainOk m.next (m.floor+1) 0 m.segs by rw [Hk,h1,h2,h3,h4,h5,h6,ν h7];rfl)
 have t7:decide ((m.segs.length:Int)≤256)=true:=by simp;omega
 have HCH:=Qh (chained_any m _ _ HR.out hB.2.2.1 hB.2.2.2 h7)
 clear h7 hB
 go_enter Tryz.func91,Tryz.ntmps91
 go_wp2_with (first | (go_at_call 134;refine(Ee _ _ _ _).mono ?_;(first | rw [h1] | rw [h2] | rw [h3] | rw [h4] | rw [h5]);rintro e w1 ⟨rfl,rfl⟩) | (go_at_call 135;refine HCH.out.mono ?_;rintro e w1 ⟨rfl,hb1⟩))
 go_ret
 exact⟨by rw [HO.out];rfl,Below.next HB.out hb1⟩
attribute [local go_sem] Oper.semAt_some
def maxU (us:List Nat):Nat:=us.foldl Nat.max 0
theorem maxU_snoc (us:List Nat) (x:Nat):maxU (us++[x])=Nat.max (maxU us) x:=by simp [maxU]
theorem maxU_take {us:List Nat} {k x:Nat} (h:us[k]? =some x):maxU (us.take (k+1))=Nat.max (maxU (us.take k)) x:=by
 obtain⟨h1,h2⟩:=List.getElem?_eq_some_iff.1 h
 rw [List.take_succ_eq_append_getElem h1,h2,maxU_snoc]
theorem Ic {us:List Nat}: ∀ {x:Nat},x∈us→x≤maxU us:=by
 suffices h: ∀ (us:List Nat) (a:Nat),a≤us.foldl Nat.max a∧ ∀ x∈us,x≤us.foldl Nat.max a from fun {x} hx=>(h us 0).2 x hx
 intro us
 induction us with
 | nil=>intro a;exact⟨ξ _,fun _ h=>by cases h⟩
 | cons y ys ih=>
  intro a
  obtain⟨h1,h2⟩:=ih (Nat.max a y)
  refine⟨μ (Nat.le_max_left _ _) h1,fun x hx=> ?_⟩
  rcases Γ.1 hx with rfl | hx
  ·exact μ (Nat.le_max_right _ _) h1
  ·exact h2 x hx
theorem max_any (us:List Nat) (v:Value) (w:World) (hv:URow w v us) (hne:0<us.length) (hl:us.length≤1000000):
  Calls Tryz.prog 159 #[v] w fun e w'=>e= .returned (.int .u64 (maxU us:Int))∧w=w':=by
 obtain⟨oa,cap,rfl,hlc,hc⟩:=hv
 have HC:=Qh hc
 obtain⟨x0,hx0,_,_⟩:=Kc us 0 hne
 obtain⟨b,off,rfl,hc0⟩:=hc 0 x0 hx0
 rw [Nat.add_zero] at hc0
 have HX:=Qh (show maxU (us.take 1)=x0 by rw [maxU_take hx0];simp [maxU])
 have t1:decide ((us.length:Int)<1)=false:=by simp;omega
 have q0:(0:Int)<(us.length:Int):=by omega
 clear hc hx0
 go_enter Tryz.func159,Tryz.ntmps159
 go_wp2
 clear hc0
 go_loopw [3,4] (fun mv iv wr=> ∃ k:Nat,1≤k∧k≤us.length∧iv= .int .i64 (k:Int)∧mv= .int .u64 ((maxU (us.take k):Nat):Int)∧wr=w) (fun _ iv _=>us.length - (intOf iv).toNat)
 case atStart=>exact⟨1,ξ _,by omega,rfl,by rw [HX.out],rfl⟩
 case round=>
  clear q0 t1
  obtain⟨k,hk1,hk,rfl,rfl,rfl⟩:=hrel
  by_cases hlt:k<us.length
  ·obtain⟨x,hx,_,_⟩:=Kc us k hlt
   have q1:(k:Int)<(us.length:Int):=by omega
   obtain⟨b',off',e',hcx⟩:=HC.out k x hx
   simp only [Option.some.injEq,Addr.mk.injEq,and_true] at e'
   obtain⟨rfl,rfl⟩:=e'
   have HM:=Qh (maxU_take hx)
   obtain⟨m,hm⟩: ∃ m,m=maxU (us.take k):=⟨_,rfl⟩
   rw [←hm] at HM ⊢
   clear hx hm
   go_wp2
   go_roundw
   case rel=>exact⟨k+1,by omega,by omega,by go_num,by rw [HM.out];congr 1;show _=((max m x:Nat):Int);omega,by first | rfl | trivial⟩
   case measure=>simp [intOf];omega
  ·obtain rfl:k=us.length:=by omega
   have HT:=Qh (show us.take us.length=us from List.take_length)
   go_wp2
   go_ret
   first | exact⟨rfl,rfl⟩ | exact⟨by rw [HT.out];rfl,rfl⟩ | exact⟨by simp,rfl⟩
theorem run_cutU_l (oa:Option Addr) (len cap n:Nat) (h:n≤len) (w:World):(Instr.slice 262 (.slice oa len cap) (some (.int .i64 n)) none none).run Tryz.prog w= .ok (sliced oa n len cap 1) w:=by
 rw [run_slice_l (P:=Tryz.prog) w 262 oa len cap (by kernel_rfl) .i64 n (by omega) (by omega)]
 have:(sizeOf (Tryz.prog.elem 262)).run Tryz.prog w= .ok 1 w:=by kernel_rfl
 rw [this];rfl
theorem run_cutU_lhm (oa:Option Addr) (len cap lo hi mx:Nat) (h1:lo≤hi) (h2:hi≤mx) (h3:mx≤cap) (w:World):(Instr.slice 262 (.slice oa len cap) (some (.int .i64 lo)) (some (.int .i64 hi)) (some (.int .i64 mx))).run Tryz.prog w= .ok (sliced oa lo hi mx 1) w:=by
 rw [run_slice_lhm (P:=Tryz.prog) w 262 oa len cap (by kernel_rfl) .i64 .i64 .i64 lo hi mx (by omega) (by omega) (by omega) (by omega)]
 have:(sizeOf (Tryz.prog.elem 262)).run Tryz.prog w= .ok 1 w:=by kernel_rfl
 rw [this];rfl
theorem sliceAt_u (oa:Option Addr) (len cap:Nat) (x y z:Option Value) (w:World):(Instr.sliceAt 262 (.slice oa len cap) x y z).run Tryz.prog w=(Instr.slice 262 (.slice oa len cap) x y z).run Tryz.prog w:=
 run_sliceAt_slice _ _ _ _ _ _ (by kernel_rfl)
theorem run_ch_tail (b off len cap i:Nat) (h:i<len) (h2:len≤cap) (w:World):(Instr.sliceAt 262 (.slice (some ⟨b,off,none⟩) len cap) (some (.int .i64 (i:Int))) none none).run Tryz.prog w= .ok (.slice (some ⟨b,off+i,none⟩) (len - i) (cap - i)) w:=by
 rw [sliceAt_u,run_cutU_l _ _ _ _ (by omega)]
 unfold sliced
 rw [γ (by omega)]
 simp [Addr.add]
theorem run_ch_cut (b off len cap i:Nat) (h:i+4≤cap) (w:World):(Instr.sliceAt 262 (.slice (some ⟨b,off,none⟩) len cap) (some (.int .i64 (i:Int))) (some (.int .i64 ((i:Int)+4))) (some (.int .i64 ((i:Int)+4)))).run Tryz.prog w= .ok (.slice (some ⟨b,off+i,none⟩) 4 4) w:=by
 have:=run_cutU_lhm (some ⟨b,off,none⟩) len cap i (i+4) (i+4) (by omega) (by omega) h w
 have e4:((i+4:Nat):Int)=(i:Int)+4:=by omega
 rw [e4] at this
 rw [sliceAt_u,this]
 unfold sliced
 rw [γ (by omega)]
 simp [Addr.add]
def fours:List Nat→List (List Nat)
 | a::b::c::d::r=>[a,b,c,d]::fours r
 | _=>[]
theorem fours_len: ∀ us:List Nat,(fours us).length≤us.length
 | []=>by simp [fours]
 | [_]=>by simp [fours]
 | [_,_]=>by simp [fours]
 | [_,_,_]=>by simp [fours]
 | a::b::c::d::r=>by
  have:=fours_len r
  simp only [fours,φ]
  omega
abbrev ChX:=List Nat×Value
def chEnc (x:ChX):Array Value:= #[x.2]
def ChR (us:List Nat) (b:Nat) (pre:List ChX) (x:ChX) (_ W:World):Prop:=(pre++[x]).map (·.1) <+: fours us∧(∀ u∈x.1,u≤maxU us)∧x.1.length=4∧ ∃ off,x.2= .slice (some ⟨b,off,none⟩) 4 4∧ ∀ (i:Nat) u,x.1[i]? =some u→W.cell? ⟨b,off+i,none⟩=some (.int .u64 (u:Int))
def Ke (g1 g2 b off cap:Nat) (us:List Nat) (W:World):Prop:=W.cell? ⟨g1,0,none⟩=some (.slice (some ⟨b,off,none⟩) us.length cap)∧W.cell? ⟨g2,0,none⟩=some (.int .i64 4)∧ ∀ (i:Nat) u,us[i]? =some u→W.cell? ⟨b,off+i,none⟩=some (.int .u64 (u:Int))
theorem Ke.below {g1 g2 b off cap:Nat} {us:List Nat} {W W':World} (h:Ke g1 g2 b off cap us W) (hb:Below W.heap.size W W'):Ke g1 g2 b off cap us W':=⟨cell_later hb h.1,cell_later hb h.2.1,fun i u hu=>cell_later hb (h.2.2 i u hu)⟩
theorem Dj.ofB {B:Nat} {W W':World} (h:Below W.heap.size W W'):Dj B W W':=⟨h.os,h.tape,h.output,h.size,fun k _ hk _=>(h.block k (δ.1 hk).1).trans hk⟩
theorem fours_step {us:List Nat} {i a b c d:Nat} (h0:us[i]? =some a) (h1:us[i+1]? =some b) (h2:us[i+2]? =some c) (h3:us[i+3]? =some d):fours (us.drop i)=[a,b,c,d]::fours (us.drop (i+4)):=by
 rw [Ez h0,Ez h1,Ez h2,Ez h3];rfl
theorem chunk1_seq (us:List Nat) (m g1 g2 b off cap:Nat) (hm:us.length=4*m) (hl:us.length≤1000000) (hcap:us.length≤cap) (w:World) (Kp:World→World→Prop) (hE:Ke g1 g2 b off cap us w)
  (hK: ∀ W W',w.heap.size≤W.heap.size→Ke g1 g2 b off cap us W→Kp W W'→Ke g1 g2 b off cap us W'∧W.heap.size≤W'.heap.size):
  SeqR Tryz.prog 184 #[.pointer (some ⟨g1,0,none⟩),.pointer (some ⟨g2,0,none⟩)] chEnc (ChR us b) Kp (fun xs=>xs.map (·.1)=fours us) (fun _=>True) w:=fun l J Jx W hW hJ hJx hY h0=>by
 have HE:=Qh (hE.below hW)
 have HK:=Qh hK
 have HY:=Qh hY
 have HJ:=Qh hJ
 have H0:=Qh h0
 have HW:=Qh hW.size
 have HM:=Qh hm
 clear hE hK hY hJ hJx h0 hW
 refine callsIn_of_wp Tryz.func184 rfl trivial ?_ rfl
 simp only [Tryz.ntmps184,List.size_toArray,φ,Φ,Nat.reduceAdd,Nat.reduceSub,Array.replicate_succ,Array.replicate_zero,List.push_toArray,List.append_toArray,List.nil_append,List.cons_append]
 gi_wp2
 gi_loopw [4] (fun i wr=> ∃ (p:Nat) (pre:List ChX),p≤us.length∧i= .int .i64 (p:Int)∧Hid (p % 4=0)∧Hid (J pre wr)∧Hid (Ke g1 g2 b off cap us wr)∧Hid (W.heap.size≤wr.heap.size)∧Hid (fours us=pre.map (·.1)++fours (us.drop p))) (fun i _=>us.length - (intOf i).toNat)
 case atStart=>exact⟨0,[],θ _,rfl,Qh rfl,H0,HE,Qh (ξ _),Qh rfl⟩
 case round=>
  clear HE H0 hm
  obtain⟨i,pre,hk,rfl,HP4,HJr,HEr,HSr,HF⟩:=hrel
  have c1:=HEr.out.1
  have c2:=HEr.out.2.1
  by_cases hlt:i<us.length
  ·have q1:(i:Int)<(us.length:Int):=by omega
   have hi4:i+4≤us.length:=by have:=HM.out;have:=HP4.out;omega
   have htail:=fun W=>run_ch_tail b off us.length cap i hlt hcap W
   obtain⟨n,hn⟩: ∃ n,n=us.length - i:=⟨_,rfl⟩
   rw [←hn] at htail
   have hmin:min (4:Int) (n:Int)=4:=by omega
   have hcut:=fun W=>run_ch_cut b off us.length cap i (by omega) W
   have hw4:IntKind.i64.wrap ((i:Int)+4)=(i:Int)+4:=by rw [κ];omega
   obtain⟨a0,ha0,_,_⟩:=Kc us i (by omega)
   obtain⟨a1,ha1,_,_⟩:=Kc us (i+1) (by omega)
   obtain⟨a2,ha2,_,_⟩:=Kc us (i+2) (by omega)
   obtain⟨a3,ha3,_,_⟩:=Kc us (i+3) (by omega)
   have HFS:=Qh (fours_step ha0 ha1 ha2 ha3)
   have hmx: ∀ u∈ [a0,a1,a2,a3],u≤maxU us:=fun u hu=>by
    simp only [Γ,List.not_mem_nil,or_false] at hu
    rcases hu with rfl | rfl | rfl | rfl
    ·exact Ic (List.mem_of_getElem? ha0)
    ·exact Ic (List.mem_of_getElem? ha1)
    ·exact Ic (List.mem_of_getElem? ha2)
    ·exact Ic (List.mem_of_getElem? ha3)
   have hpf:(pre++[(([a0,a1,a2,a3]:List Nat),Value.slice (some ⟨b,off+i,none⟩) 4 4)]).map (·.1) <+: fours us:=by
    rw [HF.out,HFS.out,List.map_append]
    exact(List.prefix_append_right_inj _).2 ⟨_,rfl⟩
   have HXR:=Qh (show ∀ W,Ke g1 g2 b off cap us W→ChR us b pre ([a0,a1,a2,a3],.slice (some ⟨b,off+i,none⟩) 4 4) wr W from fun W h=>⟨hpf,hmx,rfl,off+i,rfl,fun j u hj=>by
    rw [Nat.add_assoc]
    refine h.2.2 (i+j) u ?_
    match j,hj with
    | 0,hj=>simp at hj;subst hj;exact ha0
    | 1,hj=>simp at hj;subst hj;exact ha1
    | 2,hj=>simp at hj;subst hj;exact ha2
    | 3,hj=>simp at hj;subst hj;exact ha3⟩)
   clear ha0 ha1 ha2 ha3 hn hmx hpf
   gi_wp2
   refine(wpIn_wide (n:=2)).2 ?_
   go_quiet (fail)
   have HB2:=Qh (below_drewN' wr nq)
   have HE2:=Qh (HEr.out.below HB2.out)
   have HK2:=Qh (Dj.ofB (B:=W.heap.size) HB2.out)
   have HS2:=Qh (μ HSr.out HB2.out.size)
   have HW2:=Qh (μ HW.out HS2.out)
   generalize wr.drewN nq=w2 at*
   have c1:=HE2.out.1
   have c2:=HE2.out.2.1
   clear htail HB2 HEr hmin
   obtain⟨fn,tmps,assign,body,hy,hR⟩:=HY.out pre ([a0,a1,a2,a3],.slice (some ⟨b,off+i,none⟩) 4 4) wr w2 HJr.out HSr.out HK2.out (HXR.out _ HE2.out)
   simp only [chEnc] at hy
   gi_wp2
   refine hR.mono ?_
   rintro e W3 (⟨rfl,hJ3,hk3⟩ | ⟨rfl,hJx3⟩)
   ·obtain⟨hE3,hs3⟩:=HK.out _ _ HW2.out HE2.out hk3
    have HE3:=Qh hE3
    have HS3:=Qh (μ HS2.out hs3)
    have HJ3:=Qh hJ3
    have c2:=hE3.2.1
    clear hE3 hs3 hJ3 hk3 hy hR HE2
    gi_wp2
    go_roundw
    case rel=>exact⟨i+4,pre++[([a0,a1,a2,a3],.slice (some ⟨b,off+i,none⟩) 4 4)],by omega,by go_num,Qh (by have:=HP4.out;omega),HJ3,HE3,HS3,Qh (by rw [HF.out,HFS.out];simp)⟩
    case measure=>simp [intOf];omega
   ·gi_wp2
    refine π (results_none rfl _ _ _) rfl ?_
    exact⟨⟨_,rfl⟩,.inr ⟨_,trivial,hJx3⟩⟩
  ·obtain rfl:i=us.length:=by omega
   have HFE:=Qh (show pre.map (·.1)=fours us by rw [HF.out,List.drop_length];simp [fours])
   gi_wp2
   go_end0
   exact⟨⟨_,rfl⟩,.inl ⟨_,HFE.out,HJr.out⟩⟩
theorem chunk_any (b off len cap:Nat) (w:World):Calls Tryz.prog 160 #[.slice (some ⟨b,off,none⟩) len cap,.int .i64 4] w fun e w'=>e= .returned (.func (.func 184) #[] #[.pointer (some ⟨w.heap.size,0,none⟩),.pointer (some ⟨w.heap.size+1,0,none⟩)])∧
  w'=(w.alloc (.cells #[.slice (some ⟨b,off,none⟩) len cap] 262)).alloc (.cells #[.int .i64 4] 3):=by
 have hmk: ∀ (fn:Fn) (first cap:Array Value) (W:World),(Instr.makeFunc fn first cap).run Tryz.prog W= .ok (.func fn first cap) W:=fun _ _ _ _=>rfl
 have c2:((w.alloc (.cells #[.slice (some ⟨b,off,none⟩) len cap] 262)).alloc (.cells #[.int .i64 4] 3)).cell? ⟨w.heap.size+1,0,none⟩=some (.int .i64 4):=by
  have:=World.cell?_alloc_new (w.alloc (.cells #[.slice (some ⟨b,off,none⟩) len cap] 262)) #[.int .i64 4] 3 0
  rw [Ω] at this
  rw [this];rfl
 go_enter Tryz.func160,Tryz.ntmps160
 go_wp2
 go_ret
 exact⟨rfl,rfl⟩
def uCells (us:List Nat):List Value:=us.map fun(u:Nat)=>Value.int .u64 (u:Int)
def Hy (w:World) (B:Nat) (v:Value) (us:List Nat):Prop:=w.ownsRow B 137 1 v us.length (uCells us)
theorem Hy.later {w w':World} {B:Nat} {v:Value} {us:List Nat} (h:Hy w B v us) (hb:Below w.heap.size w w'):Hy w' B v us:=own_later h hb
theorem Hy.row {w:World} {B:Nat} {v:Value} {us:List Nat} (h:Hy w B v us):URow w v us:=by
 by_cases hn:us=[]
 ·subst hn
  obtain⟨oa,cap,rfl,h1,_⟩:=Ac h
  exact⟨oa,cap,rfl,h1,fun i u hu=>by simp at hu⟩
 ·obtain⟨g,cap,rfl,_,_,h1,_,h3⟩:=B8 h (Ψ.2 hn)
  exact⟨_,cap,rfl,h1,fun i u hu=>⟨g,0,rfl,by rw [Nat.zero_add];exact h3 i _ (by rw [uCells,List.getElem?_map,hu];rfl)⟩⟩
theorem infoU64:(Tryz.prog.info? 137).map (fun i=>(i.zero,i.size,i.bytes))=some (some (.int .u64 0),1,8):=by kernel_rfl
theorem own_lit4 (w:World) (a b c d:Nat):Hy (w.alloc (.cells #[.int .u64 (a:Int),.int .u64 (b:Int),.int .u64 (c:Int),.int .u64 (d:Int)] 137)) w.heap.size (.slice (some ⟨w.heap.size,0,none⟩) 4 4) [a,b,c,d]:=
 World.ownsRow_lit (base:=w.heap.size) (e:=137) (size:=1) w #[.int .u64 (a:Int),.int .u64 (b:Int),.int .u64 (c:Int),.int .u64 (d:Int)] 4 (ξ _) (by decide) rfl
theorem wpList_app4 {ops:Array Oper} {rest:List Oper} {o:Oper} {a:Act} {Q:Exit→Act→World→Prop} {w:World} (hgd:o.guard=none) (s y:Operand) (ho:o.op= .call {callee:= .builtin .append,args:= #[s,y],argTypes:= #[262,262]}) {B:Nat} {v:Value} {us:List Nat} {p q r t N:Nat} {pv qv rv tv:Int}
  (hs:a.eval s=v) (hN:N=w.heap.size) (hy:a.eval y= .slice (some ⟨N,0,none⟩) 4 4) (hown:Hy w B v us) (hB:B≤w.heap.size) (h1:pv=(p:Int)) (h2:qv=(q:Int)) (h3:rv=(r:Int)) (h4:tv=(t:Int)) (hl:us.length≤100000)
  (h: ∀ v' w',Hy w' B v' (us++[p,q,r,t])→Below B w w'→w.heap.size≤w'.heap.size→wpList Tryz.prog ops Q rest (a.put o.dst v') w'):wpList Tryz.prog ops Q (o::rest) a (w.alloc (.cells #[.int .u64 pv,.int .u64 qv,.int .u64 rv,.int .u64 tv] 137)):=by
 subst h1 h2 h3 h4 hN
 obtain⟨i0,hi,hz0,hz1,hz2⟩:=info_parts infoU64
 have hb:=below_alloc w (.cells #[.int .u64 (p:Int),.int .u64 (q:Int),.int .u64 (r:Int),.int .u64 (t:Int)] 137)
 refine wpList_append_own _ hgd s y 262 ho B 137 i0 (.int .u64 0) 1 8 Tryz.underlying262 hi hz0 hz1 hz2 rfl (by decide) v us.length (uCells us) hs (own_later hown hb) ⟨w.heap.size,0,none⟩ 4 4 [.int .u64 (p:Int),.int .u64 (q:Int),.int .u64 (r:Int),.int .u64 (t:Int)] hy rfl (fun j u hj=> ?_) (fun u hu=> ?_) (by unfold maxLen;omega) (by omega) (μ hB hb.size) ?_
 ·rw [Bc,Nat.zero_add,World.cell?_alloc_new]
  simpa using hj
 ·simp at hu;rcases hu with rfl | rfl | rfl | rfl<;>rfl
 ·intro v' w' hown' hg _
  refine h v' w' ?_ ((hb.mono hB).trans (Bf (own_later hown hb) (μ hB hb.size) hg)) (μ hb.size hg.size)
  unfold Hy
  rw [η,show uCells (us++[p,q,r,t])=uCells us++[.int .u64 (p:Int),.int .u64 (q:Int),.int .u64 (r:Int),.int .u64 (t:Int)] by simp [uCells]]
  exact hown'
def Gq (m:B3) (k:Nat):List Nat:=[m.next.toNat,m.floor.toNat,m.snap.toNat,m.snapSeq.toNat]++(m.segs.take k).flatMap sgNums
theorem manPart_succ {m:B3} {k:Nat} {g:Sg} (h:m.segs[k]? =some g):Gq m (k+1)=Gq m k++[g.num.toNat,g.first.toNat,g.count.toNat,g.foot.toNat]:=by
 obtain⟨h1,h2⟩:=List.getElem?_eq_some_iff.1 h
 unfold Gq
 rw [List.take_succ_eq_append_getElem h1,h2,List.append_assoc]
 simp [sgNums]
theorem manPart_length (m:B3) (k:Nat) (hk:k≤m.segs.length):(Gq m k).length=4+4*k:=by
 unfold Gq
 rw [η,Jr,Θ,Nat.min_eq_left hk]
 rfl
theorem toNatI {x:Int} (h:0≤x):x=((x.toNat:Nat):Int):=by omega
theorem encMan_bad {m:B3} (h:Bt m=false):Bs m=([],80):=by unfold Bs;rw [h];rfl
theorem encMan_good {m:B3} (h:Bt m=true):Bs m=Bg 4 m.gen (encAll (manNums m)):=by unfold Bs;rw [h];rfl
theorem manEncode_any (m:B3) (sv:Value) (w:World) (hr:Jz w sv m.segs) (hn:NibTab w):Calls Tryz.prog 125 #[mnV m sv] w (Bd w (Bs m)):=by
 have HR:=Qh hr
 have HV:=Qh (Kv m sv _ (hr.below (below_alloc w (.cells (mnCs m sv) 69))))
 have HM0:=Qh (A4 w m sv)
 have HB0:=Qh (below_alloc w (.cells (mnCs m sv) 69))
 obtain⟨oa,cap,rfl,_,_,hc⟩:=hr
 have HC:=Qh hc
 clear hc
 rcases hok:Bt m with _ | _
 ·have HE:=Qh (encMan_bad hok)
  rw [hok] at HV
  clear hok
  go_enter Tryz.func125,Tryz.ntmps125
  go_wp2_with (first | (with_reducible refine wpList_load_mn rfl (.tmp 1) rfl w.heap.size m (.slice oa m.segs.length cap) rfl HM0.out ?_) | (go_at_call 91;refine HV.out.mono ?_;rintro e w1 ⟨rfl,hb1⟩))
  go_ret2
  unfold Bd;rw [HE.out]
  exact⟨_,rfl,OwnB.nil _ _,Below.next HB0.out hb1⟩
 have HE:=Qh (encMan_good hok)
 have HFine:=Qh (B7 hok)
 rw [hok] at HV
 have hf:=B7 hok
 have hnx:=hf.next
 have hfl:=hf.floor
 have hsn:=hf.snap
 have hss:=hf.snapSeq
 have y1:m.next % 18446744073709551616=m.next:=by omega
 have y2:m.floor % 18446744073709551616=m.floor:=by omega
 have y3:m.snap % 18446744073709551616=m.snap:=by omega
 have y4:m.snapSeq % 18446744073709551616=m.snapSeq:=by omega
 have HO4:=Qh (fun W=>own_lit4 W m.next.toNat m.floor.toNat m.snap.toNat m.snapSeq.toNat)
 rw [←toNatI (show 0≤m.next by omega),←toNatI (show 0≤m.floor by omega),←toNatI (show 0≤m.snap by omega),←toNatI (show 0≤m.snapSeq by omega)] at HO4
 have HNB:=Qh hn
 clear hok hf hnx hfl hsn hss hn
 go_enter Tryz.func125,Tryz.ntmps125
 go_wp2_with (first | (with_reducible refine wpList_load_mn rfl (.tmp 1) rfl w.heap.size m (.slice oa m.segs.length cap) rfl HM0.out ?_))
 refine HV.out.mono ?_
 rintro e w1 ⟨rfl,hb1⟩
 have HM1:=Qh (HM0.out.below hb1)
 have HB1:=Qh (Below.next HB0.out hb1)
 have hsz1:w.heap.size+1≤w1.heap.size:=HM1.out.lt
 have c1:=HM1.out.c1
 have c2:=HM1.out.c2
 have c3:=HM1.out.c3
 have c4:=HM1.out.c4
 have c5:=HM1.out.c5
 clear hb1 HV HM0 HB0
 have c5':=(HM1.out.below (below_alloc w1 (.cells #[.int .u64 m.next,.int .u64 m.floor,.int .u64 m.snap,.int .u64 m.snapSeq] 137))).c5
 have HML:=Qh (HM1.out.below (below_alloc w1 (.cells #[.int .u64 m.next,.int .u64 m.floor,.int .u64 m.snap,.int .u64 m.snapSeq] 137)))
 have HBL:=Qh (Below.next HB1.out (below_alloc w1 (.cells #[.int .u64 m.next,.int .u64 m.floor,.int .u64 m.snap,.int .u64 m.snapSeq] 137)))
 have HO5:=Qh (show Hy (w1.alloc (.cells #[.int .u64 m.next,.int .u64 m.floor,.int .u64 m.snap,.int .u64 m.snapSeq] 137)) (w.heap.size+1) (.slice (some ⟨w1.heap.size,0,none⟩) 4 4) (Gq m 0) by
  have h:=HO4.out w1
  refine⟨h.1,?_⟩
  rcases h.2 with hz | ⟨g,cap,cur,e1,e2,rest⟩
  ·exact .inl hz
  ·exact .inr ⟨g,cap,cur,e1,by omega,rest⟩)
 go_wp2
 go_loopw [4,26] (fun uv iv wr=> ∃ k:Nat,k≤m.segs.length∧iv= .int .i64 k∧Hy wr (w.heap.size+1) uv (Gq m k)∧Ah wr w.heap.size m (.slice oa m.segs.length cap)∧Below w.heap.size w wr) (fun _ iv _=>m.segs.length - (intOf iv).toNat)
 case atStart=>exact⟨0,θ _,rfl,HO5.out,HML.out,HBL.out⟩
 case round=>
  clear HO5 HML HBL HO4 c1 c2 c3 c4 c5 c5' y1 y2 y3 y4
  obtain⟨k,hk,rfl,hown,hmn,hb⟩:=hrel
  have HO:=Qh hown
  have HM:=Qh hmn
  have HB:=Qh hb
  have hsz:w.heap.size+1≤wr.heap.size:=hmn.lt
  clear hown hmn hb
  by_cases hlt:k<m.segs.length
  ·obtain⟨g,hg,_,hgm⟩:=Kc m.segs k hlt
   obtain⟨b,off,rfl,hcell⟩:=HC.out k g hg
   have q1:(k:Int)<(m.segs.length:Int):=by omega
   have HCE:=Qh (Ax hcell HB.out)
   have HX:=Qh (manPart_succ hg)
   have hgf:=HFine.out.seg g hgm
   have hnx:=HFine.out.next
   have y1:g.num % 18446744073709551616=g.num:=by omega
   have y2:g.first % 18446744073709551616=g.first:=by omega
   have y3:g.count % 18446744073709551616=g.count:=by omega
   have y4:g.foot % 18446744073709551616=g.foot:=by omega
   have HI:=Qh (show g.num=((g.num.toNat:Nat):Int)∧g.first=((g.first.toNat:Nat):Int)∧g.count=((g.count.toNat:Nat):Int)∧g.foot=((g.foot.toNat:Nat):Int) from⟨toNatI (by omega),toNatI (by omega),toNatI (by omega),toNatI (by omega)⟩)
   have HA:=Qh (below_alloc wr (.cells (sgCs g) 72))
   have HOA:=Qh (HO.out.later HA.out)
   have HMA:=Qh (HM.out.below HA.out)
   have hln:(Gq m k).length≤100000:=by rw [manPart_length m k hk];have:=HFine.out.len;omega
   have c5:=HM.out.c5
   obtain⟨us,hus⟩: ∃ us,us=Gq m k:=⟨_,rfl⟩
   rw [←hus] at HX HOA hln
   clear hg hcell hgm hgf hus HO hnx
   have HSZ:=Qh (show wr.heap.size+1=(wr.alloc (.cells (sgCs g) 72)).heap.size by simp)
   have hszA:w.heap.size+1≤(wr.alloc (.cells (sgCs g) 72)).heap.size:=μ hsz HA.out.size
   go_wp2_with (first | (with_reducible refine wpList_load_sg rfl (.tmp 28) rfl b (off+k*4) g rfl HCE.out ?_) | (at_builtin;refine wpList_app4 rfl (.tmp 30) (.tmp 43) rfl rfl HSZ.out rfl HOA.out hszA HI.out.1 HI.out.2.1 HI.out.2.2.1 HI.out.2.2.2 hln ?_))
   intro v' w' h1 h2 h3
   have HF:=Qh h1
   have HG:=Qh (HB.out.trans ((HA.out.mono (μ (Nat.le_succ _) hsz)).trans (h2.mono (Nat.le_succ _))))
   have HMF:=Qh (HMA.out.keep h2 (Nat.lt_succ_self _))
   clear h1 h2
   go_wp2
   go_roundw
   case rel=>exact⟨k+1,by omega,by go_num,by rw [HX.out];exact HF.out,HMF.out,HG.out⟩
   case measure=>simp [intOf];omega
  ·obtain rfl:k=m.segs.length:=by omega
   have HA:=Qh (show Gq m m.segs.length=manNums m by unfold Gq manNums;rw [List.take_length])
   rw [HA.out] at HO
   have HU:=Qh HO.out.row
   obtain⟨ub,ucap,rfl,_,_⟩:=Ac HO.out
   have hnl:(manNums m).length≤1000000000000:=by rw [Iy];have:=HFine.out.len;omega
   have HN:=Qh (show ∀ W:World,Below wr.heap.size wr W→Calls Tryz.prog 157 #[.slice ub (manNums m).length ucap] W fun e w'=> ∃ v',e= .returned v'∧OwnB w' W.heap.size v' (encAll (manNums m))∧Below W.heap.size W w' from fun W hb=>
    encodeAll_any (manNums m) _ W (HU.out.below hb) (fun u hu=>Nat.lt_trans (manNums_lt HFine.out u hu) (by decide)) hnl)
   have HD:=Qh (show Ah wr.drew w.heap.size m (.slice oa m.segs.length cap)∧Below wr.heap.size wr wr.drew from⟨HM.out.below (below_drewN' wr 1),below_drewN' wr 1⟩)
   go_wp2_with fail
   refine ω (S:=fun w'=>Ah w' w.heap.size m (.slice oa m.segs.length cap)∧Below wr.heap.size wr w') (by kernel_rfl) HD.out (fun hHeld=> ?_)
   have FX1:=Qh (fun(wF:World) (hSw:(fun w'=>Ah w' w.heap.size m (.slice oa m.segs.length cap)∧Below wr.heap.size wr w') wF)=>(hSw.1.c0))
   refine tf FX1 0 rfl ?_
   refine tf FX1 1 rfl ?_
   refine tf FX1 2 rfl ?_
   clear FX1
   refine Rd 3 rfl fun K hK=> ?_
   go_simp
   go_at_call 157
   refine(HN.out _ hHeld.2).mono ?_
   rintro e w2 ⟨v2,rfl,ho2,hb2⟩
   have HO2:=Qh ho2.brow
   have hsh:=ho2.brow
   obtain⟨eb,hebd⟩: ∃ eb,eb=encAll (manNums m):=⟨_,rfl⟩
   rw [←hebd] at HO2 hsh
   have HEB:=Qh hebd
   obtain⟨o2,cap2,rfl,_,hsh2⟩:=hsh
   have HB2:=Qh (Below.next hHeld.2 hb2)
   have HM2:=Qh (hHeld.1.below hb2)
   clear ho2 hb2 hsh2 hebd
   go_wp2_with fail
   refine hK.out _ _ ⟨HM2.out,HB2.out⟩ (fun hHeld=> ?_)
   clear hK K
   have FX2:=Qh (fun(wF:World) (hSw:(fun w'=>Ah w' w.heap.size m (.slice oa m.segs.length cap)∧Below wr.heap.size wr w') wF)=>(hSw.1.c0))
   refine tf FX2 4 rfl ?_
   clear FX2
   have HFr:=Qh (frame_any 4 m.gen eb _ w2 HO2.out (HNB.out.below (Below.next HB.out HB2.out)))
   refine Rd 5 rfl fun K hK=> ?_
   go_simp
   go_at_call 68
   refine HFr.out.mono ?_
   rintro e w3 ⟨v3,rfl,h3,hb3⟩
   obtain⟨r,hr⟩: ∃ r,r=Bg 4 m.gen eb:=⟨_,rfl⟩
   rw [←hr] at h3
   rw [←hr]
   have HRR:=Qh hr
   have HO3:=Qh (h3.mono (show w.heap.size≤w2.heap.size from μ HB.out.size HB2.out.size))
   have HB3:=Qh (Below.next (Below.next HB.out HB2.out) hb3)
   go_wp2_with fail
   refine hK.out _ _ ⟨HM2.out.below hb3,Below.next HB2.out hb3⟩ (fun hHeld=> ?_)
   clear hK K h3 hb3 hr
   have FX3:=Qh (fun(wF:World) (hSw:(fun w'=>Ah w' w.heap.size m (.slice oa m.segs.length cap)∧Below wr.heap.size wr w') wF)=>(hSw.1.c0))
   refine tf FX3 6 rfl ?_
   refine tf FX3 7 rfl ?_
   clear FX3
   have FX4:=Qh (fun(wF:World) (hSw:(fun w'=>Ah w' w.heap.size m (.slice oa m.segs.length cap)∧Below wr.heap.size wr w') wF)=>(hSw.1.c0))
   refine tf FX4 8 rfl ?_
   refine tf FX4 9 rfl ?_
   clear FX4
   refine Λ (by kernel_rfl) ?_ _
   go_wp2
   go_ret2
   unfold Bd;rw [HE.out]
   have e:Bg 4 m.gen (encAll (manNums m))=r:=by rw [HRR.out,HEB.out]
   rw [e]
   exact⟨_,by rw [show r=Bg 4 m.gen eb from HRR.out];rfl,HO3.out,HB3.out⟩
theorem wpList_appU1 {ops:Array Oper} {rest:List Oper} {o:Oper} {a:Act} {Q:Exit→Act→World→Prop} {w:World} (hgd:o.guard=none) (s y:Operand) (ho:o.op= .call {callee:= .builtin .append,args:= #[s,y],argTypes:= #[262,262]}) {B:Nat} {v:Value} {us:List Nat} {p N:Nat} {pv:Int}
  (hs:a.eval s=v) (hN:N=w.heap.size) (hy:a.eval y= .slice (some ⟨N,0,none⟩) 1 1) (hown:Hy w B v us) (hB:B≤w.heap.size) (h1:pv=(p:Int)) (hl:us.length≤100000)
  (h: ∀ v' w',Hy w' B v' (us++[p])→Below B w w'→w.heap.size≤w'.heap.size→wpList Tryz.prog ops Q rest (a.put o.dst v') w'):wpList Tryz.prog ops Q (o::rest) a (w.alloc (.cells #[.int .u64 pv] 137)):=by
 subst h1 hN
 obtain⟨i0,hi,hz0,hz1,hz2⟩:=info_parts infoU64
 have hb:=below_alloc w (.cells #[.int .u64 (p:Int)] 137)
 refine wpList_append_own _ hgd s y 262 ho B 137 i0 (.int .u64 0) 1 8 Tryz.underlying262 hi hz0 hz1 hz2 rfl (by decide) v us.length (uCells us) hs (own_later hown hb) ⟨w.heap.size,0,none⟩ 1 1 [.int .u64 (p:Int)] hy rfl (fun j u hj=> ?_) (fun u hu=> ?_) (by unfold maxLen;omega) (by omega) (μ hB hb.size) ?_
 ·rw [Bc,Nat.zero_add,World.cell?_alloc_new]
  simpa using hj
 ·simp at hu;rcases hu with rfl;rfl
 ·intro v' w' hown' hg _
  refine h v' w' ?_ ((hb.mono hB).trans (Bf (own_later hown hb) (μ hB hb.size) hg)) (μ hb.size hg.size)
  unfold Hy
  rw [η,show uCells (us++[p])=uCells us++[.int .u64 (p:Int)] by simp [uCells]]
  exact hown'
def decNs:Nat→List UInt8→Nat→List Nat→List Nat×Nat×Int
 | 0,_,at_,us=>(us,at_,0)
 | n+1,b,at_,us=>if (decV (b.drop at_)).2.2≠0 then ([],0,(decV (b.drop at_)).2.2) else decNs n b (at_+(decV (b.drop at_)).2.1) (us++[(decV (b.drop at_)).1])
def Bj (b:List UInt8) (most:Nat):List Nat×Nat×Int:=
 if (decV b).2.2≠0 then ([],0,(decV b).2.2) else if most<(decV b).1 then ([],0,24) else decNs (decV b).1 b (decV b).2.1 []
theorem decNs_stop {n:Nat} {b:List UInt8} {a:Nat} {us:List Nat} {e:Int} (h:(decV (b.drop a)).2.2=e) (he:e≠0):decNs (n+1) b a us=([],0,e):=by rw [decNs,h,ζ he]
theorem decNs_go {n:Nat} {b:List UInt8} {a:Nat} {us:List Nat} (h:(decV (b.drop a)).2.2=0):decNs (n+1) b a us=decNs n b (a+(decV (b.drop a)).2.1) (us++[(decV (b.drop a)).1]):=by rw [decNs,h,γ (by decide)]
def AllPost (w:World) (r:List Nat×Nat×Int) (e:Ending) (w':World):Prop:= ∃ v,e= .returned (.tuple #[v,.int .i64 (r.2.1:Int),.int .i64 r.2.2])∧Hy w' w.heap.size v r.1∧Below w.heap.size w w'
theorem ownU_nil (w:World) (B:Nat):Hy w B (.slice none 0 0) []:=⟨rfl,.inl ⟨rfl,rfl⟩⟩
theorem decodeAll_any (l:List UInt8) (v:Value) (most:Nat) (w:World) (hv:A2 w v l) (hl:l.length≤140737488355328) (hm:most≤100000) (hm0:0<most):
  Calls Tryz.prog 158 #[v,.int .i64 (most:Int)] w (AllPost w (Bj l most)):=by
 have HV:=Qh (fun W (hb:Below w.heap.size w W)=>hv.below hb)
 have HD0:=Qh (F2 l v w hv (by omega))
 have HLT:=Qh (decV_lt l)
 have HLN:=Qh (@Gn l)
 obtain⟨oa,cap,rfl,hlc,hc⟩:=hv
 have HALL:=Qh (show Bj l most=if (decV l).2.2≠0 then ([],0,(decV l).2.2) else if most<(decV l).1 then ([],0,24) else decNs (decV l).1 l (decV l).2.1 [] from rfl)
 obtain⟨r,hr⟩: ∃ r,r=decV l:=⟨_,rfl⟩
 rw [←hr] at HD0 HLT HLN HALL
 clear hc hr
 obtain⟨n,at0,e0⟩:=r
 unfold VarPost at HD0
 have hn:=HLT.out
 simp only at hn
 have hw0:IntKind.u64.wrap (max 0 (most:Int))=(most:Int):=by rw [IntKind.wrap_u64];omega
 have hw1:IntKind.u64.wrap (most:Int)=(most:Int):=by rw [IntKind.wrap_u64];omega
 go_enter Tryz.func158,Tryz.ntmps158
 go_wp2_with fail
 refine HD0.out.mono ?_
 rintro e w1 ⟨rfl,hb1⟩
 have HB1:=Qh hb1
 clear hb1 HD0
 rcases he0:(e0 != 0) with _ | _
 ·have HE0:=Qh (show e0=0 by simpa using he0)
  rcases hmn:decide (most<n) with _ | _
  ·have hmn': ¬ most<n:=ε hmn
   have HA:=Qh (show Bj l most=decNs n l at0 [] by rw [HALL.out];simp [HE0.out,hmn'])
   have HL0:=Qh (show at0≤l.length by have:=(HLN.out HE0.out).2;exact this)
   have HMN:=Qh hmn'
   clear HALL HLN HLT hmn'
   go_wp2
   clear he0 hmn
   go_loopw [8,10,29] (fun av uv cv wr=> ∃ (k at_:Nat) (us:List Nat),k≤n∧cv= .int .u64 (k:Int)∧av= .int .i64 (at_:Int)∧us.length=k∧at_≤l.length∧Hy wr w.heap.size uv us∧Hid (Bj l most=decNs (n - k) l at_ us)∧Below w.heap.size w wr) (fun _ _ cv _=>n - (intOf cv).toNat)
   case atStart=>exact⟨0,at0,[],θ _,rfl,rfl,rfl,HL0.out,ownU_nil _ _,HA,HB1.out⟩
   case round=>
    clear HA HL0 HB1
    obtain⟨k,at_,us,hk,rfl,rfl,hus,hat,hown,HD,hb⟩:=hrel
    have HO:=Qh hown
    have HB:=Qh hb
    clear hown hb
    by_cases hlt:k<n
    ·have q1:(k:Int)<(n:Int):=by omega
     have HBR:=Qh (HV.out wr HB.out)
     have HST:=Qh (fun e=> @decNs_stop (n - (k+1)) l at_ us e)
     have HGO:=Qh (@decNs_go (n - (k+1)) l at_ us)
     have HNK:=Qh (show n - k=(n - (k+1))+1 by omega)
     rw [HNK.out] at HD
     have HDV:=Qh (fun oa' cap' (hv:A2 wr (.slice oa' (l.length - at_) cap') (l.drop at_))=>F2 (l.drop at_) _ wr hv (by rw [Ξ];omega))
     have HLN:=Qh (@Gn (l.drop at_))
     have HLT:=Qh (decV_lt (l.drop at_))
     obtain⟨r,hr⟩: ∃ r,r=decV (l.drop at_):=⟨_,rfl⟩
     rw [←hr] at HDV HLT HLN HST HGO
     clear hr HNK
     obtain⟨u,n1,e1⟩:=r
     unfold VarPost at HDV
     have hu:=HLT.out
     simp only at hu
     go_wp2_with (with_reducible refine wpList_cut_l rfl (.tmp 32) (.tmp 33) rfl oa cap at_ l rfl rfl HBR.out hat ?_)
     intro oa' cap' hbr
     go_wp2_with fail
     refine(HDV.out oa' cap' hbr).mono ?_
     rintro e w2 ⟨rfl,hb2⟩
     have HB2:=Qh (Below.next HB.out hb2)
     have HO2:=Qh (HO.out.later hb2)
     clear hb2 hbr HDV HO
     rcases he1:(e1 != 0) with _ | _
     ·have HE1:=Qh (show e1=0 by simpa using he1)
      have hn1:at_+n1≤l.length:=by have:=(HLN.out HE1.out).2;rw [Ξ] at this;omega
      have HD2:=Qh (show Bj l most=decNs (n - (k+1)) l (at_+n1) (us++[u]) by rw [HD.out];exact HGO.out HE1.out)
      have hsz:=HB2.out.size
      have hul:us.length≤100000:=by have:=HMN.out;omega
      clear HLN HLT HST HGO HD
      go_wp2_with (with_reducible refine wpList_appU1 (p:=u) rfl (.tmp 42) (.tmp 44) rfl rfl rfl rfl HO2.out hsz rfl hul ?_)
      intro v' w3 ho3 hb3 _
      have HO3:=Qh ho3
      have HB3:=Qh (HB2.out.trans hb3)
      clear ho3 hb3 HO2 HB2
      have hk1:IntKind.u64.wrap ((k:Int)+1)=(k:Int)+1:=by rw [IntKind.wrap_u64];omega
      go_wp2
      go_roundw
      case rel=>exact⟨k+1,at_+n1,us++[u],by omega,by first | rfl | (push_cast;rfl),by first | rfl | (push_cast;rfl),by simp [hus],hn1,HO3.out,HD2,HB3.out⟩
      case measure=>simp [intOf];omega
     ·have HE:=Qh (show Bj l most=([],0,e1) by rw [HD.out];exact HST.out _ rfl (by simpa using he1))
      go_wp2
      refine π (v:= .tuple #[.slice none 0 0,.int .i64 0,.int .i64 e1]) (by simp [results,Tryz.results158,go_sem]) rfl ⟨_,by rw [HE.out];rfl,by rw [HE.out];exact ownU_nil _ _,HB2.out⟩
    ·obtain rfl:k=n:=by omega
     have HE:=Qh (show Bj l most=(us,at_,0) by rw [HD.out,Nat.sub_self];rfl)
     go_wp2
     refine π (v:= .tuple #[_,.int .i64 (at_:Int),.int .i64 0]) (by simp [results,Tryz.results158,go_sem];first | rfl | skip) rfl ⟨_,by rw [HE.out],by rw [HE.out];exact HO.out,HB.out⟩
  ·have hmn':most<n:=χ hmn
   have HA:=Qh (show Bj l most=([],0,24) by rw [HALL.out];simp [HE0.out,hmn'])
   clear hmn'
   go_wp2
   refine π (v:= .tuple #[.slice none 0 0,.int .i64 0,.int .i64 24]) (by simp [results,Tryz.results158,go_sem]) rfl ⟨_,by rw [HA.out];rfl,by rw [HA.out];exact ownU_nil _ _,HB1.out⟩
 ·have HA:=Qh (show Bj l most=([],0,e0) by rw [HALL.out];rw [ζ (show e0≠0 by simpa using he0)])
  go_wp2
  refine π (v:= .tuple #[.slice none 0 0,.int .i64 0,.int .i64 e0]) (by simp [results,Tryz.results158,go_sem]) rfl ⟨_,by rw [HA.out];rfl,by rw [HA.out];exact ownU_nil _ _,HB1.out⟩
end Go.Proofs.YtgkdenejkcngnaaGreatDoor
namespace Go.Proofs
open Go.Shelf
def Tryz.lays103_ren:Go.Shelf.Ren:=⟨fun | 103=>165 | 210=>189 | 206=>195 | n=>n,fun | 9=>9 | 4=>4 | 24=>281 | 3=>3 | n=>n,fun | n=>n⟩
theorem Tryz.lays103:Go.Proofs.Lays.n103 Tryz.prog Tryz.lays103_ren:={
 mixed:=by kernel_rfl
 f103:=Tryz.func165.trans (congrArg some (by kernel_rfl))
 f206:=Tryz.func195.trans (congrArg some (by kernel_rfl))
 f210:=Tryz.func189.trans (congrArg some (by kernel_rfl))
 t3:=Tryz.underlying3
 a3:=Tryz.isAgg3
 z3:=Tryz.sizeOf3
 v3:=Tryz.zeroValue3
 t4:=Tryz.underlying4
 a4:=Tryz.isAgg4
 z4:=Tryz.sizeOf4
 v4:=Tryz.zeroValue4
 t9:=Tryz.underlying9
 a9:=Tryz.isAgg9
 z9:=Tryz.sizeOf9
 v9:=Tryz.zeroValue9
 t24:=Tryz.underlying281
 a24:=Tryz.isAgg281
 z24:=Tryz.sizeOf281
 v24:=Tryz.zeroValue281}
open Go.RowKit in
theorem Tryz.strings_CutPrefix (s p:ByteArray) (w:World):
  Calls Tryz.prog 165 #[.string s,.string p] w fun e w'=>e= .returned (.tuple #[.string ⟨(Lib.trimPrefix s.data.toList p.data.toList).toArray⟩,.bool (Lib.hasPrefix s.data.toList p.data.toList)])∧w'=w:=Any.strings_CutPrefix Tryz.lays103 s p w
def Tryz.lays190_ren:Go.Shelf.Ren:=⟨fun | 190=>75 | 125=>116 | 258=>115 | 128=>150 | 129=>151 | 302=>141 | 303=>142 | 304=>143 | 305=>144 | 306=>145 | 307=>146 | 308=>147 | 309=>148 | 310=>149 | 333=>176 | 329=>177 | 330=>178 | 334=>179 | 335=>180 | 336=>181 | 344=>190 | n=>n,fun | 31=>73 | 9=>9 | 3=>3 | 46=>179 | 0=>0 | 51=>181 | 53=>137 | 4=>4 | 183=>244 | 182=>243 | 131=>213 | 5=>5 | 218=>290 | 222=>294 | 228=>309 | 229=>216 | n=>n,fun | n=>n⟩
theorem Tryz.lays190:Go.Proofs.Lays.n190 Tryz.prog Tryz.lays190_ren:={
 mixed:=by kernel_rfl
 f125:=Tryz.func116.trans (congrArg some (by kernel_rfl))
 f128:=Tryz.func150.trans (congrArg some (by kernel_rfl))
 f129:=Tryz.func151.trans (congrArg some (by kernel_rfl))
 f190:=Tryz.func75.trans (congrArg some (by kernel_rfl))
 f258:=Tryz.func115.trans (congrArg some (by kernel_rfl))
 f302:=Tryz.func141.trans (congrArg some (by kernel_rfl))
 f303:=Tryz.func142.trans (congrArg some (by kernel_rfl))
 f304:=Tryz.func143.trans (congrArg some (by kernel_rfl))
 f305:=Tryz.func144.trans (congrArg some (by kernel_rfl))
 f306:=Tryz.func145.trans (congrArg some (by kernel_rfl))
 f307:=Tryz.func146.trans (congrArg some (by kernel_rfl))
 f308:=Tryz.func147.trans (congrArg some (by kernel_rfl))
 f309:=Tryz.func148.trans (congrArg some (by kernel_rfl))
 f310:=Tryz.func149.trans (congrArg some (by kernel_rfl))
 f329:=Tryz.func177.trans (congrArg some (by kernel_rfl))
 f330:=Tryz.func178.trans (congrArg some (by kernel_rfl))
 f333:=Tryz.func176.trans (congrArg some (by kernel_rfl))
 f334:=Tryz.func179.trans (congrArg some (by kernel_rfl))
 f335:=Tryz.func180.trans (congrArg some (by kernel_rfl))
 f336:=Tryz.func181.trans (congrArg some (by kernel_rfl))
 f344:=Tryz.func190.trans (congrArg some (by kernel_rfl))
 t0:=Tryz.underlying0
 a0:=Tryz.isAgg0
 z0:=Tryz.sizeOf0
 v0:=Tryz.zeroValue0
 t3:=Tryz.underlying3
 a3:=Tryz.isAgg3
 z3:=Tryz.sizeOf3
 v3:=Tryz.zeroValue3
 t4:=Tryz.underlying4
 a4:=Tryz.isAgg4
 z4:=Tryz.sizeOf4
 v4:=Tryz.zeroValue4
 t5:=Tryz.underlying5
 a5:=Tryz.isAgg5
 z5:=Tryz.sizeOf5
 v5:=Tryz.zeroValue5
 t9:=Tryz.underlying9
 a9:=Tryz.isAgg9
 z9:=Tryz.sizeOf9
 v9:=Tryz.zeroValue9
 t31:=Tryz.underlying73
 a31:=Tryz.isAgg73
 z31:=Tryz.sizeOf73
 v31:=Tryz.zeroValue73
 t46:=Tryz.underlying179
 a46:=Tryz.isAgg179
 z46:=Tryz.sizeOf179
 v46:=Tryz.zeroValue179
 t51:=Tryz.underlying181
 a51:=Tryz.isAgg181
 z51:=Tryz.sizeOf181
 v51:=Tryz.zeroValue181
 t53:=Tryz.underlying137
 a53:=Tryz.isAgg137
 z53:=Tryz.sizeOf137
 v53:=Tryz.zeroValue137
 t131:=Tryz.underlying213
 a131:=Tryz.isAgg213
 z131:=Tryz.sizeOf213
 v131:=Tryz.zeroValue213
 t182:=Tryz.underlying243
 a182:=Tryz.isAgg243
 z182:=Tryz.sizeOf243
 v182:=Tryz.zeroValue243
 t183:=Tryz.underlying244
 a183:=Tryz.isAgg244
 z183:=Tryz.sizeOf244
 v183:=Tryz.zeroValue244
 t218:=Tryz.underlying290
 a218:=Tryz.isAgg290
 z218:=Tryz.sizeOf290
 v218:=Tryz.zeroValue290
 t222:=Tryz.underlying294
 a222:=Tryz.isAgg294
 z222:=Tryz.sizeOf294
 v222:=Tryz.zeroValue294
 t228:=Tryz.underlying309
 a228:=Tryz.isAgg309
 z228:=Tryz.sizeOf309
 v228:=Tryz.zeroValue309
 t229:=Tryz.underlying216
 a229:=Tryz.isAgg216
 z229:=Tryz.sizeOf216
 v229:=Tryz.zeroValue216}
open Go.Sort Go.RowKit in
theorem Tryz.slices_Sort_string (blk off cap:Nat) (ss:List (List UInt8)) (w:World) (hH:Holds encStr w blk off ss.toArray) (hblk:blk<w.heap.size) (hsz:ss.length<4611686018427387904):
  Calls Tryz.prog 75 #[.slice (some ⟨blk,off,none⟩) ss.length cap] w fun e w'=>
   e= .returned (.tuple #[])∧ ∃ n os,w'=grow (putRow encStr (Sort.ahead w n) blk off (ss.mergeSort fun x y=>decide (x≤y)).toArray) os:=Any.slices_Sort_string Tryz.lays190 blk off cap ss w hH hblk hsz
end Go.Proofs
namespace Go.Proofs.YtgkdenejkcngnaaGreatDoor
open Go.RowKit
def dgt (n:Int) (m k:Nat):Int:=if k<m then 48+n / 10^k % 10 else 48
def sixv (n:Int) (m:Nat):Array Value:= #[.int .u8 (dgt n m 5),.int .u8 (dgt n m 4),.int .u8 (dgt n m 3),.int .u8 (dgt n m 2),.int .u8 (dgt n m 1),.int .u8 (dgt n m 0)]
def six (n:Int):List UInt8:=[UInt8.ofNat (dgt n 6 5).toNat,UInt8.ofNat (dgt n 6 4).toNat,UInt8.ofNat (dgt n 6 3).toNat,UInt8.ofNat (dgt n 6 2).toNat,UInt8.ofNat (dgt n 6 1).toNat,UInt8.ofNat (dgt n 6 0).toNat]
def Aa (n:Int):List UInt8:=if 1≤n∧n≤999999 then [115,101,103,45]++six n else []
def bookName (n:Int):List UInt8:=if 1≤n∧n≤999999 then [98,111,111,107,45]++six n else []
theorem sixv_set (n:Int) (k:Nat) (hk:k<6):(sixv n k).setIfInBounds (5 - k) (.int .u8 (48+n / 10^k % 10))=sixv n (k+1):=by
 have:k=0∨k=1∨k=2∨k=3∨k=4∨k=5:=by omega
 rcases this with rfl | rfl | rfl | rfl | rfl | rfl<;>simp [sixv,dgt]
theorem sixv_get (n:Int) (k:Nat) (hk:k<6):(sixv n k)[5 - k]? =some (.int .u8 48):=by
 have:k=0∨k=1∨k=2∨k=3∨k=4∨k=5:=by omega
 rcases this with rfl | rfl | rfl | rfl | rfl | rfl<;>simp [sixv,dgt]
theorem dgt_bd (n:Int) (m k:Nat):48≤dgt n m k∧dgt n m k≤57:=by unfold dgt;split<;>omega
theorem pow10_pos (k:Nat):(0:Int)≤10^k:=by exact_mod_cast θ _
theorem dgt_done (n:Int) (k:Nat) (hz:n / 10^k=0) (j:Nat):dgt n k j=dgt n 6 j∨6≤j:=by
 by_cases h6:j<6
 ·left
  unfold dgt
  rw [ζ h6]
  by_cases hj:j<k
  ·rw [ζ hj]
  ·rw [γ hj]
   obtain⟨i,rfl⟩: ∃ i,j=k+i:=⟨j - k,by omega⟩
   have:n / 10^(k+i)=0:=by
    rw [Int.pow_add,←Int.ediv_ediv_of_nonneg (pow10_pos k),hz];simp
   rw [this];simp
 ·right;omega
theorem sixv_done (n:Int) (k:Nat) (hz:n / 10^k=0):sixv n k=sixv n 6:=by
 have h:=fun j (hj:j<6)=>(dgt_done n k hz j).resolve_right (by omega)
 simp [sixv,h]
theorem sixv_six (n:Int) (j:Nat) (hj:j<(six n).length):(sixv n 6)[j]? =some (.int .u8 ((six n)[j].toNat:Int)):=by
 have h:=fun j=>dgt_bd n 6 j
 have e: ∀ j,((UInt8.ofNat (dgt n 6 j).toNat).toNat:Int)=dgt n 6 j:=fun j=>by
  have:=h j
  simp;omega
 have:j=0∨j=1∨j=2∨j=3∨j=4∨j=5:=by simp [six] at hj;omega
 rcases this with rfl | rfl | rfl | rfl | rfl | rfl<;>simp only [sixv,six,List.getElem_cons_zero,List.getElem_cons_succ,e]<;>rfl
theorem numbered_yes (p:List UInt8) (n:Int) (w:World) (hp:p.length≤100) (h1:1≤n) (h2:n≤999999):
  Calls Tryz.prog 96 #[.string ⟨p.toArray⟩,.int .i64 n] w fun e w'=>e= .returned (.string ⟨(p++six n).toArray⟩)∧Below w.heap.size w w':=by
 have kc:=fun(w:World) (C:Array Value) (n c:Nat)=>Lib.run_convert_bytes_const (P:=Tryz.prog) w 39 5 C n c Tryz.underlying39 Tryz.underlying5
 go_enter Tryz.func96,Tryz.ntmps96
 go_wp2
 go_loopw [1,6] (fun nv iv wr=> ∃ k:Nat,k≤6∧iv= .int .i64 (5 - k)∧nv= .int .i64 (n / 10^k)∧Below w.heap.size w wr∧w.heap.size<wr.heap.size∧
   wr.heap[w.heap.size]? =some (.cells (sixv n k) 5 (6,7))) (fun _ iv _=>(intOf iv+1).toNat)
 case atStart=>exact⟨0,by omega,rfl,by simp,(τ _ _).alloc (ξ _) _,by simp,(σ w _).trans (by simp [sixv,dgt])⟩
 case round=>
  obtain⟨k,hk,rfl,rfl,hb,hs,hblk⟩:=hrel
  have hn0:0≤n / 10^k:=Int.ediv_nonneg (by omega) (pow10_pos k)
  have hn1:n / 10^k≤999999:=Int.le_trans (Int.ediv_le_self _ (by omega)) h2
  by_cases hz:n / 10^k=0
  ·rw [sixv_done n k hz] at hblk
   have hcv: ∀ c,(convert 39 9 (.slice (some ⟨w.heap.size,0,none⟩) 6 c)).run Tryz.prog wr= .ok (.string ⟨(six n).toArray⟩) wr:=fun c=>
    run_convert_bytes_back (P:=Tryz.prog) wr 39 9 5 ⟨w.heap.size,0,none⟩ c (six n) Tryz.underlying39 Tryz.underlying5 Tryz.underlying9 (fun j hj=>by
     rw [Bc,World.cell?,hblk];simpa using sixv_six n j hj)
   have hl6:(six n).length=6:=rfl
   go_wp2
   go_ret
   exact⟨ret_str (ba_append _ _),hb⟩
  ·have hk6:k<6:=by
    rcases Nat.lt_or_ge k 6 with h | h
    ·exact h
    ·exfalso;apply hz
     obtain rfl:k=6:=by omega
     omega
   have hc:wr.cell? ⟨w.heap.size,5 - k,none⟩=some (.int .u8 48):=by simp [World.cell?,hblk,sixv_get n k hk6]
   have hf:wr.frozen? ⟨w.heap.size,5 - k,none⟩=false:=by simp [World.frozen?,hblk];omega
   go_wp2
   go_roundw
   case rel=>exact⟨k+1,by omega,by go_num,by rw [Int.pow_succ,←Int.ediv_ediv_of_nonneg (pow10_pos k)],hb.setCell (ξ _) _,by simpa using hs,by rw [Joins.block_setCell hblk,sixv_set n k hk6]⟩
   case measure=>simp [intOf];omega
theorem numbered_no (p:ByteArray) (n:Int) (w:World) (h:n<1∨999999<n):
  Calls Tryz.prog 96 #[.string p,.int .i64 n] w fun e w'=>e= .returned (.string ⟨([]:List UInt8).toArray⟩)∧w'=w:=by
 rcases h with h | h
 ·go_enter Tryz.func96,Tryz.ntmps96
  go_wp2
  go_ret
  exact⟨rfl,rfl⟩
 ·have h': ¬ n<1:=by omega
  go_enter Tryz.func96,Tryz.ntmps96
  go_wp2
  go_ret
  exact⟨rfl,rfl⟩
theorem Gf (n:Int) (w:World):
  Calls Tryz.prog 60 #[.int .i64 n] w fun e w'=>e= .returned (.string ⟨(Aa n).toArray⟩)∧Below w.heap.size w w':=by
 by_cases h:1≤n∧n≤999999
 ·rw [Aa,ζ h]
  go_enter Tryz.func60,Tryz.ntmps60
  go_wp2_with (go_at_call 96;refine(numbered_yes [115,101,103,45] n _ (by decide) h.1 h.2).mono ?_;rintro e w' ⟨rfl,hb⟩)
  go_ret
  exact⟨rfl,hb⟩
 ·rw [Aa,γ h]
  go_enter Tryz.func60,Tryz.ntmps60
  go_wp2_with (go_at_call 96;refine(numbered_no _ n _ (by omega)).mono ?_;rintro e w' ⟨rfl,rfl⟩)
  go_ret
  exact⟨rfl,τ _ _⟩
def Jd (c:UInt8):Bool:=decide (48≤(c.toNat:Int))&&decide ((c.toNat:Int)≤57)
def Gv (l:List UInt8):Int:=l.foldl (fun n c=>10*n+((c.toNat:Int) - 48)) 0
def numOf (l:List UInt8):Int:=if l.length=6∧l.all Jd then Gv l else 0
theorem decOf_snoc (l:List UInt8) (c:UInt8):Gv (l++[c])=10*Gv l+((c.toNat:Int) - 48):=by simp [Gv]
theorem J1 (c:UInt8):Jd c=true↔48≤(c.toNat:Int)∧(c.toNat:Int)≤57:=by simp [Jd]
theorem decOf_bd (l:List UInt8) (h:l.all Jd=true):0≤Gv l∧Gv l<10^l.length:=by
 revert h
 refine snoc_ind (P:=fun l=>l.all Jd=true→0≤Gv l∧Gv l<10^l.length) (by simp [Gv]) ?_ l
 ·intro l c ih h
  simp only [List.all_append,List.all_cons,List.all_nil,Bool.and_true,Bool.and_eq_true] at h
  have h1:=ih h.1
  have h2:=(J1 c).1 h.2
  rw [decOf_snoc]
  simp only [η,φ,Φ,Nat.zero_add,Int.pow_succ]
  omega
theorem number_any (l:List UInt8) (w:World):
  Calls Tryz.prog 166 #[.string ⟨l.toArray⟩] w fun e w'=>e= .returned (.int .i64 (numOf l))∧Below w.heap.size w w':=by
 by_cases h6:l.length=6
 ·go_enter Tryz.func166,Tryz.ntmps166
  go_wp2
  obtain⟨c,w1,hcv,hb,hs,hc,hcell⟩:=conv_bytes w l
  go_simp
  go_wp2
  have h6':=Qh h6
  clear h6 hcv
  go_loop [3,12] (fun nv iv=> ∃ k:Nat,k≤6∧iv= .int .i64 k∧nv= .int .i64 (Gv (l.take k))∧(l.take k).all Jd=true) (fun _ iv=>(6 - intOf iv).toNat)
  case atStart=>exact⟨0,by omega,rfl,rfl,rfl⟩
  case round=>
   obtain⟨k,hk,rfl,rfl,hall⟩:=hrel
   have h6:=h6'.out
   have hbd:=decOf_bd _ hall
   have hpw:(10:Int)^(l.take k).length≤1000000:=by
    rw [Θ]
    have:min k l.length=0∨min k l.length=1∨min k l.length=2∨min k l.length=3∨min k l.length=4∨min k l.length=5∨min k l.length=6:=by omega
    rcases this with h | h | h | h | h | h | h<;>rw [h]<;>decide
   by_cases hk6:k<6
   ·obtain⟨x,hx,hts,hmem⟩:=Kc l k (by omega)
    have hcl:=hcell k x hx
    have HT:=Qh hts
    have hn1:Gv (l.take k)<1000000:=by omega
    have hn0:=hbd.1
    have HA:=Qh hall
    have hno:Hid (Jd x=false→numOf l=0):=Qh fun hf=>by
     rw [numOf,γ]
     rintro⟨_,ha⟩
     have:=List.all_eq_true.1 ha x hmem
     rw [hf] at this
     cases this
    clear hpw hbd hall hx hts h6 hcell hmem
    go_wp2
    ·go_ret
     have hd:Jd x=false:=by have h:57<(x.toNat:Int):=by omega
                            simp [Jd];omega
     exact⟨ret_int (hno.out hd).symm,hb⟩
    ·go_round
     case rel=>
      have hd:Jd x=true:=(J1 x).2 ⟨by omega,by omega⟩
      exact⟨k+1,by omega,by go_num,by rw [HT.out,decOf_snoc],by rw [HT.out];simp [HA.out,hd]⟩
     case measure=>simp [intOf];omega
    ·go_ret
     have hd:Jd x=false:=by simp [Jd];omega
     exact⟨ret_int (hno.out hd).symm,hb⟩
   ·obtain rfl:k=6:=by omega
    go_wp2
    go_ret
    have e:l.take 6=l:=List.take_of_length_le (by omega)
    rw [e] at hall
    exact⟨ret_int (by rw [numOf,ζ ⟨h6,hall⟩,e]),hb⟩
 ·go_enter Tryz.func166,Tryz.ntmps166
  go_wp2
  go_ret
  exact⟨ret_int (by rw [numOf,γ (by simp [h6])]),τ _ _⟩
theorem cutPrefix_l (l p:List UInt8) (w:World):Calls Tryz.prog 165 #[.string ⟨l.toArray⟩,.string ⟨p.toArray⟩] w fun e w'=>
  e= .returned (.tuple #[.string ⟨(Lib.trimPrefix l p).toArray⟩,.bool (Lib.hasPrefix l p)])∧w=w':=
 (Tryz.strings_CutPrefix ⟨l.toArray⟩ ⟨p.toArray⟩ w).mono fun _ _ ⟨h1,h2⟩=>⟨by simpa using h1,h2.symm⟩
def segPre:List UInt8:=[115,101,103,45]
def bookPre:List UInt8:=[98,111,111,107,45]
def Am:List UInt8:=[109,97,110,105,102,101,115,116]
def Ie:List UInt8:=[109,97,110,105,102,101,115,116,46,116,109,112]
def Gs (k n:Int):Int×Int:=if n=0 then (0,0) else (k,n)
def Ao (l:List UInt8):Int×Int:=
 if l=Am then (1,0) else if l=Ie then (2,0)
 else if Lib.hasPrefix l segPre=true then Gs 3 (numOf (Lib.trimPrefix l segPre))
 else if Lib.hasPrefix l bookPre=true then Gs 4 (numOf (Lib.trimPrefix l bookPre)) else (0,0)
theorem Parse_any (l:List UInt8) (w:World):
  Calls Tryz.prog 133 #[.string ⟨l.toArray⟩] w fun e w'=>e= .returned (.tuple #[.int .i64 (Ao l).1,.int .i64 (Ao l).2])∧Below w.heap.size w w':=by
 by_cases h1:l=Am
 ·subst h1
  have hp:Ao Am=(1,0):=by decide
  rw [hp]
  unfold Am
  go_enter Tryz.func133,Tryz.ntmps133
  go_wp2
  go_ret2
  exact⟨rfl,τ _ _⟩
 have h1':(l== [109,97,110,105,102,101,115,116])=false:=by simpa [Am] using h1
 by_cases h2:l=Ie
 ·subst h2
  have hp:Ao Ie=(2,0):=by decide
  rw [hp]
  unfold Ie
  clear h1' h1
  go_enter Tryz.func133,Tryz.ntmps133
  go_wp2
  go_ret2
  exact⟨rfl,τ _ _⟩
 have h2':(l== [109,97,110,105,102,101,115,116,46,116,109,112])=false:=by simpa [Ie] using h2
 by_cases h3:Lib.hasPrefix l segPre=true
 ·have hp:Hid (Ao l=Gs 3 (numOf (Lib.trimPrefix l segPre))):=Qh (by rw [Ao,γ h1,γ h2,ζ h3])
  clear h1 h2
  unfold segPre at h3
  generalize hm:numOf (Lib.trimPrefix l segPre)=m at hp
  have HM:=Qh hm
  clear hm
  by_cases h0:m=0
  all_goals
   go_enter Tryz.func133,Tryz.ntmps133
   go_wp2_with (first | (go_at_call 165;(with_reducible refine(cutPrefix_l _ _ _).mono ?_);rintro e w' ⟨rfl,rfl⟩) | (go_at_call 166;refine(number_any _ _).mono ?_;rw [show numOf (Lib.trimPrefix l [115,101,103,45])=m from HM.out];rintro e w' ⟨rfl,hb⟩))
   go_ret2
   exact⟨by rw [hp.out];simp [Gs,h0],hb⟩
 have h3':Lib.hasPrefix l [115,101,103,45]=false:=by simpa [segPre] using h3
 by_cases h4:Lib.hasPrefix l bookPre=true
 ·have hp:Hid (Ao l=Gs 4 (numOf (Lib.trimPrefix l bookPre))):=Qh (by rw [Ao,γ h1,γ h2,γ h3,ζ h4])
  clear h1 h2 h3
  unfold bookPre at h4
  generalize hm:numOf (Lib.trimPrefix l bookPre)=m at hp
  have HM:=Qh hm
  clear hm
  by_cases h0:m=0
  all_goals
   go_enter Tryz.func133,Tryz.ntmps133
   go_wp2_with (first | (go_at_call 165;(with_reducible refine(cutPrefix_l _ _ _).mono ?_);rintro e w' ⟨rfl,rfl⟩) | (go_at_call 166;refine(number_any _ _).mono ?_;rw [show numOf (Lib.trimPrefix l [98,111,111,107,45])=m from HM.out];rintro e w' ⟨rfl,hb⟩))
   go_ret2
   exact⟨by rw [hp.out];simp [Gs,h0],hb⟩
 ·have h4':Lib.hasPrefix l [98,111,111,107,45]=false:=by simpa [bookPre] using h4
  have hp:Hid (Ao l=(0,0)):=Qh (by rw [Ao,γ h1,γ h2,γ h3,γ h4])
  clear h1 h2 h3 h4
  go_enter Tryz.func133,Tryz.ntmps133
  go_wp2_with (go_at_call 165;(with_reducible refine(cutPrefix_l _ _ _).mono ?_);rintro e w' ⟨rfl,rfl⟩)
  go_ret2
  exact⟨by rw [hp.out];rfl,τ _ _⟩
def okCh (c:UInt8):Bool:=decide (97≤(c.toNat:Int))&&decide ((c.toNat:Int)≤122) || decide (48≤(c.toNat:Int))&&decide ((c.toNat:Int)≤57) || decide ((c.toNat:Int)=45) || decide ((c.toNat:Int)=46)
def rightName (l:List UInt8):Bool:=decide (1≤l.length)&&decide (l.length≤24)&&l.all okCh
theorem Right_any (l:List UInt8) (w:World):
  Calls Tryz.prog 95 #[.string ⟨l.toArray⟩] w fun e w'=>e= .returned (.bool (rightName l))∧w=w':=by
 by_cases h0:l=[]
 ·subst h0
  go_enter Tryz.func95,Tryz.ntmps95
  go_wp2
  go_ret
  exact⟨rfl,rfl⟩
 have h0':l.isEmpty=false:=by simpa using h0
 have h0p:0<l.length:=Ψ.2 h0
 by_cases h1:24<l.length
 ·have hp:Hid (rightName l=false):=Qh (by simp [rightName];omega)
  clear h0
  go_enter Tryz.func95,Tryz.ntmps95
  go_wp2
  go_ret
  exact⟨by rw [hp.out];rfl,rfl⟩
 clear h0
 go_enter Tryz.func95,Tryz.ntmps95
 go_wp2
 go_loop [14] (fun iv=> ∃ k:Nat,k≤l.length∧iv= .int .i64 k∧(l.take k).all okCh=true) (fun iv=>(l.length - intOf iv).toNat)
 case atStart=>exact⟨0,by omega,rfl,rfl⟩
 case round=>
  obtain⟨k,hk,rfl,hall⟩:=hrel
  have HA:=Qh hall
  by_cases hk6:k<l.length
  ·obtain⟨x,hx,hts,hmem⟩:=Kc l k hk6
   have hy:=ba_get hx
   have HT:=Qh hts
   have hno:Hid (okCh x=false→rightName l=false):=Qh fun hf=>by
    rw [rightName]
    have:l.all okCh=false:=by
     rw [Bool.eq_false_iff];intro ha
     have:=List.all_eq_true.1 ha x hmem
     rw [hf] at this;cases this
    rw [this];simp
   clear hx hts hall hmem
   by_cases hc:okCh x=true
   ·have hrel:Hid (∃ j:Nat,j≤l.length∧Value.int .i64 ((k:Int)+1)= .int .i64 j∧(l.take j).all okCh=true):=Qh ⟨k+1,hk6,by go_num,by rw [HT.out];simp [HA.out,hc]⟩
    simp only [okCh,Bool.or_eq_true,Bool.and_eq_true,decide_eq_true_eq] at hc
    go_wp2
    all_goals first | (go_round;(case rel=>exact hrel.out);(case measure=>simp [intOf];omega)) | (exfalso;simp only [bne_iff_ne,ne_eq] at *;omega)
   ·have hc':okCh x=false:=by simpa using hc
    have hp:Hid (rightName l=false):=Qh (hno.out hc')
    clear hno hc
    simp only [okCh,Bool.or_eq_false_iff,Bool.and_eq_false_iff,decide_eq_false_iff_not] at hc'
    go_wp2
    all_goals first | (go_ret;exact⟨by rw [hp.out];rfl,rfl⟩) | (exfalso;simp only [bne_eq_false_iff_eq] at *;omega)
  ·obtain rfl:k=l.length:=by omega
   rw [List.take_length] at hall
   have hp:Hid (rightName l=true):=Qh (by simp [rightName,hall];omega)
   clear hall HA
   go_wp2
   go_ret
   exact⟨by rw [hp.out];rfl,rfl⟩
section
open Go.WideAt Go.WideShapes
structure A7 where
 name:List UInt8
 data:List UInt8
 safe:Int
structure Ab where
 files:List A7
 room:Int
 fuse:Int
 down:Bool
 steps:Int
 reads:Int
def Ff (fs:List A7):Prop:=fs.Pairwise fun a b=>bytesBefore a.name b.name=true
def atF (fs:List A7) (n:List UInt8):Option A7:=fs.find? fun f=>f.name==n
def Bu (f:A7):List A7→List A7
 | []=>[f]
 | y::r=>if bytesBefore f.name y.name then f::y::r else y::Bu f r
def takeF (n:List UInt8) (fs:List A7):List A7:=fs.filter fun f=> !(f.name==n)
def usedF (fs:List A7):Nat:=(fs.map fun f=>f.data.length).sum
def setF (n:List UInt8) (g:A7→A7) (fs:List A7):List A7:=fs.map fun f=>if f.name==n then g f else f
theorem bytes_asymm {a b:List UInt8} (h:bytesBefore a b=true):bytesBefore b a=false:=by
 rcases hb:bytesBefore b a
 ·rfl
 ·have:=bytes_trans _ _ _ h hb
  rw [bytes_irrefl] at this
  cases this
theorem Hc {a b:List UInt8} (h:bytesBefore a b=true):a≠b:=fun e=>by rw [e,bytes_irrefl] at h;cases h
theorem mem_putF {f x:A7}: ∀ {fs:List A7},x∈Bu f fs↔x=f∨x∈fs
 | []=>by simp [Bu]
 | y::r=>by
  unfold Bu
  split
  ·simp
  ·simp only [Γ,mem_putF (fs:=r)]
   constructor
   ·rintro(h | h | h)
    ·exact .inr (.inl h)
    ·exact .inl h
    ·exact .inr (.inr h)
   ·rintro(h | h | h)
    ·exact .inr (.inl h)
    ·exact .inl h
    ·exact .inr (.inr h)
theorem E9 (f:A7): ∀ fs:List A7,(Bu f fs).length=fs.length+1
 | []=>rfl
 | y::r=>by unfold Bu;split<;>simp [E9 f r]
theorem Dh (f:A7): ∀ fs:List A7,usedF (Bu f fs)=f.data.length+usedF fs
 | []=>by simp [usedF,Bu]
 | y::r=>by
  have h:=Dh f r
  unfold Bu
  split
  ·simp [usedF]
  ·simp only [usedF,List.map_cons,List.sum_cons] at h ⊢
   omega
theorem rise_put {f:A7}: ∀ {fs:List A7},Ff fs→(∀ x∈fs,x.name≠f.name)→Ff (Bu f fs)
 | [],_,_=>by simp [Ff,Bu]
 | y::r,h,hn=>by
  obtain⟨h1,h2⟩:=List.pairwise_cons.1 h
  unfold Bu
  split
  ·rename_i hb
   exact List.pairwise_cons.2 ⟨fun x hx=>by
    rcases Γ.1 hx with rfl | hx
    ·exact hb
    ·exact bytes_trans _ _ _ hb (h1 x hx),h⟩
  ·rename_i hb
   have hyf:bytesBefore y.name f.name=true:=by
    rcases bytes_total f.name y.name (Ne.symm (hn y (by simp))) with h3 | h3
    ·exact absurd h3 hb
    ·exact h3
   exact List.pairwise_cons.2 ⟨fun x hx=>by
    rcases mem_putF.1 hx with rfl | hx
    ·exact hyf
    ·exact h1 x hx,rise_put h2 fun x hx=>hn x (by simp [hx])⟩
theorem G6 {n:List UInt8} {fs:List A7} (h:Ff fs):Ff (takeF n fs):=h.sublist List.filter_sublist
theorem rise_set' {n:List UInt8} {g:A7→A7} {fs:List A7} (h:Ff fs) (hg: ∀ f∈fs,n=f.name→(g f).name=f.name):Ff (setF n g fs):=by
 unfold Ff setF at*
 rw [List.pairwise_map]
 have hs: ∀ f∈fs,(if f.name==n then g f else f).name=f.name:=fun f hf=>by
  split
  ·rename_i hc;exact hg f hf (by simpa using (beq_iff_eq.1 hc).symm)
  ·rfl
 refine h.imp_of_mem fun {a b} ha hb hab=> ?_
 rw [hs a ha,hs b hb]
 exact hab
theorem Kb {n:List UInt8} {fs:List A7} (h:atF fs n=none):takeF n fs=fs:=by
 unfold takeF
 rw [List.filter_eq_self]
 intro x hx
 have:=List.find?_eq_none.1 h x hx
 simpa using this
theorem rise_one: ∀ {fs:List A7} {n:List UInt8} {f x:A7},Ff fs→atF fs n=some f→x∈fs→x.name=n→x=f
 | [],_,_,_,_,_,hx,_=>by cases hx
 | y::r,n,f,x,h,ha,hx,hn=>by
  obtain⟨h1,h2⟩:=List.pairwise_cons.1 h
  unfold atF at ha
  rw [List.find?_cons] at ha
  by_cases hy:y.name=n
  ·rw [show (y.name==n)=true by simpa using hy] at ha
   simp only [Option.some.injEq] at ha
   rcases Γ.1 hx with rfl | hx
   ·exact ha
   ·exact absurd (hy.trans hn.symm) (Hc (h1 x hx))
  ·rw [show (y.name==n)=false by simpa using hy] at ha
   rcases Γ.1 hx with rfl | hx
   ·exact absurd hn hy
   ·exact rise_one h2 ha hx hn
theorem Bi {fs:List A7} {n:List UInt8} {f:A7} (h:atF fs n=some f):f.name=n∧f∈fs:=by
 have h1:=List.find?_some h
 exact⟨by simpa using h1,List.mem_of_find?_eq_some h⟩
theorem put_take: ∀ {fs:List A7} {n:List UInt8} {f f':A7},Ff fs→atF fs n=some f→f'.name=n→Bu f' (takeF n fs)=setF n (fun _=>f') fs
 | [],_,_,_,_,h,_=>by cases h
 | y::r,n,f,f',h,ha,hn=>by
  obtain⟨h1,h2⟩:=List.pairwise_cons.1 h
  unfold atF at ha
  rw [List.find?_cons] at ha
  by_cases hy:y.name=n
  ·have e1:takeF n (y::r)=r:=by
    unfold takeF
    rw [List.filter_cons,show (y.name==n)=true by simpa using hy]
    simp only [Bool.not_true,Bool.false_eq_true,if_false]
    rw [List.filter_eq_self]
    intro x hx
    have:=Hc (h1 x hx)
    rw [hy] at this
    simpa using this.symm
   have e2:setF n (fun _=>f') (y::r)=f'::r:=by
    unfold setF
    rw [List.map_cons,show (y.name==n)=true by simpa using hy]
    simp only [if_true]
    congr 1
    rw [List.map_congr_left (g:=id) (fun x hx=>by
     have:=Hc (h1 x hx)
     rw [hy] at this
     simp [this.symm])]
    simp
   rw [e1,e2]
   match r,h1 with
   | [],_=>rfl
   | z::r',h1=>rw [Bu,ζ (by rw [hn,←hy];exact h1 z (by simp))]
  ·rw [show (y.name==n)=false by simpa using hy] at ha
   have e1:takeF n (y::r)=y::takeF n r:=by
    unfold takeF
    rw [List.filter_cons,show (y.name==n)=false by simpa using hy]
    rfl
   have e2:setF n (fun _=>f') (y::r)=y::setF n (fun _=>f') r:=by
    unfold setF
    rw [List.map_cons,show (y.name==n)=false by simpa using hy]
    rfl
   have hyf:=h1 f (List.mem_of_find?_eq_some ha)
   have hfn:f.name=n:=by have:=List.find?_some ha;simpa using this
   rw [e1,e2,Bu,γ (by rw [hn,←hfn,bytes_asymm hyf];simp),put_take h2 ha hn]
structure Io where
 k:Int
 name:List UInt8
 to:List UInt8
 b:List UInt8
 n:Int
 m:Int
 keep:List Int
def Dw (d:Ab) (o:Io):Int:=
 if d.down then 3
 else if !rightName o.name || (decide (o.k=3)&& !rightName o.to) then 50
 else match atF d.files o.name with
  | none=>if decide (o.k=0) then (if decide (700≤d.files.length) then 53 else 0) else 51
  | some f=>
   if decide (o.k=0) then 52
   else if decide (o.k=1)&&decide (d.room - (usedF d.files:Int)<(o.b.length:Int)) then 54
   else if decide (o.k=5)&&(decide (o.n<0) || decide ((f.data.length:Int)<o.n)) then 1
   else if decide (o.k=6)&&(decide (o.n<0) || decide (o.m<0) || decide ((f.data.length:Int)<o.n) || decide ((f.data.length:Int) - o.n<o.m)) then 1
   else 0
def H8 (o:Io) (f:A7):A7:=
 if o.k=1 then {f with data:=f.data++o.b}
 else if o.k=2 then {f with safe:=(f.data.length:Int)}
 else if o.k=3 then {f with name:=o.to}
 else if o.k=5 then {f with data:=f.data.take o.n.toNat,safe:=if o.n<f.safe then o.n else f.safe}
 else f
def Ga (d:Ab) (o:Io):Ab:=
 if o.k=0 then {d with files:=Bu ⟨o.name,[],0⟩ d.files}
 else match atF d.files o.name with
  | none=>d
  | some f=>
   if o.k=4 then {d with files:=takeF o.name d.files}
   else if o.k=3 then {d with files:=Bu (H8 o f) (takeF o.to (takeF o.name d.files))}
   else {d with files:=Bu (H8 o f) (takeF o.name d.files)}
def keptN (f:A7) (k:Int):Int:=if 0<k then (if (f.data.length:Int) - f.safe<k then (f.data.length:Int) else f.safe+k) else f.safe
def restF:List A7→List Int→List A7
 | [],_=>[]
 | f::r,ks=>⟨f.name,f.data.take (keptN f (ks.headD 0)).toNat,keptN f (ks.headD 0)⟩::restF r ks.tail
def Aq (d:Ab) (o:Io):Ab×List UInt8×Int×Int:=
 if o.k=8 then ({d with files:=restF d.files o.keep,down:=false,fuse:=0},[],0,0)
 else if o.k=9 then ({d with fuse:=if 0<o.n then o.n else 0},[],0,0)
 else if o.k<0∨9<o.k then (d,[],0,0)
 else if Dw d o≠0 then (d,[],0,Dw d o)
 else if o.k=6 then ({d with reads:=IntKind.i64.wrap (d.reads+o.m)},match atF d.files o.name with | none=>[] | some f=>(f.data.drop o.n.toNat).take o.m.toNat,0,0)
 else if o.k=7 then (d,[],match atF d.files o.name with | none=>0 | some f=>(f.data.length:Int),0)
 else if d.fuse=1 then ((if o.k=1 then Ga {d with fuse:=0,down:=true} o else {d with fuse:=0,down:=true}),[],0,3)
 else (Ga {d with fuse:=if 1<d.fuse then d.fuse - 1 else d.fuse,steps:=d.steps+1} o,[],0,0)
structure At (d:Ab):Prop where
 rise:Ff d.files
 names: ∀ f∈d.files,rightName f.name=true
 safe: ∀ f∈d.files,0≤f.safe∧f.safe≤(f.data.length:Int)
 count:d.files.length≤700
 room:0≤d.room∧d.room≤67108864
 used:(usedF d.files:Int)≤d.room
 fuse:0≤d.fuse∧d.fuse≤9223372036854775807
 steps:0≤d.steps
 reads: -9223372036854775808≤d.reads∧d.reads≤9223372036854775807
theorem Ch: ∀ {fs:List A7} {n:List UInt8} {f:A7},Ff fs→atF fs n=some f→usedF (takeF n fs)+f.data.length=usedF fs
 | [],_,_,_,h=>by cases h
 | y::r,n,f,h,ha=>by
  obtain⟨h1,h2⟩:=List.pairwise_cons.1 h
  unfold atF at ha
  rw [List.find?_cons] at ha
  by_cases hy:y.name=n
  ·rw [show (y.name==n)=true by simpa using hy] at ha
   simp only [Option.some.injEq] at ha
   subst ha
   have e1:takeF n (y::r)=r:=by
    unfold takeF
    rw [List.filter_cons,show (y.name==n)=true by simpa using hy]
    simp only [Bool.not_true,Bool.false_eq_true,if_false]
    rw [List.filter_eq_self]
    intro x hx
    have:=Hc (h1 x hx)
    rw [hy] at this
    simpa using this.symm
   rw [e1]
   simp only [usedF,List.map_cons,List.sum_cons]
   omega
  ·rw [show (y.name==n)=false by simpa using hy] at ha
   have e1:takeF n (y::r)=y::takeF n r:=by
    unfold takeF
    rw [List.filter_cons,show (y.name==n)=false by simpa using hy]
    rfl
   have:=Ch h2 ha
   rw [e1]
   simp only [usedF,List.map_cons,List.sum_cons] at this ⊢
   omega
theorem Hu {fs:List A7} {n:List UInt8} (h:atF fs n=none):usedF (takeF n fs)=usedF fs:=by rw [Kb h]
theorem G9 {fs:List A7} {n:List UInt8} {f f':A7} (h:Ff fs) (ha:atF fs n=some f) (hn:f'.name=n):usedF (setF n (fun _=>f') fs)+f.data.length=usedF fs+f'.data.length:=by
 have h1:=Ch h ha
 rw [←put_take h ha hn,Dh]
 omega
theorem Eb {fs:List A7} {f:A7} (h:f∈fs):f.data.length≤usedF fs:=by
 induction fs with
 | nil=>cases h
 | cons y r ih=>
  simp only [usedF,List.map_cons,List.sum_cons] at ih ⊢
  rcases Γ.1 h with rfl | h
  ·omega
  ·have:=ih h;omega
theorem mem_setF {n:List UInt8} {f' x:A7} {fs:List A7} (h:x∈setF n (fun _=>f') fs):x=f'∨x∈fs:=by
 obtain⟨y,hy,rfl⟩:=List.mem_map.1 h
 by_cases hc:(y.name==n)=true
 ·rw [ζ hc];exact .inl rfl
 ·rw [γ hc];exact .inr hy
theorem At.files {d:Ab} (h:At d) {fs:List A7} (h1:Ff fs) (h2: ∀ f∈fs,rightName f.name=true) (h3: ∀ f∈fs,0≤f.safe∧f.safe≤(f.data.length:Int)) (h4:fs.length≤700) (h5:(usedF fs:Int)≤d.room):At {d with files:=fs}:=
 ⟨h1,h2,h3,h4,h.room,h5,h.fuse,h.steps,h.reads⟩
theorem At.setFile {d:Ab} (h:At d) {n:List UInt8} {f f':A7} (ha:atF d.files n=some f) (hn:f'.name=n) (hs:0≤f'.safe∧f'.safe≤(f'.data.length:Int)) (hu:(usedF d.files:Int)+f'.data.length≤d.room+f.data.length):At {d with files:=setF n (fun _=>f') d.files}:=by
 have hu':=G9 h.rise ha hn
 obtain⟨hfn,hfm⟩:=Bi ha
 refine h.files (rise_set' h.rise fun y hy hyn=>by rw [hn,hyn]) (fun x hx=> ?_) (fun x hx=> ?_) (by simp [setF];exact h.count) (by omega)
 ·rcases mem_setF hx with rfl | hx
  ·rw [hn,←hfn];exact h.names f hfm
  ·exact h.names x hx
 ·rcases mem_setF hx with rfl | hx
  ·exact hs
  ·exact h.safe x hx
theorem At.take {d:Ab} (h:At d) (n:List UInt8):At {d with files:=takeF n d.files}:=by
 have hl:(takeF n d.files).length≤d.files.length:=List.length_filter_le _ _
 refine h.files (G6 h.rise) (fun x hx=>h.names x (List.mem_filter.1 hx).1) (fun x hx=>h.safe x (List.mem_filter.1 hx).1) (μ hl h.count) ?_
 rcases ha:atF d.files n with _ | f
 ·rw [Kb ha];exact h.used
 ·have:=Ch h.rise ha
  have:=h.used
  omega
theorem At.put {d:Ab} (h:At d) {f:A7} (hr:rightName f.name=true) (hs:0≤f.safe∧f.safe≤(f.data.length:Int)) (hn: ∀ x∈d.files,x.name≠f.name) (hc:d.files.length<700) (hu:(usedF d.files:Int)+f.data.length≤d.room):At {d with files:=Bu f d.files}:=by
 refine h.files (rise_put h.rise hn) (fun x hx=> ?_) (fun x hx=> ?_) (by rw [E9];omega) (by rw [Dh];omega)
 ·rcases mem_putF.1 hx with rfl | hx
  ·exact hr
  ·exact h.names x hx
 ·rcases mem_putF.1 hx with rfl | hx
  ·exact hs
  ·exact h.safe x hx
def Ae (d:Ab):Ab:=if d.fuse=1 then {d with fuse:=0,down:=true} else {d with fuse:=if 1<d.fuse then d.fuse - 1 else d.fuse,steps:=d.steps+1}
theorem Av (d:Ab):(Ae d).files=d.files:=by unfold Ae;split<;>rfl
theorem I1 (d:Ab):(Ae d).room=d.room:=by unfold Ae;split<;>rfl
theorem At.step {d:Ab} (h:At d):At (Ae d):=by
 have hf:=h.fuse
 have hs:=h.steps
 unfold Ae
 split
 ·exact⟨h.rise,h.names,h.safe,h.count,h.room,h.used,⟨by simp,by simp⟩,hs,h.reads⟩
 ·refine⟨h.rise,h.names,h.safe,h.count,h.room,h.used,?_,?_,h.reads⟩
  ·show 0≤(if 1<d.fuse then d.fuse - 1 else d.fuse)∧(if 1<d.fuse then d.fuse - 1 else d.fuse)≤9223372036854775807
   split<;>omega
  ·show 0≤d.steps+1
   omega
def opCreate (n:List UInt8):Io:=⟨0,n,[],[],0,0,[]⟩
def opAppend (n b:List UInt8):Io:=⟨1,n,[],b,0,0,[]⟩
def opSync (n:List UInt8):Io:=⟨2,n,[],[],0,0,[]⟩
def opRename (n t:List UInt8):Io:=⟨3,n,t,[],0,0,[]⟩
def Ar (n:List UInt8):Io:=⟨4,n,[],[],0,0,[]⟩
def Ct (n:List UInt8) (k:Int):Io:=⟨5,n,[],[],k,0,[]⟩
def opSize (n:List UInt8):Io:=⟨7,n,[],[],0,0,[]⟩
def Aj (d:Ab) (n:List UInt8):Int:=if d.down then 3 else if !rightName n then 50 else if (atF d.files n).isNone then 51 else 0
theorem G4 {d:Ab} {n:List UInt8} (h:Aj d n=0):d.down=false∧rightName n=true∧ ∃ f,atF d.files n=some f:=by
 unfold Aj at h
 rcases hd:d.down
 ·rcases hr:rightName n
  ·rw [hd,hr] at h;simp at h
  ·rcases ha:atF d.files n with _ | f
   ·rw [hd,hr,ha] at h;simp at h
   ·exact⟨rfl,rfl,f,rfl⟩
 ·rw [hd] at h;simp at h
theorem openE_cases (d:Ab) (n:List UInt8):(Aj d n=3∧d.down=true)∨(Aj d n=50∧d.down=false∧rightName n=false)∨(Aj d n=51∧d.down=false∧rightName n=true∧atF d.files n=none)∨(Aj d n=0∧d.down=false∧rightName n=true∧ ∃ f,atF d.files n=some f):=by
 unfold Aj
 rcases hd:d.down
 ·rcases hr:rightName n
  ·exact .inr (.inl ⟨by simp,rfl,rfl⟩)
  ·rcases ha:atF d.files n with _ | f
   ·exact .inr (.inr (.inl ⟨by simp,rfl,rfl,rfl⟩))
   ·exact .inr (.inr (.inr ⟨by simp,rfl,rfl,f,rfl⟩))
 ·exact .inl ⟨by simp,rfl⟩
theorem Bp {d:Ab} {o:Io} (hk:0≤o.k∧o.k≤7) (hb:Dw d o≠0):Aq d o=(d,[],0,Dw d o):=by
 unfold Aq
 rw [γ (by omega),γ (by omega),γ (by omega),ζ hb]
theorem Fw {d:Ab} {o:Io} (hk:0≤o.k∧o.k≤5) (hb:Dw d o=0):Aq d o=(if d.fuse=1 then (if o.k=1 then Ga (Ae d) o else Ae d) else Ga (Ae d) o,[],0,if d.fuse=1 then 3 else 0):=by
 unfold Aq Ae
 rw [γ (by omega),γ (by omega),γ (by omega),γ (by simp [hb]),γ (by omega),γ (by omega)]
 by_cases hf:d.fuse=1
 ·rw [ζ hf,ζ hf,ζ hf,ζ hf]
 ·rw [γ hf,γ hf,γ hf,γ hf]
theorem J0 (d:Ab) (n:List UInt8):Dw d (opSync n)=Aj d n:=by
 unfold Dw Aj opSync
 cases d.down
 ·cases rightName n
  ·rfl
  ·cases atF d.files n<;>rfl
 ·rfl
theorem Kg (d:Ab) (n:List UInt8):Dw d (Ar n)=Aj d n:=by
 unfold Dw Aj Ar
 cases d.down
 ·cases rightName n
  ·rfl
  ·cases atF d.files n<;>rfl
 ·rfl
theorem bar_size (d:Ab) (n:List UInt8):Dw d (opSize n)=Aj d n:=by
 unfold Dw Aj opSize
 cases d.down
 ·cases rightName n
  ·rfl
  ·cases atF d.files n<;>rfl
 ·rfl
theorem bar_cut {d:Ab} {n:List UInt8} {k:Int}:Dw d (Ct n k)=if Aj d n≠0 then Aj d n else match atF d.files n with | none=>0 | some f=>if decide (k<0) || decide ((f.data.length:Int)<k) then 1 else 0:=by
 unfold Dw Aj Ct
 cases d.down
 ·cases rightName n
  ·rfl
  ·cases atF d.files n<;>rfl
 ·rfl
theorem F8 {d:Ab} {n b:List UInt8}:Dw d (opAppend n b)=if Aj d n≠0 then Aj d n else if decide (d.room - (usedF d.files:Int)<(b.length:Int)) then 54 else 0:=by
 unfold Dw Aj opAppend
 cases d.down
 ·cases rightName n
  ·rfl
  ·cases atF d.files n
   ·rfl
   ·simp
 ·rfl
theorem F9 {d:Ab} {n:List UInt8}:Dw d (opCreate n)=if Aj d n=0 then 52 else if Aj d n≠51 then Aj d n else if decide (700≤d.files.length) then 53 else 0:=by
 unfold Dw Aj opCreate
 cases d.down
 ·cases rightName n
  ·rfl
  ·cases atF d.files n<;>rfl
 ·rfl
theorem Gx {d:Ab} {n t:List UInt8}:Dw d (opRename n t)=if (Aj d n=0∨Aj d n=51)∧rightName t=false then 50 else Aj d n:=by
 unfold Dw Aj opRename
 cases d.down
 ·cases rightName n
  ·cases rightName t<;>rfl
  ·cases rightName t
   ·cases atF d.files n<;>rfl
   ·cases atF d.files n<;>rfl
 ·rfl
end
def Ag (A:Nat→Prop) (w:World) (v:Value) (l:List UInt8):Prop:=
 ∃ oa cap,v= .slice oa l.length cap∧l.length≤cap∧(l≠ []→ ∃ b off,oa=some ⟨b,off,none⟩∧A b∧ ∀ (i:Nat) x,l[i]? =some x→w.cell? ⟨b,off+i,none⟩=some (.int .u8 (x.toNat:Int)))
theorem Ag.brow {A:Nat→Prop} {w:World} {v:Value} {l:List UInt8} (h:Ag A w v l):A2 w v l:=by
 obtain⟨oa,cap,h1,h2,h3⟩:=h
 exact⟨oa,cap,h1,h2,fun hn=>by obtain⟨b,off,e,_,hc⟩:=h3 hn;exact⟨b,off,e,hc⟩⟩
theorem Ag.mono {A A':Nat→Prop} {w:World} {v:Value} {l:List UInt8} (h:Ag A w v l) (hA: ∀ k,A k→A' k):Ag A' w v l:=by
 obtain⟨oa,cap,h1,h2,h3⟩:=h
 exact⟨oa,cap,h1,h2,fun hn=>by obtain⟨b,off,e,ha,hc⟩:=h3 hn;exact⟨b,off,e,hA b ha,hc⟩⟩
theorem Ag.below {A:Nat→Prop} {w w':World} {v:Value} {l:List UInt8} (h:Ag A w v l) (hb:Below w.heap.size w w'):Ag A w' v l:=by
 obtain⟨oa,cap,h1,h2,h3⟩:=h
 exact⟨oa,cap,h1,h2,fun hn=>by obtain⟨b,off,e,ha,hc⟩:=h3 hn;exact⟨b,off,e,ha,fun i x hx=>cell_later hb (hc i x hx)⟩⟩
theorem browIn_own {A:Nat→Prop} {w:World} {B:Nat} {v:Value} {l:List UInt8} (h:w.ownsRow B 5 1 v l.length (Lib.byteCells l)) (hA: ∀ k,B≤k→A k):Ag A w v l:=by
 by_cases hn:l=[]
 ·subst hn
  obtain⟨oa,cap,rfl,h1,_⟩:=Ac h
  exact⟨oa,cap,rfl,h1,fun h=>absurd rfl h⟩
 ·obtain⟨g,cap,rfl,hB,_,h1,_,h3⟩:=B8 h (Ψ.2 hn)
  exact⟨_,cap,rfl,h1,fun _=>⟨g,0,rfl,hA g hB,fun i x hi=>by rw [Nat.zero_add];exact h3 i _ (by rw [Lib.byteCells,List.getElem?_map,hi];rfl)⟩⟩
section
open Go.Maps (Keyed string_keyed)
structure Turned (S:Nat→Prop) (w w':World):Prop where
 os:w'.os=w.os
 tape:w'.tape=w.tape
 output:w'.output=w.output
 size:w.heap.size≤w'.heap.size
 block: ∀ k,k<w.heap.size→ ¬ S k→w'.heap[k]? =w.heap[k]?
theorem Turned.refl (S:Nat→Prop) (w:World):Turned S w w:=⟨rfl,rfl,rfl,ξ _,fun _ _ _=>rfl⟩
theorem Turned.below {S:Nat→Prop} {w w':World} (h:Below w.heap.size w w'):Turned S w w':=⟨h.os,h.tape,h.output,h.size,fun k hk _=>h.block k hk⟩
theorem Turned.trans {S S':Nat→Prop} {a b c:World} (h:Turned S a b) (k:Turned S' b c) (hs: ∀ i,S' i→S i∨a.heap.size≤i):Turned S a c:=
 ⟨k.os.trans h.os,k.tape.trans h.tape,k.output.trans h.output,μ h.size k.size,fun i hi hn=>(k.block i (Nat.lt_of_lt_of_le hi h.size) fun hS=>by
  rcases hs i hS with h1 | h1
  ·exact hn h1
  ·omega).trans (h.block i hi hn)⟩
theorem Turned.mono {S S':Nat→Prop} {w w':World} (h:Turned S w w') (hs: ∀ i,S i→S' i):Turned S' w w':=⟨h.os,h.tape,h.output,h.size,fun k hk hn=>h.block k hk fun hS=>hn (hs k hS)⟩
theorem Turned.grown {S:Nat→Prop} {w w':World} {row:Option Nat} (h:w.grownBy w' row) (hr: ∀ k,row=some k→S k):Turned S w w':=
 ⟨h.os,h.tape,h.output,h.size,fun k hk hn=>h.block k hk fun e=>hn (hr k e.symm)⟩
theorem Turned.setCell {S:Nat→Prop} (w:World) (a:Addr) (v:Value) (hS:S a.block):Turned S w (w.setCell a v):=
 ⟨rfl,rfl,rfl,by simp [World.setCell],fun k _ hn=>by
  simp only [World.setCell]
  rw [Array.getElem?_modify,γ (fun e=>hn (by rw [←e];exact hS))]⟩
theorem Turned.cell {S:Nat→Prop} {w w':World} (h:Turned S w w') {a:Addr} {v:Value} (hc:w.cell? a=some v) (hn: ¬ S a.block):w'.cell? a=some v:=by
 rw [World.cell?_of_block (h.block a.block (by
  unfold World.cell? at hc
  rcases hx:w.heap[a.block]? with _ | x
  ·rw [hx] at hc;simp at hc
  ·exact(δ.1 hx).1) hn)]
 exact hc
def datBlk:Value→Option Nat
 | .slice (some a) _ cap=>if cap=0 then none else some a.block
 | _=>none
def Gk (w:World) (v:Value) (l:List UInt8):Prop:=
 (l=[]∧ ∃ ao,v= .slice ao 0 0)∨
 ∃ g cap cur,v= .slice (some ⟨g,0,none⟩) l.length cap∧0<cap∧w.heap[g]? =some (.cells cur 5 (0,0))∧l.length≤cap∧cap≤maxLen∧cap≤cur.size∧cur.toList.take l.length=Lib.byteCells l
theorem Gk.shape {w:World} {v:Value} {l:List UInt8} (h:Gk w v l): ∃ ao cap,v= .slice ao l.length cap∧l.length≤cap∧cap≤maxLen:=by
 rcases h with⟨rfl,ao,rfl⟩ | ⟨g,cap,cur,rfl,_,_,h1,h2,_⟩
 ·exact⟨ao,0,rfl,ξ _,by decide⟩
 ·exact⟨_,cap,rfl,h1,h2⟩
theorem Gk.lt {w:World} {v:Value} {l:List UInt8} (h:Gk w v l) {g:Nat} (hg:datBlk v=some g):g<w.heap.size:=by
 rcases h with⟨rfl,ao,rfl⟩ | ⟨g',cap,cur,rfl,h0,h1,_⟩
 ·cases ao<;>simp [datBlk] at hg
 ·simp only [datBlk,γ (show ¬ cap=0 by omega),Option.some.injEq] at hg
  subst hg
  exact(δ.1 h1).1
theorem Gk.kept {w w':World} {v:Value} {l:List UInt8} (h:Gk w v l) (hk: ∀ g,datBlk v=some g→w'.heap[g]? =w.heap[g]?):Gk w' v l:=by
 rcases h with h | ⟨g,cap,cur,rfl,h0,h1,h2,h3,h4⟩
 ·exact .inl h
 ·exact .inr ⟨g,cap,cur,rfl,h0,by rw [hk g (by simp only [datBlk,γ (show ¬ cap=0 by omega)])];exact h1,h2,h3,h4⟩
theorem Gk.brow {w:World} {v:Value} {l:List UInt8} (h:Gk w v l):A2 w v l:=by
 rcases h with⟨rfl,ao,rfl⟩ | ⟨g,cap,cur,rfl,h0,h1,h2,h3,h4,h5⟩
 ·exact⟨ao,0,rfl,ξ _,fun h=>absurd rfl h⟩
 ·refine⟨_,cap,rfl,h2,fun _=>⟨g,0,rfl,fun i x hi=> ?_⟩⟩
  have hl:=getElem?_lt hi
  have e:cur.toList[i]? =some (.int .u8 (x.toNat:Int)):=by
   rw [←List.getElem?_take_of_lt hl,h5,Lib.byteCells,List.getElem?_map,hi];rfl
  rw [Nat.zero_add]
  simp only [World.cell?,h1]
  simpa using e
theorem datAt_cut {w:World} {v:Value} {l:List UInt8} (h:Gk w v l) (n:Nat) (hn:n≤l.length): ∃ ao cap,v= .slice ao l.length cap∧Gk w (.slice ao n n) (l.take n)∧(∀ g,datBlk (.slice ao n n)=some g→datBlk v=some g):=by
 rcases h with⟨rfl,ao,rfl⟩ | ⟨g,cap,cur,rfl,h0,h1,h2,h3,h4,h5⟩
 ·have:n=0:=by simpa using hn
  subst this
  exact⟨ao,0,rfl,.inl ⟨by simp,ao,rfl⟩,fun g h=>h⟩
 ·refine⟨_,cap,rfl,?_,fun k hk=> ?_⟩
  ·by_cases hz:n=0
   ·subst hz
    exact .inl ⟨by simp,_,rfl⟩
   ·have hl:(l.take n).length=n:=by simp;omega
    refine .inr ⟨g,n,cur,by rw [hl],by omega,h1,by omega,by omega,by omega,?_⟩
    rw [hl]
    have:(cur.toList.take l.length).take n=(Lib.byteCells l).take n:=by rw [h5]
    rw [List.take_take,Nat.min_eq_left hn] at this
    rw [this,Lib.byteCells,Lib.byteCells,List.map_take]
  ·by_cases hz:n=0
   ·simp [datBlk,hz] at hk
   ·simp only [datBlk,γ hz,Option.some.injEq] at hk
    simp only [datBlk,γ (show ¬ cap=0 by omega),hk]
theorem byteCells_append (a b:List UInt8):Lib.byteCells (a++b)=Lib.byteCells a++Lib.byteCells b:=by simp [Lib.byteCells]
theorem Br (a:List UInt8):(Lib.byteCells a).length=a.length:=by simp [Lib.byteCells]
theorem byteCells_one (a:List UInt8): ∀ u∈Lib.byteCells a,u.oneCell'=true:=fun u hu=>by
 obtain⟨_,_,rfl⟩:=List.mem_map.1 hu
 rfl
theorem src_brow {w:World} {v:Value} {l:List UInt8} (h:A2 w v l):Src Tryz.prog 1 39 v l.length (Lib.byteCells l) w:=by
 obtain⟨oa,cap,rfl,h1,h2⟩:=h
 by_cases hl:l=[]
 ·subst hl
  rcases oa with _ | a
  ·exact Src.ofNil w Tryz.underlying39 cap
  ·exact Src.ofSlice w Tryz.underlying39 a 0 cap [] rfl (fun _ _ h=>by simp at h) (fun _ h=>by cases h)
 ·obtain⟨b,off,rfl,hc⟩:=h2 hl
  refine Src.ofSlice w Tryz.underlying39 ⟨b,off,none⟩ l.length cap (Lib.byteCells l) (by rw [Br];omega) (fun j u hj=> ?_) (byteCells_one l)
  rw [Bc]
  rw [Lib.byteCells,List.getElem?_map] at hj
  obtain⟨x,hx,rfl⟩:=Option.map_eq_some_iff.1 hj
  exact hc j x hx
theorem append_dat {w:World} {v x:Value} {l m:List UInt8} (h:Gk w v l) (hx:A2 w x m) (hl:l.length+m.length≤140737488355328) (ty:TypeId):
  ∃ v' w',(Builtin.append_ #[39,39] ty #[v,x]).run Tryz.prog w= .ok v' w'∧Gk w' v' (l++m)∧w.grownBy w' (datBlk v)∧(∀ g,datBlk v'=some g→datBlk v=some g∨g=w.heap.size)∧v'.oneCell'=true:=by
 obtain⟨i0,hi,hz0,hz1,hz2⟩:=info_parts infoByteB
 have hs:=src_brow hx
 by_cases hm:m=[]
 ·subst hm
  obtain⟨ao,cap,rfl,hc,_⟩:=h.shape
  exact⟨_,w,run_append_nothing w 39 39 ty 5 i0 Tryz.underlying39 hi ao l.length cap hc x (by rw [hz1];exact hs),by rw [List.append_nil];exact h,⟨rfl,rfl,rfl,ξ _,fun _ _ _=>rfl⟩,fun g h=> .inl h,rfl⟩
 have hmp:0<m.length:=Ψ.2 hm
 have grow: ∀ (ao:Option Addr) (cap:Nat),v= .slice ao l.length cap→cap<l.length+m.length→(Builtin.firstCells 1 l.length (.slice ao l.length cap)).run Tryz.prog w.drew= .ok (Lib.byteCells l).toArray w.drew→
   ∃ v' w',(Builtin.append_ #[39,39] ty #[v,x]).run Tryz.prog w= .ok v' w'∧Gk w' v' (l++m)∧w.grownBy w' (datBlk v)∧(∀ g,datBlk v'=some g→datBlk v=some g∨g=w.heap.size)∧v'.oneCell'=true:=by
  rintro ao cap rfl hcap hold
  have hnx:=nextslicecap_le hcap
  refine⟨_,_,run_append_grow_src w 39 39 ty 5 i0 (.int .u8 0) Tryz.underlying39 hi hz0 ao l.length cap (Lib.byteCells l) (by rw [hz1];exact hold) x m.length (Lib.byteCells m) (by rw [hz1];exact hs) hcap (by omega) (by rw [hz2];omega),?_,?_,?_,rfl⟩
  ·have hge:=grownCap_ge w (l.length+m.length) cap 5
   refine .inr ⟨w.heap.size,_,_,by rw [η],by omega,σ w.drew _,by rw [η];omega,grownCap_le_maxLen w _ _ _ (by unfold maxLen;omega),?_,?_⟩
   ·simp [Builtin.zeroCells,Value.cells,Br]
    omega
   ·rw [←byteCells_append]
    simp only [Array.toList_append]
    rw [List.take_append_of_le_length (by rw [Br];exact ξ _)]
    rw [List.take_of_length_le (by rw [Br];exact ξ _)]
  ·exact⟨rfl,rfl,rfl,by simp,fun k hk _=>heap_alloc_old w.drew _ hk⟩
  ·intro g hg
   have hge:=grownCap_ge w (l.length+m.length) cap 5
   simp only [datBlk,γ (show ¬ grownCap w (l.length+m.length) cap 5=0 by omega),Option.some.injEq] at hg
   exact .inr hg.symm
 rcases h with⟨rfl,ao,rfl⟩ | ⟨g,cap,cur,rfl,h0,h1,h2,h3,h4,h5⟩
 ·exact grow ao 0 rfl (by simpa using hmp) (by
   cases ao
   ·exact run_firstCells_none w.drew 1 0 0 0
   ·simpa [Lib.byteCells] using run_firstCells_some (P:=Tryz.prog) w.drew 1 0 _ 0 0 [] rfl (fun _ _ h=>by simp at h))
 ·have hcur: ∀ j u,(Lib.byteCells l)[j]? =some u→w.cell? ⟨g,j,none⟩=some u:=fun j u hj=>by
   have hjl:j<l.length:=by have:=getElem?_lt hj;rwa [Br] at this
   rw [←h5,List.getElem?_take_of_lt hjl] at hj
   simp only [World.cell?,h1]
   simpa using hj
  by_cases hroom:l.length+m.length≤cap
  ·obtain⟨oa,xc,rfl,_,hxc⟩:=hx
   obtain⟨b,off,rfl,hc⟩:=hxc hm
   refine⟨_,_,run_append_room w 39 ty 5 i0 Tryz.underlying39 hi g l.length cap cur h1 ⟨b,off,none⟩ m.length xc (Lib.byteCells m) (by rw [Br,hz1];omega) (fun j u hj=> ?_) (byteCells_one m) hroom (by rw [Br,hz1];omega),?_,?_,?_,rfl⟩
   ·rw [Bc]
    rw [Lib.byteCells,List.getElem?_map] at hj
    obtain⟨y,hy,rfl⟩:=Option.map_eq_some_iff.1 hj
    exact hc j y hy
   ·refine .inr ⟨g,cap,_,by rw [η],h0,setRow_heap w g _ _ _ _ h1,by rw [η];exact hroom,h3,?_,?_⟩
    ·simp [hz1,Br];omega
    ·rw [hz1,Nat.mul_one,h5,byteCells_append]
     simp only [η]
     rw [List.take_append_of_le_length (by simp [Br])]
     rw [List.take_of_length_le (by simp [Br])]
   ·exact⟨rfl,rfl,rfl,by simp [World.setRow],fun k hk hne=>setRow_other _ _ _ _ fun e=>hne (by rw [e];simp only [datBlk,γ (show ¬ cap=0 by omega)])⟩
   ·intro k hk
    exact .inl hk
  ·exact grow _ cap rfl (by omega) (by
    exact run_firstCells_some (P:=Tryz.prog) w.drew 1 l.length ⟨g,0,none⟩ l.length cap (Lib.byteCells l) (by rw [Br];omega) (fun j u hj=>by rw [Bc,Nat.zero_add];exact hcur j u hj))
open Go.Maps (Keyed string_keyed)
structure Ad where
 fil:A7
 blk:Nat
 sl:Value
def fils (L:List Ad):List A7:=L.map (·.fil)
def Fx (L:List Ad):List (Lit×DataW Unit):=L.map fun s=>(.string s.fil.name,.lit (.int .u64 (s.blk:Int)))
def Cr (L:List Ad) (n:List UInt8):Option Ad:=L.find? fun s=>s.fil.name==n
def Jq (s:Ad):List Ad→List Ad
 | []=>[s]
 | y::r=>if bytesBefore s.fil.name y.fil.name then s::y::r else y::Jq s r
def Dq (n:List UInt8) (L:List Ad):List Ad:=L.filter fun s=> !(s.fil.name==n)
def setS (n:List UInt8) (x:Ad) (L:List Ad):List Ad:=L.map fun s=>if s.fil.name==n then x else s
theorem fils_put (s:Ad): ∀ L:List Ad,fils (Jq s L)=Bu s.fil (fils L)
 | []=>rfl
 | y::r=>by
  have h:=fils_put s r
  simp only [fils] at h ⊢
  unfold Jq
  rw [List.map_cons,Bu]
  split
  ·rfl
  ·rw [List.map_cons,h]
theorem Ij (n:List UInt8): ∀ L:List Ad,fils (Dq n L)=takeF n (fils L)
 | []=>rfl
 | y::r=>by
  have h:=Ij n r
  simp only [fils,Dq,takeF] at h ⊢
  rw [List.filter_cons,List.map_cons,List.filter_cons]
  split
  ·rw [List.map_cons,h]
  ·exact h
theorem fils_set (n:List UInt8) (x:Ad) (L:List Ad):fils (setS n x L)=setF n (fun _=>x.fil) (fils L):=by
 simp only [fils,setS,setF,List.map_map]
 refine List.map_congr_left fun s _=> ?_
 simp only [Function.comp]
 split<;>rfl
theorem fils_at (n:List UInt8): ∀ L:List Ad,atF (fils L) n=(Cr L n).map (·.fil)
 | []=>rfl
 | y::r=>by
  have h:=fils_at n r
  simp only [fils,atF,Cr] at h ⊢
  rw [List.map_cons,List.find?_cons,List.find?_cons]
  cases y.fil.name==n
  ·exact h
  ·rfl
theorem G7 {L:List Ad} {n:List UInt8} {s:Ad} (h:Cr L n=some s):s∈L∧s.fil.name=n:=
 ⟨List.mem_of_find?_eq_some h,by have:=List.find?_some h;simpa using this⟩
theorem insert_lt {x y:Lit×DataW Unit} {r:List (Lit×DataW Unit)} (h:x.1.before y.1=true):DataW.insert x (y::r)=x::y::r:=by rw [DataW.insert,ζ h]
theorem insert_ge {x y:Lit×DataW Unit} {r:List (Lit×DataW Unit)} (h:x.1.before y.1=false):DataW.insert x (y::r)=y::DataW.insert x r:=by rw [DataW.insert,γ (by rw [h];exact Bool.false_ne_true)]
def ent (s:Ad):Lit×DataW Unit:=(.string s.fil.name,.lit (.int .u64 (s.blk:Int)))
theorem Gz (s:Ad) (L:List Ad):Fx (s::L)=ent s::Fx L:=rfl
theorem ents_put' (s:Ad): ∀ L:List Ad,DataW.insert (ent s) (Fx L)=Fx (Jq s L)
 | []=>rfl
 | y::r=>by
  have h:=ents_put' s r
  rcases hb:bytesBefore s.fil.name y.fil.name with _ | _
  ·rw [Gz,insert_ge (show (ent s).1.before (ent y).1=false from hb),h,←Gz]
   rw [show Jq s (y::r)=y::Jq s r by rw [Jq,γ (by rw [hb];exact Bool.false_ne_true)]]
  ·rw [Gz,insert_lt (show (ent s).1.before (ent y).1=true from hb),←Gz,←Gz]
   rw [show Jq s (y::r)=s::y::r by rw [Jq,ζ hb]]
theorem ents_put (s:Ad) (L:List Ad):DataW.insert (.string s.fil.name,.lit (.int .u64 (s.blk:Int))) (Fx L)=Fx (Jq s L):=ents_put' s L
theorem ents_take (n:List UInt8): ∀ L:List Ad,(Fx L).filter (fun p=> !p.1.sameKey (.string n))=Fx (Dq n L)
 | []=>rfl
 | y::r=>by
  have h:=ents_take n r
  rcases hb:(!(y.fil.name==n)) with _ | _
  ·rw [Gz,List.filter_cons_of_neg (p:=fun p:Lit×DataW Unit=> !p.1.sameKey (.string n)) (a:=ent y) (show ¬ (!(ent y).1.sameKey (.string n))=true from fun e=>by rw [show (!(ent y).1.sameKey (.string n))=(!(y.fil.name==n)) from rfl,hb] at e;cases e),h]
   unfold Dq
   rw [List.filter_cons_of_neg (by rw [hb];exact Bool.false_ne_true)]
  ·rw [Gz,List.filter_cons_of_pos (p:=fun p:Lit×DataW Unit=> !p.1.sameKey (.string n)) (a:=ent y) (show (!(ent y).1.sameKey (.string n))=true from hb),h]
   unfold Dq
   rw [List.filter_cons_of_pos (p:=fun s:Ad=> !(s.fil.name==n)) (a:=y) hb]
   rfl
theorem ents_set {n:List UInt8} {x:Ad}: ∀ {L:List Ad},(∀ s∈L,s.fil.name=n→x.fil.name=s.fil.name∧x.blk=s.blk)→Fx (setS n x L)=Fx L:=by
 intro L h
 simp only [Fx,setS,List.map_map]
 refine List.map_congr_left fun s hs=> ?_
 simp only [Function.comp]
 split
 ·rename_i hc
  obtain⟨h1,h2⟩:=h s hs (by simpa using hc)
  rw [h1,h2]
 ·rfl
theorem ents_at (n:List UInt8) (z:DataW Unit): ∀ L:List Ad,(DataW.map (Fx L)).atKey (.string n) z=match Cr L n with | none=>z | some s=> .lit (.int .u64 (s.blk:Int))
 | []=>rfl
 | y::r=>by
  have h:=ents_at n z r
  simp only [Fx,Cr,DataW.atKey] at h ⊢
  rw [List.map_cons,List.find?_cons,List.find?_cons]
  simp only [Lit.sameKey] at h ⊢
  cases y.fil.name==n
  ·exact h
  ·rfl
theorem I9 (L:List Ad):(Fx L).length=L.length:=by simp [Fx]
theorem mem_putS {s x:Ad}: ∀ {L:List Ad},x∈Jq s L↔x=s∨x∈L
 | []=>by simp [Jq]
 | y::r=>by
  unfold Jq
  split
  ·simp
  ·simp only [Γ,mem_putS (L:=r)]
   constructor
   ·rintro(h | h | h)
    ·exact .inr (.inl h)
    ·exact .inl h
    ·exact .inr (.inr h)
   ·rintro(h | h | h)
    ·exact .inr (.inl h)
    ·exact .inl h
    ·exact .inr (.inr h)
theorem putS_perm (s:Ad): ∀ L:List Ad,(Jq s L).Perm (s::L)
 | []=>List.Perm.refl _
 | y::r=>by
  unfold Jq
  split
  ·exact List.Perm.refl _
  ·exact((putS_perm s r).cons y).trans (List.Perm.swap s y r)
theorem takeS_length (n:List UInt8) (L:List Ad):(Dq n L).length≤L.length:=List.length_filter_le _ _
def Eg:Value→Option (DataW Unit×List MemPlace)
 | .pointer none=>some (.nil,[])
 | .pointer (some ⟨g,0,none⟩)=>some (.lit (.int .u64 (g:Int)),[])
 | _=>none
theorem ptrElem_nil {v:Value} {ps:List MemPlace} (h:Eg v=some (.nil,ps)):v= .pointer none:=by
 unfold Eg at h
 split at h
 ·rfl
 ·simp at h
 ·cases h
theorem ptrElem_at {v:Value} {g:Nat} {ps:List MemPlace} (h:Eg v=some (.lit (.int .u64 (g:Int)),ps)):v= .pointer (some ⟨g,0,none⟩):=by
 unfold Eg at h
 split at h
 ·simp at h
 ·rename_i g'
  simp at h
  have e:g'=g:=by omega
  rw [e]
 ·cases h
def Far (s t:Ad):Prop:=s.blk≠t.blk∧datBlk s.sl≠some t.blk∧datBlk t.sl≠some s.blk∧ ∀ g,datBlk s.sl=some g→datBlk t.sl≠some g
theorem Far.symm {s t:Ad} (h:Far s t):Far t s:=⟨h.1.symm,h.2.2.1,h.2.1,fun g hg ht=>h.2.2.2 g ht hg⟩
def Hr (s:Ad):Array Value:= #[s.sl,.int .i64 s.fil.safe]
def Cn (w:World) (s:Ad):Prop:=w.heap[s.blk]? =some (.cells (Hr s) 109 (0,0))∧Gk w s.sl s.fil.data
theorem Cn.lt {w:World} {s:Ad} (h:Cn w s):s.blk<w.heap.size:=(δ.1 h.1).1
theorem Cn.kept {w w':World} {s:Ad} (h:Cn w s) (h1:w'.heap[s.blk]? =w.heap[s.blk]?) (h2: ∀ g,datBlk s.sl=some g→w'.heap[g]? =w.heap[g]?):Cn w' s:=⟨by rw [h1];exact h.1,h.2.kept h2⟩
theorem Cn.c0 {w:World} {s:Ad} (h:Cn w s):w.cell? ⟨s.blk,0,none⟩=some s.sl:=by simp [World.cell?,h.1,Hr]
theorem Cn.c1 {w:World} {s:Ad} (h:Cn w s):w.cell? ⟨s.blk,1,none⟩=some (.int .i64 s.fil.safe):=by simp [World.cell?,h.1,Hr]
theorem Cn.free {w:World} {s:Ad} (h:Cn w s) (j:Nat):w.frozen? ⟨s.blk,j,none⟩=false:=by simp [World.frozen?,h.1]
structure Dv (w:World) (f m:Nat) (L:List Ad):Prop where
 map:w.ownsMap Tryz.prog 9 Eg m L.length (.map (Fx L))
 slot: ∀ s∈L,Cn w s
 rise:Ff (fils L)
 apart:f≠m∧(∀ s∈L,s.blk≠f∧s.blk≠m∧datBlk s.sl≠some f∧datBlk s.sl≠some m∧datBlk s.sl≠some s.blk)∧L.Pairwise Far
def foot (f m:Nat) (L:List Ad) (k:Nat):Prop:=k=f∨k=m∨ ∃ s∈L,k=s.blk∨datBlk s.sl=some k
theorem Dv.lt {w:World} {f m:Nat} {L:List Ad} (h:Dv w f m L) (hf:f<w.heap.size): ∀ k,foot f m L k→k<w.heap.size:=by
 rintro k (rfl | rfl | ⟨s,hs,rfl | hk⟩)
 ·exact hf
 ·exact h.map.lt
 ·exact(h.slot s hs).lt
 ·exact(h.slot s hs).2.lt hk
theorem Dv.kept {w w':World} {f m:Nat} {L:List Ad} (h:Dv w f m L) (hk: ∀ k,k≠f→foot f m L k→w'.heap[k]? =w.heap[k]?):Dv w' f m L:=by
 refine⟨?_,fun s hs=> ?_,h.rise,h.apart⟩
 ·obtain⟨es,clock,hb,r⟩:=h.map
  exact⟨es,clock,by rw [hk m h.apart.1.symm (.inr (.inl rfl))];exact hb,r⟩
 ·obtain⟨h1,h2,h3,h4,h5⟩:=h.apart.2.1 s hs
  exact(h.slot s hs).kept (hk _ h1 (.inr (.inr ⟨s,hs,.inl rfl⟩))) fun g hg=>hk g (fun e=>h3 (by rw [←e];exact hg)) (.inr (.inr ⟨s,hs,.inr hg⟩))
theorem Dv.below {w w':World} {f m:Nat} {L:List Ad} (h:Dv w f m L) (hf:f<w.heap.size) (hb:Below w.heap.size w w'):Dv w' f m L:=h.kept fun k _ hk=>hb.block k (h.lt hf k hk)
theorem Dv.turned {w w':World} {f m:Nat} {L:List Ad} {S:Nat→Prop} (h:Dv w f m L) (hf:f<w.heap.size) (ht:Turned S w w') (hS: ∀ k,k≠f→foot f m L k→ ¬ S k):Dv w' f m L:=h.kept fun k hk hfoot=>ht.block k (h.lt hf k hfoot) (hS k hk hfoot)
theorem Dv.one {w:World} {f m:Nat} {L:List Ad} (h:Dv w f m L) {n:List UInt8} {s t:Ad} (hs:Cr L n=some s) (ht:t∈L) (hn:t.fil.name=n):t=s:=by
 have hr:=h.rise
 clear h
 induction L with
 | nil=>cases ht
 | cons y r ih=>
  simp only [fils,List.map_cons] at hr
  obtain⟨h1,h2⟩:=List.pairwise_cons.1 hr
  unfold Cr at hs
  rw [List.find?_cons] at hs
  by_cases hy:y.fil.name=n
  ·rw [show (y.fil.name==n)=true by simpa using hy] at hs
   simp only [Option.some.injEq] at hs
   rcases Γ.1 ht with rfl | ht
   ·exact hs
   ·exact absurd (hy.trans hn.symm) (Hc (h1 t.fil (List.mem_map.2 ⟨t,ht,rfl⟩)))
  ·rw [show (y.fil.name==n)=false by simpa using hy] at hs
   rcases Γ.1 ht with rfl | ht
   ·exact absurd hn hy
   ·exact ih hs ht h2
theorem setS_mem {n:List UInt8} {x t:Ad} {L:List Ad} (h:t∈setS n x L):(t=x∧ ∃ s∈L,s.fil.name=n)∨(t∈L∧t.fil.name≠n):=by
 obtain⟨s,hs,rfl⟩:=List.mem_map.1 h
 by_cases hc:s.fil.name=n
 ·rw [show (s.fil.name==n)=true by simpa using hc]
  exact .inl ⟨rfl,s,hs,hc⟩
 ·rw [show (s.fil.name==n)=false by simpa using hc]
  exact .inr ⟨hs,hc⟩
theorem Dv.set {w w':World} {f m:Nat} {L:List Ad} {n:List UInt8} {s x:Ad} (h:Dv w f m L) (hf:f<w.heap.size) (hs:Cr L n=some s) (hn:x.fil.name=n) (hb:x.blk=s.blk) (hx:Cn w' x)
  (hd: ∀ g,datBlk x.sl=some g→datBlk s.sl=some g∨w.heap.size≤g) (hk: ∀ k,k≠f→k≠s.blk→datBlk s.sl≠some k→k<w.heap.size→w'.heap[k]? =w.heap[k]?):Dv w' f m (setS n x L):=by
 obtain⟨hsm,hsn⟩:=G7 hs
 have hen:Fx (setS n x L)=Fx L:=ents_set fun t ht hnt=>by
  obtain rfl:=h.one hs ht hnt
  exact⟨hn.trans hnt.symm,hb⟩
 obtain⟨a1,a2,a3⟩:=h.apart
 obtain⟨b1,b2,b3,b4,b5⟩:=a2 s hsm
 have hfar: ∀ t∈L,t.fil.name≠n→Far s t:=fun t ht hnt=>by
  obtain⟨i,hi⟩:=List.getElem?_of_mem ht
  obtain⟨j,hj⟩:=List.getElem?_of_mem hsm
  have hij:i≠j:=fun e=>hnt (by rw [e,hj] at hi;cases hi;exact hsn)
  have hi':=List.getElem?_eq_some_iff.1 hi
  have hj':=List.getElem?_eq_some_iff.1 hj
  rcases Nat.lt_or_gt_of_ne hij with hlt | hlt
  ·have hF:=List.pairwise_iff_getElem.1 a3 i j hi'.1 hj'.1 hlt
   rw [hi'.2,hj'.2] at hF
   exact hF.symm
  ·have hF:=List.pairwise_iff_getElem.1 a3 j i hj'.1 hi'.1 hlt
   rw [hi'.2,hj'.2] at hF
   exact hF
 have hxfar: ∀ t∈L,t.fil.name≠n→Far x t:=fun t ht hnt=>by
  obtain⟨c1,c2,c3,c4⟩:=hfar t ht hnt
  have ht1:=(h.slot t ht).lt
  refine⟨by rw [hb];exact c1,fun e=> ?_,by rw [hb];exact c3,fun g hg e=> ?_⟩
  ·rcases hd _ e with h1 | h1
   ·exact c2 h1
   ·omega
  ·rcases hd _ hg with h1 | h1
   ·exact c4 g h1 e
   ·have:=(h.slot t ht).2.lt e;omega
 have hlen:(setS n x L).length=L.length:=by simp [setS]
 refine⟨?_,fun t ht=> ?_,?_,a1,fun t ht=> ?_,?_⟩
 ·rw [hen,hlen]
  obtain⟨es,clock,hbm,r⟩:=h.map
  exact⟨es,clock,by rw [hk m a1.symm b2.symm b4 h.map.lt];exact hbm,r⟩
 ·rcases setS_mem ht with⟨rfl,_⟩ | ⟨ht,hnt⟩
  ·exact hx
  ·obtain⟨c1,c2,c3,c4⟩:=hfar t ht hnt
   obtain⟨d1,d2,d3,d4,d5⟩:=a2 t ht
   exact(h.slot t ht).kept (hk _ d1 c1.symm (fun e=>c2 e) (h.slot t ht).lt) fun g hg=>hk g (fun e=>d3 (by rw [←e];exact hg)) (fun e=>c3 (by rw [←e];exact hg)) (fun e=>c4 g e hg) ((h.slot t ht).2.lt hg)
 ·rw [fils_set]
  refine rise_set' (n:=n) h.rise fun y hy hyn=> ?_
  show x.fil.name=y.name
  rw [hn];exact hyn
 ·rcases setS_mem ht with⟨rfl,_⟩ | ⟨ht,hnt⟩
  ·rw [hb]
   refine⟨b1,b2,fun e=> ?_,fun e=> ?_,fun e=> ?_⟩
   ·rcases hd _ e with h1 | h1
    ·exact b3 h1
    ·omega
   ·rcases hd _ e with h1 | h1
    ·exact b4 h1
    ·have:=h.map.lt;omega
   ·rcases hd _ e with h1 | h1
    ·exact b5 h1
    ·have:=(h.slot s hsm).lt;omega
  ·exact a2 t ht
 ·unfold setS
  rw [List.pairwise_map]
  have hnames:L.Pairwise fun a b=>a.fil.name≠b.fil.name:=by
   have:=h.rise
   unfold Ff fils at this
   rw [List.pairwise_map] at this
   exact this.imp fun hab=>Hc hab
  refine(a3.and hnames).imp_of_mem fun {a b} ha hb' hab=> ?_
  obtain⟨hF,hne⟩:=hab
  by_cases h1:a.fil.name=n
  ·have h2:b.fil.name≠n:=fun e=>hne (h1.trans e.symm)
   rw [show (a.fil.name==n)=true by simpa using h1,show (b.fil.name==n)=false by simpa using h2]
   exact hxfar b hb' h2
  ·rw [show (a.fil.name==n)=false by simpa using h1]
   by_cases h2:b.fil.name=n
   ·rw [show (b.fil.name==n)=true by simpa using h2]
    exact(hxfar a ha h1).symm
   ·rw [show (b.fil.name==n)=false by simpa using h2]
    exact hF
theorem keyName {n:List UInt8} (hn:n.length≤1000):keyOf Tryz.prog 9 (.string ⟨n.toArray⟩)=some (.string n):=by
 have:=WideMaps.keyOf_string_mk (P:=Tryz.prog) Tryz.underlying9 (s:=⟨n.toArray⟩) (by simp [ByteArray.size,maxLen];omega)
 simpa using this
theorem owns_tight {w:World} {m n:Nat} {es:List (Lit×DataW Unit)} (h:w.ownsMap Tryz.prog 9 Eg m n (.map es)):w.ownsMap Tryz.prog 9 Eg m es.length (.map es):=by
 obtain⟨e,clock,hb,F,_,hD⟩:=h
 refine⟨e,clock,hb,F,?_,hD⟩
 have:=congrArg (fun d:DataW Unit=>match d with | .map l=>l.length | _=>0) hD
 simp only [length_sorted] at this
 rw [this]
 simp
theorem Dv.put {w:World} {f m:Nat} {L:List Ad} {s:Ad} (h:Dv w f m L) (hn:s.fil.name.length≤1000) (hL:L.length≤1000000) (hx:Cn w s)
  (h1:s.blk≠f∧s.blk≠m∧datBlk s.sl≠some f∧datBlk s.sl≠some m∧datBlk s.sl≠some s.blk) (h2: ∀ t∈Dq s.fil.name L,Far s t):
  ∃ w',(Instr.mapUpdate 93 (.map (some m)) (.string ⟨s.fil.name.toArray⟩) (.pointer (some ⟨s.blk,0,none⟩))).run Tryz.prog w= .ok () w'∧Dv w' f m (Jq s (Dq s.fil.name L))∧w.grownBy w' (some m):=by
 obtain⟨w',hrun,hown,hturn⟩:=h.map.store (string_keyed Tryz.underlying9) Tryz.underlying93 (by unfold maxLen;omega) (keyName hn) (show Eg (.pointer (some ⟨s.blk,0,none⟩))=some (.lit (.int .u64 (s.blk:Int)),[]) from rfl)
 have hg:=hturn.grown
 have hother: ∀ k,k<w.heap.size→k≠m→w'.heap[k]? =w.heap[k]? :=fun k hk hne=>hg.block k hk (by simpa using hne)
 obtain⟨a1,a2,a3⟩:=h.apart
 refine⟨w',hrun,⟨?_,fun t ht=> ?_,?_,a1,fun t ht=> ?_,?_⟩,hg⟩
 ·rw [DataW.put_eq] at hown
  have e:ChangeMaps.putKey (.string s.fil.name) (.lit (.int .u64 (s.blk:Int))) (Fx L)=Fx (Jq s (Dq s.fil.name L)):=by
   unfold ChangeMaps.putKey
   rw [show (Fx L).filter (ChangeMaps.notKey (.string s.fil.name))=Fx (Dq s.fil.name L) from ents_take _ L]
   exact ents_put s _
  rw [e] at hown
  have:=owns_tight hown
  rwa [I9] at this
 ·rcases mem_putS.1 ht with rfl | ht
  ·exact hx.kept (hother _ hx.lt h1.2.1) fun g hg'=>hother g (hx.2.lt hg') fun e=>h1.2.2.2.1 (by rw [←e];exact hg')
  ·have ht':=(List.mem_filter.1 ht).1
   obtain⟨b1,b2,b3,b4,b5⟩:=a2 t ht'
   exact(h.slot t ht').kept (hother _ (h.slot t ht').lt b2) fun g hg'=>hother g ((h.slot t ht').2.lt hg') fun e=>b4 (by rw [←e];exact hg')
 ·rw [fils_put,Ij]
  refine rise_put (G6 h.rise) fun x hx'=> ?_
  have:=(List.mem_filter.1 hx').2
  simpa using this
 ·rcases mem_putS.1 ht with rfl | ht
  ·exact h1
  ·exact a2 t (List.mem_filter.1 ht).1
 ·refine((putS_perm s _).symm.pairwise_iff (fun {_ _} hab=>Far.symm hab)).1 ?_
  exact List.pairwise_cons.2 ⟨h2,a3.sublist List.filter_sublist⟩
theorem Dv.take {w:World} {f m:Nat} {L:List Ad} {n:List UInt8} (h:Dv w f m L) (hn:n.length≤1000) (ty:TypeId):
  ∃ w',(Builtin.delete_ #[93,9] ty #[.map (some m),.string ⟨n.toArray⟩]).run Tryz.prog w= .ok (.tuple #[]) w'∧Dv w' f m (Dq n L)∧w.grownBy w' (some m):=by
 obtain⟨w',hrun,hown,hturn⟩:=h.map.drop (string_keyed Tryz.underlying9) Tryz.underlying93 (keyName hn) ty
 have hg:=hturn.grown
 have hother: ∀ k,k<w.heap.size→k≠m→w'.heap[k]? =w.heap[k]? :=fun k hk hne=>hg.block k hk (by simpa using hne)
 obtain⟨a1,a2,a3⟩:=h.apart
 refine⟨w',hrun,⟨?_,fun t ht=> ?_,?_,a1,fun t ht=>a2 t (List.mem_filter.1 ht).1,a3.sublist List.filter_sublist⟩,hg⟩
 ·have e:(DataW.map (Fx L)).del (.string n)= .map (Fx (Dq n L)):=by
   rw [DataW.del_eq]
   unfold ChangeMaps.delKey
   rw [show (Fx L).filter (ChangeMaps.notKey (.string n))=Fx (Dq n L) from ents_take _ L]
  rw [e] at hown
  have:=owns_tight hown
  rwa [I9] at this
 ·have ht':=(List.mem_filter.1 ht).1
  obtain⟨b1,b2,b3,b4,b5⟩:=a2 t ht'
  exact(h.slot t ht').kept (hother _ (h.slot t ht').lt b2) fun g hg'=>hother g ((h.slot t ht').2.lt hg') fun e=>b4 (by rw [←e];exact hg')
 ·rw [Ij];exact G6 h.rise
theorem Dv.look {w:World} {f m:Nat} {L:List Ad} {n:List UInt8} (h:Dv w f m L) (hn:n.length≤1000):
  (Instr.lookup 93 (.map (some m)) (.string ⟨n.toArray⟩) false).run Tryz.prog w= .ok (match Cr L n with | none=> .pointer none | some s=> .pointer (some ⟨s.blk,0,none⟩)) w:=by
 obtain⟨v,ps,hrun,hv⟩:=h.map.lookup (string_keyed Tryz.underlying9) Tryz.underlying93 (z:= .pointer none) (by kernel_rfl) (show Eg (.pointer none)=some (.nil,[]) from rfl) (keyName hn)
 rw [hrun]
 rw [ents_at] at hv
 rcases hs:Cr L n with _ | s
 ·rw [hs] at hv
  rw [ptrElem_nil hv]
 ·rw [hs] at hv
  rw [ptrElem_at hv]
structure Hd where
 room:Int
 used:Int
 steps:Int
 reads:Int
 fuse:Int
 down:Bool
def hdCs (m:Nat) (h:Hd):Array Value:= #[.map (some m),.int .i64 h.room,.int .i64 h.used,.int .i64 h.steps,.int .i64 h.reads,.int .i64 h.fuse,.bool h.down]
def C6 (w:World) (f m:Nat) (h:Hd):Prop:=w.heap[f]? =some (.cells (hdCs m h) 95 (0,0))
theorem C6.lt {w:World} {f m:Nat} {h:Hd} (H:C6 w f m h):f<w.heap.size:=(δ.1 H).1
theorem C6.cell {w:World} {f m:Nat} {h:Hd} (H:C6 w f m h) (j:Nat):w.cell? ⟨f,j,none⟩=(hdCs m h)[j]? :=by
 unfold C6 at H;simp [World.cell?,H]
theorem C6.free {w:World} {f m:Nat} {h:Hd} (H:C6 w f m h) (j:Nat):w.frozen? ⟨f,j,none⟩=false:=by unfold C6 at H;simp [World.frozen?,H]
theorem C6.c0 {w:World} {f m:Nat} {h:Hd} (H:C6 w f m h):w.cell? ⟨f,0,none⟩=some (.map (some m)):=H.cell 0
theorem C6.c1 {w:World} {f m:Nat} {h:Hd} (H:C6 w f m h):w.cell? ⟨f,1,none⟩=some (.int .i64 h.room):=H.cell 1
theorem C6.c2 {w:World} {f m:Nat} {h:Hd} (H:C6 w f m h):w.cell? ⟨f,2,none⟩=some (.int .i64 h.used):=H.cell 2
theorem C6.c3 {w:World} {f m:Nat} {h:Hd} (H:C6 w f m h):w.cell? ⟨f,3,none⟩=some (.int .i64 h.steps):=H.cell 3
theorem C6.c4 {w:World} {f m:Nat} {h:Hd} (H:C6 w f m h):w.cell? ⟨f,4,none⟩=some (.int .i64 h.reads):=H.cell 4
theorem C6.c5 {w:World} {f m:Nat} {h:Hd} (H:C6 w f m h):w.cell? ⟨f,5,none⟩=some (.int .i64 h.fuse):=H.cell 5
theorem C6.c6 {w:World} {f m:Nat} {h:Hd} (H:C6 w f m h):w.cell? ⟨f,6,none⟩=some (.bool h.down):=H.cell 6
theorem C6.set {w:World} {f m:Nat} {h h':Hd} (H:C6 w f m h) (j:Nat) (v:Value) (e:(hdCs m h).setIfInBounds j v=hdCs m h'):C6 (w.setCell ⟨f,j,none⟩ v) f m h':=by
 unfold C6 at H ⊢
 rw [←e]
 simp only [World.setCell]
 rw [Array.getElem?_modify]
 simp [H]
theorem C6.kept {w w':World} {f m:Nat} {h:Hd} (H:C6 w f m h) (hk:w'.heap[f]? =w.heap[f]?):C6 w' f m h:=by unfold C6 at H ⊢;rw [hk];exact H
theorem C6.below {w w':World} {f m:Nat} {h:Hd} (H:C6 w f m h) (hb:Below w.heap.size w w'):C6 w' f m h:=H.kept (hb.block f H.lt)
def Db (d:Ab):Hd:=⟨d.room,(usedF d.files:Int),d.steps,d.reads,d.fuse,d.down⟩
structure FsAt (w:World) (f m:Nat) (d:Ab) (L:List Ad):Prop where
 hd:C6 w f m (Db d)
 body:Dv w f m L
 fil:fils L=d.files
 ok:At d
theorem FsAt.below {w w':World} {f m:Nat} {d:Ab} {L:List Ad} (h:FsAt w f m d L) (hb:Below w.heap.size w w'):FsAt w' f m d L:=⟨h.hd.below hb,h.body.below h.hd.lt hb,h.fil,h.ok⟩
theorem FsAt.lt {w:World} {f m:Nat} {d:Ab} {L:List Ad} (h:FsAt w f m d L): ∀ k,foot f m L k→k<w.heap.size:=h.body.lt h.hd.lt
def I2 (h:Hd):Hd:=if h.fuse=1 then {h with fuse:=0,down:=true} else {h with fuse:=if 1<h.fuse then h.fuse - 1 else h.fuse,steps:=h.steps+1}
theorem stepHd_of (d:Ab):I2 (Db d)=Db (Ae d):=by
 unfold I2 Ae Db
 by_cases h:d.fuse=1
 ·rw [ζ h,ζ h]
 ·rw [γ h,γ h]
theorem C6.otherCell {w:World} {f m:Nat} {h:Hd} (H:C6 w f m h) {k:Nat} (hn:f≠k) (j:Nat) (v:Value):C6 (w.setCell ⟨k,j,none⟩ v) f m h:=by
 unfold C6 at H ⊢
 simp only [World.setCell]
 rw [Array.getElem?_modify]
 simp [H,Ne.symm hn]
theorem Ka (w:World) (f m:Nat) (h:Hd) (H:C6 w f m h) (h0:0≤h.fuse) (h1:h.fuse≤9223372036854775807) (s0:0≤h.steps) (s1:h.steps<4611686018427387904):
  Calls Tryz.prog 84 #[.pointer (some ⟨f,0,none⟩)] w fun e w'=>e= .returned (.bool (!(decide (h.fuse=1))))∧C6 w' f m (I2 h)∧Turned (fun k=>k=f) w w':=by
 have c3:=H.c3
 have c5:=H.c5
 have c6:=H.c6
 have f3:=H.free 3
 have f5:=H.free 5
 have f6:=H.free 6
 have HH:=Qh H
 have hw3:IntKind.i64.wrap (h.steps+1)=h.steps+1:=by rw [κ];omega
 by_cases hf0:h.fuse=0
 ·have t1:decide (0<h.fuse)=false:=by simp;omega
  have HE:=Qh (show I2 h={h with steps:=h.steps+1} by unfold I2;rw [γ (by omega),γ (by omega)])
  have HD:=Qh (show decide (h.fuse=1)=false by simp;omega)
  clear hf0 h0 h1 H
  go_enter Tryz.func84,Tryz.ntmps84
  go_wp2
  go_ret
  refine⟨by rw [HD.out];rfl,?_,Turned.setCell _ _ _ rfl⟩
  rw [HE.out]
  exact HH.out.set 3 _ rfl
 by_cases hf1:h.fuse=1
 ·have t1:decide (0<h.fuse)=true:=by simp;omega
  have hw5':IntKind.i64.wrap (h.fuse - 1)=0:=by rw [κ];omega
  have HE:=Qh (show I2 h={h with fuse:=0,down:=true} by unfold I2;rw [ζ hf1])
  have HD:=Qh (show decide (h.fuse=1)=true by simp [hf1])
  clear hf0 h0 h1 H hf1
  go_enter Tryz.func84,Tryz.ntmps84
  go_wp2
  go_ret
  refine⟨by rw [HD.out];rfl,?_,(Turned.setCell (S:=fun k=>k=f) _ ⟨f,5,none⟩ _ rfl).trans (Turned.setCell (S:=fun k=>k=f) _ ⟨f,6,none⟩ _ rfl) fun i h=> .inl h⟩
  rw [HE.out]
  exact(HH.out.set (h':={h with fuse:=0}) 5 _ rfl).set 6 _ rfl
 ·have t1:decide (0<h.fuse)=true:=by simp;omega
  have hw5':IntKind.i64.wrap (h.fuse - 1)=h.fuse - 1:=by rw [κ];omega
  have t2:(h.fuse - 1==0)=false:=by rw [beq_eq_false_iff_ne];omega
  have HE:=Qh (show I2 h={h with fuse:=h.fuse - 1,steps:=h.steps+1} by unfold I2;rw [γ hf1,ζ (by omega)])
  have HD:=Qh (show decide (h.fuse=1)=false by simp [hf1])
  clear hf0 h0 h1 H hf1
  go_enter Tryz.func84,Tryz.ntmps84
  go_wp2
  go_ret
  refine⟨by rw [HD.out];rfl,?_,(Turned.setCell (S:=fun k=>k=f) _ ⟨f,5,none⟩ _ rfl).trans (Turned.setCell (S:=fun k=>k=f) _ ⟨f,3,none⟩ _ rfl) fun i h=> .inl h⟩
  rw [HE.out]
  exact(HH.out.set (h':={h with fuse:=h.fuse - 1}) 5 _ rfl).set 3 _ rfl
theorem Il {n:List UInt8} (h:rightName n=true):n.length≤1000:=by
 simp only [rightName,Bool.and_eq_true,decide_eq_true_eq] at h
 omega
def J5 (L:List Ad) (d:Ab) (n:List UInt8):Value:=if Aj d n=0 then (match Cr L n with | none=> .pointer none | some s=> .pointer (some ⟨s.blk,0,none⟩)) else .pointer none
theorem Hl (w:World) (f m:Nat) (d:Ab) (L:List Ad) (h:FsAt w f m d L) (n:List UInt8):
  Calls Tryz.prog 59 #[.pointer (some ⟨f,0,none⟩),.string ⟨n.toArray⟩] w fun e w'=>e= .returned (.tuple #[J5 L d n,.int .i64 (Aj d n)])∧w=w':=by
 have c0:=h.hd.c0
 have c6:=h.hd.c6
 have hat:=fils_at n L
 rw [h.fil] at hat
 rcases openE_cases d n with⟨he,hd⟩ | ⟨he,hd,hr⟩ | ⟨he,hd,hr,ha⟩ | ⟨he,hd,hr,x,ha⟩
 ·have HE:=Qh he
  have HV:=Qh (show J5 L d n= .pointer none by unfold J5;rw [γ (by omega)])
  have c6':w.cell? ⟨f,6,none⟩=some (.bool true):=by rw [c6];show some (Value.bool d.down)=_;rw [hd]
  clear he hd hat c6 h
  go_enter Tryz.func59,Tryz.ntmps59
  go_wp2
  go_ret2
  exact⟨by rw [HV.out,HE.out];rfl,rfl⟩
 ·have HE:=Qh he
  have HV:=Qh (show J5 L d n= .pointer none by unfold J5;rw [γ (by omega)])
  have c6':w.cell? ⟨f,6,none⟩=some (.bool false):=by rw [c6];show some (Value.bool d.down)=_;rw [hd]
  have HR:=Qh (Right_any n w)
  rw [hr] at HR
  clear he hd hat c6 h hr
  go_enter Tryz.func59,Tryz.ntmps59
  go_wp2_with (go_at_call 95;refine HR.out.mono ?_;rintro e w1 ⟨rfl,rfl⟩)
  go_ret2
  exact⟨by rw [HV.out,HE.out];rfl,rfl⟩
 ·have HE:=Qh he
  have hs:Cr L n=none:=by rw [ha] at hat;exact(Option.map_eq_none_iff.1 hat.symm)
  have HV:=Qh (show J5 L d n= .pointer none by unfold J5;rw [γ (by omega)])
  have c6':w.cell? ⟨f,6,none⟩=some (.bool false):=by rw [c6];show some (Value.bool d.down)=_;rw [hd]
  have HR:=Qh (Right_any n w)
  have hlook:=h.body.look (n:=n) (Il hr)
  rw [hs] at hlook
  simp only at hlook
  rw [hr] at HR
  clear he hd hat c6 h hr ha hs
  go_enter Tryz.func59,Tryz.ntmps59
  go_wp2_with (go_at_call 95;refine HR.out.mono ?_;rintro e w1 ⟨rfl,rfl⟩)
  go_ret2
  exact⟨by rw [HV.out,HE.out];rfl,rfl⟩
 ·have HE:=Qh he
  obtain⟨s,hs⟩: ∃ s,Cr L n=some s:=by
   rcases hs:Cr L n with _ | s
   ·rw [hs,ha] at hat;cases hat
   ·exact⟨s,rfl⟩
  have HV:=Qh (show J5 L d n= .pointer (some ⟨s.blk,0,none⟩) by unfold J5;rw [ζ he,hs])
  have c6':w.cell? ⟨f,6,none⟩=some (.bool false):=by rw [c6];show some (Value.bool d.down)=_;rw [hd]
  have HR:=Qh (Right_any n w)
  have hlook:=h.body.look (n:=n) (Il hr)
  rw [hs] at hlook
  simp only at hlook
  rw [hr] at HR
  clear he hd hat c6 h hr ha hs
  go_enter Tryz.func59,Tryz.ntmps59
  go_wp2_with (go_at_call 95;refine HR.out.mono ?_;rintro e w1 ⟨rfl,rfl⟩)
  go_ret2
  exact⟨by rw [HV.out,HE.out];rfl,rfl⟩
def FsPost (w:World) (f m:Nat) (L:List Ad) (d':Ab) (w':World):Prop:= ∃ L',FsAt w' f m d' L'∧Turned (foot f m L) w w'∧ ∀ k,foot f m L' k→foot f m L k∨w.heap.size≤k
theorem FsPost.same {w:World} {f m:Nat} {L:List Ad} {d:Ab} (h:FsAt w f m d L):FsPost w f m L d w:=⟨L,h,Turned.refl _ _,fun _ h=> .inl h⟩
theorem FsAt.stepped {w w1:World} {f m:Nat} {d:Ab} {L:List Ad} (h:FsAt w f m d L) (h1:C6 w1 f m (I2 (Db d))) (h2:Turned (fun k=>k=f) w w1):FsAt w1 f m (Ae d) L:=by
 rw [stepHd_of] at h1
 exact⟨h1,h.body.turned h.hd.lt h2 fun k hk _ e=>hk e,by rw [Av];exact h.fil,h.ok.step⟩
theorem FsPost.stepped {w w1:World} {f m:Nat} {d:Ab} {L:List Ad} (h:FsAt w f m d L) (h1:C6 w1 f m (I2 (Db d))) (h2:Turned (fun k=>k=f) w w1):FsPost w f m L (Ae d) w1:=
 ⟨L,h.stepped h1 h2,h2.mono fun _ hk=> .inl hk,fun _ h=> .inl h⟩
theorem FsPost.then {w w1 w2:World} {f m:Nat} {d':Ab} {L L1:List Ad} (h:FsPost w1 f m L1 d' w2) (ht:Turned (foot f m L) w w1) (hL: ∀ k,foot f m L1 k→foot f m L k∨w.heap.size≤k):FsPost w f m L d' w2:=by
 obtain⟨L',h1,h2,h3⟩:=h
 refine⟨L',h1,ht.trans h2 hL,fun k hk=> ?_⟩
 rcases h3 k hk with h4 | h4
 ·exact hL k h4
 ·exact .inr (μ ht.size h4)
theorem foot_set {f m:Nat} {L:List Ad} {n:List UInt8} {s x:Ad} {N:Nat} (hs:Cr L n=some s) (hb:x.blk=s.blk) (hd: ∀ g,datBlk x.sl=some g→datBlk s.sl=some g∨N≤g): ∀ k,foot f m (setS n x L) k→foot f m L k∨N≤k:=by
 have hsm:=(G7 hs).1
 rintro k (rfl | rfl | ⟨t,ht,hk⟩)
 ·exact .inl (.inl rfl)
 ·exact .inl (.inr (.inl rfl))
 ·rcases setS_mem ht with⟨rfl,_⟩ | ⟨ht,_⟩
  ·rcases hk with rfl | hk
   ·exact .inl (.inr (.inr ⟨s,hsm,.inl hb⟩))
   ·rcases hd k hk with h1 | h1
    ·exact .inl (.inr (.inr ⟨s,hsm,.inr h1⟩))
    ·exact .inr h1
  ·exact .inl (.inr (.inr ⟨t,ht,hk⟩))
theorem K5 {w:World} {f m:Nat} {d:Ab} {L:List Ad} (h:FsAt w f m d L) {n:List UInt8} (he:Aj d n=0): ∃ s,Cr L n=some s∧atF d.files n=some s.fil∧J5 L d n= .pointer (some ⟨s.blk,0,none⟩)∧rightName n=true∧s∈L∧s.fil.name=n:=by
 obtain⟨_,hr,x,ha⟩:=G4 he
 have hat:=fils_at n L
 rw [h.fil,ha] at hat
 rcases hs:Cr L n with _ | s
 ·rw [hs] at hat;cases hat
 ·rw [hs] at hat
  simp only [Option.map_some,Option.some.injEq] at hat
  subst hat
  exact⟨s,rfl,ha,by unfold J5;rw [ζ he,hs],hr,G7 hs⟩
theorem FsPost.setFile {w w1 w2:World} {f m:Nat} {d1 d2:Ab} {L:List Ad} {n:List UInt8} {s x:Ad} (H1:FsAt w1 f m d1 L) (ht:Turned (foot f m L) w w1) (hs:Cr L n=some s) (hn:x.fil.name=n) (hb:x.blk=s.blk)
  (ht2:Turned (fun k=>k=f∨k=s.blk∨datBlk s.sl=some k) w1 w2) (hx:Cn w2 x) (hd: ∀ g,datBlk x.sl=some g→datBlk s.sl=some g∨w1.heap.size≤g)
  (hh:C6 w2 f m (Db d2)) (hf:d2.files=setF n (fun _=>x.fil) d1.files) (hok:At d2):FsPost w f m L d2 w2:=by
 have hsm:=(G7 hs).1
 have hfoot: ∀ k,(k=f∨k=s.blk∨datBlk s.sl=some k)→foot f m L k∨w.heap.size≤k:=by
  rintro k (rfl | rfl | hk)
  ·exact .inl (.inl rfl)
  ·exact .inl (.inr (.inr ⟨s,hsm,.inl rfl⟩))
  ·exact .inl (.inr (.inr ⟨s,hsm,.inr hk⟩))
 refine⟨setS n x L,⟨hh,H1.body.set H1.hd.lt hs hn hb hx hd fun k h1 h2 h3 h4=>ht2.block k h4 (fun hS=>hS.elim h1 fun hS'=>hS'.elim h2 h3),by rw [fils_set,H1.fil,hf],hok⟩,ht.trans ht2 hfoot,fun k hk=> ?_⟩
 rcases foot_set hs hb hd k hk with h1 | h1
 ·exact .inl h1
 ·exact .inr (μ ht.size h1)
theorem Cn.putSafe {w:World} {s:Ad} (h:Cn w s) (v:Int) (hb:datBlk s.sl≠some s.blk):Cn (w.setCell ⟨s.blk,1,none⟩ (.int .i64 v)) ⟨{s.fil with safe:=v},s.blk,s.sl⟩:=by
 refine⟨?_,h.2.kept fun g hg=> ?_⟩
 ·have e:(Hr s).setIfInBounds 1 (.int .i64 v)=Hr ⟨{s.fil with safe:=v},s.blk,s.sl⟩:=rfl
  rw [←e]
  simp only [World.setCell]
  rw [Array.getElem?_modify]
  simp [h.1]
 ·simp only [World.setCell]
  rw [Array.getElem?_modify,γ (fun e=>hb (by rw [hg,e]))]
theorem Fv {d:Ab} {b:Bool} (h:decide (d.fuse=1)=b):decide ((Db d).fuse=1)=b:=h
theorem chg_set {d:Ab} {o:Io} {x:A7} (hr:Ff d.files) (ha:atF d.files o.name=some x) (h0:o.k≠0) (h3:o.k≠3) (h4:o.k≠4):Ga d o={d with files:=setF o.name (fun _=>H8 o x) d.files}:=by
 unfold Ga
 rw [γ h0,ha]
 simp only [γ h4,γ h3]
 rw [put_take hr ha]
 have:=(Bi ha).1
 unfold H8
 split
 ·exact this
 ·split
  ·exact this
  ·split<;>exact this
end
end Go.Proofs.YtgkdenejkcngnaaGreatDoor
