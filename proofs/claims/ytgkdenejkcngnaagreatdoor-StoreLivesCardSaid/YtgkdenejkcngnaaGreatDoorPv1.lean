import Derived.WalkKit
import Derived.WalkSpells
import Derived.WalkLawsBesides
import Derived.Lib.SlBytesConst
import Derived.Lib.SmallJoins
import Derived.Laws.BytesArg
import Derived.Lib.Hide
import Derived.RangeFuncNested
import Derived.RangeFuncBound
import Derived.RangeFuncCalls
import Derived.RangeFuncLeaves
import Derived.Shelf.Abstract
import Derived.OwnWalkIn
import Derived.TacticsInMore
import Derived.LoopNIn
import Derived.LoopIn
import Derived.OrdersHeld
import Derived.Deep.RegionHeld
import Derived.RangeFuncWrites
import Derived.Deep.QuietTactic
import Derived.BigQuiet
import Derived.Deep.RegionWith
import Derived.IntWalk
import Derived.Laws.OwnMore
import Derived.Laws.MakeOwn
import Derived.Deep.MidRow
import Derived.Deep.RegionHeld3
import Derived.Laws.AppendOwn
import Derived.ProofKit
import Derived.Laws.BitsAllLaws
import Derived.Lib.LaidTab
import Derived.Test.YtgkdenejkcngnaaGreatDoorRows
import Derived.Test.YtgkdenejkcngnaaGreatDoorProg
set_option maxRecDepth 100000
set_option maxHeartbeats 8000000
namespace Go.Proofs.YtgkdenejkcngnaaGreatDoor
open Go.RowKit
abbrev γ := @if_neg
abbrev δ := @Array.getElem?_eq_some_iff
abbrev ζ := @List.length_append
abbrev η := @Nat.le_trans
abbrev κ := @if_pos
abbrev μ := @Nat.le_refl
abbrev ν := @IntKind.wrap_i64
abbrev ξ := @decide_eq_true
abbrev π := @bodyPost_ret
abbrev ρ := @decide_eq_false
abbrev σ := @heap_alloc_new
abbrev τ := @List.length_cons
abbrev φ := @Option.some.inj
abbrev χ := @Below.refl
abbrev ψ := @of_decide_eq_true
abbrev ω := @List.length_take
abbrev ε := @wp_region_held_drew
abbrev θ := @Nat.zero_le
abbrev Γ := @of_decide_eq_false
abbrev Δ := @List.mem_cons
abbrev Θ := @List.getElem?_eq_getElem
abbrev Λ := @List.length_drop
abbrev Ξ := @wpAnyH_done
abbrev Φ := @List.length_nil
abbrev Ψ := @List.length_pos_iff
abbrev Ω := @List.not_mem_nil
theorem Rd {P : Program} {ops : Array Oper} {Q : Exit → Act → World → Prop} {md : Region.Mode} {S : World → Prop} {fuel : Nat} {listed : Array Bool} {a : Act} {w : World} {o : Oper} (i : Nat) (ho : ops[i]? = some o)
    (h : ∀ K' : Act → World → Prop, Shut (∀ a w, S w → (S w → wpAnyH P md ops Q S fuel (listed.setIfInBounds i true) a w) → K' a w) → if Region.wanted o (yielded ops a.tmps) = true then Oper.wp P o a w K' Q else K' (a.put o.dst undef) w)
    (hr : Region.ready md ops listed = [i] := by kernel_rfl) : wpAnyH P md ops Q S (fuel + 1) listed a w := wpAnyH_ready (rs := [i]) hr (by simp) (AllReadyH.cons ho h AllReadyH.nil)
open Go.RowKit in
theorem Qh {p : Prop} (h : p) : Hid p := h
open Go.RowKit in
theorem Qs (p : Prop) (h : p) : Hid p := h
open Value renaming int→Vi
open IntKind renaming i64→Vk
open Go.Proofs.Tryz
variable {a:Act}{K:Act→World→Prop}{listed:Array Bool}{af:Array Edge}{ops:Array Oper}{D:DataW Value}{Q:Exit→Act→World→Prop}{fn:Func}{bad from_ num:Int}{E bs:List (List UInt8)}{zs:List Int}{us vs:List Nat}{rest:List Oper}{b body l n raw t:List UInt8}{cs:List Value}{B N base c f first g i j k m more most p r segEv size stride u:Nat}{A A' S:Nat→Prop}{o:Oper}{P:Program}{q:Tmp}{bv mv rv sv v v' v1:Value}{W W' X w w' w0 w1 w2:World}
theorem Cr (b o j:Nat):(⟨b,o,none⟩:Addr).add j=⟨b,o+j,none⟩:=by unfold Addr.add;split<;>simp_all
theorem snoc_ind {α:Type} {P:List α→Prop} (h0:P []) (h1: ∀ l a,P l→P (l++[a])) (l:List α):P l:=by
 have key: ∀ m:List α,P m.reverse:=fun m=>by
  induction m with
  |nil=>exact h0
  |cons a m ih=>rw [List.reverse_cons];exact h1 _ _ ih
 have:=key l.reverse;rwa [List.reverse_reverse] at this
theorem take_snoc {α:Type} (l:List α) (k:Nat) (h:k<l.length):l.take (k+1)=l.take k++[l[k]]:=by
 rw [List.take_succ_eq_append_getElem h]
theorem Pj {α:Type} (l:List α) (k:Nat) (h:k<l.length): ∃ x,l[k]? =some x∧l.take (k+1)=l.take k++[x]∧x∈l:=
 ⟨l[k],Θ h,take_snoc l k h,List.getElem_mem h⟩
theorem getElem?_lt {α:Type} {l:List α}  {x:α} (h:l[j]? =some x):j<l.length:=(List.getElem?_eq_some_iff.1 h).1
theorem ba_get {x:UInt8} (h:l[j]? =some x): ∀ hh,(⟨l.toArray⟩:ByteArray)[j]'hh=x:=by
 intro hh;have hj:=getElem?_lt h;rw [Θ hj] at h;have e:(⟨l.toArray⟩:ByteArray)[j]'hh=l[j]:=rfl;rw [e];simpa using h
theorem ret_str {a b:ByteArray} (h:a=b):Ending.returned (.string a)= .returned (.string b):=by rw [h]
theorem ret_int {k:IntKind} {a b:Int} (h:a=b):Ending.returned (.int k a)= .returned (.int k b):=by rw [h]
theorem ba_append (a b:List UInt8):(⟨a.toArray⟩:ByteArray)++⟨b.toArray⟩=⟨(a++b).toArray⟩:=by
 apply ByteArray.ext;simp
theorem conv_bytes (w:World) (l:List UInt8):
  ∃ c w',(convert 9 39 (.string ⟨l.toArray⟩)).run prog w= .ok (.slice (some ⟨w.heap.size,0,none⟩) l.length c) w'∧Below w.heap.size w w'∧w'.heap.size=w.heap.size+1∧
   l.length≤c∧(∀ j x,l[j]? =some x→w'.cell? ⟨w.heap.size,j,none⟩=some (.int .u8 (x.toNat:Int))):=by
 have hr:=run_bytes_of_string (P:=prog) w 9 39 5 ⟨l.toArray⟩ underlying9 underlying39 underlying5;refine⟨_,_,hr,?_,by simp,grownCap_ge _ _ _ _,fun j x h=> ?_⟩
 ·exact((χ _ _).drew).alloc (μ _) _
 ·refine(World.cell?_alloc_mark w.drew _ _ _ j).trans ?_;have h':=getElem?_lt h;rw [bytesRow_at _ _ _ (by simpa using h')];rw [Θ h'] at h;simp at h ⊢;rw [h]
theorem Below.next {a b c:World} (h:Below a.heap.size a b) (k:Below b.heap.size b c):Below a.heap.size a c:=h.trans (k.mono h.size)
section
variable {P : Program} {ops : Array Oper} {Q : Exit → Act → World → Prop} {n l : Nat}
theorem uponIn_round {r:Result Next} (h:o.upon P a K Q r):o.uponIn (Fence.wide.inRound l) n P a K Q r:=by
 unfold Oper.upon at h;split at h
 ·exact h
 ·exact h
 ·exact h
 ·exact⟨fun hd=>(by cases hd),CallsIn.inRound l (callsIn_wide.2 h)⟩
 ·refine⟨fun hd=>(by cases hd),fun c cs _=> ?_⟩;obtain⟨v,w2,hR,hs⟩:=h c cs;exact⟨v,w2,hR,stepsIn_wide.2 hs⟩
 ·exact h
 ·exact h.elim
def Ph (ops:List Oper):Bool:=ops.all fun o=>match o.op with
 |.defer _=>false
 |_=>true
theorem noDefer_mem {os:List Oper} (h:Ph os=true) (ho:o∈os): ∀ c,o.op≠ .defer c:=fun c hc=>by
 have:=List.all_eq_true.1 h o ho
 rw [hc] at this
 cases this
theorem operIn_round (hd: ∀ c,o.op≠ .defer c) (h:o.wp P a w K Q):o.wpIn (Fence.wide.inRound l) n P a w K Q:=by
 refine⟨fun _ _=>trivial,?_⟩;rw [Oper.semAt_eq _ _ _ hd];exact uponIn_round h
theorem Pd (hQ: ¬ LetsOut Q): ∀ {os:List Oper} {a:Act} {w:World},Ph os=true→wpList P ops Q os a w→wpListIn (Fence.wide.inRound l) n P ops Q os a w
 | [],_,_,_,h=>h
 |o::rest,a,w,hd,h=>by
  have hr:Ph rest=true:=by
   unfold Ph at hd ⊢;rw [List.all_cons,Bool.and_eq_true] at hd;exact hd.2
  unfold wpList at h;unfold wpListIn;split at h
  ·rename_i hw;rw [κ hw];rcases h with h|⟨_,h⟩
   ·exact Oper.wpIn_mono (fun a w=>Pd hQ hr) (operIn_round (noDefer_mem hd List.mem_cons_self) h)
   ·exact absurd h hQ
  ·rename_i hw;rw [γ hw];exact⟨fun _ _=>trivial,Pd hQ hr h⟩
theorem Nd {md:Region.Mode} (hQ: ¬ LetsOut Q) (hd:Ph ops.toList=true): ∀ (fuel:Nat) {listed:Array Bool} {a:Act} {w:World},wpAny P md ops Q fuel listed a w→wpAnyIn (Fence.wide.inRound l) n P md ops Q fuel listed a w
 |0,_,_,_,h=>h
 |fuel+1,listed,a,w,h=>by
  refine⟨h.1,fun i hi=> ?_⟩
  have:=h.2 i hi
  unfold wpOp at this
  unfold wpOpIn
  split at this
  ·rename_i he
   rw [he]
   exact Nd hQ hd fuel this
  ·rename_i o he
   rw [he]
   simp only
   split at this
   ·rename_i hw
    rw [κ hw]
    rcases this with h|⟨_,h⟩
    ·exact Oper.wpIn_mono (fun a w=>Nd hQ hd fuel) (operIn_round (noDefer_mem hd (by
      have:=Array.mem_of_getElem? he
      exact Array.mem_def.1 this)) h)
    ·exact absurd h hQ
   ·rename_i hw
    rw [γ hw]
    exact⟨fun _ _=>trivial,Nd hQ hd fuel this⟩
theorem wpIn_region_held {id:Nat} {S:World→Prop}  (hm:P.follows .mixedOrders=true) (hd:Ph ops.toList=true) (hQ: ¬ LetsOut Q) (hS:S w.drew)
  (h:S w.drew→wpAnyH P .any ops Q S ops.size (Array.replicate ops.size false) a w.drew):(Code.region id ops true).wpIn (Fence.wide.inRound l) n P Q a w:=
 wpIn_region_any hm (Nd hQ hd _ (wpAny_of_held _ _ _ _ (h hS)))
theorem Dl {id:Nat} {os:List Oper}  (hd:Ph os=true) (hQ: ¬ LetsOut Q) (h:wpList P os.toArray Q os a w):(Code.region id os.toArray false).wpIn (Fence.wide.inRound l) n P Q a w:=
 wpIn_region_lit (Pd hQ hd h)
theorem D7 (h: ¬ LetsOut Q): ¬ LetsOut (Exit.then K Q):=fun⟨a,w,hh⟩=>h ⟨a,w,hh⟩
theorem Eo {id:Nat} (h: ¬ LetsOut Q): ¬ LetsOut (Exit.inBlock id Q):=fun⟨a,w,hh⟩=>h ⟨a,w,hh⟩
theorem Ib {α:Type}  {Kp:World→World→Prop} {I:List α→World→Prop} {Ix:Code→List α→World→Prop} {xs:List α} : ¬ LetsOut (ownPostG B Kp I Ix xs W):=fun⟨_,_,hh⟩=>hh
end
structure Fr (B:Nat) (W W':World):Prop where
 os:W'.os=W.os
 tape:W'.tape=W.tape
 output:W'.output=W.output
 size:W.heap.size≤W'.heap.size
 block: ∀ k o,W.heap[k]? =some o→(k<B∨o.isCells=true)→W'.heap[k]? =some o
theorem Fr.trans {Y Z:World} (h:Fr B X Y) (k:Fr B Y Z):Fr B X Z:=
 ⟨k.os.trans h.os,k.tape.trans h.tape,k.output.trans h.output,η h.size k.size,fun i o hi ho=>k.block i o (h.block i o hi ho) ho⟩
theorem Fr.below (h:Below W.heap.size W W'):Fr B W W':=
 ⟨h.os,h.tape,h.output,h.size,fun k _ hk _=>(h.block k (δ.1 hk).1).trans hk⟩
theorem Fr.grown {row:Option Nat} (h:W.grownBy W' row) (hr: ∀ r,row=some r→B≤r∧ ∃ o:Obj,W.heap[r]? =some o∧o.isCells=false):Fr B W W':=
 ⟨h.os,h.tape,h.output,h.size,fun k o hk ho=>(h.block k (δ.1 hk).1 (fun e=>by
  obtain⟨h1,o',h2,h3⟩:=hr k e.symm
  rw [hk] at h2
  cases h2
  rcases ho with ho|ho
  ·omega
  ·rw [ho] at h3;cases h3)).trans hk⟩
theorem Fr.putObj {l:Nat} {o:Obj} (o':Obj) (hB:B≤l) (hl:W.heap[l]? =some o) (ho:o.isCells=false):Fr B W (W.putObj l o'):=
 Fr.grown (grownBy_putObj' W l o') (fun r e=>by cases e;exact⟨hB,o,hl,ho⟩)
theorem Fr.cell {B:Nat} {W W':World} (h:Fr B W W') {a:Addr} {v:Value} (hc:W.cell? a=some v):W'.cell? a=some v:=by
 unfold World.cell? at hc ⊢;rcases hx:W.heap[a.block]? with _|o
 ·rw [hx] at hc;simp at hc
 ·cases o with
  |cells cs ty fz=>rw [h.block a.block _ hx (.inr rfl)];rw [hx] at hc;exact hc
  |_=>rw [hx] at hc;simp at hc
theorem Fr.blk (h:Fr B W W')  {cs:Array Value} {ty:TypeId} {fz:Nat×Nat} (hb:W.heap[k]? =some (.cells cs ty fz)):W'.heap[k]? =some (.cells cs ty fz):=h.block k _ hb (.inr rfl)
theorem Fr.after (h:Fr B W W') (hb:Below w.heap.size w W) (hB:w.heap.size≤B):Below w.heap.size w W':=
 ⟨h.os.trans hb.os,h.tape.trans hb.tape,h.output.trans hb.output,η hb.size h.size,fun k hk=>by
  have h1:=hb.block k hk
  rcases hx:w.heap[k]? with _|o
  ·rw [Array.getElem?_eq_getElem hk] at hx;cases hx
  ·rw [hx] at h1;exact h.block k o h1 (.inl (by omega))⟩
def Kw {β:Type} (B:Nat) (I:β→World→Prop):Prop:= ∀ s W W',I s W→Fr B W W'→I s W'
theorem Kw.own {β:Type}  {I:β→World→Prop} (h:Kw B I) {s:β}  {l:Nat} {o:Obj} (o':Obj) (hs:I s W) (hB:B≤l) (hl:W.heap[l]? =some o) (ho:o.isCells=false):I s (W.putObj l o'):=h s _ _ hs (Fr.putObj o' hB hl ho)
def SeqR {α:Type} (P:Program) (gf:Nat) (lb:Array Value) (encs:α→Array Value) (R:List α→α→World→World→Prop) (Kp:World→World→Prop) (S Sp:List α→Prop) (w:World):Prop:=
 ∀ (l:Nat) (J Jx:List α→World→Prop) (W:World),Below w.heap.size w W→Kw W.heap.size J→Kw W.heap.size Jx→
  (∀ pre x Wo W1,J pre Wo→W.heap.size≤Wo.heap.size→Fr W.heap.size Wo W1→R pre x Wo W1→YieldAt Fence.wide 1 P l (encs x) W1 fun e W'=>
   (e= .returned (.bool true)∧J (pre++[x]) W'∧Kp W1 W')∨(e= .returned (.bool false)∧Jx (pre++[x]) W'))→
  J [] W→
  CallsIn Fence.wide 2 P gf (#[.func (.yield l) #[] #[]]++lb) W fun e W'=>(∃ v,e= .returned v)∧((∃ xs,S xs∧J xs W')∨(∃ pre,Sp pre∧Jx pre W'))
theorem wp_rangeFuncR {α:Type} {P:Program} {g:Operand} {ps:Array Tmp} {assign body:Code} {Q:Exit→Act→World→Prop} {a:Act} {w:World}
  {gf:Nat} {lb:Array Value} (hg:a.eval g= .func (.func gf) #[] lb) (eg: ∀ args w,(callFunc gf args).run P w= .ok (.enter gf args) w)
  {encs:α→Array Value} {R:List α→α→World→World→Prop} {Kp:World→World→Prop} {S Sp:List α→Prop} (hseq:SeqR P gf lb encs R Kp S Sp w)
  (hKt: ∀ {A B C:World},Kp A B→Kp B C→Kp A C) (hKb: ∀ (W:World) (l:Nat) (o o':Obj),w.heap.size≤l→W.heap[l]? =some o→o.isCells=false→Kp W (W.putObj l o')) (hps: ∀ x,(encs x).size=ps.size)
  (I:List α→World→Prop) (Ix:Code→List α→World→Prop) (hI:Kw w.heap.size I) (hIx: ∀ c,Kw w.heap.size (Ix c)) (h0:I [] w)
  (hround: ∀ (l:Nat) (pre:List α) (x:α) (Wo W:World),w.heap.size≤l→w.heap.size≤Wo.heap.size→I pre Wo→Fr w.heap.size Wo W→R pre x Wo W→
   assign.wpIn (Fence.wide.inRound l) 1 P (Exit.then (fun a₁ W₁=>KeepsFrom w.heap.size W W₁∧Kp W W₁∧ ∀ W₂,Fr w.heap.size W₁ W₂→body.wpIn (Fence.wide.inRound l) 1 P (ownPostG w.heap.size Kp I Ix (pre++[x]) W₂) a₁ W₂) (fun _ _ _=>False))
    {tmps:=(ps.zip (encs x)).foldl (fun t (p,v)=>t.setIfInBounds p v) a.tmps,defers:=[]} W)
  (hdone: ∀ (D:Nat) (xs:List α) (W:World),w.heap.size≤D→S xs→I xs W→W.heap[D]? =some (.deferred (some []))→Q .normal {a with defers:={target:= .collected D,args:= #[]}::a.defers} W)
  (hstop: ∀ (D:Nat) (c:Code) (pre:List α) (W:World),w.heap.size≤D→Sp pre→Ix c pre W→W.heap[D]? =some (.deferred (some []))→c.wp P Q {a with defers:={target:= .collected D,args:= #[]}::a.defers} W):
  (Code.rangeFunc g ps assign body).wp P Q a w:=by
 refine(wpIn_wide (n:=3)).1 (wpIn_rangeFunc fun fn hfn=> ?_);obtain⟨W1,hW1⟩: ∃ W1,W1=(w.alloc (.deferred (some []))).alloc (.loop {state:= .ready,pending:=none,fn,tmps:=a.tmps,params:=ps,assign,body,defers:=w.heap.size}):=⟨_,rfl⟩;have sz1:W1.heap.size=w.heap.size+2:=by rw [hW1];simp
 have hb1:Below w.heap.size w W1:=by rw [hW1];exact((χ _ w).alloc (μ _) _).alloc (by simp) _
 have hk1:Fr w.heap.size w W1:=Fr.below hb1;have hL1:W1.heap[w.heap.size+1]? =some (.loop {state:= .ready,pending:=none,fn,tmps:=a.tmps,params:=ps,assign,body,defers:=w.heap.size}):=by
  rw [hW1];have:=World.alloc_heap_new (w.alloc (.deferred (some []))) (.loop {state:= .ready,pending:=none,fn,tmps:=a.tmps,params:=ps,assign,body,defers:=w.heap.size});rwa [World.size_alloc] at this
 have hD1:W1.heap[w.heap.size]? =some (.deferred (some [])):=by
  rw [hW1];exact(Below.heap_alloc _ _ _ (by simp)).trans (World.alloc_heap_new w _)
 refine⟨w.heap.size+1,[{target:= .collected w.heap.size,args:= #[]}],W1,{target:= .fn (.func gf) lb,args:= #[.func (.yield (w.heap.size+1)) #[] #[]]},W1,gf,
  #[.func (.yield (w.heap.size+1)) #[] #[]]++lb,W1,?_,?_,fun _ _=>trivial,?_,fun h=>(by cases h),?_⟩
 ·rw [hW1];exact run_enterLoop_outer _ _ _ _ _
 ·simp only [resolve,hg];simp [go_sem]
 ·simp [invoke,go_sem,eg]
 have hsame: ∀ {A B:World} {k:Nat} {o:Obj},Fr W1.heap.size A B→A.heap[k]? =some o→k<W1.heap.size→B.heap[k]? =some o:=fun h hk hlt=>h.block _ _ hk (.inl hlt);have hkept: ∀ {A B:World},Fr W1.heap.size A B→Fr w.heap.size A B:=fun h=>⟨h.os,h.tape,h.output,h.size,fun k o hk ho=>h.block k o hk (by
  rcases ho with ho|ho
  ·exact .inl (by omega)
  ·exact .inr ho)⟩
 refine(hseq (w.heap.size+1)
  (fun pre W=>I pre W∧W1.heap.size≤W.heap.size∧W.heap[w.heap.size+1]? =some (.loop {state:= .ready,pending:=none,fn,tmps:=a.tmps,params:=ps,assign,body,defers:=w.heap.size})∧W.heap[w.heap.size]? =some (.deferred (some [])))
  (fun pre W=> ∃ c,Ix c pre W∧W.heap[w.heap.size+1]? =some (.loop {state:= .done,pending:=some c,fn,tmps:=a.tmps,params:=ps,assign,body,defers:=w.heap.size})∧W.heap[w.heap.size]? =some (.deferred (some [])))
  W1 hb1
  (fun s A B hs hk=>⟨hI s A B hs.1 (hkept hk),η hs.2.1 hk.size,hsame hk hs.2.2.1 (by omega),hsame hk hs.2.2.2 (by omega)⟩)
  (fun s A B ⟨c,hc,hl,hd⟩ hk=>⟨c,hIx c s A B hc (hkept hk),hsame hk hl (by omega),hsame hk hd (by omega)⟩)
  ?_ ⟨hI _ _ _ h0 hk1,μ _,hL1,hD1⟩).mono ?_
 ·
  rintro pre x Wo W ⟨hi,hszo,hlo,hdo⟩ _ hko hr;have hsz:W1.heap.size≤W.heap.size:=η hszo hko.size;have hl:=hsame hko hlo (by omega);have hd:=hsame hko hdo (by omega);have hlt:w.heap.size+1<W.heap.size:=(δ.1 hl).1;refine⟨_,_,_,_,run_yield (P:=P) (args:=encs x) hl (hps x),roundIn_of_wpIn trivial (wpIn_mono (hround (w.heap.size+1) pre x Wo W (by omega) (by omega) hi (hkept hko) hr) ?_)⟩;intro e a₁ Wa he;cases e with
  |normal=>
   obtain⟨hkf,hkp,hbody⟩:=he;have hla:=hkf.same _ _ (by omega) hl rfl;have hda:=hkf.same _ _ (by omega) hd rfl;have hlta:w.heap.size+1<Wa.heap.size:=(δ.1 hla).1;refine⟨_,run_beginRound hla rfl,wpIn_mono (hbody _ (Fr.putObj _ (by omega) hla rfl)) ?_⟩;have hl2:(Wa.putObj (w.heap.size+1) (.loop {state:= .busy,pending:=none,fn,tmps:=a.tmps,params:=ps,assign,body,defers:=w.heap.size})).heap[w.heap.size+1]? =some (.loop {state:= .busy,pending:=none,fn,tmps:=a.tmps,params:=ps,assign,body,defers:=w.heap.size}):=World.putObj_heap_same hlta;have hd2:(Wa.putObj (w.heap.size+1) (.loop {state:= .busy,pending:=none,fn,tmps:=a.tmps,params:=ps,assign,body,defers:=w.heap.size})).heap[w.heap.size]? =some (.deferred (some [])):=(World.putObj_heap_other (by omega)).trans hda;have hkp2:Kp W (Wa.putObj (w.heap.size+1) (.loop {state:= .busy,pending:=none,fn,tmps:=a.tmps,params:=ps,assign,body,defers:=w.heap.size})):=hKt hkp (hKb _ _ _ _ (by omega) hla rfl);have hsz2:W1.heap.size≤(Wa.putObj (w.heap.size+1) (.loop {state:= .busy,pending:=none,fn,tmps:=a.tmps,params:=ps,assign,body,defers:=w.heap.size})).heap.size:=by
    have:=hkf.size;have h2:(Wa.putObj (w.heap.size+1) (.loop {state:= .busy,pending:=none,fn,tmps:=a.tmps,params:=ps,assign,body,defers:=w.heap.size})).heap.size=Wa.heap.size:=by simp
    omega
   generalize Wa.putObj (w.heap.size+1) (.loop {state:= .busy,pending:=none,fn,tmps:=a.tmps,params:=ps,assign,body,defers:=w.heap.size})=Wb at*
   have out: ∀ {jump:Option Code} {W3:World},KeepsFrom w.heap.size Wb W3→W3.heap[w.heap.size+1]? =some (.loop {state:= .busy,pending:=none,fn,tmps:=a.tmps,params:=ps,assign,body,defers:=w.heap.size})∧
     W3.heap[w.heap.size]? =some (.deferred (some [])):=fun h=>⟨h.same _ _ (by omega) hl2 rfl,h.same _ _ (by omega) hd2 rfl⟩
   have leave: ∀ {c:Code} {W3:World},KeepsFrom w.heap.size Wb W3→Ix c (pre++[x]) W3→ ∃ v w',(Instr.endRound (w.heap.size+1) (some c)).run P W3= .ok v w'∧v= .bool false∧ ∃ c,Ix c (pre++[x]) w'∧
     w'.heap[w.heap.size+1]? =some (.loop {state:= .done,pending:=some c,fn,tmps:=a.tmps,params:=ps,assign,body,defers:=w.heap.size})∧w'.heap[w.heap.size]? =some (.deferred (some [])):=fun {c W3} h hx=>by
    obtain⟨h1,h2⟩:=out (jump:=none) h;have hlt3:w.heap.size+1<W3.heap.size:=(δ.1 h1).1;exact⟨_,_,run_endRound (some c) h1,rfl,c,(hIx c).own _ hx (by omega) h1 rfl,World.putObj_heap_same hlt3,(World.putObj_heap_other (by omega)).trans h2⟩
   intro e3 a3 W3 hp;cases e3 with
   |normal=>
    obtain⟨h3,hkp3,hi3⟩:=hp;obtain⟨h1,h2⟩:=out (jump:=none) h3;have hlt3:w.heap.size+1<W3.heap.size:=(δ.1 h1).1;refine⟨_,_,run_endRound none h1,.inl ⟨rfl,⟨hI.own _ hi3 (by omega) h1 rfl,?_,World.putObj_heap_same hlt3,(World.putObj_heap_other (by omega)).trans h2⟩,hKt (hKt hkp2 hkp3) (hKb _ _ _ _ (by omega) h1 rfl)⟩⟩;have:=h3.size;simp;omega
   |ret=>obtain⟨v,w',h1,rfl,h2⟩:=leave hp.1 hp.2;exact⟨_,_,h1,.inr ⟨rfl,h2⟩⟩
   |exit id=>obtain⟨v,w',h1,rfl,h2⟩:=leave hp.1 hp.2;exact⟨_,_,h1,.inr ⟨rfl,h2⟩⟩
   |goto t=>obtain⟨v,w',h1,rfl,h2⟩:=leave hp.1 hp.2;exact⟨_,_,h1,.inr ⟨rfl,h2⟩⟩
   |panic ch=>exact hp.elim
   |outgrown=>exact hp.elim
  |_=>exact he.elim
 ·
  rintro e W2 ⟨⟨v,rfl⟩,(⟨xs,hS,hi,_,hl,hd⟩|⟨pre,hSp,c,hi,hl,hd⟩)⟩
  ·exact⟨none,_,run_endLoop hl (by simp),hdone _ xs _ (μ _) hS (hI.own _ hi (by omega) hl rfl) ((World.putObj_heap_other (by omega)).trans hd)⟩
  ·exact⟨some c,_,run_endLoop hl (by simp),(wpIn_wide (n:=3)).2 (hstop _ c pre _ (μ _) hSp ((hIx c).own _ hi (by omega) hl rfl) ((World.putObj_heap_other (by omega)).trans hd))⟩
theorem A2 {n:Nat} {e:TypeId}  {xs:List Value} (h:w.ownsRow B e size v n xs) (hb:Below w.heap.size w w'):w'.ownsRow B e size v n xs:=by
 refine⟨h.1,?_⟩;rcases h.2 with hn|⟨g,cap,cur,rfl,hb1,hg,rest⟩
 ·exact .inl hn
 ·exact .inr ⟨g,cap,cur,rfl,hb1,by rw [hb.block _ (δ.1 hg).1];exact hg,rest⟩
theorem Aj {n:Nat} {e:TypeId}  {xs:List Value} (h:w.ownsRow B e size v n xs): ∃ oa cap,v= .slice oa n cap∧n≤cap∧cap≤maxLen:=by
 rcases h.2 with⟨rfl,rfl⟩|⟨g,cap,cur,rfl,_,_,h1,h2,_⟩
 ·exact⟨none,0,rfl,μ _,by decide⟩
 ·exact⟨_,cap,rfl,h1,h2⟩
theorem Dr {n:Nat} {e:TypeId}  {xs:List Value} (h:w.ownsRow B e size v n xs) (hn:0<n):
  ∃ g cap,v= .slice (some ⟨g,0,none⟩) n cap∧B≤g∧g<w.heap.size∧n≤cap∧cap≤maxLen∧ ∀ (j:Nat) u,xs[j]? =some u→w.cell? ⟨g,j,none⟩=some u:=by
 have hx:=h;rcases h.2 with⟨rfl,rfl⟩|⟨g,cap,cur,rfl,h0,hg,h1,h2,_⟩
 ·omega
 ·refine⟨g,cap,rfl,h0,(δ.1 hg).1,h1,h2,fun j u hj=> ?_⟩;rw [hx.cellAt j (by rw [←hx.1];exact getElem?_lt hj)];exact hj
def B7 (w:World) (v:Value) (l:List UInt8):Prop:=
 ∃ oa cap,v= .slice oa l.length cap∧l.length≤cap∧
  (l≠ []→ ∃ b off,oa=some ⟨b,off,none⟩∧ ∀ (i:Nat) x,l[i]? =some x→w.cell? ⟨b,off+i,none⟩=some (.int .u8 (x.toNat:Int)))
theorem B7.below (h:B7 w v l) (hb:Below w.heap.size w w'):B7 w' v l:=by
 obtain⟨oa,cap,h1,h2,h5⟩:=h;refine⟨oa,cap,h1,h2,fun hn=> ?_⟩;obtain⟨b,off,e,hc⟩:=h5 hn;exact⟨b,off,e,fun i x hx=>cell_later hb (hc i x hx)⟩
theorem Ac (w:World) (n:Nat):Below w.heap.size w (w.drewN n):=⟨rfl,rfl,rfl,μ _,fun _ _=>rfl⟩
theorem brow_own (h:w.ownsRow B 5 1 v l.length (Lib.byteCells l)):B7 w v l:=by
 by_cases hn:l=[]
 ·subst hn;obtain⟨oa,cap,rfl,h1,_⟩:=Aj h;exact⟨oa,cap,rfl,h1,fun h=>absurd rfl h⟩
 ·obtain⟨g,cap,rfl,_,_,h1,_,h3⟩:=Dr h (Ψ.2 hn);exact⟨_,cap,rfl,h1,fun _=>⟨g,0,rfl,fun i x hi=>by rw [Nat.zero_add];exact h3 i _ (by rw [Lib.byteCells,List.getElem?_map,hi];rfl)⟩⟩
theorem infoByteB:(prog.info? 5).map (fun i=>(i.zero,i.size,i.bytes))=some (some (.int .u8 0),1,1):=by kernel_rfl
theorem Nu (w:World) (b o:Nat) (ty:TypeId) (v:Value) (old:Value) (hi:(prog.info? ty).map (·.size)=some 1) (h1:v.oneCell'=true) (hc:w.cell? ⟨b,o,none⟩=some old) (hf:w.frozen? ⟨b,o,none⟩=false):
  (storeVar ty ⟨b,o,none⟩ v).run prog w= .ok () (w.setCell ⟨b,o,none⟩ v):=by
 have:=run_storeCells_cells (P:=prog) b o [v] 0 w (fun j hj=>by
   simp at hj;subst hj;simp [hc]) (fun j hj=>by simp at hj;subst hj;exact hf) (fun x hx=>by simp at hx;subst hx;exact h1)
 have hcc:v.cells= #[v]:=by cases v<;>first|rfl|cases h1
 cases hq:prog.info? ty with
 |none=>simp [hq] at hi
 |some i=>
  have hs:i.size=1:=by simpa [hq] using hi
  simp only [Nat.add_zero] at this;simp [storeVar,sizeOf,typeInfo,hq,hcc,hs];exact this
theorem Cc {op:Oper}  (hgd:op.guard=none) (ty:TypeId) (x y:Operand) (ho:op.op= .store ty x y)
  (b o:Nat) (v old:Value) (hi:(prog.info? ty).map (·.size)=some 1) (h1:v.oneCell'=true) (hx:a.eval x= .pointer (some ⟨b,o,none⟩)) (hy:a.eval y=v) (hc:w.cell? ⟨b,o,none⟩=some old) (hf:w.frozen? ⟨b,o,none⟩=false)
  (h: ∀ W,Hid (W=w.setCell ⟨b,o,none⟩ v)→wpList prog ops Q rest (a.put op.dst undef) W):wpList prog ops Q (op::rest) a w:=
 wpList_plain hgd fun _ hK=>by
  unfold Oper.wp execOp
  simp only [ho,hx,hy,Instr.storeAt,Instr.sureAddr,Sem.run_bind,Sem.run_pure,Result.andThen_ok,Nu w b o ty v old hi h1 hc hf]
  exact hK _ _ (h _ (Qh rfl))
theorem Fi {op:Oper}  (ty:TypeId) (x y:Operand) (ho:op.op= .store ty x y)
  (b o:Nat) (v old:Value) (hi:(prog.info? ty).map (·.size)=some 1) (h1:v.oneCell'=true) (hx:a.eval x= .pointer (some ⟨b,o,none⟩)) (hy:a.eval y=v) (hc:w.cell? ⟨b,o,none⟩=some old) (hf:w.frozen? ⟨b,o,none⟩=false)
  (h:K (a.put op.dst undef) (w.setCell ⟨b,o,none⟩ v)):op.wp prog a w K Q:=by
 unfold Oper.wp execOp;simp only [ho,hx,hy,Instr.storeAt,Instr.sureAddr,Sem.run_bind,Sem.run_pure,Result.andThen_ok,Nu w b o ty v old hi h1 hc hf];exact h
section
variable {P : Program} {ops : Array Oper} {Q : Exit → Act → World → Prop} {md : Region.Mode} {S : World → Prop}
theorem tk {d:Option Tmp} {o:Op} {t:TypeId} {p:String}  {g:Option (Nat×Bool)} {fuel:Nat}  (i:Nat) (hi:ops[i]? =some ⟨d,o,t,p,af,g⟩) (v:Value)
  (hy: ∀ w,S w→(execOp a.eval ⟨d,o,t,p,af,g⟩).run P w= .ok (.value v) w) (h:wpAnyH P md ops Q S fuel (listed.setIfInBounds i true) (a.put d v) w)
  (hs:Region.noSelect ops=true:=by kernel_rfl) (hf:Region.free md ops listed i=true:=by kernel_rfl) (hr:(Region.ready md ops listed).contains i=true:=by kernel_rfl)
  (hQ: ∀ c a w,Q (.panic c) (a.put d v) w→Q (.panic c) a w:=by exact fun _ _ _ h=>h) (hw:Region.wanted ⟨d,o,t,p,af,g⟩ (yielded ops a.tmps)=true:=by kernel_rfl) (hS:S w:=by assumption):
  wpAnyH P md ops Q S (fuel+1) listed a w:=wpAnyH_take hi hs hf hr hQ (Or.inl ⟨hw,hy⟩) hS h
theorem tkn {d:Option Tmp} {o:Op} {t:TypeId} {p:String}  {g:Option (Nat×Bool)} {fuel:Nat}  (i:Nat) (hi:ops[i]? =some ⟨d,o,t,p,af,g⟩)
  (h:wpAnyH P md ops Q S fuel (listed.setIfInBounds i true) (a.put d undef) w)
  (hs:Region.noSelect ops=true:=by kernel_rfl) (hf:Region.free md ops listed i=true:=by kernel_rfl) (hr:(Region.ready md ops listed).contains i=true:=by kernel_rfl)
  (hQ: ∀ c a w,Q (.panic c) (a.put d undef) w→Q (.panic c) a w:=by exact fun _ _ _ h=>h) (hw:Region.wanted ⟨d,o,t,p,af,g⟩ (yielded ops a.tmps)=false:=by kernel_rfl) (hS:S w:=by assumption):
  wpAnyH P md ops Q S (fuel+1) listed a w:=wpAnyH_take hi hs hf hr hQ (Or.inr ⟨hw,rfl⟩) hS h
end
theorem pA (a:Act) (d:Tmp) (v:Value):a.put (some d) v={a with tmps:=a.tmps.setIfInBounds d v}:=rfl
theorem pB {α:Type} (l:List α) (i:Nat) (x:α):l.toArray.setIfInBounds i x=(l.set i x).toArray:=List.setIfInBounds_toArray ..
theorem pC {α:Type} (y:α) (l:List α) (x:α):(y::l).set 0 x=x::l:=rfl
theorem pD {α:Type} (y:α) (l:List α) (i:Nat) (x:α):(y::l).set (i+1) x=y::l.set i x:=rfl
section
variable {P : Program} {ops : Array Oper} {Q : Exit → Act → World → Prop} {md : Region.Mode} {S : World → Prop}
theorem tq {d:Option Tmp} {o:Op} {t:TypeId} {p:String}  {g:Option (Nat×Bool)} {fuel:Nat}  {a':Act} (i:Nat) (hi:ops[i]? =some ⟨d,o,t,p,af,g⟩)
  (h:wpAnyH P md ops Q S fuel (listed.setIfInBounds i true) a' w)
  (hy: ∀ w,S w→(execOp a.eval ⟨d,o,t,p,af,g⟩).run P w= .ok (.value v) w:=by intro w hSw;go_simp;try with_reducible rfl)
  (ha:a.put d v=a':=by (simp only [pA,pB,pC,pD];exact rfl))
  (hs:Region.noSelect ops=true:=by kernel_rfl) (hf:Region.free md ops listed i=true:=by kernel_rfl) (hr:(Region.ready md ops listed).contains i=true:=by kernel_rfl)
  (hQ: ∀ c a w,Q (.panic c) (a.put d v) w→Q (.panic c) a w:=by exact fun _ _ _ h=>h) (hw:Region.wanted ⟨d,o,t,p,af,g⟩ (yielded ops a.tmps)=true:=by kernel_rfl) (hS:S w:=by assumption):
  wpAnyH P md ops Q S (fuel+1) listed a w:=wpAnyH_take hi hs hf hr hQ (Or.inl ⟨hw,hy⟩) hS (ha▸h)
theorem tf {C:World→Prop} {d:Option Tmp} {o:Op} {t:TypeId} {p:String}  {g:Option (Nat×Bool)} {fuel:Nat}  {a':Act} (F:Hid (∀ w,S w→C w)) (i:Nat) (hi:ops[i]? =some ⟨d,o,t,p,af,g⟩)
  (h:wpAnyH P md ops Q S fuel (listed.setIfInBounds i true) a' w)
  (hy: ∀ w,S w→C w→(execOp a.eval ⟨d,o,t,p,af,g⟩).run P w= .ok (.value v) w:=by intro w hSw hC;go_simp;try with_reducible rfl)
  (ha:a.put d v=a':=by (simp only [pA,pB,pC,pD];exact rfl))
  (hs:Region.noSelect ops=true:=by kernel_rfl) (hf:Region.free md ops listed i=true:=by kernel_rfl) (hr:(Region.ready md ops listed).contains i=true:=by kernel_rfl)
  (hQ: ∀ c a w,Q (.panic c) (a.put d v) w→Q (.panic c) a w:=by exact fun _ _ _ h=>h) (hw:Region.wanted ⟨d,o,t,p,af,g⟩ (yielded ops a.tmps)=true:=by kernel_rfl) (hS:S w:=by assumption):
  wpAnyH P md ops Q S (fuel+1) listed a w:=wpAnyH_take hi hs hf hr hQ (Or.inl ⟨hw,fun w hS=>hy w hS (F.out w hS)⟩) hS (ha▸h)
end
theorem Bs {b off:Nat}  (h:w.rangeAt b off cs) (hb:Below w.heap.size w w'):w'.rangeAt b off cs:=fun j u hj=>cell_later hb (h j u hj)
theorem own_fresh (w:World) (e size:Nat) (B:Nat) (hB:B≤w.heap.size):(w.alloc (.cells #[] e)).ownsRow B e size (.slice (some ⟨w.heap.size,0,none⟩) 0 0) 0 []:=
 ⟨by simp,.inr ⟨w.heap.size,0,#[],rfl,hB,σ w _,μ _,by decide,by simp,by simp⟩⟩
theorem own_set {n:Nat} {e:TypeId} {u:Value} {xs:List Value} (h:w.ownsRow B e size v n xs) (hk:k<B):(w.setCell ⟨k,j,none⟩ u).ownsRow B e size v n xs:=by
 refine⟨h.1,?_⟩;rcases h.2 with hn|⟨g,cap,cur,rfl,hb1,hg,rest⟩
 ·exact .inl hn
 ·refine .inr ⟨g,cap,cur,rfl,hb1,?_,rest⟩;simp only [World.setCell];rw [Array.getElem?_modify];simp [hg,show k≠g by omega]
theorem Aa (w:World) (o:Obj):Below w.heap.size w (w.alloc o):=(χ _ _).alloc (μ _) _
def Cw (w:World) (B:Nat) (v:Value) (bs:List UInt8):Prop:=w.ownsRow B 5 1 v bs.length (Lib.byteCells bs)
theorem Cw.brow {bs:List UInt8} (h:Cw w B v bs):B7 w v bs:=brow_own h
theorem Cw.later {bs:List UInt8} (h:Cw w B v bs) (hb:Below w.heap.size w w'):Cw w' B v bs:=A2 h hb
theorem Cw.mono {B':Nat} {bs:List UInt8} (h:Cw w B v bs) (hB:B'≤B):Cw w B' v bs:=by
 refine⟨h.1,?_⟩;rcases h.2 with hn|⟨g,cap,cur,h1,h2,rest⟩
 ·exact .inl hn
 ·exact .inr ⟨g,cap,cur,h1,by omega,rest⟩
theorem Cw.nil (w:World) (B:Nat):Cw w B (.slice none 0 0) []:=⟨rfl,.inl ⟨rfl,rfl⟩⟩
theorem Cm {e:TypeId} {n:Nat} {xs:List Value} (h:w.ownsRow B e size v n xs) (hB:B≤w.heap.size) (hg:w.grownBy w' v.ownBlock):Below B w w':=
 ⟨hg.os,hg.tape,hg.output,hg.size,fun k hk=>hg.block k (Nat.lt_of_lt_of_le hk hB) fun e=>by have:=(h.lt k e.symm).1;omega⟩
theorem run_appB {x:Value} {bs m:List UInt8} (hown:Cw w B v bs) (hB:B≤w.heap.size) (hx:B7 w x m) (hl:bs.length+m.length≤140737488355328) (ty:TypeId):
  ∃ v' w',(Builtin.append_ #[39,39] ty #[v,x]).run prog w= .ok v' w'∧Cw w' B v' (bs++m)∧Below B w w':=by
 obtain⟨i0,hi,hz0,hz1,hz2⟩:=info_parts infoByteB;obtain⟨oa,xc,rfl,hxl,hxc⟩:=hx
 have key: ∀ a:Addr,oa=some a→(∀ j u,(Lib.byteCells m)[j]? =some u→w.cell? (a.add j)=some u)→
   ∃ v' w',(Builtin.append_ #[39,39] ty #[v,.slice oa m.length xc]).run prog w= .ok v' w'∧Cw w' B v' (bs++m)∧Below B w w':=by
  rintro a rfl hc;obtain⟨v',w',h1,h2,h3,_⟩:=run_append_own (P:=prog) w B 39 ty 5 i0 (.int .u8 0) 1 1 underlying39 hi hz0 hz1 hz2 rfl (by decide) v bs.length _ hown a m.length xc (Lib.byteCells m) (by simp [Lib.byteCells]) hc (fun u hu=>by obtain⟨_,_,rfl⟩:=List.mem_map.1 hu;rfl) (by unfold maxLen;omega) (by omega) hB;exact⟨v',w',h1,by unfold Cw;rw [ζ,show Lib.byteCells (bs++m)=Lib.byteCells bs++Lib.byteCells m by simp [Lib.byteCells]];exact h2,Cm hown hB h3⟩
 by_cases hm:m=[]
 ·subst hm;rcases oa with _|a
  ·obtain⟨ao,cap,rfl,hc,_⟩:=Aj hown;refine⟨.slice ao bs.length cap,w,?_,by simpa using hown,χ _ _⟩;rcases ao with _|ao<;>simp [Builtin.append_,run_underlying underlying39,sizeOf,typeInfo,hi,Builtin.lenOf,Builtin.firstCells,hc,storeCells]
  ·exact key a rfl (fun j u hj=>by simp [Lib.byteCells] at hj)
 ·obtain⟨b,off,rfl,hc⟩:=hxc hm;refine key _ rfl fun j u hj=> ?_;rw [Cr];rw [Lib.byteCells,List.getElem?_map] at hj;obtain⟨y,hy,rfl⟩:=Option.map_eq_some_iff.1 hj;exact hc j y hy
section
variable {ops : Array Oper} {rest : List Oper} {o : Oper} {a : Act} {Q : Exit → Act → World → Prop}
theorem E4 (hgd:o.guard=none) (s y:Operand) (ho:o.op= .call {callee:= .builtin .append,args:= #[s,y],argTypes:= #[39,39]})  {x:Value} {bs m:List UInt8}
  (hs:a.eval s=v) (hy:a.eval y=x) (hown:Cw w B v bs) (hB:B≤w.heap.size) (hx:B7 w x m) (hl:bs.length+m.length≤140737488355328)
  (h: ∀ v' w',Cw w' B v' (bs++m)→Below B w w'→wpList prog ops Q rest (a.put o.dst v') w'):wpList prog ops Q (o::rest) a w:=by
 refine wpList_plain hgd fun K hK=> ?_;obtain⟨v',w',hr,h1,h2⟩:=run_appB hown hB hx hl o.type;unfold Oper.wp;simp [execOp,ho,resolve,invoke,builtin,hs,hy,hr,Result.andThen];exact hK _ _ (h v' w' h1 h2)
theorem wpList_app1 {w:World} (hgd:o.guard=none) (s y:Operand) (ho:o.op= .call {callee:= .builtin .append,args:= #[s,y],argTypes:= #[39,39]}) {B:Nat} {v:Value} {bs:List UInt8} {cv:Int} (c:UInt8)
  (hs:a.eval s=v) (hy:a.eval y= .slice (some ⟨w.heap.size,0,none⟩) 1 1) (hown:Cw w B v bs) (hB:B≤w.heap.size) (hc:cv=(c.toNat:Int)) (hl:bs.length+1≤140737488355328)
  (h: ∀ v' w',Cw w' B v' (bs++[c])→Below B w w'→w.heap.size≤w'.heap.size→wpList prog ops Q rest (a.put o.dst v') w'):wpList prog ops Q (o::rest) a (w.alloc (.cells #[.int .u8 cv] 5)):=by
 have hb:=Aa w (.cells #[.int .u8 cv] 5);refine E4 hgd s y ho hs hy (A2 hown hb) (η hB hb.size) (m:=[c]) ⟨_,1,rfl,μ _,fun _=>⟨w.heap.size,0,rfl,fun i x hi=> ?_⟩⟩ (by simpa using hl) fun v' w' h1 h2=>h v' w' h1 ((hb.mono hB).trans h2) (η hb.size h2.size);rw [World.cell?_alloc_new]
 match i,hi with
 |0,hi=>simp at hi;subst hi;simp [hc]
end
def O1:BitVec 32:=0xEDB88320#32
def crcBit (c:BitVec 32):BitVec 32:=if c.getLsbD 0 then (c >>> 1)^^^O1 else c >>> 1
def Fk:Nat→BitVec 32→BitVec 32
 |0,c=>c
 |n+1,c=>Fk n (crcBit c)
def Hq:List (BitVec 32):=[0x00000000#32,0x1db71064#32,0x3b6e20c8#32,0x26d930ac#32,0x76dc4190#32,0x6b6b51f4#32,0x4db26158#32,0x5005713c#32,
 0xedb88320#32,0xf00f9344#32,0xd6d6a3e8#32,0xcb61b38c#32,0x9b64c2b0#32,0x86d3d2d4#32,0xa00ae278#32,0xbdbdf21c#32]
def crcNib (c:BitVec 32):BitVec 32:=(c >>> 4)^^^Hq.getD (c.toNat % 16) 0
def Nh (c:BitVec 32) (x:UInt8):BitVec 32:=Fk 8 (c^^^BitVec.ofNat 32 x.toNat)
def crcStep (c:BitVec 32) (x:UInt8):BitVec 32:=crcNib (crcNib (c^^^BitVec.ofNat 32 x.toNat))
theorem crcBit_xor (a b:BitVec 32):crcBit (a^^^b)=crcBit a^^^crcBit b:=by
 unfold crcBit;rw [BitVec.getLsbD_xor];rcases h:a.getLsbD 0<;>rcases h':b.getLsbD 0<;>simp [BitVec.ushiftRight_xor_distrib]
 ·ac_rfl
 ·ac_rfl
 ·have: ∀ x y:BitVec 32,x^^^y=x^^^O1^^^(y^^^O1):=fun x y=>by
   rw [show x^^^O1^^^(y^^^O1)=x^^^y^^^(O1^^^O1) by ac_rfl,BitVec.xor_self,BitVec.xor_zero]
  exact this _ _
theorem crcBits_xor: ∀ (n:Nat) (a b:BitVec 32),Fk n (a^^^b)=Fk n a^^^Fk n b
 |0,_,_=>rfl
 |n+1,a,b=>by simp only [Fk,crcBit_xor,crcBits_xor n]
theorem crcBit_low {c:BitVec 32} (h:c.getLsbD 0=false):crcBit c=c >>> 1:=by unfold crcBit;rw [h];rfl
theorem crcBits_low: ∀ (n:Nat) (c:BitVec 32),(∀ i,i<n→c.getLsbD i=false)→Fk n c=c >>> n
 |0,c,_=>by simp [Fk]
 |n+1,c,h=>by
  rw [Fk,crcBit_low (h 0 (by omega)),crcBits_low n _ (fun i hi=>by rw [BitVec.getLsbD_ushiftRight];exact h (1+i) (by omega)),←BitVec.shiftRight_add]
  rw [Nat.add_comm]
theorem crcTable_ok: ∀ n,n<16→Fk 4 (BitVec.ofNat 32 n)=Hq.getD n 0:=by decide
theorem crc_parts (c:BitVec 32):c=((c >>> 4) <<< 4)^^^BitVec.ofNat 32 (c.toNat % 16):=by
 apply BitVec.eq_of_getLsbD_eq;intro i hi;rw [BitVec.getLsbD_xor,BitVec.getLsbD_shiftLeft,BitVec.getLsbD_ushiftRight,BitVec.getLsbD_ofNat,show (16:Nat)=2^4 from rfl,Nat.testBit_mod_two_pow];by_cases h4:i<4
 ·simp [h4,hi,BitVec.getLsbD]
 ·simp only [h4,hi,decide_true,decide_false,Bool.true_and,Bool.false_and,Bool.not_false,Bool.xor_false,Bool.and_false];rw [show 4+(i - 4)=i by omega]
theorem crcNib_bits (c:BitVec 32):crcNib c=Fk 4 c:=by
 have h:=crc_parts c;have h1:Fk 4 ((c >>> 4) <<< 4)=c >>> 4:=by
  rw [crcBits_low 4 _ (fun i hi=>by simp [BitVec.getLsbD_shiftLeft,hi])];apply BitVec.eq_of_getLsbD_eq;intro i hi;simp only [BitVec.getLsbD_ushiftRight,BitVec.getLsbD_shiftLeft];by_cases h5:4+i<32
  ·simp [h5]
  ·simp [h5,BitVec.getLsbD_of_ge c (4+i) (by omega)]
 rw [crcNib]
 conv=>rhs;rw [h]
 rw [crcBits_xor,h1,crcTable_ok _ (Nat.mod_lt _ (by decide))]
theorem crcBits_add: ∀ (m n:Nat) (c:BitVec 32),Fk (m+n) c=Fk n (Fk m c)
 |0,n,c=>by simp [Fk]
 |m+1,n,c=>by rw [show m+1+n=(m+n)+1 by omega,Fk,crcBits_add m n,Fk]
theorem crcStep_take (c:BitVec 32) (x:UInt8):crcStep c x=Nh c x:=by
 unfold crcStep Nh;rw [crcNib_bits,crcNib_bits,←crcBits_add]
def Mu (c:BitVec 32) (l:List UInt8):BitVec 32:=l.foldl Nh c
theorem crcReg_snoc (c:BitVec 32) (l:List UInt8) (x:UInt8):Mu c (l++[x])=Nh (Mu c l) x:=by simp [Mu]
def crcUpdate (s:BitVec 32) (l:List UInt8):BitVec 32:= ~~~ Mu (~~~ s) l
def Gg (l:List UInt8):BitVec 32:=crcUpdate 0 l
def Ew (s:BitVec 32):List UInt8:=[UInt8.ofNat (s.toNat % 256),UInt8.ofNat (s.toNat / 256 % 256),UInt8.ofNat (s.toNat / 65536 % 256),UInt8.ofNat (s.toNat / 16777216)]
def A7 (n:Nat):List UInt8:=if h:n<128 then [UInt8.ofNat n] else UInt8.ofNat (128+n % 128)::A7 (n / 128)
termination_by n
decreasing_by omega
theorem encV_low {n:Nat} (h:n<128):A7 n=[UInt8.ofNat n]:=by rw [A7,dif_pos h]
theorem encV_high {n:Nat} (h: ¬ n<128):A7 n=UInt8.ofNat (128+n % 128)::A7 (n / 128):=by rw [A7,dif_neg h]
theorem encV_len: ∀ (k n:Nat),n<128^(k+1)→(A7 n).length≤k+1
 |0,n,h=>by rw [encV_low (by omega)];simp
 |k+1,n,h=>by
  by_cases hl:n<128
  ·rw [encV_low hl];simp
  ·rw [encV_high hl,τ]
   have:=encV_len k (n / 128) (by rw [Nat.div_lt_iff_lt_mul (by decide)];rw [Nat.pow_succ] at h;exact h)
   omega
theorem De {n:Nat} (h:n<18446744073709551616):(A7 n).length≤10:=encV_len 9 n (Nat.lt_trans h (by decide))
theorem encV_pos (n:Nat):0<(A7 n).length:=by
 by_cases hl:n<128
 ·rw [encV_low hl];simp
 ·rw [encV_high hl];simp
def Ej (us:List Nat):List UInt8:=A7 us.length++us.flatMap A7
theorem encs_snoc (us:List Nat) (u:Nat):(us++[u]).flatMap A7=us.flatMap A7++A7 u:=by simp
theorem encs_len: ∀ (us:List Nat),(∀ u∈us,u<18446744073709551616)→(us.flatMap A7).length≤10*us.length
 | [],_=>by simp
 |u::us,h=>by
  have h1:=De (h u (by simp))
  have h2:=encs_len us fun x hx=>h x (by simp [hx])
  simp only [List.flatMap_cons,ζ,τ]
  omega
theorem encAll_len (us:List Nat) (h: ∀ u∈us,u<18446744073709551616) (hl:us.length<18446744073709551616):(Ej us).length≤10*us.length+10:=by
 have h1:=De hl;have h2:=encs_len us h;unfold Ej;rw [ζ];omega
def le8 (n:Nat) (k:Nat):List UInt8:=(List.range k).map fun i=>UInt8.ofNat (n / 256^i % 256)
theorem le8_succ (n k:Nat):le8 n (k+1)=le8 n k++[UInt8.ofNat (n / 256^k % 256)]:=by simp [le8,List.range_succ]
theorem Mz (n k:Nat):(le8 n k).length=k:=by simp [le8]
def N0 (kind len seq:Nat):List UInt8:=[165,UInt8.ofNat kind,UInt8.ofNat (len % 256),UInt8.ofNat (len / 256)]++le8 seq 8
theorem N1 (kind len seq:Nat):(N0 kind len seq).length=12:=by simp [N0,Mz]
theorem G4 (s:BitVec 32):(Ew s).length=4:=rfl
def By (kind seq:Nat) (body:List UInt8):List UInt8:=
 N0 kind body.length seq++Ew (Gg (N0 kind body.length seq))++body++Ew (Gg body)
theorem Az (kind seq:Nat) (body:List UInt8):(By kind seq body).length=body.length+20:=by
 simp only [By,ζ,N1,G4];omega
def Cx (kind seq:Int) (body:List UInt8):List UInt8×Int:=
 if decide (kind<1) || decide (7<kind) || decide (seq<0) || decide (1099511627776<seq) then ([],63)
 else if decide (16384<body.length) then ([],24) else (By kind.toNat seq.toNat body,0)
def Hs (num first:Int):List UInt8×Int:=
 if decide (num<1) || decide (999999<num) || decide (first<1) || decide (1099511627777<first) then ([],1)
 else Cx 2 num (A7 num.toNat++A7 first.toNat)
structure Sg where
 num:Int
 first:Int
 count:Int
 foot:Int
structure Da where
 gen:Int
 next:Int
 floor:Int
 snap:Int
 snapSeq:Int
 segs:List Sg
def A4 (nx:Int):Int→Int→List Sg→Bool
 |_,_,[]=>false
 |first,num,g::r=>
  decide (g.first=first)&&decide (num<g.num)&&decide (g.num<nx)&&
   (if r.isEmpty then decide (g.count=0)&&decide (g.foot=0)&&decide (first≤1099511627777)
    else decide (1≤g.count)&&decide (g.count≤512)&&decide (1≤g.foot)&&decide (g.foot≤1099511627776)&&A4 nx (first+g.count) g.num r)
def Cy (m:Da):Bool:=
 decide (1≤m.gen)&&decide (m.gen≤1099511627776)&&decide (2≤m.next)&&decide (m.next≤1000000)&&decide (0≤m.snapSeq)&&decide (m.snapSeq≤1099511627776)&&
  decide (0≤m.floor)&&decide (m.floor≤m.snapSeq)&&decide (0≤m.snap)&&decide (m.snap<m.next)&&(decide (m.snap=0)==decide (m.snapSeq=0))&&decide (m.segs.length≤256)&&A4 m.next (m.floor+1) 0 m.segs
theorem chain_mem (nx:Int): ∀ (l:List Sg) (first num:Int),A4 nx first num l=true→0≤num→1≤first→ ∀ g∈l,1≤g.num∧g.num<nx∧1≤g.first∧g.first≤first+512*l.length∧0≤g.count∧g.count≤512∧0≤g.foot∧g.foot≤1099511627776
 | [],_,_,h,_,_=>by simp [A4] at h
 |g::r,first,num,h,h0,h1=>by
  simp only [A4,Bool.and_eq_true,decide_eq_true_eq] at h
  obtain⟨⟨⟨a1,a2⟩,a3⟩,a4⟩:=h
  intro x hx
  by_cases hr:r=[]
  ·subst hr
   simp only [List.isEmpty_nil,if_true,Bool.and_eq_true,decide_eq_true_eq] at a4
   rcases Δ.1 hx with rfl|hx
   ·simp only [τ,Φ];omega
   ·cases hx
  ·rw [γ (by cases r<;>simp_all)] at a4
   simp only [Bool.and_eq_true,decide_eq_true_eq] at a4
   obtain⟨⟨⟨⟨b1,b2⟩,b3⟩,b4⟩,b5⟩:=a4
   rcases Δ.1 hx with rfl|hx
   ·simp only [τ];omega
   ·have:=chain_mem nx r (first+g.count) g.num b5 (by omega) (by omega) x hx
    simp only [τ]
    omega
theorem Mt (nx:Int): ∀ (l:List Sg) (first num:Int),A4 nx first num l=true→ ∃ g,l.getLast? =some g∧g.count=0∧g.foot=0∧g.first≤1099511627777∧g∈l
 | [],_,_,h=>by simp [A4] at h
 |g::r,first,num,h=>by
  simp only [A4,Bool.and_eq_true,decide_eq_true_eq] at h
  obtain⟨⟨⟨a1,a2⟩,a3⟩,a4⟩:=h
  by_cases hr:r=[]
  ·subst hr
   simp only [List.isEmpty_nil,if_true,Bool.and_eq_true,decide_eq_true_eq] at a4
   exact⟨g,rfl,a4.1.1,a4.1.2,by omega,by simp⟩
  ·rw [γ (by cases r<;>simp_all)] at a4
   simp only [Bool.and_eq_true,decide_eq_true_eq] at a4
   obtain⟨x,h1,h2,h3,h4,h5⟩:=Mt nx r _ _ a4.2
   exact⟨x,by rw [List.getLast?_cons,h1];rfl,h2,h3,h4,by simp [h5]⟩
def Pq (g:Sg):List Nat:=[g.num.toNat,g.first.toNat,g.count.toNat,g.foot.toNat]
def manNums (m:Da):List Nat:=[m.next.toNat,m.floor.toNat,m.snap.toNat,m.snapSeq.toNat]++m.segs.flatMap Pq
def Ct (m:Da):List UInt8×Int:=if Cy m then Cx 4 m.gen (Ej (manNums m)) else ([],80)
theorem N3: ∀ l:List Sg,(l.flatMap Pq).length=4*l.length
 | []=>rfl
 |g::l=>by simp only [List.flatMap_cons,ζ,N3 l,τ,Pq,Φ];omega
theorem M0 (m:Da):(manNums m).length=4+4*m.segs.length:=by
 rw [manNums,ζ,N3];simp
structure I2 (m:Da):Prop where
 gen:1≤m.gen∧m.gen≤1099511627776
 next:2≤m.next∧m.next≤1000000
 snapSeq:0≤m.snapSeq∧m.snapSeq≤1099511627776
 floor:0≤m.floor∧m.floor≤m.snapSeq
 snap:0≤m.snap∧m.snap<m.next
 len:m.segs.length≤256
 chain:A4 m.next (m.floor+1) 0 m.segs=true
 seg: ∀ g∈m.segs,1≤g.num∧g.num<m.next∧1≤g.first∧g.first≤1099511758849∧0≤g.count∧g.count≤512∧0≤g.foot∧g.foot≤1099511627776
theorem Cj {m:Da} (h:Cy m=true):I2 m:=by
 simp only [Cy,Bool.and_eq_true,decide_eq_true_eq] at h;obtain⟨⟨⟨⟨⟨⟨⟨⟨⟨⟨⟨⟨a,b⟩,c⟩,d⟩,e⟩,f⟩,g⟩,i⟩,j⟩,k⟩,l⟩,n⟩,o⟩:=h;refine⟨⟨a,b⟩,⟨c,d⟩,⟨e,f⟩,⟨g,i⟩,⟨j,k⟩,n,o,fun x hx=> ?_⟩;have:=chain_mem m.next m.segs (m.floor+1) 0 o (by omega) (by omega) x hx;omega
theorem manNums_lt {m:Da} (h:I2 m): ∀ u∈manNums m,u<2199023255552:=by
 intro u hu;simp only [manNums,List.mem_append,Δ,Ω,or_false,List.mem_flatMap,Pq] at hu;have h1:=h.next;have h2:=h.snapSeq;have h3:=h.floor;have h4:=h.snap;rcases hu with(rfl|rfl|rfl|rfl)|⟨g,hg,hu⟩
 ·omega
 ·omega
 ·omega
 ·omega
 ·have h5:=h.seg g hg;rcases hu with rfl|rfl|rfl|rfl<;>omega
theorem manBody_len {m:Da} (h:I2 m):(Ej (manNums m)).length≤10290:=by
 have h1:=h.len;have h2:=M0 m;have:=encAll_len (manNums m) (fun u hu=>Nat.lt_trans (manNums_lt h u hu) (by decide)) (by omega);omega
theorem encMan_ok {m:Da} (h:Cy m=true):Ct m=(By 4 m.gen.toNat (Ej (manNums m)),0):=by
 have hf:=Cj h;have h1:=hf.gen;have h2:=manBody_len hf;rw [Ct,κ h,Cx,γ (by simp;omega),γ (by simp;omega)];rfl
theorem hdrEnc_ok {first:Int} (h1:1≤num) (h2:num≤999999) (h3:1≤first) (h4:first≤1099511627777):Hs num first=(By 2 num.toNat (A7 num.toNat++A7 first.toNat),0):=by
 have a:=De (show num.toNat<18446744073709551616 by omega);have b:=De (show first.toNat<18446744073709551616 by omega);rw [Hs,γ (by simp;omega),Cx,γ (by simp;omega),γ (by simp;omega)];rfl
def nibs:List Int:=Hq.map fun c=>(c.toNat:Int)
def Bh (w:World):Prop:=Lib.TabIs prog w "daybook/crc.nibbles" .u32 nibs
theorem Bh.below (h:Bh w) (hb:Below w.heap.size w w'):Bh w':=Joins.tab_stays (g:=1) (by kernel_rfl) h hb (μ _)
theorem Bh.at (h:Bh w) (k:Nat) (hk:k<16):w.cell? ⟨1,k,none⟩=some (.int .u32 ((Hq.getD k 0).toNat:Int)):=by
 have:=Lib.TabIs.cell (g:=1) h (by kernel_rfl) k (by simp [nibs,Hq];omega);rw [this];congr 2;simp only [nibs,List.getD_eq_getElem?_getD,List.getElem?_map];rw [Θ (show k<Hq.length by simp [Hq];omega)];rfl
theorem xorNat (a b:BitVec 32):bits .xor .u32 (a.toNat:Int) (b.toNat:Int)=((a^^^b).toNat:Int):=by
 rw [u32_xor_nat _ _ a.isLt b.isLt,BitVec.toNat_xor]
theorem byteNat (x:UInt8):(x.toNat:Int)=((BitVec.ofNat 32 x.toNat).toNat:Int):=by
 have h:x.toNat<256:=x.toNat_lt;rw [BitVec.toNat_ofNat,Nat.mod_eq_of_lt (by omega)]
theorem and15 (a:BitVec 32):bits .and .u32 (a.toNat:Int) 15=((a.toNat % 16:Nat):Int):=by
 rw [show (15:Int)=((15:Nat):Int) from rfl,u32_and_nat _ _ a.isLt (by decide)];congr 1;exact Nat.and_two_pow_sub_one_eq_mod a.toNat 4
theorem shr4 (a:BitVec 32):(a.toNat:Int) / (16:Int)=((a >>> 4).toNat:Int):=by
 rw [BitVec.toNat_ushiftRight,Nat.shiftRight_eq_div_pow]
 norm_cast
theorem crcStep_any (c:BitVec 32) (x:UInt8) (w:World) (ht:Bh w):
  Calls prog 174 #[.int .u32 (c.toNat:Int),.int .u8 (x.toNat:Int)] w fun e w'=>e= .returned (.int .u32 ((Nh c x).toNat:Int))∧w=w':=by
 obtain⟨c1,hc1⟩: ∃ c1,c1=c^^^BitVec.ofNat 32 x.toNat:=⟨_,rfl⟩;have e1:bits .xor .u32 (c.toNat:Int) ((x.toNat:Int) % 4294967296)=(c1.toNat:Int):=by
  have h:x.toNat<256:=x.toNat_lt;rw [Int.emod_eq_of_lt (by omega) (by omega),byteNat,xorNat,hc1]
 have a1:=and15 c1;have k1:=ht.at (c1.toNat % 16) (Nat.mod_lt _ (by decide));obtain⟨c2,hc2⟩: ∃ c2,c2=crcNib c1:=⟨_,rfl⟩;have e2:bits .xor .u32 ((c1.toNat:Int) / (16:Int)) ((Hq.getD (c1.toNat % 16) 0).toNat:Int)=(c2.toNat:Int):=by rw [shr4,xorNat,hc2,crcNib]
 have a2:=and15 c2;have k2:=ht.at (c2.toNat % 16) (Nat.mod_lt _ (by decide));have e3:bits .xor .u32 ((c2.toNat:Int) / (16:Int)) ((Hq.getD (c2.toNat % 16) 0).toNat:Int)=((Nh c x).toNat:Int):=by rw [shr4,xorNat,←crcNib,hc2,hc1,←crcStep_take,crcStep]
 have b1:((c1.toNat % 16:Nat):Int)<16:=by omega
 have b2:((c2.toNat % 16:Nat):Int)<16:=by omega
 clear hc1 hc2 ht;generalize (Hq.getD (c1.toNat % 16) 0)=t1 at*;generalize (Hq.getD (c2.toNat % 16) 0)=t2 at*;generalize c1.toNat % 16=n1 at*;generalize c2.toNat % 16=n2 at*;generalize Nh c x=c3 at*;go_enter func174,ntmps174;go_wp2;go_ret;exact⟨rfl,rfl⟩
theorem crcReg_take (c:BitVec 32) (l:List UInt8) (k:Nat) (x:UInt8) (h:l[k]? =some x):Mu c (l.take (k+1))=Nh (Mu c (l.take k)) x:=by
 obtain⟨h1,h2⟩:=List.getElem?_eq_some_iff.1 h;rw [List.take_succ_eq_append_getElem h1,h2,crcReg_snoc]
theorem not32 (c:BitVec 32):bits .xor .u32 IntKind.u32.max (c.toNat:Int)=((~~~c).toNat:Int):=by
 have h:=xorNat (BitVec.allOnes 32) c;rw [BitVec.allOnes_xor] at h;exact h
theorem crcUpdate_any (s:BitVec 32) (l:List UInt8) (v:Value) (w:World) (hv:B7 w v l) (ht:Bh w) (hl:l.length≤9223372036854775807):
  Calls prog 139 #[.int .u32 (s.toNat:Int),v] w fun e w'=>e= .returned (.int .u32 ((crcUpdate s l).toNat:Int))∧Below w.heap.size w w':=by
 obtain⟨oa,cap,rfl,hlc,hc⟩:=hv;have HC:=Qh (show ∀ (i:Nat) x,l[i]? =some x→ ∃ b off,oa=some ⟨b,off,none⟩∧w.cell? ⟨b,off+i,none⟩=some (.int .u8 (x.toNat:Int)) from fun i x hx=>by
  obtain⟨b,off,h1,h2⟩:=hc (by rintro rfl;simp at hx);exact⟨b,off,h1,h2 i x hx⟩)
 obtain⟨s0,hs0⟩: ∃ s0,s0= ~~~s:=⟨_,rfl⟩;have n1:bits .xor .u32 IntKind.u32.max (s.toNat:Int)=(s0.toNat:Int):=by rw [not32,hs0]
 have HS0:=Qh hs0;have HT:=Qh ht;clear hc ht hs0;go_enter func139,ntmps139;go_wp2;go_loopw [5,12] (fun cv iv wr=> ∃ k:Nat,k≤l.length∧iv= Vi Vk k∧cv= .int .u32 ((Mu s0 (l.take k)).toNat:Int)∧Below w.heap.size w wr) (fun _ iv _=>l.length - (intOf iv).toNat)
 case atStart=>exact⟨0,θ _,rfl,rfl,χ _ _⟩
 case round=>
  obtain⟨k,hk,rfl,rfl,hb⟩:=hrel;have HB:=Qh hb;clear hb;by_cases hlt:k<l.length
  ·obtain⟨x,hx,_,_⟩:=Pj l k hlt;obtain⟨b,off,rfl,hcell⟩:=HC.out k x hx;have q1:(k:Int)<(l.length:Int):=by omega
   have c1:=cell_later HB.out hcell;have HS:=Qh (crcStep_any (Mu s0 (l.take k)) x wr (HT.out.below HB.out));have HX:=Qh (crcReg_take s0 l k x hx);clear hx hcell n1;generalize Mu s0 (l.take k)=r0 at*;go_wp2_with fail;go_at_call 174;refine HS.out.mono ?_;rintro e w1 ⟨rfl,rfl⟩;go_wp2;go_roundw
   case rel=>exact⟨k+1,by omega,by go_num,by rw [HX.out],HB.out⟩
   case measure=>simp [intOf];omega
  ·obtain rfl:k=l.length:=by omega
   obtain⟨r1,hr1⟩: ∃ r1,r1=crcUpdate s l:=⟨_,rfl⟩;have n2:bits .xor .u32 IntKind.u32.max ((Mu s0 (l.take l.length)).toNat:Int)=(r1.toNat:Int):=by rw [not32,List.take_length,HS0.out,hr1];rfl
   have HR:=Qh hr1;clear n1 hr1;generalize Mu s0 (l.take l.length)=r0 at*;go_wp2;go_ret;exact⟨by rw [←HR.out];rfl,HB.out⟩
theorem crcSum_any (l:List UInt8) (v:Value) (w:World) (hv:B7 w v l) (ht:Bh w) (hl:l.length≤9223372036854775807):
  Calls prog 106 #[v] w fun e w'=>e= .returned (.int .u32 ((Gg l).toNat:Int))∧Below w.heap.size w w':=by
 have HU:=Qh (crcUpdate_any 0 l v w hv ht hl);obtain⟨oa,cap,rfl,hlc,hc⟩:=hv;clear hc;go_enter func106,ntmps106;go_wp2_with fail;go_at_call 139;refine HU.out.mono ?_;rintro e w1 ⟨rfl,hb⟩;go_wp2;go_ret;exact⟨rfl,hb⟩
theorem fourCells (s:BitVec 32):Lib.byteCells (Ew s)=[.int .u8 ((s.toNat:Int) % 256),.int .u8 ((s.toNat:Int) / 256 % 256),.int .u8 ((s.toNat:Int) / 65536 % 256),.int .u8 ((s.toNat:Int) / 16777216)]:=by
 have:=s.isLt;have g: ∀ x:Nat,x<256→(((UInt8.ofNat x).toNat:Nat):Int)=(x:Int):=fun x hx=>by rw [UInt8.toNat_ofNat',Nat.mod_eq_of_lt (by omega)]
 simp only [Lib.byteCells,Ew,List.map_cons,List.map_nil];rw [g _ (by omega),g _ (by omega),g _ (by omega),g _ (by omega)];have e1:((s.toNat % 256:Nat):Int)=(s.toNat:Int) % 256:=by omega
 have e2:((s.toNat / 256 % 256:Nat):Int)=(s.toNat:Int) / 256 % 256:=by omega
 have e3:((s.toNat / 65536 % 256:Nat):Int)=(s.toNat:Int) / 65536 % 256:=by omega
 have e4:((s.toNat / 16777216:Nat):Int)=(s.toNat:Int) / 16777216:=by omega
 rw [e1,e2,e3,e4]
theorem own_lit (w:World) (l:List UInt8) (hl:l.length≤maxLen):(w.alloc (.cells (Lib.byteCells l).toArray 5)).ownsRow w.heap.size 5 1 (.slice (some ⟨w.heap.size,0,none⟩) l.length l.length) l.length (Lib.byteCells l):=by
 have:=World.ownsRow_lit (base:=w.heap.size) (e:=5) (size:=1) w (Lib.byteCells l).toArray l.length (μ _) hl (by simp [Lib.byteCells]);simpa using this
theorem crcFour_any (s:BitVec 32) (w:World):
  Calls prog 105 #[.int .u32 (s.toNat:Int)] w fun e w'=> ∃ v,e= .returned v∧w'.ownsRow w.heap.size 5 1 v 4 (Lib.byteCells (Ew s))∧Below w.heap.size w w':=by
 have HO:=Qh (own_lit w (Ew s) (show 4≤maxLen by decide));have HC:=Qh (fourCells s);have hs:=s.isLt;go_enter func105,ntmps105;go_wp2;go_ret;refine⟨_,rfl,?_,Aa _ _⟩;have h:=HO.out;rw [HC.out] at h ⊢;exact h
theorem low7 (n:Nat):(((UInt8.ofNat (128+n % 128)).toNat:Nat):Int)=(n:Int) % 128+128:=by
 rw [UInt8.toNat_ofNat',Nat.mod_eq_of_lt (by omega)];omega
theorem or128_all: ∀ a:Fin 256,a.val ||| 128=a.val % 128+128:=by decide
theorem or128 (a:Nat) (h:a<256):bits .or .u8 (a:Int) 128=((a % 128+128:Nat):Int):=by
 rw [show (128:Int)=((128:Nat):Int) from rfl,u8_or_nat a 128 h (by decide)];exact congrArg _ (or128_all ⟨a,h⟩)
theorem byte7 {n:Nat} (h:n<128):(((UInt8.ofNat n).toNat:Nat):Int)=(n:Int):=by rw [UInt8.toNat_ofNat',Nat.mod_eq_of_lt (by omega)]
theorem make10 (w:World):(Instr.makeSlice 39 (Vi Vk 0) (Vi Vk 10)).run prog w= .ok (.slice (some ⟨w.heap.size,0,none⟩) 0 10) (w.alloc (.cells #[.int .u8 0,.int .u8 0,.int .u8 0,.int .u8 0,.int .u8 0,.int .u8 0,.int .u8 0,.int .u8 0,.int .u8 0,.int .u8 0] 5)):=by kernel_rfl
theorem own10 (w:World):Cw (w.alloc (.cells #[.int .u8 0,.int .u8 0,.int .u8 0,.int .u8 0,.int .u8 0,.int .u8 0,.int .u8 0,.int .u8 0,.int .u8 0,.int .u8 0] 5)) w.heap.size (.slice (some ⟨w.heap.size,0,none⟩) 0 10) []:=
 ⟨rfl,.inr ⟨w.heap.size,10,_,rfl,μ _,σ w _,by simp,by decide,rfl,by simp [Lib.byteCells]⟩⟩
theorem F9 (n:Nat) (w:World) (hn:n<18446744073709551616):
  Calls prog 67 #[.int .u64 (n:Int)] w fun e w'=> ∃ v,e= .returned v∧Cw w' w.heap.size v (A7 n)∧Below w.heap.size w w':=by
 have hmk:=make10 w;have HO:=Qh (own10 w);go_enter func67,ntmps67;go_wp2;go_loopw [0,3] (fun uv bv wr=> ∃ (m:Nat) (bs:List UInt8),uv= .int .u64 (m:Int)∧m<18446744073709551616∧Cw wr w.heap.size bv bs∧Hid (bs++A7 m=A7 n)∧Below w.heap.size w wr) (fun uv _ _=>(intOf uv).toNat)
 case atStart=>exact⟨n,[],rfl,hn,HO.out,Qh rfl,Aa _ _⟩
 case round=>
  clear hmk HO;obtain⟨m,bs,rfl,hm,hown,HE,hb⟩:=hrel;have HO:=Qh hown;have HB:=Qh hb;have hsz:=hb.size;have hlen:bs.length≤10:=by
   have:=De hn;rw [←HE.out,ζ] at this;omega
  clear hown hb;by_cases hlt:m<128
  ·have t1:decide ((128:Int)≤(m:Int))=false:=by simp;omega
   have HL:=Qh (encV_low hlt);have HC:=Qh (byte7 hlt);go_wp2_with (at_builtin;refine wpList_app1 rfl _ _ rfl (UInt8.ofNat m) rfl rfl HO.out hsz ?c1 ?c2 ?_)
   case c1=>exact HC.out.symm
   case c2=>omega
   intro v' w' h1 h2 _;have HF:=Qh h1;have HG:=Qh (HB.out.trans h2);clear h1 h2;go_wp2;go_ret;exact⟨v',rfl,by have:=HF.out;rwa [←HL.out,HE.out] at this,HG.out⟩
  ·have t1:decide ((128:Int)≤(m:Int))=true:=by simp;omega
   have HL:=Qh (encV_high hlt);obtain⟨c,hc⟩: ∃ c,c=UInt8.ofNat (128+m % 128):=⟨_,rfl⟩;have HC:=Qs (bits .or .u8 ((m:Int) % 256) 128=(c.toNat:Int)) (by
    rw [hc,low7,show (m:Int) % 256=((m % 256:Nat):Int) by omega,or128 _ (Nat.mod_lt _ (by decide))];omega)
   have HX:=Qh hc;clear hc;go_wp2_with (at_builtin;refine wpList_app1 rfl _ _ rfl c rfl rfl HO.out hsz ?c1 ?c2 ?_)
   case c1=>exact HC.out
   case c2=>omega
   intro v' w' h1 h2 h3;have HF:=Qh h1;have HG:=Qh (HB.out.trans h2);clear h1 h2;go_wp2;go_roundw
   case rel=>exact⟨m / 128,bs++[c],by go_num,by omega,HF.out,Qh (by rw [List.append_assoc,List.singleton_append,HX.out,←HL.out,HE.out]),HG.out⟩
   case measure=>simp [intOf];omega
def URow (w:World) (v:Value) (us:List Nat):Prop:=
 ∃ oa cap,v= .slice oa us.length cap∧us.length≤cap∧ ∀ (i:Nat) u,us[i]? =some u→ ∃ b off,oa=some ⟨b,off,none⟩∧w.cell? ⟨b,off+i,none⟩=some (.int .u64 (u:Int))
theorem URow.below (h:URow w v us) (hb:Below w.heap.size w w'):URow w' v us:=by
 obtain⟨oa,cap,h1,h2,h3⟩:=h;exact⟨oa,cap,h1,h2,fun i u hu=>by obtain⟨b,off,e,hc⟩:=h3 i u hu;exact⟨b,off,e,cell_later hb hc⟩⟩
def I4 (us:List Nat) (k:Nat):List UInt8:=A7 us.length++(us.take k).flatMap A7
theorem encPart_zero (us:List Nat):I4 us 0=A7 us.length:=by simp [I4]
theorem encPart_succ (h:us[k]? =some u):I4 us (k+1)=I4 us k++A7 u:=by
 obtain⟨h1,h2⟩:=List.getElem?_eq_some_iff.1 h;unfold I4;rw [List.take_succ_eq_append_getElem h1,h2,encs_snoc,List.append_assoc]
theorem encPart_all (us:List Nat):I4 us us.length=Ej us:=by simp [I4,Ej]
theorem encPart_len (us:List Nat) (k:Nat) (hk:k≤us.length) (hu: ∀ u∈us,u<18446744073709551616) (hl:us.length≤1000000000000):(I4 us k).length≤10*us.length+10:=by
 have h1:=De (show us.length<18446744073709551616 by omega);have h2:=encs_len (us.take k) fun x hx=>hu x (List.mem_of_mem_take hx);rw [ω] at h2;unfold I4;rw [ζ];omega
theorem encodeAll_any (us:List Nat) (v:Value) (w:World) (hv:URow w v us) (hu: ∀ u∈us,u<18446744073709551616) (hl:us.length≤1000000000000):
  Calls prog 157 #[v] w fun e w'=> ∃ v',e= .returned v'∧Cw w' w.heap.size v' (Ej us)∧Below w.heap.size w w':=by
 obtain⟨oa,cap,rfl,hlc,hc⟩:=hv;have HC:=Qh hc;have HU:=Qh hu;have HE0:=Qh (F9 us.length w (by omega));clear hc hu;go_enter func157,ntmps157;go_wp2_with fail;go_at_call 67;refine HE0.out.mono ?_;rintro e w0 ⟨v0,rfl,ho0,hb0⟩;have HO0:=Qh ho0;have HB0:=Qh hb0;clear ho0 hb0 HE0;go_wp2;go_loopw [3,12] (fun bv iv wr=> ∃ k:Nat,k≤us.length∧iv= Vi Vk k∧Cw wr w.heap.size bv (I4 us k)∧Below w.heap.size w wr) (fun _ iv _=>us.length - (intOf iv).toNat)
 case atStart=>exact⟨0,θ _,rfl,by rw [encPart_zero];exact HO0.out,HB0.out⟩
 case round=>
  clear HO0 HB0;obtain⟨k,hk,rfl,hown,hb⟩:=hrel;have HO:=Qh hown;have HB:=Qh hb;clear hown hb;by_cases hlt:k<us.length
  ·obtain⟨u,hx,_,hm⟩:=Pj us k hlt;obtain⟨b,off,rfl,hcell⟩:=HC.out k u hx;have q1:(k:Int)<(us.length:Int):=by omega
   have c1:=cell_later HB.out hcell;have HS:=Qh (F9 u wr (HU.out u hm));have HX:=Qh (encPart_succ hx);have HL:=Qh (encPart_len us (k+1) (by omega) HU.out hl);clear hx hcell hm;go_wp2_with fail;go_at_call 67;refine HS.out.mono ?_;rintro e w1 ⟨v1,rfl,h1,h2⟩;have H1:=Qh h1;have HB1:=Qh (Below.next HB.out h2);have HO1:=Qh (HO.out.later h2);clear h1 h2 HS HO;obtain⟨p,hp⟩: ∃ p,p=I4 us k:=⟨_,rfl⟩;obtain⟨q,hq⟩: ∃ q,q=A7 u:=⟨_,rfl⟩;have HPQ:=Qs (I4 us (k+1)=p++q) (by rw [HX.out,hp,hq]);rw [←hp] at HO1;rw [←hq] at H1;have hlen:p.length+q.length≤140737488355328:=by have:=HL.out;rw [HPQ.out,ζ] at this;omega
   clear HX hp hq;go_wp2_with (at_builtin;refine E4 rfl _ _ rfl rfl rfl HO1.out ?c1 H1.out.brow hlen ?_)
   case c1=>exact HB1.out.size
   intro v' w' h1 h2;have HF:=Qh h1;have HG:=Qh (HB1.out.trans h2);clear h1 h2;go_wp2;go_roundw
   case rel=>exact⟨k+1,by omega,by go_num,by rw [HPQ.out];exact HF.out,HG.out⟩
   case measure=>simp [intOf];omega
  ·obtain rfl:k=us.length:=by omega
   have HA:=Qh (encPart_all us);go_wp2;go_ret;exact⟨_,rfl,by rw [←HA.out];exact HO.out,HB.out⟩
@[reducible] def frV (k s : Int) (bv : Value) : Value := .agg #[Vi Vk k, Vi Vk s, bv]
def Ha (k s:Int) (bv:Value):Array Value:= #[Vi Vk k,Vi Vk s,bv]
theorem le8_byte (n k:Nat):(((UInt8.ofNat (n / 256^k % 256)).toNat:Nat):Int)=((n / 256^k % 256:Nat):Int):=by
 rw [UInt8.toNat_ofNat',Nat.mod_eq_of_lt (Nat.mod_lt _ (by decide))]
def G2 (kind len seq k:Nat):List UInt8:=[165,UInt8.ofNat kind,UInt8.ofNat (len % 256),UInt8.ofNat (len / 256)]++le8 seq k
theorem headPart_succ (kind len seq k:Nat):G2 kind len seq (k+1)=G2 kind len seq k++[UInt8.ofNat (seq / 256^k % 256)]:=by
 unfold G2;rw [le8_succ,List.append_assoc]
theorem I5 (kind len seq k:Nat):(G2 kind len seq k).length=4+k:=by simp [G2,Mz];omega
theorem headCells {kind len:Nat} (h1:kind≤7) (h2:len≤16384):Lib.byteCells [165,UInt8.ofNat kind,UInt8.ofNat (len % 256),UInt8.ofNat (len / 256)]=[.int .u8 165,.int .u8 (kind:Int),.int .u8 ((len:Int) % 256),.int .u8 ((len:Int) / 256)]:=by
 have g: ∀ x:Nat,x<256→(((UInt8.ofNat x).toNat:Nat):Int)=(x:Int):=fun x hx=>by rw [UInt8.toNat_ofNat',Nat.mod_eq_of_lt (by omega)]
 simp only [Lib.byteCells,List.map_cons,List.map_nil];rw [g _ (by omega),g _ (by omega),g _ (by omega)];have e2:((len % 256:Nat):Int)=(len:Int) % 256:=by omega
 have e3:((len / 256:Nat):Int)=(len:Int) / 256:=by omega
 rw [e2,e3];rfl
def Eq (w:World) (g:Nat) (k s:Int) (bv:Value):Prop:=w.heap[g]? =some (.cells (Ha k s bv) 101 (0,0))
theorem Eq.below {k s:Int}  (h:Eq w g k s bv) (hb:Below w.heap.size w w'):Eq w' g k s bv:=by
 unfold Eq at*;rw [hb.block g (δ.1 h).1];exact h
theorem Eq.keep {k s:Int}  (h:Eq w g k s bv) (hb:Below B w w') (hB:g<B):Eq w' g k s bv:=by
 unfold Eq at*;rw [hb.block g hB];exact h
theorem Eq.c0 {k s:Int}  (h:Eq w g k s bv):w.cell? ⟨g,0,none⟩=some (Vi Vk k):=by unfold Eq at h;simp [World.cell?,h,Ha]
theorem Eq.c1 {k s:Int}  (h:Eq w g k s bv):w.cell? ⟨g,1,none⟩=some (Vi Vk s):=by unfold Eq at h;simp [World.cell?,h,Ha]
theorem Eq.c2 {k s:Int}  (h:Eq w g k s bv):w.cell? ⟨g,2,none⟩=some bv:=by unfold Eq at h;simp [World.cell?,h,Ha]
theorem Ff (w:World) (k s:Int) (bv:Value):Eq (w.alloc (.cells (Ha k s bv) 101)) w.heap.size k s bv:=σ w _
theorem L9 {k s:Int}  (h:k<1∨7<k∨s<0∨1099511627776<s):Cx k s body=([],63):=by
 unfold Cx;rw [κ (by simp;omega)]
theorem frameEnc_big {k s:Int}  (h: ¬ (k<1∨7<k∨s<0∨1099511627776<s)) (hb:16384<body.length):Cx k s body=([],24):=by
 unfold Cx;rw [γ (by simp;omega),κ (by simpa using hb)]
theorem Nl {k s:Int}  (h: ¬ (k<1∨7<k∨s<0∨1099511627776<s)) (hb: ¬ 16384<body.length):Cx k s body=(By k.toNat s.toNat body,0):=by
 unfold Cx;rw [γ (by simp;omega),γ (by simpa using hb)]
def Cv (w:World) (r:List UInt8×Int) (e:Ending) (w':World):Prop:= ∃ v,e= .returned (.tuple #[v,Vi Vk r.2])∧Cw w' w.heap.size v r.1∧Below w.heap.size w w'
theorem frame_bad (k s:Int) (body:List UInt8) (oa:Option Addr) (cap:Nat) (w:World) (h:(k<1∨7<k∨s<0∨1099511627776<s)∨16384<body.length):
  Calls prog 68 #[frV k s (.slice oa body.length cap)] w (Cv w (Cx k s body)):=by
 by_cases h1:k<1
 ·have HE:=Qh (L9 (body:=body) (.inl h1) (s:=s));have t1:decide (k≤0)=true:=by simp;omega
  clear h h1;go_enter func68,ntmps68;go_wp2;go_ret2;unfold Cv;rw [HE.out];exact⟨_,rfl,Cw.nil _ _,Aa _ _⟩
 have t1:decide (k≤0)=false:=by simp;omega
 by_cases h2:7<k
 ·have HE:=Qh (L9 (body:=body) (.inr (.inl h2)) (s:=s));have t2:decide (7<k)=true:=by simpa using h2
  clear h h1 h2;go_enter func68,ntmps68;go_wp2;go_ret2;unfold Cv;rw [HE.out];exact⟨_,rfl,Cw.nil _ _,Aa _ _⟩
 have t2:decide (7<k)=false:=by simpa using h2
 by_cases h3:s<0
 ·have HE:=Qh (L9 (body:=body) (.inr (.inr (.inl h3))) (k:=k));have t3:decide (s<0)=true:=by simpa using h3
  clear h h1 h2 h3;go_enter func68,ntmps68;go_wp2;go_ret2;unfold Cv;rw [HE.out];exact⟨_,rfl,Cw.nil _ _,Aa _ _⟩
 have t3:decide (s<0)=false:=by simpa using h3
 by_cases h4:1099511627776<s
 ·have HE:=Qh (L9 (body:=body) (.inr (.inr (.inr h4))) (k:=k));have t4:decide (1099511627776<s)=true:=by simpa using h4
  clear h h1 h2 h3 h4;go_enter func68,ntmps68;go_wp2;go_ret2;unfold Cv;rw [HE.out];exact⟨_,rfl,Cw.nil _ _,Aa _ _⟩
 have t4:decide (1099511627776<s)=false:=by simpa using h4
 have h5:16384<body.length:=by omega
 have HE:=Qh (frameEnc_big (k:=k) (s:=s) (by omega) h5);have t5:decide (16384<(body.length:Int))=true:=by simp;omega
 clear h h1 h2 h3 h4 h5;go_enter func68,ntmps68;go_wp2;go_ret2;unfold Cv;rw [HE.out];exact⟨_,rfl,Cw.nil _ _,Aa _ _⟩
theorem frame_good (k s:Int) (body:List UInt8) (bv:Value) (w:World) (hv:B7 w bv body) (hn:Bh w) (h: ¬ (k<1∨7<k∨s<0∨1099511627776<s)) (h5: ¬ 16384<body.length):
  Calls prog 68 #[frV k s bv] w (Cv w (Cx k s body)):=by
 have HE:=Qh (Nl h h5);have t1:decide (k≤0)=false:=by simp;omega
 have t2:decide (7<k)=false:=by simp;omega
 have t3:decide (s<0)=false:=by simp;omega
 have t4:decide (1099511627776<s)=false:=by simp;omega
 have t5:decide (16384<(body.length:Int))=false:=by simp;omega
 obtain⟨kn,rfl⟩:=Int.eq_ofNat_of_zero_le (show 0≤k by omega);obtain⟨sn,rfl⟩:=Int.eq_ofNat_of_zero_le (show 0≤s by omega);have HV:=Qh hv;have HN:=Qh hn;obtain⟨oa,cap,rfl,_,hcc⟩:=hv;clear hcc hn;have hl:body.length≤16384:=by omega
 have hk:kn≤7:=by omega
 have hs:sn≤1099511627776:=by omega
 have t0: ¬ kn=0:=by omega
 have HB0:=Qh (Ff w kn sn (.slice oa body.length cap));have HO:=Qs (∀ W:World,Cw (W.alloc (.cells #[.int .u8 165,.int .u8 (kn:Int),.int .u8 ((body.length:Int) % 256),.int .u8 ((body.length:Int) / 256)] 5)) W.heap.size (.slice (some ⟨W.heap.size,0,none⟩) 4 4) (G2 kn body.length sn 0)) (by
  intro W;have:=own_lit W (G2 kn body.length sn 0) (by rw [I5];decide);rw [I5] at this;have e:Lib.byteCells (G2 kn body.length sn 0)=[.int .u8 165,.int .u8 (kn:Int),.int .u8 ((body.length:Int) % 256),.int .u8 ((body.length:Int) / 256)]:=by rw [←headCells hk hl];simp [G2,le8]
  unfold Cw;rw [I5];rw [e] at this ⊢;exact this)
 clear h h5;go_enter func68,ntmps68;go_wp2;go_loopw [5,6,42] (fun bv _ iv wr=> ∃ k:Nat,k≤8∧iv= Vi Vk k∧Cw wr (w.heap.size+1) bv (G2 kn body.length sn k)∧Eq wr w.heap.size kn sn (.slice oa body.length cap)∧Below w.heap.size w wr) (fun _ _ iv _=>8 - (intOf iv).toNat)
 case atStart=>exact⟨0,by omega,rfl,by have:=HO.out (w.alloc (.cells (Ha kn sn (.slice oa body.length cap)) 101));simp at this;exact this,HB0.out.below (Aa _ _),Below.next (Aa _ _) (Aa _ _)⟩
 case round=>
  clear HO HB0;obtain⟨k,hk8,rfl,hown,hfr,hb⟩:=hrel;have HO:=Qh hown;have HB:=Qh hb;have HF:=Qh hfr;have hsz:w.heap.size+1≤wr.heap.size:=(δ.1 hfr).1;clear hown hb hfr;by_cases hlt:k<8
  ·have c1:=HF.out.c1;have HX:=Qh (headPart_succ kn body.length sn k);have HL:=Qh (I5 kn body.length sn k);obtain⟨c,hc⟩: ∃ c,c=UInt8.ofNat (sn / 256^k % 256):=⟨_,rfl⟩;have HC:=Qs (((sn / 256^k % 256:Nat):Int)=(c.toNat:Int)) (by rw [hc,le8_byte]);rw [←hc] at HX;obtain⟨p,hp⟩: ∃ p,p=G2 kn body.length sn k:=⟨_,rfl⟩;rw [←hp] at HX HL HO;clear hc hp;have h8:k=0∨k=1∨k=2∨k=3∨k=4∨k=5∨k=6∨k=7:=by omega
   rcases h8 with rfl|rfl|rfl|rfl|rfl|rfl|rfl|rfl
   all_goals
    go_wp2_with (at_builtin;refine wpList_app1 rfl _ _ rfl c rfl rfl HO.out hsz ?c1 ?c2 ?_)
    case c1=>have:=HC.out;simp only [Nat.reducePow,Nat.pow_zero,Nat.div_one] at this;first|exact this|(rw [←this];omega)
    case c2=>have:=HL.out;omega
    intro v' w' h1 h2 h3;have HF2:=Qh h1;have HG:=Qh (HB.out.trans (h2.mono (Nat.le_succ _)));have HF3:=Qh (HF.out.keep h2 (Nat.lt_succ_self _));clear h1 h2 c1;go_wp2;go_roundw
    case rel=>exact⟨_,by decide,rfl,by rw [HX.out];exact HF2.out,HF3.out,HG.out⟩
    case measure=>simp [intOf]
  ·obtain rfl:k=8:=by omega
   have HH:=Qs (G2 kn body.length sn 8=N0 kn body.length sn) rfl;have HL:=Qh (N1 kn body.length sn);rw [HH.out] at HO;obtain⟨p,hp⟩: ∃ p,p=N0 kn body.length sn:=⟨_,rfl⟩;rw [←hp] at HO HL;have HN1:=Qh (HN.out.below HB.out);have HS:=Qh (crcSum_any p _ wr HO.out.brow HN1.out (by have:=HL.out;omega));have HPH:=Qh hp;clear hp HH;obtain⟨ao,bcap,rfl,_,_⟩:=Aj HO.out;go_wp2_with fail;go_at_call 106;refine HS.out.mono ?_;rintro e w1 ⟨rfl,hb1⟩;have HO1:=Qh (HO.out.later hb1);have HB1:=Qh (Below.next HB.out hb1);have HF1:=Qh (HF.out.below hb1);clear hb1 HS HO;have HT:=Qh (crcFour_any (Gg p) w1);obtain⟨sm,hsm⟩: ∃ sm,sm=Gg p:=⟨_,rfl⟩;rw [←hsm] at HT ⊢;have HSM:=Qh hsm;clear hsm;go_wp2_with fail;go_at_call 105;refine HT.out.mono ?_;rintro e w2 ⟨v2,rfl,h1,hb2⟩;have HO2:=Qh (HO1.out.later hb2);have HB2:=Qh (Below.next HB1.out hb2);have HF2:=Qh (HF1.out.below hb2);have HQ2:=Qh (brow_own (l:=Ew sm) h1);have hsz2:w.heap.size+1≤w2.heap.size:=(δ.1 HF2.out).1;clear hb2 h1 HT HO1 HF1;obtain⟨q,hq⟩: ∃ q,q=Ew sm:=⟨_,rfl⟩;have hlen:p.length+q.length≤140737488355328:=by rw [HL.out,hq,G4];decide
   have hlq:q.length=4:=by rw [hq,G4]
   rw [←hq] at HQ2;have HPQ:=Qs (p++q=N0 kn body.length sn++Ew (Gg (N0 kn body.length sn))) (by rw [hq,HSM.out,HPH.out]);clear hq;have c2:=HF2.out.c2;go_wp2_with (at_builtin;refine E4 rfl _ _ rfl rfl rfl HO2.out ?c1 HQ2.out hlen ?_)
   case c1=>exact hsz2
   intro v3 w3 h1 h2;have HO3:=Qh h1;have HB3:=Qh (HB2.out.trans (h2.mono (Nat.le_succ _)));have HF3:=Qh (HF2.out.keep h2 (Nat.lt_succ_self _));have hsz3:=η hsz2 h2.size;have HV3:=Qh (HV.out.below HB3.out);clear h1 h2 c2 HF2 HO2;obtain⟨p2,hp2⟩: ∃ p2,p2=p++q:=⟨_,rfl⟩;have hlen2:p2.length+body.length≤140737488355328:=by rw [hp2,ζ,HL.out,hlq];omega
   have hl2:p2.length=16:=by rw [hp2,ζ,HL.out,hlq]
   rw [←hp2] at HO3 HPQ;clear hp2;have c3:=HF3.out.c2;go_wp2_with (at_builtin;refine E4 rfl _ _ rfl rfl rfl HO3.out ?c1 HV3.out hlen2 ?_)
   case c1=>exact hsz3
   intro v4 w4 h1 h2;have HO4:=Qh h1;have HB4:=Qh (HB3.out.trans (h2.mono (Nat.le_succ _)));have HF4:=Qh (HF3.out.keep h2 (Nat.lt_succ_self _));have hsz4:=η hsz3 h2.size;have HV4:=Qh (HV.out.below HB4.out);have HS4:=Qh (crcSum_any body _ w4 HV4.out (HN.out.below HB4.out) (by omega));clear h1 h2 c3 HF3 HO3;have c4:=HF4.out.c2;go_wp2_with fail;go_at_call 106;refine HS4.out.mono ?_;rintro e w5 ⟨rfl,hb5⟩;have HO5:=Qh (HO4.out.later hb5);have HB5:=Qh (Below.next HB4.out hb5);have hsz5:=η hsz4 hb5.size;clear hb5 HS4 c4 HO4;have HT5:=Qh (crcFour_any (Gg body) w5);obtain⟨s5,hs5⟩: ∃ s5,s5=Gg body:=⟨_,rfl⟩;rw [←hs5] at HT5 ⊢;have HS5:=Qh hs5;clear hs5;go_wp2_with fail;go_at_call 105;refine HT5.out.mono ?_;rintro e w6 ⟨v6,rfl,h1,hb6⟩;have HO6:=Qh (HO5.out.later hb6);have HB6:=Qh (Below.next HB5.out hb6);have HQ6:=Qh (brow_own (l:=Ew s5) h1);have hsz6:=η hsz5 hb6.size;clear hb6 h1 HT5 HO5;obtain⟨q6,hq6⟩: ∃ q6,q6=Ew s5:=⟨_,rfl⟩;obtain⟨p6,hp6⟩: ∃ p6,p6=p2++body:=⟨_,rfl⟩;have hlen6:p6.length+q6.length≤140737488355328:=by rw [hp6,hq6,G4,ζ,hl2];omega
   rw [←hq6] at HQ6;rw [←hp6] at HO6;have HQ:=Qs (By (kn:Int).toNat (sn:Int).toNat body=p6++q6) (by rw [hq6,hp6,HPQ.out,HS5.out];rfl);clear hq6 hp6;go_wp2_with (at_builtin;refine E4 rfl _ _ rfl rfl rfl HO6.out ?c1 HQ6.out hlen6 ?_)
   case c1=>exact hsz6
   intro v' w' h1 h2;have HF':=Qh (h1.mono (Nat.le_succ _));have HG:=Qh (HB6.out.trans (h2.mono (Nat.le_succ _)));clear h1 h2;go_wp2;go_ret2;unfold Cv;rw [HE.out,HQ.out];exact⟨_,rfl,HF'.out,HG.out⟩
theorem frame_any (k s:Int) (body:List UInt8) (bv:Value) (w:World) (hv:B7 w bv body) (hn:Bh w):Calls prog 68 #[frV k s bv] w (Cv w (Cx k s body)):=by
 by_cases h:(k<1∨7<k∨s<0∨1099511627776<s)∨16384<body.length
 ·obtain⟨oa,cap,rfl,_,_⟩:=hv;exact frame_bad k s body oa cap w h
 ·exact frame_good k s body bv w hv hn (fun h'=>h (.inl h')) (fun h'=>h (.inr h'))
theorem nums_two (a b:Nat) (g:Nat) (w:World) (ha:a<9223372036854775808) (hb:b<9223372036854775808) (h0:w.cell? ⟨g,0,none⟩=some (Vi Vk a)) (h1:w.cell? ⟨g,1,none⟩=some (Vi Vk b)):
  Calls prog 124 #[.slice (some ⟨g,0,none⟩) 2 2] w fun e w'=> ∃ v,e= .returned v∧Cw w' w.heap.size v (A7 a++A7 b)∧Below w.heap.size w w':=by
 have HE:=Qh (fun W=>F9 a W (by omega));have HF:=Qh (fun W=>F9 b W (by omega));have HLa:=Qh (De (show a<18446744073709551616 by omega));have HLb:=Qh (De (show b<18446744073709551616 by omega));have H1:=Qh h1;clear h1;go_enter func124,ntmps124;go_wp2;refine wp_loop_rounds 3 ?_;rw [rounds_succ];go_wp2_with fail;refine(HE.out _).mono ?_;rintro e w1 ⟨v1,rfl,h2,hb1⟩;have HO0:=Qh (Cw.nil w1 w.heap.size);have HB1:=Qh hb1;have H2:=Qh h2.brow;clear h2 hb1 HE h0;obtain⟨p,hp⟩: ∃ p,p=A7 a:=⟨_,rfl⟩;rw [←hp] at H2 HLa;have HP:=Qh hp;have hlen:([]:List UInt8).length+p.length≤140737488355328:=by have:=HLa.out;simp;omega
 clear hp;go_wp2_with (at_builtin;refine E4 rfl _ _ rfl rfl rfl HO0.out ?c1 H2.out hlen ?_)
 case c1=>exact HB1.out.size
 intro v2 w2 h3 h4;have HO2:=Qs (Cw w2 w.heap.size v2 p) h3;have HB2:=Qh (HB1.out.trans h4);have c1:=cell_later HB2.out H1.out;clear h3 h4 HO0 HB1 H2 hlen H1;go_wp2;rw [rounds_succ];go_wp2_with fail;refine(HF.out _).mono ?_;rintro e w3 ⟨v3,rfl,h5,hb3⟩;have HO3:=Qh (HO2.out.later hb3);have HB3:=Qh (Below.next HB2.out hb3);have H5:=Qh h5.brow;clear h5 hb3 HO2 HB2 HF c1;obtain⟨q,hq⟩: ∃ q,q=A7 b:=⟨_,rfl⟩;rw [←hq] at H5 HLb;have HQ:=Qh hq;have hlen:p.length+q.length≤140737488355328:=by have:=HLa.out;have:=HLb.out;omega
 clear hq;go_wp2_with (at_builtin;refine E4 rfl _ _ rfl rfl rfl HO3.out ?c1 H5.out hlen ?_)
 case c1=>exact HB3.out.size
 intro v' w' h1 h2;have HF':=Qh h1;have HG:=Qh (HB3.out.trans h2);clear h1 h2;go_wp2;rw [rounds_succ];go_wp2;go_ret;exact⟨_,rfl,by rw [←HP.out,←HQ.out];exact HF'.out,HG.out⟩
theorem right_any (num first:Int) (w:World):Calls prog 63 #[Vi Vk num,Vi Vk first] w fun e w'=>e= .returned (.bool (decide (1≤num)&&decide (num≤999999)&&decide (1≤first)&&decide (first≤1099511627777)))∧w=w':=by
 rcases h1:decide (1≤num)
 ·go_enter func63,ntmps63;go_wp2;go_ret;exact⟨rfl,rfl⟩
 rcases h2:decide (num≤999999)
 ·go_enter func63,ntmps63;go_wp2;go_ret;exact⟨rfl,rfl⟩
 rcases h3:decide (1≤first)
 ·go_enter func63,ntmps63;go_wp2;go_ret;exact⟨rfl,rfl⟩
 rcases h4:decide (first≤1099511627777)
 all_goals
  go_enter func63,ntmps63;go_wp2;go_ret;exact⟨rfl,rfl⟩
theorem hdrEnc_bad {first:Int} (h:num<1∨999999<num∨first<1∨1099511627777<first):Hs num first=([],1):=by
 unfold Hs;rw [κ (by simp;omega)]
theorem hdrEnc_good {first:Int} (h: ¬ (num<1∨999999<num∨first<1∨1099511627777<first)):Hs num first=Cx 2 num (A7 num.toNat++A7 first.toNat):=by
 unfold Hs;rw [γ (by simp;omega)]
theorem header_any (num first:Int) (w:World) (hn:Bh w):Calls prog 80 #[Vi Vk num,Vi Vk first] w (Cv w (Hs num first)):=by
 by_cases h:num<1∨999999<num∨first<1∨1099511627777<first
 ·have HE:=Qh (hdrEnc_bad h);have HR:=Qh (right_any num first w);have HT:=Qs ((decide (1≤num)&&decide (num≤999999)&&decide (1≤first)&&decide (first≤1099511627777))=false) (by simp;omega);clear h;go_enter func80,ntmps80;go_wp2_with fail;go_at_call 63;refine HR.out.mono ?_;rw [HT.out];rintro e w1 ⟨rfl,rfl⟩;go_wp2;go_ret2;unfold Cv;rw [HE.out];exact⟨_,rfl,Cw.nil _ _,χ _ _⟩
 ·have HE:=Qh (hdrEnc_good h);have HR:=Qh (right_any num first w);have HT:=Qs ((decide (1≤num)&&decide (num≤999999)&&decide (1≤first)&&decide (first≤1099511627777))=true) (by simp;omega);obtain⟨nn,rfl⟩:=Int.eq_ofNat_of_zero_le (show 0≤num by omega);obtain⟨fn,rfl⟩:=Int.eq_ofNat_of_zero_le (show 0≤first by omega);have HN:=Qh hn;have HW:=Qh (nums_two nn fn w.heap.size (w.alloc (.cells #[Vi Vk nn,Vi Vk fn] 3)) (by omega) (by omega) (by simp [World.cell?_alloc_new]) (by simp [World.cell?_alloc_new]));clear h hn;go_enter func80,ntmps80;go_wp2_with fail;go_at_call 63;refine HR.out.mono ?_;rw [HT.out];rintro e w1 ⟨rfl,rfl⟩;go_wp2_with fail;refine HW.out.mono ?_;rintro e w1 ⟨v1,rfl,h1,hb1⟩;obtain⟨bd,hbd⟩: ∃ bd,bd=A7 nn++A7 fn:=⟨_,rfl⟩;rw [←hbd] at h1;have HBD:=Qh hbd;have HO1:=Qh h1.brow;have hsh:=h1.brow;obtain⟨oa1,cap1,rfl,_,hsh2⟩:=hsh;have HB1:=Qh (Below.next (Aa w _) hb1);clear h1 hb1 HW hsh2 hbd;have HFr:=Qh (frame_any 2 nn _ _ w1 HO1.out (HN.out.below HB1.out));go_wp2_with fail;go_at_call 68;refine HFr.out.mono ?_;rintro e w2 ⟨v2,rfl,h2,hb2⟩;obtain⟨r,hr⟩: ∃ r,r=Cx 2 (nn:Int) bd:=⟨_,rfl⟩;rw [←hr] at h2;rw [←hr];have HRR:=Qh hr;have HO2:=Qh (h2.mono HB1.out.size);have HB2:=Qh (Below.next HB1.out hb2);clear h2 hb2 HFr hr;go_wp2;go_ret2;unfold Cv;rw [HE.out];have e:Cx 2 (nn:Int) (A7 (nn:Int).toNat++A7 (fn:Int).toNat)=r:=by rw [HRR.out,HBD.out];rfl
  rw [e];exact⟨_,rfl,HO2.out,HB2.out⟩
def Gd:Nat→Nat→List UInt8→Nat×Nat×Int
 |_,_,[]=>(0,0,10)
 |i,u,c::r=>if i=9∧1<c.toNat then (0,0,12) else if 128≤c.toNat then Gd (i+1) (u+c.toNat % 128*128^i) r else if c.toNat=0∧0<i then (0,0,11) else (u+c.toNat % 128*128^i,i+1,0)
def A3 (b:List UInt8):Nat×Nat×Int:=Gd 0 0 b
theorem decGo_len: ∀ (b:List UInt8) (i u:Nat),(Gd i u b).2.2=0→i<(Gd i u b).2.1∧(Gd i u b).2.1≤i+b.length
 | [],_,_=>by simp [Gd]
 |c::r,i,u=>by
  rw [Gd]
  split
  ·simp
  ·split
   ·intro h
    have:=decGo_len r (i+1) _ h
    simp only [τ];omega
   ·split
    ·simp
    ·intro _;simp only [τ];omega
theorem decGo_lt: ∀ (b:List UInt8) (i u:Nat),u<128^i→i≤9→(Gd i u b).1<18446744073709551616
 | [],_,_=>by simp [Gd]
 |c::r,i,u=>by
  intro hu hi
  rw [Gd]
  have hc:c.toNat % 128<128:=Nat.mod_lt _ (by decide)
  have hp:128^(i+1)=128^i*128:=Nat.pow_succ ..
  have hm:c.toNat % 128*128^i≤127*128^i:=Nat.mul_le_mul_right _ (by omega)
  split
  ·simp
  ·rename_i h9
   split
   ·rename_i h1
    have hi8:i≤8:=by
     rcases Nat.lt_or_ge i 9 with h|h
     ·omega
     ·exact absurd ⟨by omega,by omega⟩ h9
    exact decGo_lt r (i+1) _ (by rw [hp];omega) (by omega)
   ·split
    ·simp
    ·show u+c.toNat % 128*128^i<_;rcases Nat.lt_or_ge i 9 with h|h
     ·have:(128:Nat)^(i+1)≤128^9:=Nat.pow_le_pow_right (by decide) (by omega);have h128:(128:Nat)^9=9223372036854775808:=by decide
      rw [hp] at this;omega
     ·have e9:i=9:=by omega
      subst e9;have h1:c.toNat≤1:=by
       rcases Nat.lt_or_ge 1 c.toNat with h|h
       ·exact absurd ⟨rfl,h⟩ h9
       ·exact h
      have h128:(128:Nat)^9=9223372036854775808:=by decide
      rw [h128] at hu hm ⊢;have:c.toNat % 128*9223372036854775808≤1*9223372036854775808:=Nat.mul_le_mul_right _ (by omega);omega
theorem Jw {b:List UInt8} (h:(A3 b).2.2=0):0<(A3 b).2.1∧(A3 b).2.1≤b.length:=by
 have:=decGo_len b 0 0 h;unfold A3;omega
theorem decV_lt (b:List UInt8):(A3 b).1<18446744073709551616:=decGo_lt b 0 0 (by decide) (by decide)
def K3 (b:List UInt8):Bool:=decide (4≤b.length)&&(b.drop (b.length - 4)==Ew (Gg (b.take (b.length - 4))))
def Hi:List UInt8→Nat
 | []=>0
 |c::r=>c.toNat+256*Hi r
theorem leNat_lt: ∀ l:List UInt8,Hi l<256^l.length
 | []=>by decide
 |c::r=>by
  have:=leNat_lt r
  have hc:c.toNat<256:=c.toNat_lt
  rw [Hi,τ,Nat.pow_succ]
  omega
theorem leNat_snoc: ∀ (l:List UInt8) (x:UInt8),Hi (l++[x])=Hi l+x.toNat*256^l.length
 | [],x=>by simp [Hi]
 |c::r,x=>by
  rw [List.cons_append,Hi,leNat_snoc r x,Hi,τ,Nat.pow_succ,Nat.mul_add,←Nat.add_assoc]
  congr 1
  rw [←Nat.mul_assoc,Nat.mul_comm 256,Nat.mul_assoc,Nat.mul_comm 256]
def Ci (b:List UInt8) (i:Nat):Nat:=(b.getD i 0).toNat
def Db (b:List UInt8):Nat×Nat×Nat×Int:=
 if b.length<16 then (0,0,0,60) else if Ci b 0≠165 then (0,0,0,61) else if K3 (b.take 16)=false then (0,0,0,62)
 else if Ci b 1=0∨7<Ci b 1∨16384<Ci b 2+Ci b 3*256∨1099511627776<Hi ((b.drop 4).take 8) then (0,0,0,63)
 else (Ci b 1,Hi ((b.drop 4).take 8),Ci b 2+Ci b 3*256+20,0)
structure J6 where
 k:Nat
 s:Nat
 body:List UInt8
def N7:J6:=⟨0,0,[]⟩
def Cg (b:List UInt8):J6×Nat×Int:=
 if (Db b).2.2.2≠0 then (N7,0,(Db b).2.2.2) else if b.length<(Db b).2.2.1 then (N7,0,60)
 else if K3 ((b.take (Db b).2.2.1).drop 16)=false then (N7,0,62)
 else (⟨(Db b).1,(Db b).2.1,((b.take (Db b).2.2.1).drop 16).take ((Db b).2.2.1 - 20)⟩,(Db b).2.2.1,0)
theorem peekF_fine {b:List UInt8} (h:(Db b).2.2.2=0):16≤b.length∧1≤(Db b).1∧(Db b).1≤7∧(Db b).2.1≤1099511627776∧20≤(Db b).2.2.1∧(Db b).2.2.1≤16404:=by
 unfold Db at h ⊢;split at h
 ·simp at h
 ·split at h
  ·simp at h
  ·split at h
   ·simp at h
   ·split at h
    ·simp at h
    ·rename_i h1 h2 h3 h4;rw [γ h1,γ h2,γ h3,γ h4];simp only;omega
theorem or_add {a x:Nat} (h:a<2^k):a ||| x*2^k=a+x*2^k:=by
 rw [Nat.or_comm,←Nat.shiftLeft_eq,←Nat.shiftLeft_add_eq_or_of_lt h,Nat.add_comm]
theorem or64 {x:Nat} (hu:u<2^k) (hs:u+x*2^k<18446744073709551616):bits .or .u64 (u:Int) (IntKind.u64.wrap ((x:Int)*2^k))=((u+x*2^k:Nat):Int):=by
 have e:(x:Int)*2^k=((x*2^k:Nat):Int):=by push_cast;rfl
 have hw:IntKind.u64.wrap ((x*2^k:Nat):Int)=((x*2^k:Nat):Int):=by
  rw [IntKind.wrap_u64,Int.emod_eq_of_lt (by omega) (by omega)]
 rw [e,hw,u64_or_nat _ _ (by omega) (by omega),or_add hu]
theorem or7 (x:UInt8) (hu:u<128^k) (hs:u+x.toNat % 128*128^k<18446744073709551616):bits .or .u64 (u:Int) (IntKind.u64.wrap ((x.toNat:Int) % 128*2^(7*k)))=((u+x.toNat % 128*128^k:Nat):Int):=by
 have e:(128:Nat)^k=2^(7*k):=by rw [Nat.pow_mul]
 rw [e] at hu hs ⊢;have:=or64 hu hs;push_cast at this ⊢;exact this
theorem Hr {α:Type} {l:List α}  {x:α} (h:l[k]? =some x):l.drop k=x::l.drop (k+1):=by
 obtain⟨hk,rfl⟩:=List.getElem?_eq_some_iff.1 h;exact List.drop_eq_getElem_cons hk
theorem decGo_a {c:UInt8} {r:List UInt8} (h1:i=9) (h2:1<c.toNat):Gd i u (c::r)=(0,0,12):=by rw [Gd,κ ⟨h1,h2⟩]
theorem decGo_b {c:UInt8} {r:List UInt8} (h1: ¬ (i=9∧1<c.toNat)) (h2:128≤c.toNat):Gd i u (c::r)=Gd (i+1) (u+c.toNat % 128*128^i) r:=by rw [Gd,γ h1,κ h2]
theorem decGo_c {c:UInt8} {r:List UInt8} (h1: ¬ (i=9∧1<c.toNat)) (h2:c.toNat=0) (h3:0<i):Gd i u (c::r)=(0,0,11):=by rw [Gd,γ h1,γ (by omega),κ ⟨h2,h3⟩]
theorem decGo_d {c:UInt8} {r:List UInt8} (h1: ¬ (i=9∧1<c.toNat)) (h2: ¬ 128≤c.toNat) (h3: ¬ (c.toNat=0∧0<i)):Gd i u (c::r)=(u+c.toNat % 128*128^i,i+1,0):=by rw [Gd,γ h1,γ h2,γ h3]
theorem sum_lt (c:UInt8) (hu:u<128^i) (hi:i≤9) (h1: ¬ (i=9∧1<c.toNat)):u+c.toNat % 128*128^i<18446744073709551616:=by
 have hc:c.toNat % 128<128:=Nat.mod_lt _ (by decide);have hm:c.toNat % 128*128^i≤127*128^i:=Nat.mul_le_mul_right _ (by omega);have h128:(128:Nat)^9=9223372036854775808:=by decide
 rcases Nat.lt_or_ge i 9 with h|h
 ·have:(128:Nat)^(i+1)≤128^9:=Nat.pow_le_pow_right (by decide) (by omega);rw [Nat.pow_succ] at this;omega
 ·have e9:i=9:=by omega
  subst e9;have:c.toNat % 128*128^9≤1*128^9:=Nat.mul_le_mul_right _ (by omega);rw [h128] at hu this ⊢;omega
theorem sum_lt' (c:UInt8) (hu:u<128^i):u+c.toNat % 128*128^i<128^(i+1):=by
 have hm:c.toNat % 128*128^i≤127*128^i:=Nat.mul_le_mul_right _ (by have:c.toNat % 128<128:=Nat.mod_lt _ (by decide);omega);rw [Nat.pow_succ];omega
theorem and127_all: ∀ a:Fin 256,a.val&&&127=a.val % 128:=by decide
theorem and127 (x:UInt8):bits .and .u8 (x.toNat:Int) 127=(x.toNat:Int) % 128:=by
 rw [show (127:Int)=((127:Nat):Int) from rfl,u8_and_nat _ _ x.toNat_lt (by decide),and127_all ⟨x.toNat,x.toNat_lt⟩]
 norm_cast
theorem wrap7 (x:UInt8):IntKind.u64.wrap ((x.toNat:Int) % 128)=(x.toNat:Int) % 128:=by
 rw [IntKind.wrap_u64,Int.emod_eq_of_lt (by omega) (by omega)]
def VarPost (w:World) (r:Nat×Nat×Int) (e:Ending) (w':World):Prop:=e= .returned (.tuple #[.int .u64 (r.1:Int),Vi Vk (r.2.1:Int),Vi Vk r.2.2])∧Below w.heap.size w w'
theorem I1 (l:List UInt8) (v:Value) (w:World) (hv:B7 w v l) (hl:l.length≤9223372036854775807):
  Calls prog 76 #[v] w (VarPost w (A3 l)):=by
 obtain⟨oa,cap,rfl,hlc,hc⟩:=hv;have HC:=Qh (show ∀ (i:Nat) x,l[i]? =some x→ ∃ b off,oa=some ⟨b,off,none⟩∧w.cell? ⟨b,off+i,none⟩=some (.int .u8 (x.toNat:Int)) from fun i x hx=>by
  obtain⟨b,off,h1,h2⟩:=hc (by rintro rfl;simp at hx);exact⟨b,off,h1,h2 i x hx⟩)
 clear hc;go_enter func76,ntmps76;go_wp2;go_loopw [5,10] (fun uv iv wr=> ∃ (k u:Nat),k≤l.length∧k≤9∧iv= Vi Vk k∧uv= .int .u64 (u:Int)∧Hid (u<128^k∧A3 l=Gd k u (l.drop k))∧Below w.heap.size w wr) (fun _ iv _=>l.length - (intOf iv).toNat)
 case atStart=>exact⟨0,0,θ _,by omega,rfl,rfl,Qh ⟨by decide,rfl⟩,χ _ _⟩
 case round=>
  obtain⟨k,u,hk,hk9,rfl,rfl,HU,hb⟩:=hrel;have HB:=Qh hb;clear hb;by_cases hlt:k<l.length
  ·obtain⟨x,hx,_,_⟩:=Pj l k hlt;obtain⟨b,off,rfl,hcell⟩:=HC.out k x hx;have q1:(k:Int)<(l.length:Int):=by omega
   have c1:=cell_later HB.out hcell;have HX:=Qs (l.drop k=x::l.drop (k+1)) (Hr hx);clear hx hcell;have n2:=and127 x;have n3:=wrap7 x;rcases h9:((k:Int)==9) with _|_
   ·have hk8:k≤8:=by simp at h9;omega
    have HN:=Qs (¬ (k=9∧1<x.toNat)) (fun hc=>by omega);obtain⟨u2,hu2⟩: ∃ u2,u2=u+x.toNat % 128*128^k:=⟨_,rfl⟩;have n1:=or7 x HU.out.1 (sum_lt x HU.out.1 hk9 HN.out);have HU2:=Qs (u2<128^(k+1)) (by rw [hu2];exact sum_lt' x HU.out.1);rw [←hu2] at n1;have HD:=Qh hu2;clear hu2;rcases h1:decide ((128:Int)≤(x.toNat:Int)) with _|_
    ·have HN1:=Qs (¬ 128≤x.toNat) (by have:=Γ h1;omega);rcases h0:((x.toNat:Int)==0) with _|_
     ·have HE:=Qs (A3 l=(u2,k+1,0)) (by rw [HU.out.2,HX.out,decGo_d HN.out HN1.out (fun hc=>by simp at h0;omega),HD.out]);clear hlt;go_wp2;refine π (v:= .tuple #[.int .u64 (u2:Int),Vi Vk ((k:Int)+1),Vi Vk 0]) (by simp [results,results76,go_sem]) rfl ⟨by rw [HE.out];push_cast;rfl,HB.out⟩
     ·have hx0:x.toNat=0:=by simp at h0;omega
      have HX0:=Qh hx0;clear hx0;rcases hk0:decide (0<k) with _|_
      ·have HE:=Qs (A3 l=(u2,k+1,0)) (by rw [HU.out.2,HX.out,decGo_d HN.out HN1.out (fun hc=>by have:=Γ hk0;omega),HD.out]);clear hlt;go_wp2;refine π (v:= .tuple #[.int .u64 (u2:Int),Vi Vk ((k:Int)+1),Vi Vk 0]) (by simp [results,results76,go_sem]) rfl ⟨by rw [HE.out];push_cast;rfl,HB.out⟩
      ·have HE:=Qs (A3 l=(0,0,11)) (by rw [HU.out.2,HX.out,decGo_c HN.out HX0.out (ψ hk0)]);clear hlt;go_wp2;refine π (v:= .tuple #[.int .u64 0,Vi Vk 0,Vi Vk 11]) (by simp [results,results76,go_sem]) rfl ⟨by rw [HE.out];rfl,HB.out⟩
    ·have hn1:128≤x.toNat:=by have:=ψ h1;omega
     have HR:=Qs (u2<128^(k+1)∧A3 l=Gd (k+1) u2 (l.drop (k+1))) ⟨HU2.out,by rw [HU.out.2,HX.out,decGo_b HN.out hn1,HD.out]⟩;clear hn1;go_wp2;go_roundw
     case rel=>exact⟨k+1,u2,by omega,by omega,by go_num,rfl,HR,HB.out⟩
     case measure=>simp [intOf];omega
   ·have HK9:=Qs (k=9) (by simp at h9;omega);rcases hx1:decide ((1:Int)<(x.toNat:Int)) with _|_
    ·have HN:=Qs (¬ (k=9∧1<x.toNat)) (fun hc=>by have:=Γ hx1;omega);obtain⟨u2,hu2⟩: ∃ u2,u2=u+x.toNat % 128*128^k:=⟨_,rfl⟩;have n1:=or7 x HU.out.1 (sum_lt x HU.out.1 hk9 HN.out);have HU2:=Qs (u2<128^(k+1)) (by rw [hu2];exact sum_lt' x HU.out.1);rw [←hu2] at n1;have HD:=Qh hu2;clear hu2;have h1:decide ((128:Int)≤(x.toNat:Int))=false:=by have:=Γ hx1;exact ρ (by omega)
     have HN1:=Qs (¬ 128≤x.toNat) (by have:=Γ h1;omega);rcases h0:((x.toNat:Int)==0) with _|_
     ·have HE:=Qs (A3 l=(u2,k+1,0)) (by rw [HU.out.2,HX.out,decGo_d HN.out HN1.out (fun hc=>by simp at h0;omega),HD.out]);clear hlt;go_wp2;refine π (v:= .tuple #[.int .u64 (u2:Int),Vi Vk ((k:Int)+1),Vi Vk 0]) (by simp [results,results76,go_sem]) rfl ⟨by rw [HE.out];push_cast;rfl,HB.out⟩
     ·have hx0:x.toNat=0:=by simp at h0;omega
      have HX0:=Qh hx0;clear hx0;rcases hk0:decide (0<k) with _|_
      ·have HE:=Qs (A3 l=(u2,k+1,0)) (by rw [HU.out.2,HX.out,decGo_d HN.out HN1.out (fun hc=>by have:=Γ hk0;omega),HD.out]);clear hlt;go_wp2;refine π (v:= .tuple #[.int .u64 (u2:Int),Vi Vk ((k:Int)+1),Vi Vk 0]) (by simp [results,results76,go_sem]) rfl ⟨by rw [HE.out];push_cast;rfl,HB.out⟩
      ·have HE:=Qs (A3 l=(0,0,11)) (by rw [HU.out.2,HX.out,decGo_c HN.out HX0.out (ψ hk0)]);clear hlt;go_wp2;refine π (v:= .tuple #[.int .u64 0,Vi Vk 0,Vi Vk 11]) (by simp [results,results76,go_sem]) rfl ⟨by rw [HE.out];rfl,HB.out⟩
    ·have HE:=Qs (A3 l=(0,0,12)) (by rw [HU.out.2,HX.out,decGo_a HK9.out (by have:=ψ hx1;omega)]);clear hlt;go_wp2;refine π (v:= .tuple #[.int .u64 0,Vi Vk 0,Vi Vk 12]) (by simp [results,results76,go_sem]) rfl ⟨by rw [HE.out];rfl,HB.out⟩
  ·obtain rfl:k=l.length:=by omega
   have HE:=Qs (A3 l=(0,0,10)) (by rw [HU.out.2,List.drop_length];rfl);clear hlt;go_wp2;refine π (v:= .tuple #[.int .u64 0,Vi Vk 0,Vi Vk 10]) (by simp [results,results76,go_sem]) rfl ⟨by rw [HE.out];rfl,HB.out⟩
theorem Jv {oa:Option Addr} {cap lo hi mx:Nat}  (h:B7 w (.slice oa l.length cap) l) (h1:lo≤hi) (h2:hi≤l.length) (h3:hi≤mx):B7 w (sliced oa lo hi mx 1) ((l.take hi).drop lo):=by
 obtain⟨oa',cap',e,_,hc⟩:=h;simp only [Value.slice.injEq,true_and] at e;obtain⟨rfl,rfl⟩:=e;have hlen:((l.take hi).drop lo).length=hi - lo:=by rw [Λ,ω];omega
 refine⟨if mx=lo then oa else oa.map (·.add (lo*1)),mx - lo,by rw [hlen];rfl,by rw [hlen];omega,fun hn=> ?_⟩;have hlt:lo<hi:=by
  rcases Nat.lt_or_ge lo hi with h|h
  ·exact h
  ·exact absurd (List.eq_nil_of_length_eq_zero (by rw [hlen];omega)) hn
 obtain⟨b,off,rfl,hcell⟩:=hc (by rintro rfl;simp at h2;omega);rw [γ (by omega)];refine⟨b,off+lo,by simp [Addr.add],fun i x hx=> ?_⟩;rw [List.getElem?_drop] at hx;have hi':lo+i<hi:=by
  have:=(List.getElem?_eq_some_iff.1 hx).1;rw [ω] at this;omega
 rw [List.getElem?_take,κ hi'] at hx;have:=hcell (lo+i) x hx;rw [Nat.add_assoc];exact this
theorem Ok (oa:Option Addr) (len cap n:Nat) (h:n≤len) (w:World):(Instr.slice 39 (.slice oa len cap) (some (Vi Vk n)) none none).run prog w= .ok (sliced oa n len cap 1) w:=by
 rw [run_slice_l (P:=prog) w 39 oa len cap (by kernel_rfl) .i64 n (by omega) (by omega)];have:(sizeOf (prog.elem 39)).run prog w= .ok 1 w:=by kernel_rfl
 rw [this];rfl
theorem run_cut_h (oa:Option Addr) (len cap n:Nat) (h:n≤cap) (w:World):(Instr.slice 39 (.slice oa len cap) none (some (Vi Vk n)) none).run prog w= .ok (sliced oa 0 n cap 1) w:=by
 rw [run_slice_h (P:=prog) w 39 oa len cap (by kernel_rfl) .i64 n (by omega) (by omega)];have:(sizeOf (prog.elem 39)).run prog w= .ok 1 w:=by kernel_rfl
 rw [this];rfl
theorem run_cut_lh (oa:Option Addr) (len cap lo hi:Nat) (h1:lo≤hi) (h2:hi≤cap) (w:World):(Instr.slice 39 (.slice oa len cap) (some (Vi Vk lo)) (some (Vi Vk hi)) none).run prog w= .ok (sliced oa lo hi cap 1) w:=by
 rw [run_slice_lh (P:=prog) w 39 oa len cap (by kernel_rfl) .i64 .i64 lo hi (by omega) (by omega) (by omega)];have:(sizeOf (prog.elem 39)).run prog w= .ok 1 w:=by kernel_rfl
 rw [this];rfl
theorem run_cut_lhm (oa:Option Addr) (len cap lo hi mx:Nat) (h1:lo≤hi) (h2:hi≤mx) (h3:mx≤cap) (w:World):(Instr.slice 39 (.slice oa len cap) (some (Vi Vk lo)) (some (Vi Vk hi)) (some (Vi Vk mx))).run prog w= .ok (sliced oa lo hi mx 1) w:=by
 rw [run_slice_lhm (P:=prog) w 39 oa len cap (by kernel_rfl) .i64 .i64 .i64 lo hi mx (by omega) (by omega) (by omega) (by omega)];have:(sizeOf (prog.elem 39)).run prog w= .ok 1 w:=by kernel_rfl
 rw [this];rfl
theorem Id (oa:Option Addr) (len cap:Nat) (x y z:Option Value) (w:World):(Instr.sliceAt 39 (.slice oa len cap) x y z).run prog w=(Instr.slice 39 (.slice oa len cap) x y z).run prog w:=
 run_sliceAt_slice _ _ _ _ _ _ (by kernel_rfl)
section
variable {ops : Array Oper} {rest : List Oper} {o : Oper} {a : Act} {w : World} {Q : Exit → Act → World → Prop}
theorem Pw (hgd:o.guard=none) (x y:Operand) (ho:o.op= .slice 39 x (some y) none none) (oa:Option Addr) (cap n:Nat) (l:List UInt8) (hx:a.eval x= .slice oa l.length cap) (hy:a.eval y= Vi Vk (n:Int))
  (hv:B7 w (.slice oa l.length cap) l) (hn:n≤l.length) (h: ∀ oa' cap',B7 w (.slice oa' (l.length - n) cap') (l.drop n)→wpList prog ops Q rest (a.put o.dst (.slice oa' (l.length - n) cap')) w):wpList prog ops Q (o::rest) a w:=by
 have hv':=hv;obtain⟨_,c',e,hl',_⟩:=hv';simp only [Value.slice.injEq,true_and] at e;obtain⟨rfl,rfl⟩:=e;have hb:=Jv (lo:=n) (hi:=l.length) (mx:=cap) hv hn (μ _) hl';rw [List.take_length] at hb;refine wpList_plain hgd fun K hK=> ?_;unfold Oper.wp execOp;simp only [ho,hx,hy,Option.map_some,Option.map_none,Id,Ok oa l.length cap n hn,Sem.run_bind,Sem.run_pure,Result.andThen_ok];exact hK _ _ (h _ _ hb)
theorem Pv (hgd:o.guard=none) (x y:Operand) (ho:o.op= .slice 39 x none (some y) none) (oa:Option Addr) (cap n:Nat) (l:List UInt8) (hx:a.eval x= .slice oa l.length cap) (hy:a.eval y= Vi Vk (n:Int))
  (hv:B7 w (.slice oa l.length cap) l) (hn:n≤l.length) (h: ∀ oa' cap',B7 w (.slice oa' n cap') (l.take n)→wpList prog ops Q rest (a.put o.dst (.slice oa' n cap')) w):wpList prog ops Q (o::rest) a w:=by
 have hv':=hv;obtain⟨_,c',e,hl',_⟩:=hv';simp only [Value.slice.injEq,true_and] at e;obtain⟨rfl,rfl⟩:=e;have hb:=Jv (lo:=0) (hi:=n) (mx:=cap) hv (θ _) hn (by omega);rw [List.drop_zero] at hb;refine wpList_plain hgd fun K hK=> ?_;unfold Oper.wp execOp;simp only [ho,hx,hy,Option.map_some,Option.map_none,Id,run_cut_h oa l.length cap n (by omega),Sem.run_bind,Sem.run_pure,Result.andThen_ok];exact hK _ _ (h _ _ (by simpa [sliced] using hb))
end
def B4 (g:Sg):Array Value:= #[Vi Vk g.num,Vi Vk g.first,Vi Vk g.count,Vi Vk g.foot]
@[reducible] def sgV (g : Sg) : Value := .agg #[Vi Vk g.num, Vi Vk g.first, Vi Vk g.count, Vi Vk g.foot]
def Oa (w:World) (v:Value) (l:List Sg):Prop:=
 ∃ oa cap,v= .slice oa l.length cap∧l.length≤cap∧cap≤9223372036854775807∧ ∀ (i:Nat) g,l[i]? =some g→ ∃ b off,oa=some ⟨b,off,none⟩∧w.rangeAt b (off+i*4) (B4 g).toList
theorem Oa.below {l:List Sg} (h:Oa w v l) (hb:Below w.heap.size w w'):Oa w' v l:=by
 obtain⟨oa,cap,h1,h2,h3,h4⟩:=h;exact⟨oa,cap,h1,h2,h3,fun i g hg=>by obtain⟨b,off,e,hc⟩:=h4 i g hg;exact⟨b,off,e,Bs hc hb⟩⟩
theorem sgInfo:(prog.info? 72).map (·.size)=some 4:=by kernel_rfl
theorem Bc (hgd:o.guard=none) (x:Operand) (ho:o.op= .load 72 x)
  (b off:Nat) (g:Sg) (hx:a.eval x= .pointer (some ⟨b,off,none⟩)) (hE:w.rangeAt b off (B4 g).toList)
  (h:wpList prog ops Q rest (a.put o.dst (sgV g)) w):wpList prog ops Q (o::rest) a w:=
 wpList_load_mid hgd 72 x ho b off hx (B4 g).toList _ hE underlying72 rfl sgInfo h
def B3 (m:Da) (sv:Value):Array Value:= #[Vi Vk m.gen,Vi Vk m.next,Vi Vk m.floor,Vi Vk m.snap,Vi Vk m.snapSeq,sv]
@[reducible] def mnV (m : Da) (sv : Value) : Value := .agg #[Vi Vk m.gen, Vi Vk m.next, Vi Vk m.floor, Vi Vk m.snap, Vi Vk m.snapSeq, sv]
def At (w:World) (g:Nat) (m:Da) (sv:Value):Prop:=w.heap[g]? =some (.cells (B3 m sv) 69 (0,0))
theorem At.lt {m:Da}  (h:At w g m sv):g<w.heap.size:=(δ.1 h).1
theorem At.below {m:Da}  (h:At w g m sv) (hb:Below w.heap.size w w'):At w' g m sv:=by
 unfold At at *;rw [hb.block g (δ.1 h).1];exact h
theorem At.keep {m:Da}  (h:At w g m sv) (hb:Below B w w') (hB:g<B):At w' g m sv:=by
 unfold At at *;rw [hb.block g hB];exact h
theorem At.cell {m:Da}  (h:At w g m sv) (j:Nat):w.cell? ⟨g,j,none⟩=(B3 m sv)[j]? :=by
 unfold At at h;simp [World.cell?,h]
theorem At.c0 {m:Da}  (h:At w g m sv):w.cell? ⟨g,0,none⟩=some (Vi Vk m.gen):=h.cell 0
theorem At.c1 {m:Da}  (h:At w g m sv):w.cell? ⟨g,1,none⟩=some (Vi Vk m.next):=h.cell 1
theorem At.c2 {m:Da}  (h:At w g m sv):w.cell? ⟨g,2,none⟩=some (Vi Vk m.floor):=h.cell 2
theorem At.c3 {m:Da}  (h:At w g m sv):w.cell? ⟨g,3,none⟩=some (Vi Vk m.snap):=h.cell 3
theorem At.c4 {m:Da}  (h:At w g m sv):w.cell? ⟨g,4,none⟩=some (Vi Vk m.snapSeq):=h.cell 4
theorem At.c5 {m:Da}  (h:At w g m sv):w.cell? ⟨g,5,none⟩=some sv:=h.cell 5
theorem Ca (w:World) (m:Da) (sv:Value):At (w.alloc (.cells (B3 m sv) 69)) w.heap.size m sv:=σ w _
theorem Ko:(prog.info? 69).map (·.size)=some 6:=by kernel_rfl
theorem Co (hgd:o.guard=none) (x:Operand) (ho:o.op= .load 69 x)
  (g:Nat) (m:Da) (sv:Value) (hx:a.eval x= .pointer (some ⟨g,0,none⟩)) (hE:At w g m sv)
  (h:wpList prog ops Q rest (a.put o.dst (mnV m sv)) w):wpList prog ops Q (o::rest) a w:=
 wpList_load_row hgd 69 x ho g hx 69 (B3 m sv) (0,0) _ hE underlying69 rfl Ko h
theorem chain_b1 {nx first:Int} {g:Sg} {r:List Sg} (h:(g.first != first)=true):A4 nx first num (g::r)=false:=by
 have: ¬ g.first=first:=by simpa using h
 simp [A4,this]
theorem chain_b2 {nx first:Int} {g:Sg} {r:List Sg} (h: ¬ num<g.num):A4 nx first num (g::r)=false:=by simp [A4,h]
theorem chain_b3 {nx first:Int} {g:Sg} {r:List Sg} (h: ¬ g.num<nx):A4 nx first num (g::r)=false:=by simp [A4,h]
theorem chain_end {nx first:Int} {g:Sg} (h1:g.first=first) (h2:num<g.num) (h3:g.num<nx):A4 nx first num [g]=(decide (g.count=0)&&decide (g.foot=0)&&decide (first≤1099511627777)):=by
 simp [A4,h1,h2,h3]
theorem chain_b4 {nx first:Int} {g x:Sg} {r:List Sg} (h: ¬ (1≤g.count∧g.count≤512)):A4 nx first num (g::x::r)=false:=by
 rw [A4];have:(decide (1≤g.count)&&decide (g.count≤512))=false:=by simp;omega
 simp only [List.isEmpty_cons,Bool.false_eq_true,if_false,this,Bool.false_and,Bool.and_false]
theorem chain_b5 {nx first:Int} {g x:Sg} {r:List Sg} (h: ¬ (1≤g.foot∧g.foot≤1099511627776)):A4 nx first num (g::x::r)=false:=by
 rw [A4];have:(decide (1≤g.foot)&&decide (g.foot≤1099511627776))=false:=by simp;omega
 simp only [List.isEmpty_cons,Bool.false_eq_true,if_false,Bool.and_assoc];rw [←Bool.and_assoc (decide (1≤g.foot)),this];simp
theorem chain_go {nx first:Int} {g x:Sg} {r:List Sg} (h1:g.first=first) (h2:num<g.num) (h3:g.num<nx) (h4:1≤g.count∧g.count≤512) (h5:1≤g.foot∧g.foot≤1099511627776):
  A4 nx first num (g::x::r)=A4 nx (first+g.count) g.num (x::r):=by
 rw [A4];simp [h1,h2,h3,h4.1,h4.2,h5.1,h5.2]
theorem drop_cons {α:Type} {l:List α}  {x:α} (h:l[k]? =some x):l.drop k=x::l.drop (k+1):=by
 obtain⟨h1,h2⟩:=List.getElem?_eq_some_iff.1 h;rw [List.drop_eq_getElem_cons h1,h2]
theorem Pu (x lo hi:Int) (w:World):Calls prog 134 #[Vi Vk x,Vi Vk lo,Vi Vk hi] w fun e w'=>e= .returned (.bool (decide (lo≤x)&&decide (x≤hi)))∧w=w':=by
 rcases h1:decide (lo≤x)
 ·go_enter func134,ntmps134;go_wp2;go_ret;exact⟨rfl,rfl⟩
 rcases h2:decide (x≤hi)
 all_goals
  go_enter func134,ntmps134;go_wp2;go_ret;exact⟨rfl,rfl⟩
theorem chained_any (m:Da) (sv:Value) (w:World) (hr:Oa w sv m.segs) (hf0:0≤m.floor) (hf1:m.floor≤1099511627776) (hn:m.segs.length≤256):
  Calls prog 135 #[mnV m sv] w fun e w'=>e= .returned (.bool (A4 m.next (m.floor+1) 0 m.segs))∧Below w.heap.size w w':=by
 obtain⟨oa,cap,rfl,hl1,hl2,hc⟩:=hr;have HC:=Qh hc;have HM0:=Qh (Ca w m (.slice oa m.segs.length cap));have hfl:IntKind.i64.wrap (m.floor+1)=m.floor+1:=by rw [ν];omega
 clear hc;go_enter func135,ntmps135;go_wp2
 go_loopw [3,4,13] (fun fv nv iv wr=> ∃ (k:Nat) (first num:Int),k≤m.segs.length∧iv= Vi Vk k∧fv= Vi Vk first∧nv= Vi Vk num∧1≤first∧first≤1099511627777+512*(k:Int)∧At wr w.heap.size m (.slice oa m.segs.length cap)∧
  Hid (A4 m.next (m.floor+1) 0 m.segs=A4 m.next first num (m.segs.drop k))∧Below w.heap.size w wr) (fun _ _ iv _=>m.segs.length - (intOf iv).toNat)
 case atStart=>exact⟨0,m.floor+1,0,θ _,rfl,rfl,rfl,by omega,by omega,HM0.out,Qh rfl,Aa _ _⟩
 case round=>
  clear HM0 hfl;obtain⟨k,first,num,hk,rfl,rfl,rfl,hp1,hp2,hmn,HE,hb⟩:=hrel;have HM:=Qh hmn;have HB:=Qh hb;clear hmn hb;by_cases hlt:k<m.segs.length
  ·obtain⟨g,hg,_,_⟩:=Pj m.segs k hlt;obtain⟨b,off,rfl,hcell⟩:=HC.out k g hg;have q1:(k:Int)<(m.segs.length:Int):=by omega
   have HCE:=Qh (Bs hcell HB.out);have HD:=Qh (drop_cons hg);have c1:=HM.out.c1;have c5:=HM.out.c5;have c1':=(HM.out.below (Aa wr (.cells (B4 g) 72))).c1;have c5':=(HM.out.below (Aa wr (.cells (B4 g) 72))).c5;simp only [B4] at c1' c5';have HB1:=Qh (fun o=>Below.next HB.out (Aa wr o));clear hg hcell;rcases e1:(g.first != first) with _|_
   case true=>
    have HR:=Qs (A4 m.next (m.floor+1) 0 m.segs=false) (by rw [HE.out,HD.out,chain_b1 e1]);go_wp2_with (with_reducible refine Bc rfl (.tmp 16) rfl b (off+k*4) g rfl HCE.out ?_);go_ret;exact⟨by rw [HR.out];rfl,HB1.out _⟩
   have e1':g.first=first:=by simpa using e1
   by_cases e2:num<g.num
   case neg=>
    have HR:=Qs (A4 m.next (m.floor+1) 0 m.segs=false) (by rw [HE.out,HD.out,chain_b2 e2]);have t2:decide (g.num≤num)=true:=by simp;omega
    clear e2 e1';go_wp2_with (with_reducible refine Bc rfl (.tmp 16) rfl b (off+k*4) g rfl HCE.out ?_);go_ret;exact⟨by rw [HR.out];rfl,HB1.out _⟩
   have t2:decide (g.num≤num)=false:=by simp;omega
   by_cases e3:g.num<m.next
   case neg=>
    have HR:=Qs (A4 m.next (m.floor+1) 0 m.segs=false) (by rw [HE.out,HD.out,chain_b3 e3]);have t3:decide (m.next≤g.num)=true:=by simp;omega
    clear e2 e1' e3;go_wp2_with (with_reducible refine Bc rfl (.tmp 16) rfl b (off+k*4) g rfl HCE.out ?_);go_ret;exact⟨by rw [HR.out];rfl,HB1.out _⟩
   have t3:decide (m.next≤g.num)=false:=by simp;omega
   have HO:=Qs (g.first=first∧num<g.num∧g.num<m.next) ⟨e1',e2,e3⟩;clear e2 e1' e3;by_cases hlast:k+1=m.segs.length
   ·have HR:=Qs (A4 m.next (m.floor+1) 0 m.segs=(decide (g.count=0)&&decide (g.foot=0)&&decide (first≤1099511627777))) (by
     rw [HE.out,HD.out,List.drop_of_length_le (by omega),chain_end HO.out.1 HO.out.2.1 HO.out.2.2])
    have t4:((k:Int)==(m.segs.length:Int) - 1)=true:=by simp;omega
    rcases u1:(g.count==0) with _|_
    ·have HR2:=Qs (A4 m.next (m.floor+1) 0 m.segs=false) (by rw [HR.out];simp at u1 ⊢;simp [u1]);clear HR;go_wp2_with (with_reducible refine Bc rfl (.tmp 16) rfl b (off+k*4) g rfl HCE.out ?_);go_ret;exact⟨by rw [HR2.out];rfl,HB1.out _⟩
    rcases u2:(g.foot==0) with _|_
    ·have HR2:=Qs (A4 m.next (m.floor+1) 0 m.segs=false) (by rw [HR.out];simp at u2 ⊢;simp [u2]);clear HR;go_wp2_with (with_reducible refine Bc rfl (.tmp 16) rfl b (off+k*4) g rfl HCE.out ?_);go_ret;exact⟨by rw [HR2.out];rfl,HB1.out _⟩
    rcases u3:decide (first≤1099511627777)
    all_goals
     have HR2:=Qs (A4 m.next (m.floor+1) 0 m.segs=decide (first≤1099511627777)) (by rw [HR.out];simp at u1 u2;simp [u1,u2]);rw [u3] at HR2;clear HR;go_wp2_with (with_reducible refine Bc rfl (.tmp 16) rfl b (off+k*4) g rfl HCE.out ?_);go_ret;exact⟨by rw [HR2.out];rfl,HB1.out _⟩
   ·obtain⟨x,hx,_,_⟩:=Pj m.segs (k+1) (by omega);have HD2:=Qh (drop_cons hx);have t4:((k:Int)==(m.segs.length:Int) - 1)=false:=by simp;omega
    clear hx;by_cases e4:1≤g.count∧g.count≤512
    case neg=>
     have HR:=Qs (A4 m.next (m.floor+1) 0 m.segs=false) (by rw [HE.out,HD.out,HD2.out,chain_b4 e4]);have HT:=Qs ((decide (1≤g.count)&&decide (g.count≤512))=false) (by simp;omega);clear e4;go_wp2_with (first|(with_reducible refine Bc rfl (.tmp 16) rfl b (off+k*4) g rfl HCE.out ?_)|(go_at_call 134;refine(Pu _ _ _ _).mono ?_;rw [HT.out];rintro e w1 ⟨rfl,rfl⟩));go_ret;exact⟨by rw [HR.out];rfl,HB1.out _⟩
    have HT:=Qs ((decide (1≤g.count)&&decide (g.count≤512))=true) (by simp;omega);by_cases e5:1≤g.foot∧g.foot≤1099511627776
    case neg=>
     have HR:=Qs (A4 m.next (m.floor+1) 0 m.segs=false) (by rw [HE.out,HD.out,HD2.out,chain_b5 e5]);have HT2:=Qs ((decide (1≤g.foot)&&decide (g.foot≤1099511627776))=false) (by simp;omega);clear e4 e5;go_wp2_with (first|(with_reducible refine Bc rfl (.tmp 16) rfl b (off+k*4) g rfl HCE.out ?_)|(go_at_call 134;refine(Pu _ _ _ _).mono ?_;(first|rw [HT.out]|rw [HT2.out]);rintro e w1 ⟨rfl,rfl⟩));go_ret;exact⟨by rw [HR.out];rfl,HB1.out _⟩
    have HT2:=Qs ((decide (1≤g.foot)&&decide (g.foot≤1099511627776))=true) (by simp;omega);have HR:=Qs (A4 m.next (m.floor+1) 0 m.segs=A4 m.next (first+g.count) g.num (m.segs.drop (k+1))) (by rw [HE.out,HD.out,HD2.out,chain_go HO.out.1 HO.out.2.1 HO.out.2.2 e4 e5]);have hw:IntKind.i64.wrap (first+g.count)=first+g.count:=by rw [ν];omega
    have hq:1≤first+g.count∧first+g.count≤1099511627777+512*((k+1:Nat):Int):=by omega
    have HQ:=Qh hq;have HMA:=Qh (fun o=>HM.out.below (Aa wr o));clear e4 e5 hq;go_wp2_with (first|(with_reducible refine Bc rfl (.tmp 16) rfl b (off+k*4) g rfl HCE.out ?_)|(go_at_call 134;refine(Pu _ _ _ _).mono ?_;(first|rw [HT.out]|rw [HT2.out]);rintro e w1 ⟨rfl,rfl⟩));go_roundw
    case rel=>exact⟨k+1,first+g.count,g.num,by omega,by go_num,rfl,rfl,HQ.out.1,HQ.out.2,HMA.out _,HR,HB1.out _⟩
    case measure=>simp [intOf];omega
  ·obtain rfl:k=m.segs.length:=by omega
   have HR:=Qs (A4 m.next (m.floor+1) 0 m.segs=false) (by rw [HE.out,List.drop_of_length_le (μ _)];rfl);go_wp2;go_ret;exact⟨by rw [HR.out];rfl,HB.out⟩
def W2 (x lo hi:Int):Bool:=decide (lo≤x)&&decide (x≤hi)
theorem K8 (m:Da):Cy m=(W2 m.gen 1 1099511627776&&W2 m.next 2 1000000&&W2 m.snapSeq 0 1099511627776&&W2 m.floor 0 m.snapSeq&&W2 m.snap 0 (m.next - 1)&&((m.snap==0)==(m.snapSeq==0))&&decide (m.segs.length≤256)&&A4 m.next (m.floor+1) 0 m.segs):=by
 have e:decide (m.snap<m.next)=decide (m.snap≤m.next - 1):=by
  rw [decide_eq_decide];omega
 have e1:decide (m.snap=0)=(m.snap==0):=by by_cases h:m.snap=0<;>simp [h]
 have e2:decide (m.snapSeq=0)=(m.snapSeq==0):=by by_cases h:m.snapSeq=0<;>simp [h]
 unfold Cy W2;rw [e,e1,e2];simp only [Bool.and_assoc]
theorem Gs (x lo hi:Int) (w:World):Calls prog 134 #[Vi Vk x,Vi Vk lo,Vi Vk hi] w fun e w'=>e= .returned (.bool (W2 x lo hi))∧w=w':=Pu x lo hi w
theorem Pf (m:Da) (sv:Value) (w:World) (hr:Oa w sv m.segs):
  Calls prog 91 #[mnV m sv] w fun e w'=>e= .returned (.bool (Cy m))∧Below w.heap.size w w':=by
 have HR:=Qh (hr.below (Aa w (.cells (B3 m sv) 69)));have HB:=Qh (Aa w (.cells (B3 m sv) 69));have hm:=Ca w m sv;have c0:=hm.c0;have c1:=hm.c1;have c2:=hm.c2;have c3:=hm.c3;have c4:=hm.c4;have c5:=hm.c5;simp only [B3] at c0 c1 c2 c3 c4 c5;obtain⟨oa,cap,rfl,_,_,hcc⟩:=hr;clear hcc hm;rcases h1:W2 m.gen 1 1099511627776
 ·have HO:=Qs (Cy m=false) (by rw [K8,h1];rfl);go_enter func91,ntmps91;go_wp2_with (go_at_call 134;refine(Gs _ _ _ _).mono ?_;rw [h1];rintro e w1 ⟨rfl,rfl⟩);go_ret;exact⟨by rw [HO.out];rfl,HB.out⟩
 rcases h2:W2 m.next 2 1000000
 ·have HO:=Qs (Cy m=false) (by rw [K8,h1,h2];rfl);go_enter func91,ntmps91;go_wp2_with (go_at_call 134;refine(Gs _ _ _ _).mono ?_;(first|rw [h1]|rw [h2]);rintro e w1 ⟨rfl,rfl⟩);go_ret;exact⟨by rw [HO.out];rfl,HB.out⟩
 rcases h3:W2 m.snapSeq 0 1099511627776
 ·have HO:=Qs (Cy m=false) (by rw [K8,h1,h2,h3];rfl);go_enter func91,ntmps91;go_wp2_with (go_at_call 134;refine(Gs _ _ _ _).mono ?_;(first|rw [h1]|rw [h2]|rw [h3]);rintro e w1 ⟨rfl,rfl⟩);go_ret;exact⟨by rw [HO.out];rfl,HB.out⟩
 rcases h4:W2 m.floor 0 m.snapSeq
 ·have HO:=Qs (Cy m=false) (by rw [K8,h1,h2,h3,h4];rfl);go_enter func91,ntmps91;go_wp2_with (go_at_call 134;refine(Gs _ _ _ _).mono ?_;(first|rw [h1]|rw [h2]|rw [h3]|rw [h4]);rintro e w1 ⟨rfl,rfl⟩);go_ret;exact⟨by rw [HO.out];rfl,HB.out⟩
 have hB:2≤m.next∧m.next≤1000000∧0≤m.floor∧m.floor≤1099511627776:=by
  simp only [W2,Bool.and_eq_true,decide_eq_true_eq] at h2 h3 h4;omega
 have hw:IntKind.i64.wrap (m.next - 1)=m.next - 1:=by rw [ν];omega
 rcases h5:W2 m.snap 0 (m.next - 1)
 ·have HO:=Qs (Cy m=false) (by rw [K8,h1,h2,h3,h4,h5];rfl);go_enter func91,ntmps91;go_wp2_with (go_at_call 134;refine(Gs _ _ _ _).mono ?_;(first|rw [h1]|rw [h2]|rw [h3]|rw [h4]|rw [h5]);rintro e w1 ⟨rfl,rfl⟩);go_ret;exact⟨by rw [HO.out];rfl,HB.out⟩
 rcases h6:((m.snap==0)==(m.snapSeq==0))
 ·have HO:=Qs (Cy m=false) (by rw [K8,h1,h2,h3,h4,h5,h6];rfl);go_enter func91,ntmps91;go_wp2_with (go_at_call 134;refine(Gs _ _ _ _).mono ?_;(first|rw [h1]|rw [h2]|rw [h3]|rw [h4]|rw [h5]);rintro e w1 ⟨rfl,rfl⟩);go_ret;exact⟨by rw [HO.out];rfl,HB.out⟩
 by_cases h7:m.segs.length≤256
 case neg=>
  have HO:=Qs (Cy m=false) (by rw [K8,h1,h2,h3,h4,h5,h6,ρ h7];rfl);have t7:decide ((m.segs.length:Int)≤256)=false:=by simp;omega
  clear h7;go_enter func91,ntmps91;go_wp2_with (go_at_call 134;refine(Gs _ _ _ _).mono ?_;(first|rw [h1]|rw [h2]|rw [h3]|rw [h4]|rw [h5]);rintro e w1 ⟨rfl,rfl⟩);go_ret;exact⟨by rw [HO.out];rfl,HB.out⟩
 have HO:=Qs (Cy m=A4 m.next (m.floor+1) 0 m.segs) (by rw [K8,h1,h2,h3,h4,h5,h6,ξ h7];rfl);have t7:decide ((m.segs.length:Int)≤256)=true:=by simp;omega
 have HCH:=Qh (chained_any m _ _ HR.out hB.2.2.1 hB.2.2.2 h7);clear h7 hB;go_enter func91,ntmps91;go_wp2_with (first|(go_at_call 134;refine(Gs _ _ _ _).mono ?_;(first|rw [h1]|rw [h2]|rw [h3]|rw [h4]|rw [h5]);rintro e w1 ⟨rfl,rfl⟩)|(go_at_call 135;refine HCH.out.mono ?_;rintro e w1 ⟨rfl,hb1⟩));go_ret;exact⟨by rw [HO.out];rfl,Below.next HB.out hb1⟩
attribute [local go_sem] Oper.semAt_some
def maxU (us:List Nat):Nat:=us.foldl Nat.max 0
theorem maxU_snoc (us:List Nat) (x:Nat):maxU (us++[x])=Nat.max (maxU us) x:=by simp [maxU]
theorem maxU_take {x:Nat} (h:us[k]? =some x):maxU (us.take (k+1))=Nat.max (maxU (us.take k)) x:=by
 obtain⟨h1,h2⟩:=List.getElem?_eq_some_iff.1 h;rw [List.take_succ_eq_append_getElem h1,h2,maxU_snoc]
theorem Ma {us:List Nat}: ∀ {x:Nat},x∈us→x≤maxU us:=by
 suffices h: ∀ (us:List Nat) (a:Nat),a≤us.foldl Nat.max a∧ ∀ x∈us,x≤us.foldl Nat.max a from fun {x} hx=>(h us 0).2 x hx
 intro us
 induction us with
 |nil=>intro a;exact⟨μ _,fun _ h=>by cases h⟩
 |cons y ys ih=>
  intro a;obtain⟨h1,h2⟩:=ih (Nat.max a y);refine⟨η (Nat.le_max_left _ _) h1,fun x hx=> ?_⟩;rcases Δ.1 hx with rfl|hx
  ·exact η (Nat.le_max_right _ _) h1
  ·exact h2 x hx
theorem max_any (us:List Nat) (v:Value) (w:World) (hv:URow w v us) (hne:0<us.length) (hl:us.length≤1000000):
  Calls prog 159 #[v] w fun e w'=>e= .returned (.int .u64 (maxU us:Int))∧w=w':=by
 obtain⟨oa,cap,rfl,hlc,hc⟩:=hv;have HC:=Qh hc;obtain⟨x0,hx0,_,_⟩:=Pj us 0 hne;obtain⟨b,off,rfl,hc0⟩:=hc 0 x0 hx0;rw [Nat.add_zero] at hc0;have HX:=Qs (maxU (us.take 1)=x0) (by rw [maxU_take hx0];simp [maxU]);have t1:decide ((us.length:Int)<1)=false:=by simp;omega
 have q0:(0:Int)<(us.length:Int):=by omega
 clear hc hx0;go_enter func159,ntmps159;go_wp2;clear hc0;go_loopw [3,4] (fun mv iv wr=> ∃ k:Nat,1≤k∧k≤us.length∧iv= Vi Vk (k:Int)∧mv= .int .u64 ((maxU (us.take k):Nat):Int)∧wr=w) (fun _ iv _=>us.length - (intOf iv).toNat)
 case atStart=>exact⟨1,μ _,by omega,rfl,by rw [HX.out],rfl⟩
 case round=>
  clear q0 t1;obtain⟨k,hk1,hk,rfl,rfl,rfl⟩:=hrel;by_cases hlt:k<us.length
  ·obtain⟨x,hx,_,_⟩:=Pj us k hlt;have q1:(k:Int)<(us.length:Int):=by omega
   obtain⟨b',off',e',hcx⟩:=HC.out k x hx;simp only [Option.some.injEq,Addr.mk.injEq,and_true] at e';obtain⟨rfl,rfl⟩:=e';have HM:=Qh (maxU_take hx);obtain⟨m,hm⟩: ∃ m,m=maxU (us.take k):=⟨_,rfl⟩;rw [←hm] at HM ⊢;clear hx hm;go_wp2;go_roundw
   case rel=>exact⟨k+1,by omega,by omega,by go_num,by rw [HM.out];congr 1;show _=((max m x:Nat):Int);omega,by first|rfl|trivial⟩
   case measure=>simp [intOf];omega
  ·obtain rfl:k=us.length:=by omega
   have HT:=Qs (us.take us.length=us) List.take_length;go_wp2;go_ret
   first|exact⟨rfl,rfl⟩|exact⟨by rw [HT.out];rfl,rfl⟩|exact⟨by simp,rfl⟩
theorem run_cutU_l (oa:Option Addr) (len cap n:Nat) (h:n≤len) (w:World):(Instr.slice 262 (.slice oa len cap) (some (Vi Vk n)) none none).run prog w= .ok (sliced oa n len cap 1) w:=by
 rw [run_slice_l (P:=prog) w 262 oa len cap (by kernel_rfl) .i64 n (by omega) (by omega)];have:(sizeOf (prog.elem 262)).run prog w= .ok 1 w:=by kernel_rfl
 rw [this];rfl
theorem run_cutU_lhm (oa:Option Addr) (len cap lo hi mx:Nat) (h1:lo≤hi) (h2:hi≤mx) (h3:mx≤cap) (w:World):(Instr.slice 262 (.slice oa len cap) (some (Vi Vk lo)) (some (Vi Vk hi)) (some (Vi Vk mx))).run prog w= .ok (sliced oa lo hi mx 1) w:=by
 rw [run_slice_lhm (P:=prog) w 262 oa len cap (by kernel_rfl) .i64 .i64 .i64 lo hi mx (by omega) (by omega) (by omega) (by omega)];have:(sizeOf (prog.elem 262)).run prog w= .ok 1 w:=by kernel_rfl
 rw [this];rfl
theorem sliceAt_u (oa:Option Addr) (len cap:Nat) (x y z:Option Value) (w:World):(Instr.sliceAt 262 (.slice oa len cap) x y z).run prog w=(Instr.slice 262 (.slice oa len cap) x y z).run prog w:=
 run_sliceAt_slice _ _ _ _ _ _ (by kernel_rfl)
theorem run_ch_tail (b off len cap i:Nat) (h:i<len) (h2:len≤cap) (w:World):(Instr.sliceAt 262 (.slice (some ⟨b,off,none⟩) len cap) (some (Vi Vk (i:Int))) none none).run prog w= .ok (.slice (some ⟨b,off+i,none⟩) (len - i) (cap - i)) w:=by
 rw [sliceAt_u,run_cutU_l _ _ _ _ (by omega)];unfold sliced;rw [γ (by omega)];simp [Addr.add]
theorem run_ch_cut (b off len cap i:Nat) (h:i+4≤cap) (w:World):(Instr.sliceAt 262 (.slice (some ⟨b,off,none⟩) len cap) (some (Vi Vk (i:Int))) (some (Vi Vk ((i:Int)+4))) (some (Vi Vk ((i:Int)+4)))).run prog w= .ok (.slice (some ⟨b,off+i,none⟩) 4 4) w:=by
 have:=run_cutU_lhm (some ⟨b,off,none⟩) len cap i (i+4) (i+4) (by omega) (by omega) h w;have e4:((i+4:Nat):Int)=(i:Int)+4:=by omega
 rw [e4] at this;rw [sliceAt_u,this];unfold sliced;rw [γ (by omega)];simp [Addr.add]
def G1:List Nat→List (List Nat)
 |a::b::c::d::r=>[a,b,c,d]::G1 r
 |_=>[]
theorem fours_len: ∀ us:List Nat,(G1 us).length≤us.length
 | []=>by simp [G1]
 | [_]=>by simp [G1]
 | [_,_]=>by simp [G1]
 | [_,_,_]=>by simp [G1]
 |a::b::c::d::r=>by
  have:=fours_len r
  simp only [G1,τ]
  omega
abbrev ChX:=List Nat×Value
def chEnc (x:ChX):Array Value:= #[x.2]
def ChR (us:List Nat) (b:Nat) (pre:List ChX) (x:ChX) (_ W:World):Prop:=(pre++[x]).map (·.1) <+: G1 us∧(∀ u∈x.1,u≤maxU us)∧x.1.length=4∧ ∃ off,x.2= .slice (some ⟨b,off,none⟩) 4 4∧ ∀ (i:Nat) u,x.1[i]? =some u→W.cell? ⟨b,off+i,none⟩=some (.int .u64 (u:Int))
def Ov (g1 g2 b off cap:Nat) (us:List Nat) (W:World):Prop:=W.cell? ⟨g1,0,none⟩=some (.slice (some ⟨b,off,none⟩) us.length cap)∧W.cell? ⟨g2,0,none⟩=some (Vi Vk 4)∧ ∀ (i:Nat) u,us[i]? =some u→W.cell? ⟨b,off+i,none⟩=some (.int .u64 (u:Int))
theorem Ov.below {g1 g2 b off cap:Nat}  (h:Ov g1 g2 b off cap us W) (hb:Below W.heap.size W W'):Ov g1 g2 b off cap us W':=⟨cell_later hb h.1,cell_later hb h.2.1,fun i u hu=>cell_later hb (h.2.2 i u hu)⟩
theorem Fr.ofB (h:Below W.heap.size W W'):Fr B W W':=⟨h.os,h.tape,h.output,h.size,fun k _ hk _=>(h.block k (δ.1 hk).1).trans hk⟩
theorem fours_step {a b d:Nat} (h0:us[i]? =some a) (h1:us[i+1]? =some b) (h2:us[i+2]? =some c) (h3:us[i+3]? =some d):G1 (us.drop i)=[a,b,c,d]::G1 (us.drop (i+4)):=by
 rw [Hr h0,Hr h1,Hr h2,Hr h3];rfl
theorem chunk1_seq (us:List Nat) (m g1 g2 b off cap:Nat) (hm:us.length=4*m) (hl:us.length≤1000000) (hcap:us.length≤cap) (w:World) (Kp:World→World→Prop) (hE:Ov g1 g2 b off cap us w)
  (hK: ∀ W W',w.heap.size≤W.heap.size→Ov g1 g2 b off cap us W→Kp W W'→Ov g1 g2 b off cap us W'∧W.heap.size≤W'.heap.size):
  SeqR prog 184 #[.pointer (some ⟨g1,0,none⟩),.pointer (some ⟨g2,0,none⟩)] chEnc (ChR us b) Kp (fun xs=>xs.map (·.1)=G1 us) (fun _=>True) w:=fun l J Jx W hW hJ hJx hY h0=>by
 have HE:=Qh (hE.below hW)
 have HK:=Qh hK
 have HY:=Qh hY
 have HJ:=Qh hJ
 have H0:=Qh h0
 have HW:=Qh hW.size
 have HM:=Qh hm
 clear hE hK hY hJ hJx h0 hW
 refine callsIn_of_wp func184 rfl trivial ?_ rfl
 simp only [ntmps184,List.size_toArray,τ,Φ,Nat.reduceAdd,Nat.reduceSub,Array.replicate_succ,Array.replicate_zero,List.push_toArray,List.append_toArray,List.nil_append,List.cons_append]
 gi_wp2
 gi_loopw [4] (fun i wr=> ∃ (p:Nat) (pre:List ChX),p≤us.length∧i= Vi Vk (p:Int)∧Hid (p % 4=0)∧Hid (J pre wr)∧Hid (Ov g1 g2 b off cap us wr)∧Hid (W.heap.size≤wr.heap.size)∧Hid (G1 us=pre.map (·.1)++G1 (us.drop p))) (fun i _=>us.length - (intOf i).toNat)
 case atStart=>exact⟨0,[],θ _,rfl,Qh rfl,H0,HE,Qh (μ _),Qh rfl⟩
 case round=>
  clear HE H0 hm
  obtain⟨i,pre,hk,rfl,HP4,HJr,HEr,HSr,HF⟩:=hrel
  have c1:=HEr.out.1
  have c2:=HEr.out.2.1
  by_cases hlt:i<us.length
  ·have q1:(i:Int)<(us.length:Int):=by omega
   have hi4:i+4≤us.length:=by have:=HM.out;have:=HP4.out;omega
   have htail:=fun W=>run_ch_tail b off us.length cap i hlt hcap W
   obtain⟨n,hn⟩: ∃ n,n=us.length - i:=⟨_,rfl⟩
   rw [←hn] at htail
   have hmin:min (4:Int) (n:Int)=4:=by omega
   have hcut:=fun W=>run_ch_cut b off us.length cap i (by omega) W
   have hw4:IntKind.i64.wrap ((i:Int)+4)=(i:Int)+4:=by rw [ν];omega
   obtain⟨a0,ha0,_,_⟩:=Pj us i (by omega)
   obtain⟨a1,ha1,_,_⟩:=Pj us (i+1) (by omega)
   obtain⟨a2,ha2,_,_⟩:=Pj us (i+2) (by omega)
   obtain⟨a3,ha3,_,_⟩:=Pj us (i+3) (by omega)
   have HFS:=Qh (fours_step ha0 ha1 ha2 ha3)
   have hmx: ∀ u∈ [a0,a1,a2,a3],u≤maxU us:=fun u hu=>by
    simp only [Δ,Ω,or_false] at hu
    rcases hu with rfl|rfl|rfl|rfl
    ·exact Ma (List.mem_of_getElem? ha0)
    ·exact Ma (List.mem_of_getElem? ha1)
    ·exact Ma (List.mem_of_getElem? ha2)
    ·exact Ma (List.mem_of_getElem? ha3)
   have hpf:(pre++[(([a0,a1,a2,a3]:List Nat),Value.slice (some ⟨b,off+i,none⟩) 4 4)]).map (·.1) <+: G1 us:=by
    rw [HF.out,HFS.out,List.map_append];exact(List.prefix_append_right_inj _).2 ⟨_,rfl⟩
   have HXR:=Qh (show ∀ W,Ov g1 g2 b off cap us W→ChR us b pre ([a0,a1,a2,a3],.slice (some ⟨b,off+i,none⟩) 4 4) wr W from fun W h=>⟨hpf,hmx,rfl,off+i,rfl,fun j u hj=>by
    rw [Nat.add_assoc];refine h.2.2 (i+j) u ?_
    match j,hj with
    |0,hj=>simp at hj;subst hj;exact ha0
    |1,hj=>simp at hj;subst hj;exact ha1
    |2,hj=>simp at hj;subst hj;exact ha2
    |3,hj=>simp at hj;subst hj;exact ha3⟩)
   clear ha0 ha1 ha2 ha3 hn hmx hpf
   gi_wp2
   refine(wpIn_wide (n:=2)).2 ?_
   go_quiet (fail)
   have HB2:=Qh (Ac wr nq);have HE2:=Qh (HEr.out.below HB2.out);have HK2:=Qh (Fr.ofB (B:=W.heap.size) HB2.out);have HS2:=Qh (η HSr.out HB2.out.size);have HW2:=Qh (η HW.out HS2.out);generalize wr.drewN nq=w2 at*;have c1:=HE2.out.1;have c2:=HE2.out.2.1;clear htail HB2 HEr hmin;obtain⟨fn,tmps,assign,body,hy,hR⟩:=HY.out pre ([a0,a1,a2,a3],.slice (some ⟨b,off+i,none⟩) 4 4) wr w2 HJr.out HSr.out HK2.out (HXR.out _ HE2.out);simp only [chEnc] at hy
   gi_wp2
   refine hR.mono ?_;rintro e W3 (⟨rfl,hJ3,hk3⟩|⟨rfl,hJx3⟩)
   ·obtain⟨hE3,hs3⟩:=HK.out _ _ HW2.out HE2.out hk3;have HE3:=Qh hE3;have HS3:=Qh (η HS2.out hs3);have HJ3:=Qh hJ3;have c2:=hE3.2.1;clear hE3 hs3 hJ3 hk3 hy hR HE2
    gi_wp2
    go_roundw
    case rel=>exact⟨i+4,pre++[([a0,a1,a2,a3],.slice (some ⟨b,off+i,none⟩) 4 4)],by omega,by go_num,Qh (by have:=HP4.out;omega),HJ3,HE3,HS3,Qh (by rw [HF.out,HFS.out];simp)⟩
    case measure=>simp [intOf];omega
   ·gi_wp2
    refine π (results_none rfl _ _ _) rfl ?_;exact⟨⟨_,rfl⟩,.inr ⟨_,trivial,hJx3⟩⟩
  ·obtain rfl:i=us.length:=by omega
   have HFE:=Qs (pre.map (·.1)=G1 us) (by rw [HF.out,List.drop_length];simp [G1])
   gi_wp2
   go_end0;exact⟨⟨_,rfl⟩,.inl ⟨_,HFE.out,HJr.out⟩⟩
theorem chunk_any (b off len cap:Nat) (w:World):Calls prog 160 #[.slice (some ⟨b,off,none⟩) len cap,Vi Vk 4] w fun e w'=>e= .returned (.func (.func 184) #[] #[.pointer (some ⟨w.heap.size,0,none⟩),.pointer (some ⟨w.heap.size+1,0,none⟩)])∧
  w'=(w.alloc (.cells #[.slice (some ⟨b,off,none⟩) len cap] 262)).alloc (.cells #[Vi Vk 4] 3):=by
 have hmk: ∀ (fn:Fn) (first cap:Array Value) (W:World),(Instr.makeFunc fn first cap).run prog W= .ok (.func fn first cap) W:=fun _ _ _ _=>rfl;have c2:((w.alloc (.cells #[.slice (some ⟨b,off,none⟩) len cap] 262)).alloc (.cells #[Vi Vk 4] 3)).cell? ⟨w.heap.size+1,0,none⟩=some (Vi Vk 4):=by
  have:=World.cell?_alloc_new (w.alloc (.cells #[.slice (some ⟨b,off,none⟩) len cap] 262)) #[Vi Vk 4] 3 0;rw [World.size_alloc] at this;rw [this];rfl
 go_enter func160,ntmps160;go_wp2;go_ret;exact⟨rfl,rfl⟩
def Jk (us:List Nat):List Value:=us.map fun(u:Nat)=>Value.int .u64 (u:Int)
def Lx (w:World) (B:Nat) (v:Value) (us:List Nat):Prop:=w.ownsRow B 137 1 v us.length (Jk us)
theorem Lx.later (h:Lx w B v us) (hb:Below w.heap.size w w'):Lx w' B v us:=A2 h hb
theorem Lx.row (h:Lx w B v us):URow w v us:=by
 by_cases hn:us=[]
 ·subst hn;obtain⟨oa,cap,rfl,h1,_⟩:=Aj h;exact⟨oa,cap,rfl,h1,fun i u hu=>by simp at hu⟩
 ·obtain⟨g,cap,rfl,_,_,h1,_,h3⟩:=Dr h (Ψ.2 hn);exact⟨_,cap,rfl,h1,fun i u hu=>⟨g,0,rfl,by rw [Nat.zero_add];exact h3 i _ (by rw [Jk,List.getElem?_map,hu];rfl)⟩⟩
theorem infoU64:(prog.info? 137).map (fun i=>(i.zero,i.size,i.bytes))=some (some (.int .u64 0),1,8):=by kernel_rfl
theorem own_lit4 (w:World) (a b c d:Nat):Lx (w.alloc (.cells #[.int .u64 (a:Int),.int .u64 (b:Int),.int .u64 (c:Int),.int .u64 (d:Int)] 137)) w.heap.size (.slice (some ⟨w.heap.size,0,none⟩) 4 4) [a,b,c,d]:=
 World.ownsRow_lit (base:=w.heap.size) (e:=137) (size:=1) w #[.int .u64 (a:Int),.int .u64 (b:Int),.int .u64 (c:Int),.int .u64 (d:Int)] 4 (μ _) (by decide) rfl
theorem wpList_app4 (hgd:o.guard=none) (s y:Operand) (ho:o.op= .call {callee:= .builtin .append,args:= #[s,y],argTypes:= #[262,262]})  {q t:Nat} {pv qv rv tv:Int}
  (hs:a.eval s=v) (hN:N=w.heap.size) (hy:a.eval y= .slice (some ⟨N,0,none⟩) 4 4) (hown:Lx w B v us) (hB:B≤w.heap.size) (h1:pv=(p:Int)) (h2:qv=(q:Int)) (h3:rv=(r:Int)) (h4:tv=(t:Int)) (hl:us.length≤100000)
  (h: ∀ v' w',Lx w' B v' (us++[p,q,r,t])→Below B w w'→w.heap.size≤w'.heap.size→wpList prog ops Q rest (a.put o.dst v') w'):wpList prog ops Q (o::rest) a (w.alloc (.cells #[.int .u64 pv,.int .u64 qv,.int .u64 rv,.int .u64 tv] 137)):=by
 subst h1 h2 h3 h4 hN;obtain⟨i0,hi,hz0,hz1,hz2⟩:=info_parts infoU64;have hb:=Aa w (.cells #[.int .u64 (p:Int),.int .u64 (q:Int),.int .u64 (r:Int),.int .u64 (t:Int)] 137);refine wpList_append_own _ hgd s y 262 ho B 137 i0 (.int .u64 0) 1 8 underlying262 hi hz0 hz1 hz2 rfl (by decide) v us.length (Jk us) hs (A2 hown hb) ⟨w.heap.size,0,none⟩ 4 4 [.int .u64 (p:Int),.int .u64 (q:Int),.int .u64 (r:Int),.int .u64 (t:Int)] hy rfl (fun j u hj=> ?_) (fun u hu=> ?_) (by unfold maxLen;omega) (by omega) (η hB hb.size) ?_
 ·rw [Cr,Nat.zero_add,World.cell?_alloc_new];simpa using hj
 ·simp at hu;rcases hu with rfl|rfl|rfl|rfl<;>rfl
 ·intro v' w' hown' hg _;refine h v' w' ?_ ((hb.mono hB).trans (Cm (A2 hown hb) (η hB hb.size) hg)) (η hb.size hg.size);unfold Lx;rw [ζ,show Jk (us++[p,q,r,t])=Jk us++[.int .u64 (p:Int),.int .u64 (q:Int),.int .u64 (r:Int),.int .u64 (t:Int)] by simp [Jk]];exact hown'
def J1 (m:Da) (k:Nat):List Nat:=[m.next.toNat,m.floor.toNat,m.snap.toNat,m.snapSeq.toNat]++(m.segs.take k).flatMap Pq
theorem manPart_succ {m:Da}  {g:Sg} (h:m.segs[k]? =some g):J1 m (k+1)=J1 m k++[g.num.toNat,g.first.toNat,g.count.toNat,g.foot.toNat]:=by
 obtain⟨h1,h2⟩:=List.getElem?_eq_some_iff.1 h;unfold J1;rw [List.take_succ_eq_append_getElem h1,h2,List.append_assoc];simp [Pq]
theorem manPart_length (m:Da) (k:Nat) (hk:k≤m.segs.length):(J1 m k).length=4+4*k:=by
 unfold J1;rw [ζ,N3,ω,Nat.min_eq_left hk];rfl
theorem toNatI {x:Int} (h:0≤x):x=((x.toNat:Nat):Int):=by omega
theorem encMan_bad {m:Da} (h:Cy m=false):Ct m=([],80):=by unfold Ct;rw [h];rfl
theorem encMan_good {m:Da} (h:Cy m=true):Ct m=Cx 4 m.gen (Ej (manNums m)):=by unfold Ct;rw [h];rfl
theorem manEncode_any (m:Da) (sv:Value) (w:World) (hr:Oa w sv m.segs) (hn:Bh w):Calls prog 125 #[mnV m sv] w (Cv w (Ct m)):=by
 have HR:=Qh hr;have HV:=Qh (Pf m sv _ (hr.below (Aa w (.cells (B3 m sv) 69))));have HM0:=Qh (Ca w m sv);have HB0:=Qh (Aa w (.cells (B3 m sv) 69));obtain⟨oa,cap,rfl,_,_,hc⟩:=hr;have HC:=Qh hc;clear hc;rcases hok:Cy m with _|_
 ·have HE:=Qh (encMan_bad hok);rw [hok] at HV;clear hok;go_enter func125,ntmps125;go_wp2_with (first|(with_reducible refine Co rfl (.tmp 1) rfl w.heap.size m (.slice oa m.segs.length cap) rfl HM0.out ?_)|(go_at_call 91;refine HV.out.mono ?_;rintro e w1 ⟨rfl,hb1⟩));go_ret2;unfold Cv;rw [HE.out];exact⟨_,rfl,Cw.nil _ _,Below.next HB0.out hb1⟩
 have HE:=Qh (encMan_good hok);have HFine:=Qh (Cj hok);rw [hok] at HV;have hf:=Cj hok;have hnx:=hf.next;have hfl:=hf.floor;have hsn:=hf.snap;have hss:=hf.snapSeq;have y1:m.next % 18446744073709551616=m.next:=by omega
 have y2:m.floor % 18446744073709551616=m.floor:=by omega
 have y3:m.snap % 18446744073709551616=m.snap:=by omega
 have y4:m.snapSeq % 18446744073709551616=m.snapSeq:=by omega
 have HO4:=Qh (fun W=>own_lit4 W m.next.toNat m.floor.toNat m.snap.toNat m.snapSeq.toNat);rw [←toNatI (show 0≤m.next by omega),←toNatI (show 0≤m.floor by omega),←toNatI (show 0≤m.snap by omega),←toNatI (show 0≤m.snapSeq by omega)] at HO4;have HNB:=Qh hn;clear hok hf hnx hfl hsn hss hn;go_enter func125,ntmps125;go_wp2_with (first|(with_reducible refine Co rfl (.tmp 1) rfl w.heap.size m (.slice oa m.segs.length cap) rfl HM0.out ?_));refine HV.out.mono ?_;rintro e w1 ⟨rfl,hb1⟩;have HM1:=Qh (HM0.out.below hb1);have HB1:=Qh (Below.next HB0.out hb1);have hsz1:w.heap.size+1≤w1.heap.size:=HM1.out.lt;have c1:=HM1.out.c1;have c2:=HM1.out.c2;have c3:=HM1.out.c3;have c4:=HM1.out.c4;have c5:=HM1.out.c5;clear hb1 HV HM0 HB0;have c5':=(HM1.out.below (Aa w1 (.cells #[.int .u64 m.next,.int .u64 m.floor,.int .u64 m.snap,.int .u64 m.snapSeq] 137))).c5;have HML:=Qh (HM1.out.below (Aa w1 (.cells #[.int .u64 m.next,.int .u64 m.floor,.int .u64 m.snap,.int .u64 m.snapSeq] 137)));have HBL:=Qh (Below.next HB1.out (Aa w1 (.cells #[.int .u64 m.next,.int .u64 m.floor,.int .u64 m.snap,.int .u64 m.snapSeq] 137)));have HO5:=Qs (Lx (w1.alloc (.cells #[.int .u64 m.next,.int .u64 m.floor,.int .u64 m.snap,.int .u64 m.snapSeq] 137)) (w.heap.size+1) (.slice (some ⟨w1.heap.size,0,none⟩) 4 4) (J1 m 0)) (by
  have h:=HO4.out w1;refine⟨h.1,?_⟩;rcases h.2 with hz|⟨g,cap,cur,e1,e2,rest⟩
  ·exact .inl hz
  ·exact .inr ⟨g,cap,cur,e1,by omega,rest⟩)
 go_wp2;go_loopw [4,26] (fun uv iv wr=> ∃ k:Nat,k≤m.segs.length∧iv= Vi Vk k∧Lx wr (w.heap.size+1) uv (J1 m k)∧At wr w.heap.size m (.slice oa m.segs.length cap)∧Below w.heap.size w wr) (fun _ iv _=>m.segs.length - (intOf iv).toNat)
 case atStart=>exact⟨0,θ _,rfl,HO5.out,HML.out,HBL.out⟩
 case round=>
  clear HO5 HML HBL HO4 c1 c2 c3 c4 c5 c5' y1 y2 y3 y4;obtain⟨k,hk,rfl,hown,hmn,hb⟩:=hrel;have HO:=Qh hown;have HM:=Qh hmn;have HB:=Qh hb;have hsz:w.heap.size+1≤wr.heap.size:=hmn.lt;clear hown hmn hb;by_cases hlt:k<m.segs.length
  ·obtain⟨g,hg,_,hgm⟩:=Pj m.segs k hlt;obtain⟨b,off,rfl,hcell⟩:=HC.out k g hg;have q1:(k:Int)<(m.segs.length:Int):=by omega
   have HCE:=Qh (Bs hcell HB.out);have HX:=Qh (manPart_succ hg);have hgf:=HFine.out.seg g hgm;have hnx:=HFine.out.next;have y1:g.num % 18446744073709551616=g.num:=by omega
   have y2:g.first % 18446744073709551616=g.first:=by omega
   have y3:g.count % 18446744073709551616=g.count:=by omega
   have y4:g.foot % 18446744073709551616=g.foot:=by omega
   have HI:=Qs (g.num=((g.num.toNat:Nat):Int)∧g.first=((g.first.toNat:Nat):Int)∧g.count=((g.count.toNat:Nat):Int)∧g.foot=((g.foot.toNat:Nat):Int)) ⟨toNatI (by omega),toNatI (by omega),toNatI (by omega),toNatI (by omega)⟩;have HA:=Qh (Aa wr (.cells (B4 g) 72));have HOA:=Qh (HO.out.later HA.out);have HMA:=Qh (HM.out.below HA.out);have hln:(J1 m k).length≤100000:=by rw [manPart_length m k hk];have:=HFine.out.len;omega
   have c5:=HM.out.c5;obtain⟨us,hus⟩: ∃ us,us=J1 m k:=⟨_,rfl⟩;rw [←hus] at HX HOA hln;clear hg hcell hgm hgf hus HO hnx;have HSZ:=Qs (wr.heap.size+1=(wr.alloc (.cells (B4 g) 72)).heap.size) (by simp);have hszA:w.heap.size+1≤(wr.alloc (.cells (B4 g) 72)).heap.size:=η hsz HA.out.size;go_wp2_with (first|(with_reducible refine Bc rfl (.tmp 28) rfl b (off+k*4) g rfl HCE.out ?_)|(at_builtin;refine wpList_app4 rfl (.tmp 30) (.tmp 43) rfl rfl HSZ.out rfl HOA.out hszA HI.out.1 HI.out.2.1 HI.out.2.2.1 HI.out.2.2.2 hln ?_));intro v' w' h1 h2 h3;have HF:=Qh h1;have HG:=Qh (HB.out.trans ((HA.out.mono (η (Nat.le_succ _) hsz)).trans (h2.mono (Nat.le_succ _))));have HMF:=Qh (HMA.out.keep h2 (Nat.lt_succ_self _));clear h1 h2;go_wp2;go_roundw
   case rel=>exact⟨k+1,by omega,by go_num,by rw [HX.out];exact HF.out,HMF.out,HG.out⟩
   case measure=>simp [intOf];omega
  ·obtain rfl:k=m.segs.length:=by omega
   have HA:=Qs (J1 m m.segs.length=manNums m) (by unfold J1 manNums;rw [List.take_length]);rw [HA.out] at HO;have HU:=Qh HO.out.row;obtain⟨ub,ucap,rfl,_,_⟩:=Aj HO.out;have hnl:(manNums m).length≤1000000000000:=by rw [M0];have:=HFine.out.len;omega
   have HN:=Qh (show ∀ W:World,Below wr.heap.size wr W→Calls prog 157 #[.slice ub (manNums m).length ucap] W fun e w'=> ∃ v',e= .returned v'∧Cw w' W.heap.size v' (Ej (manNums m))∧Below W.heap.size W w' from fun W hb=>
    encodeAll_any (manNums m) _ W (HU.out.below hb) (fun u hu=>Nat.lt_trans (manNums_lt HFine.out u hu) (by decide)) hnl)
   have HD:=Qs (At wr.drew w.heap.size m (.slice oa m.segs.length cap)∧Below wr.heap.size wr wr.drew) ⟨HM.out.below (Ac wr 1),Ac wr 1⟩;go_wp2_with fail;refine ε (S:=fun w'=>At w' w.heap.size m (.slice oa m.segs.length cap)∧Below wr.heap.size wr w') (by kernel_rfl) HD.out (fun hHeld=> ?_);have FX1:=Qh (fun(wF:World) (hSw:(fun w'=>At w' w.heap.size m (.slice oa m.segs.length cap)∧Below wr.heap.size wr w') wF)=>(hSw.1.c0));refine tf FX1 0 rfl ?_;refine tf FX1 1 rfl ?_;refine tf FX1 2 rfl ?_;clear FX1;refine Rd 3 rfl fun K hK=> ?_;go_simp;go_at_call 157;refine(HN.out _ hHeld.2).mono ?_;rintro e w2 ⟨v2,rfl,ho2,hb2⟩;have HO2:=Qh ho2.brow;have hsh:=ho2.brow;obtain⟨eb,hebd⟩: ∃ eb,eb=Ej (manNums m):=⟨_,rfl⟩;rw [←hebd] at HO2 hsh;have HEB:=Qh hebd;obtain⟨o2,cap2,rfl,_,hsh2⟩:=hsh;have HB2:=Qh (Below.next hHeld.2 hb2);have HM2:=Qh (hHeld.1.below hb2);clear ho2 hb2 hsh2 hebd;go_wp2_with fail;refine hK.out _ _ ⟨HM2.out,HB2.out⟩ (fun hHeld=> ?_);clear hK K;have FX2:=Qh (fun(wF:World) (hSw:(fun w'=>At w' w.heap.size m (.slice oa m.segs.length cap)∧Below wr.heap.size wr w') wF)=>(hSw.1.c0));refine tf FX2 4 rfl ?_;clear FX2;have HFr:=Qh (frame_any 4 m.gen eb _ w2 HO2.out (HNB.out.below (Below.next HB.out HB2.out)));refine Rd 5 rfl fun K hK=> ?_;go_simp;go_at_call 68;refine HFr.out.mono ?_;rintro e w3 ⟨v3,rfl,h3,hb3⟩;obtain⟨r,hr⟩: ∃ r,r=Cx 4 m.gen eb:=⟨_,rfl⟩;rw [←hr] at h3;rw [←hr];have HRR:=Qh hr;have HO3:=Qh (h3.mono (show w.heap.size≤w2.heap.size from η HB.out.size HB2.out.size));have HB3:=Qh (Below.next (Below.next HB.out HB2.out) hb3);go_wp2_with fail;refine hK.out _ _ ⟨HM2.out.below hb3,Below.next HB2.out hb3⟩ (fun hHeld=> ?_);clear hK K h3 hb3 hr;have FX3:=Qh (fun(wF:World) (hSw:(fun w'=>At w' w.heap.size m (.slice oa m.segs.length cap)∧Below wr.heap.size wr w') wF)=>(hSw.1.c0));refine tf FX3 6 rfl ?_;refine tf FX3 7 rfl ?_;clear FX3;have FX4:=Qh (fun(wF:World) (hSw:(fun w'=>At w' w.heap.size m (.slice oa m.segs.length cap)∧Below wr.heap.size wr w') wF)=>(hSw.1.c0));refine tf FX4 8 rfl ?_;refine tf FX4 9 rfl ?_;clear FX4;refine Ξ (by kernel_rfl) ?_ _;go_wp2;go_ret2;unfold Cv;rw [HE.out];have e:Cx 4 m.gen (Ej (manNums m))=r:=by rw [HRR.out,HEB.out]
   rw [e];exact⟨_,by rw [show r=Cx 4 m.gen eb from HRR.out];rfl,HO3.out,HB3.out⟩
theorem wpList_appU1 (hgd:o.guard=none) (s y:Operand) (ho:o.op= .call {callee:= .builtin .append,args:= #[s,y],argTypes:= #[262,262]})  {pv:Int}
  (hs:a.eval s=v) (hN:N=w.heap.size) (hy:a.eval y= .slice (some ⟨N,0,none⟩) 1 1) (hown:Lx w B v us) (hB:B≤w.heap.size) (h1:pv=(p:Int)) (hl:us.length≤100000)
  (h: ∀ v' w',Lx w' B v' (us++[p])→Below B w w'→w.heap.size≤w'.heap.size→wpList prog ops Q rest (a.put o.dst v') w'):wpList prog ops Q (o::rest) a (w.alloc (.cells #[.int .u64 pv] 137)):=by
 subst h1 hN;obtain⟨i0,hi,hz0,hz1,hz2⟩:=info_parts infoU64;have hb:=Aa w (.cells #[.int .u64 (p:Int)] 137);refine wpList_append_own _ hgd s y 262 ho B 137 i0 (.int .u64 0) 1 8 underlying262 hi hz0 hz1 hz2 rfl (by decide) v us.length (Jk us) hs (A2 hown hb) ⟨w.heap.size,0,none⟩ 1 1 [.int .u64 (p:Int)] hy rfl (fun j u hj=> ?_) (fun u hu=> ?_) (by unfold maxLen;omega) (by omega) (η hB hb.size) ?_
 ·rw [Cr,Nat.zero_add,World.cell?_alloc_new];simpa using hj
 ·simp at hu;rcases hu with rfl;rfl
 ·intro v' w' hown' hg _;refine h v' w' ?_ ((hb.mono hB).trans (Cm (A2 hown hb) (η hB hb.size) hg)) (η hb.size hg.size);unfold Lx;rw [ζ,show Jk (us++[p])=Jk us++[.int .u64 (p:Int)] by simp [Jk]];exact hown'
def Lt:Nat→List UInt8→Nat→List Nat→List Nat×Nat×Int
 |0,_,at_,us=>(us,at_,0)
 |n+1,b,at_,us=>if (A3 (b.drop at_)).2.2≠0 then ([],0,(A3 (b.drop at_)).2.2) else Lt n b (at_+(A3 (b.drop at_)).2.1) (us++[(A3 (b.drop at_)).1])
def Dd (b:List UInt8) (most:Nat):List Nat×Nat×Int:=
 if (A3 b).2.2≠0 then ([],0,(A3 b).2.2) else if most<(A3 b).1 then ([],0,24) else Lt (A3 b).1 b (A3 b).2.1 []
theorem decNs_stop {n:Nat} {b:List UInt8} {a:Nat} {us:List Nat} {e:Int} (h:(A3 (b.drop a)).2.2=e) (he:e≠0):Lt (n+1) b a us=([],0,e):=by rw [Lt,h,κ he]
theorem decNs_go {n:Nat} {b:List UInt8} {a:Nat} {us:List Nat} (h:(A3 (b.drop a)).2.2=0):Lt (n+1) b a us=Lt n b (a+(A3 (b.drop a)).2.1) (us++[(A3 (b.drop a)).1]):=by rw [Lt,h,γ (by decide)]
def AllPost (w:World) (r:List Nat×Nat×Int) (e:Ending) (w':World):Prop:= ∃ v,e= .returned (.tuple #[v,Vi Vk (r.2.1:Int),Vi Vk r.2.2])∧Lx w' w.heap.size v r.1∧Below w.heap.size w w'
theorem ownU_nil (w:World) (B:Nat):Lx w B (.slice none 0 0) []:=⟨rfl,.inl ⟨rfl,rfl⟩⟩
theorem decodeAll_any (l:List UInt8) (v:Value) (most:Nat) (w:World) (hv:B7 w v l) (hl:l.length≤140737488355328) (hm:most≤100000) (hm0:0<most):
  Calls prog 158 #[v,Vi Vk (most:Int)] w (AllPost w (Dd l most)):=by
 have HV:=Qh (fun W (hb:Below w.heap.size w W)=>hv.below hb);have HD0:=Qh (I1 l v w hv (by omega));have HLT:=Qh (decV_lt l);have HLN:=Qh (@Jw l);obtain⟨oa,cap,rfl,hlc,hc⟩:=hv;have HALL:=Qs (Dd l most=if (A3 l).2.2≠0 then ([],0,(A3 l).2.2) else if most<(A3 l).1 then ([],0,24) else Lt (A3 l).1 l (A3 l).2.1 []) rfl;obtain⟨r,hr⟩: ∃ r,r=A3 l:=⟨_,rfl⟩;rw [←hr] at HD0 HLT HLN HALL;clear hc hr;obtain⟨n,at0,e0⟩:=r;unfold VarPost at HD0;have hn:=HLT.out;simp only at hn;have hw0:IntKind.u64.wrap (max 0 (most:Int))=(most:Int):=by rw [IntKind.wrap_u64];omega
 have hw1:IntKind.u64.wrap (most:Int)=(most:Int):=by rw [IntKind.wrap_u64];omega
 go_enter func158,ntmps158;go_wp2_with fail;refine HD0.out.mono ?_;rintro e w1 ⟨rfl,hb1⟩;have HB1:=Qh hb1;clear hb1 HD0;rcases he0:(e0 != 0) with _|_
 ·have HE0:=Qs (e0=0) (by simpa using he0);rcases hmn:decide (most<n) with _|_
  ·have hmn': ¬ most<n:=Γ hmn;have HA:=Qs (Dd l most=Lt n l at0 []) (by rw [HALL.out];simp [HE0.out,hmn']);have HL0:=Qs (at0≤l.length) (by have:=(HLN.out HE0.out).2;exact this);have HMN:=Qh hmn';clear HALL HLN HLT hmn';go_wp2;clear he0 hmn;go_loopw [8,10,29] (fun av uv cv wr=> ∃ (k at_:Nat) (us:List Nat),k≤n∧cv= .int .u64 (k:Int)∧av= Vi Vk (at_:Int)∧us.length=k∧at_≤l.length∧Lx wr w.heap.size uv us∧Hid (Dd l most=Lt (n - k) l at_ us)∧Below w.heap.size w wr) (fun _ _ cv _=>n - (intOf cv).toNat)
   case atStart=>exact⟨0,at0,[],θ _,rfl,rfl,rfl,HL0.out,ownU_nil _ _,HA,HB1.out⟩
   case round=>
    clear HA HL0 HB1;obtain⟨k,at_,us,hk,rfl,rfl,hus,hat,hown,HD,hb⟩:=hrel;have HO:=Qh hown;have HB:=Qh hb;clear hown hb;by_cases hlt:k<n
    ·have q1:(k:Int)<(n:Int):=by omega
     have HBR:=Qh (HV.out wr HB.out);have HST:=Qh (fun e=> @decNs_stop (n - (k+1)) l at_ us e);have HGO:=Qh (@decNs_go (n - (k+1)) l at_ us);have HNK:=Qs (n - k=(n - (k+1))+1) (by omega);rw [HNK.out] at HD;have HDV:=Qh (fun oa' cap' (hv:B7 wr (.slice oa' (l.length - at_) cap') (l.drop at_))=>I1 (l.drop at_) _ wr hv (by rw [Λ];omega));have HLN:=Qh (@Jw (l.drop at_));have HLT:=Qh (decV_lt (l.drop at_));obtain⟨r,hr⟩: ∃ r,r=A3 (l.drop at_):=⟨_,rfl⟩;rw [←hr] at HDV HLT HLN HST HGO;clear hr HNK;obtain⟨u,n1,e1⟩:=r;unfold VarPost at HDV;have hu:=HLT.out;simp only at hu;go_wp2_with (with_reducible refine Pw rfl (.tmp 32) (.tmp 33) rfl oa cap at_ l rfl rfl HBR.out hat ?_);intro oa' cap' hbr;go_wp2_with fail;refine(HDV.out oa' cap' hbr).mono ?_;rintro e w2 ⟨rfl,hb2⟩;have HB2:=Qh (Below.next HB.out hb2);have HO2:=Qh (HO.out.later hb2);clear hb2 hbr HDV HO;rcases he1:(e1 != 0) with _|_
     ·have HE1:=Qs (e1=0) (by simpa using he1);have hn1:at_+n1≤l.length:=by have:=(HLN.out HE1.out).2;rw [Λ] at this;omega
      have HD2:=Qs (Dd l most=Lt (n - (k+1)) l (at_+n1) (us++[u])) (by rw [HD.out];exact HGO.out HE1.out);have hsz:=HB2.out.size;have hul:us.length≤100000:=by have:=HMN.out;omega
      clear HLN HLT HST HGO HD;go_wp2_with (with_reducible refine wpList_appU1 (p:=u) rfl (.tmp 42) (.tmp 44) rfl rfl rfl rfl HO2.out hsz rfl hul ?_);intro v' w3 ho3 hb3 _;have HO3:=Qh ho3;have HB3:=Qh (HB2.out.trans hb3);clear ho3 hb3 HO2 HB2;have hk1:IntKind.u64.wrap ((k:Int)+1)=(k:Int)+1:=by rw [IntKind.wrap_u64];omega
      go_wp2;go_roundw
      case rel=>exact⟨k+1,at_+n1,us++[u],by omega,by first|rfl|(push_cast;rfl),by first|rfl|(push_cast;rfl),by simp [hus],hn1,HO3.out,HD2,HB3.out⟩
      case measure=>simp [intOf];omega
     ·have HE:=Qs (Dd l most=([],0,e1)) (by rw [HD.out];exact HST.out _ rfl (by simpa using he1));go_wp2;refine π (v:= .tuple #[.slice none 0 0,Vi Vk 0,Vi Vk e1]) (by simp [results,results158,go_sem]) rfl ⟨_,by rw [HE.out];rfl,by rw [HE.out];exact ownU_nil _ _,HB2.out⟩
    ·obtain rfl:k=n:=by omega
     have HE:=Qs (Dd l most=(us,at_,0)) (by rw [HD.out,Nat.sub_self];rfl);go_wp2;refine π (v:= .tuple #[_,Vi Vk (at_:Int),Vi Vk 0]) (by simp [results,results158,go_sem];first|rfl|skip) rfl ⟨_,by rw [HE.out],by rw [HE.out];exact HO.out,HB.out⟩
  ·have hmn':most<n:=ψ hmn;have HA:=Qs (Dd l most=([],0,24)) (by rw [HALL.out];simp [HE0.out,hmn']);clear hmn';go_wp2;refine π (v:= .tuple #[.slice none 0 0,Vi Vk 0,Vi Vk 24]) (by simp [results,results158,go_sem]) rfl ⟨_,by rw [HA.out];rfl,by rw [HA.out];exact ownU_nil _ _,HB1.out⟩
 ·have HA:=Qs (Dd l most=([],0,e0)) (by rw [HALL.out];rw [κ (show e0≠0 by simpa using he0)]);go_wp2;refine π (v:= .tuple #[.slice none 0 0,Vi Vk 0,Vi Vk e0]) (by simp [results,results158,go_sem]) rfl ⟨_,by rw [HA.out];rfl,by rw [HA.out];exact ownU_nil _ _,HB1.out⟩
end Go.Proofs.YtgkdenejkcngnaaGreatDoor
