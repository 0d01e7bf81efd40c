import Derived.Test.YtgkdenejkcngnaaGreatDoorPv9
set_option maxRecDepth 100000
set_option maxHeartbeats 8000000
namespace Go.Proofs.YtgkdenejkcngnaaGreatDoor
open Go.RowKit
open Value renaming int→Vi
open IntKind renaming i64→Vk
open Go.Proofs.Tryz
variable {a:Act}{K:Act→World→Prop}{d d':Af}{listed:Array Bool}{af:Array Edge}{ops:Array Oper}{x:Bl}{s:C6}{D:DataW Value}{e:Ev}{Q:Exit→Act→World→Prop}{fn:Func}{h:Hd}{bad from_ num:Int}{xs:List (Ce×Value)}{E bs:List (List UInt8)}{L:List Aq}{fs fs':List Bl}{G:List Grp}{ps:List I3}{zs:List Int}{ms:List Mk}{us vs:List Nat}{b body l n raw t:List UInt8}{cs:List Value}{B N base c f first g i j k m more most p r segEv size stride u:Nat}{A A' S:Nat→Prop}{o:Oper}{P:Program}{q:Tmp}{bv mv rv sv v v' v1:Value}{W W' X w w' w0 w1 w2:World}
def taxL:List Int:=[0,1900,2000,700]
def Dn (w:World):Prop:=Lib.TabIs prog w "daybook/upcast.taxes" .i64 taxL
theorem Dn.below (h:Dn w) (hb:Below w.heap.size w w'):Dn w':=Joins.tab_stays (g:=0) (by kernel_rfl) h hb (μ _)
theorem Dn.at (h:Dn w) (k:Nat) (hk:k<4):w.cell? ⟨0,k,none⟩=some (Vi Vk (taxL.getD k 0)):=
 Lib.TabIs.cell (g:=0) h (by kernel_rfl) k (by simpa [taxL] using hk)
def hunV (e:Ev):Ev:={e with price:=e.price*100}
def Hg (e:Ev):Ev:=
 if e.qty<0∧e.kind=2 then {e with kind:=6,qty:= -e.qty,tax:=taxL.getD e.cur.toNat 0} else {e with qty:=max 0 e.qty,tax:=taxL.getD e.cur.toNat 0}
def Lw (e:Ev):Ev:={e with who:=[111,108,100]}
def Eg (e:Ev):Ev:=if e.kind=4∧e.qty=0 then {e with kind:=10,item:=0} else e
def Hy (v:Int) (e:Ev):Ev:=
 let a:=if v≤1 then hunV e else e
 let b:=if v≤2 then Hg a else a
 let c:=if v≤3 then Lw b else b
 if v≤4 then Eg c else c
def UpQ (w:World) (g:Nat) (e:Ev) (x:Ending) (w':World):Prop:=x= .returned (.tuple #[])∧Au w' g e∧Ab (fun k=>k=g) w w'
section
variable {w w' : World} {g : Nat} {e e' : Ev}
theorem Au.put (h:Au w g e) (j:Nat) (v:Value) (he:(A8 e).setIfInBounds j v=A8 e'):Au (w.setCell ⟨g,j,none⟩ v) g e'∧Ab (fun k=>k=g) w (w.setCell ⟨g,j,none⟩ v):=⟨h.set j v he,Ab.setCell _ _ _ rfl⟩
theorem hund_any (h:Au w g e) (hp:0≤e.price∧e.price≤1000000000):Calls prog 111 #[.pointer (some ⟨g,0,none⟩)] w (UpQ w g (hunV e)):=by
 have c4:w.cell? ⟨g,4,none⟩=some (Vi Vk e.price):=h.cell 4;have f4:=h.free 4;have hw:IntKind.i64.wrap (e.price*100)=e.price*100:=by rw [ν];omega
 have HP:=Qh (h.put (e':=hunV e) 4 (Vi Vk (e.price*100)) rfl);clear h hp;generalize e.price=p at*;go_enter func111,ntmps111;go_wp2;exact π (v:= .tuple #[]) (by simp [results,results111,go_sem]) rfl ⟨rfl,HP.out.1,HP.out.2⟩
theorem signed_any (h:Au w g e):Calls prog 113 #[.pointer (some ⟨g,0,none⟩)] w (UpQ w g (Lw e)):=by
 have c7:w.cell? ⟨g,7,none⟩=some (.string ⟨e.who.toArray⟩):=h.cell 7;have f7:=h.free 7;have HP:=Qh (h.put (e':=Lw e) 7 (.string ⟨#[111,108,100]⟩) rfl);clear h;generalize e.who=p at*;go_enter func113,ntmps113;go_wp2;exact π (v:= .tuple #[]) (by simp [results,results113,go_sem]) rfl ⟨rfl,HP.out.1,HP.out.2⟩
theorem O0 (h:Au w g e):Calls prog 114 #[.pointer (some ⟨g,0,none⟩)] w (UpQ w g (Eg e)):=by
 have c0:w.cell? ⟨g,0,none⟩=some (Vi Vk e.kind):=h.cell 0;have c2:w.cell? ⟨g,2,none⟩=some (Vi Vk e.item):=h.cell 2;have c3:w.cell? ⟨g,3,none⟩=some (Vi Vk e.qty):=h.cell 3;have f0:=h.free 0;have f2:=h.free 2;have HH:=Qh h;rcases hk:(e.kind==4) with _|_
 ·have HE:=Qs (Eg e=e) (by unfold Eg;rw [γ (fun h=>by simp [h.1] at hk)]);clear h;generalize e.kind=k at*;go_enter func114,ntmps114;go_wp2;exact π (v:= .tuple #[]) (by simp [results,results114,go_sem]) rfl ⟨rfl,by rw [HE.out];exact HH.out,Ab.refl _ _⟩
 ·rcases hz:(e.qty==0) with _|_
  ·have HE:=Qs (Eg e=e) (by unfold Eg;rw [γ (fun h=>by simp [h.2] at hz)]);clear h;generalize e.kind=k at*;generalize e.qty=q at*;go_enter func114,ntmps114;go_wp2;exact π (v:= .tuple #[]) (by simp [results,results114,go_sem]) rfl ⟨rfl,by rw [HE.out];exact HH.out,Ab.refl _ _⟩
  ·have HE:=Qs (Eg e={e with kind:=10,item:=0}) (by unfold Eg;rw [κ ⟨by simpa using hk,by simpa using hz⟩]);have h1:=h.put (e':={e with kind:=10}) 0 (Vi Vk 10) rfl;have h2:=h1.1.put (e':={e with kind:=10,item:=0}) 2 (Vi Vk 0) rfl;have HP:=Qh (show Au _ g (Eg e)∧Ab (fun k=>k=g) w _ from⟨by rw [HE.out];exact h2.1,h1.2.trans h2.2 fun _ h=> .inl h⟩);clear h h1 h2;generalize e.kind=k at*;generalize e.qty=q at*;generalize e.item=i at*;go_enter func114,ntmps114;go_wp2;exact π (v:= .tuple #[]) (by simp [results,results114,go_sem]) rfl ⟨rfl,HP.out.1,HP.out.2⟩
theorem drops_any (h:Au w g e) (ht:Dn w) (hg:4≤g) (hc:0≤e.cur∧e.cur≤3) (hq: -1000000≤e.qty∧e.qty≤1000000):Calls prog 112 #[.pointer (some ⟨g,0,none⟩)] w (UpQ w g (Hg e)):=by
 have c0:w.cell? ⟨g,0,none⟩=some (Vi Vk e.kind):=h.cell 0;have c3:w.cell? ⟨g,3,none⟩=some (Vi Vk e.qty):=h.cell 3;have c5:w.cell? ⟨g,5,none⟩=some (Vi Vk e.cur):=h.cell 5;have c6:w.cell? ⟨g,6,none⟩=some (Vi Vk e.tax):=h.cell 6;have f0:=h.free 0;have f3:=h.free 3;have f6:=h.free 6;obtain⟨cu,hcu⟩: ∃ cu:Nat,e.cur=(cu:Int):=⟨e.cur.toNat,by omega⟩;have tb:=ht.at cu (by omega);have hcl:cu<4:=by omega
 have hng:g≠0:=fun hc=>by rw [hc] at hg;revert hg;decide
 have HT:=Qs (taxL.getD e.cur.toNat 0=taxL.getD cu 0) (by rw [hcu,Int.toNat_natCast]);rw [hcu] at c5;have q1:(cu:Int)<4:=by omega
 have hgn:0≠g:=fun hc=>hng hc.symm;generalize taxL.getD cu 0=tx at*;rcases hq0:decide (e.qty<0) with _|_
 ·have HE:=Qs (Hg e={e with qty:=max 0 e.qty,tax:=tx}) (by unfold Hg;rw [HT.out,γ (fun h=>by exact Γ hq0 h.1)]);have h1:=h.put (e':={e with qty:=max 0 e.qty}) 3 (Vi Vk (max 0 e.qty)) rfl;have h2:=h1.1.put (e':={e with qty:=max 0 e.qty,tax:=tx}) 6 (Vi Vk tx) rfl;have HP:=Qh (show Au _ g (Hg e)∧Ab (fun k=>k=g) w _ from⟨by rw [HE.out];exact h2.1,h1.2.trans h2.2 fun _ h=> .inl h⟩);clear h h1 h2 ht hq hc hcu HE;generalize e.kind=k at*;generalize e.qty=q at*;generalize e.tax=ot at*;go_enter func112,ntmps112;go_wp2;exact π (v:= .tuple #[]) (by simp [results,results112,go_sem]) rfl ⟨rfl,HP.out.1,HP.out.2⟩
 ·rcases hk:(e.kind==2) with _|_
  ·have HE:=Qs (Hg e={e with qty:=max 0 e.qty,tax:=tx}) (by unfold Hg;rw [HT.out,γ (fun h=>by simp [h.2] at hk)]);have h1:=h.put (e':={e with qty:=max 0 e.qty}) 3 (Vi Vk (max 0 e.qty)) rfl;have h2:=h1.1.put (e':={e with qty:=max 0 e.qty,tax:=tx}) 6 (Vi Vk tx) rfl;have HP:=Qh (show Au _ g (Hg e)∧Ab (fun k=>k=g) w _ from⟨by rw [HE.out];exact h2.1,h1.2.trans h2.2 fun _ h=> .inl h⟩);clear h h1 h2 ht hq hc hcu HE;generalize e.kind=k at*;generalize e.qty=q at*;generalize e.tax=ot at*;go_enter func112,ntmps112;go_wp2;exact π (v:= .tuple #[]) (by simp [results,results112,go_sem]) rfl ⟨rfl,HP.out.1,HP.out.2⟩
  ·have hng2:IntKind.i64.wrap (-e.qty)= -e.qty:=by rw [ν];omega
   have hmx:max 0 (-e.qty)= -e.qty:=by have:=ψ hq0;omega
   have HE:=Qs (Hg e={e with kind:=6,qty:= -e.qty,tax:=tx}) (by unfold Hg;rw [HT.out,κ ⟨ψ hq0,by simpa using hk⟩]);have h1:=h.put (e':={e with kind:=6}) 0 (Vi Vk 6) rfl;have h2:=h1.1.put (e':={e with kind:=6,qty:= -e.qty}) 3 (Vi Vk (-e.qty)) rfl;have h3:=h2.1.put (e':={e with kind:=6,qty:= -e.qty}) 3 (Vi Vk (-e.qty)) rfl;have h4:=h3.1.put (e':={e with kind:=6,qty:= -e.qty,tax:=tx}) 6 (Vi Vk tx) rfl;have HP:=Qh (show Au _ g (Hg e)∧Ab (fun k=>k=g) w _ from⟨by rw [HE.out];exact h4.1,((h1.2.trans h2.2 fun _ h=> .inl h).trans h3.2 fun _ h=> .inl h).trans h4.2 fun _ h=> .inl h⟩);clear h h1 h2 h3 h4 ht hq hc hcu HE;generalize e.kind=k at*;generalize e.qty=q at*;generalize e.tax=ot at*;go_enter func112,ntmps112;go_wp2;exact π (v:= .tuple #[]) (by simp [results,results112,go_sem]) rfl ⟨rfl,HP.out.1,HP.out.2⟩
theorem Dn.turned (h:Dn w) (ht:Ab S w w') (hS: ¬ S 0) (hg:0<w.heap.size):Dn w':=by
 have hb:=ht.block 0 hg hS;unfold Dn Lib.TabIs World.var? at*;simp only [show prog.globalNamed "daybook/upcast.taxes" =some 0 by kernel_rfl,Option.bind_some,hb] at*;exact h
end
theorem Dn.lt (h:Dn w):0<w.heap.size:=World.block_lt_of_cell? w _ (h.at 0 (by decide))
theorem Jq {p:Tmp} (h:fn.results= #[.cell p 38]) (tmps:Array Value) (w:World) (g:Nat) (e:Ev)
  (hp:tmps.getD p undef= .pointer (some ⟨g,0,none⟩)) (hE:Au w g e):(results fn tmps).run prog w= .ok (Ga e) w:=by
 have hl:=run_loadVar_row (P:=prog) w g 38 38 (A8 e) (0,0) _ hE underlying38 rfl Nz;have hp':tmps[p]?.getD undef= .pointer (some ⟨g,0,none⟩):=by simpa using hp
 simp [results,h,hp',asAddr,hl];rfl
def RiseQ (w:World) (r:Ev) (e:Ending) (w':World):Prop:=e= .returned (Ga r)∧Below w.heap.size w w'
theorem riseV_1 (e:Ev):Hy 1 e=Eg (Lw (Hg (hunV e))):=rfl
theorem riseV_2 (e:Ev):Hy 2 e=Eg (Lw (Hg e)):=rfl
theorem riseV_3 (e:Ev):Hy 3 e=Eg (Lw e):=rfl
theorem riseV_4 (e:Ev):Hy 4 e=Eg e:=rfl
theorem riseV_5 (e:Ev):Hy 5 e=e:=rfl
theorem rise_any (v:Int) (e:Ev) (w:World) (hc:Am v e=0) (ht:Dn w) (hg:4≤w.heap.size):Calls prog 74 #[Vi Vk v,Ga e] w (RiseQ w (Hy v e)):=by
 have hf:=evFit hc;have h1:=hf.price;have h2:=hf.cur;have h3:=hf.qty;have hq: -10000≤e.qty∧e.qty≤10000:=by split at h3<;>omega
 have hcu:0≤e.cur∧e.cur≤3:=by split at h2<;>omega
 have hb1:=Aa w (.cells (A8 e) 38);have hb2:=Aa (w.alloc (.cells (A8 e) 38)) (.cells (A8 Ai) 38);have HE0:=Qs (Au ((w.alloc (.cells (A8 e) 38)).alloc (.cells (A8 Ai) 38)) w.heap.size e) (Au.below (σ w _) hb2);have HZ0:=Qs (Au ((w.alloc (.cells (A8 e) 38)).alloc (.cells (A8 Ai) 38)) (w.heap.size+1) Ai) (by
  have:=σ (w.alloc (.cells (A8 e) 38)) (.cells (A8 Ai) 38);rw [World.size_alloc] at this;exact this)
 have HB0:=Qh (Below.next hb1 hb2);have HT0:=Qh ((ht.below hb1).below hb2);have HQ:=Qh hq;have HC:=Qh hcu;have HP:=Qh h1;have HG:=Qh hg;have HV:=Qs (v=1∨v=2∨v=3∨v=4∨v=5) (by have:=hf.ver;omega);have HTX:=Qh (fun(W W':World) (a:Dn W) (t:Ab (fun k=>k=w.heap.size) W W')=>a.turned t (show ¬ ((0:Nat)=w.heap.size) by omega) a.lt);simp only [A8,Ai] at HE0 HZ0 HB0 HT0;clear hc hf h1 h2 h3 hq hcu hb1 hb2 ht hg;have HW0:=Qh (show Dn _∧Au _ w.heap.size e∧Au _ (w.heap.size+1) Ai∧Below w.heap.size w _ from⟨HT0.out,HE0.out,HZ0.out,HB0.out⟩);clear HT0 HE0 HZ0 HB0;rcases HV.out with rfl|rfl|rfl|rfl|rfl
 ·go_enter func74,ntmps74;go_wp2_with fail;refine(hund_any HW0.out.2.1 (by have:=HP.out;omega)).mono ?_;rintro x w1 ⟨rfl,he,ht⟩;replace HW0:=Qs (Dn w1∧Au w1 w.heap.size (hunV e)∧Au w1 (w.heap.size+1) Ai∧Below w.heap.size w w1) ⟨HTX.out _ _ HW0.out.1 ht,he,(ht.block _ HW0.out.2.2.1.lt (by omega)).trans HW0.out.2.2.1,Al HW0.out.2.2.2 ht (fun k hk=>by omega) HW0.out.2.2.2.size⟩;clear he ht;go_wp2_with fail;refine(drops_any HW0.out.2.1 HW0.out.1 HG.out HC.out (by have:=HQ.out;exact⟨by show -1000000≤e.qty;omega,by show e.qty≤1000000;omega⟩)).mono ?_;rintro x w1 ⟨rfl,he,ht⟩;replace HW0:=Qs (Dn w1∧Au w1 w.heap.size (Hg (hunV e))∧Au w1 (w.heap.size+1) Ai∧Below w.heap.size w w1) ⟨HTX.out _ _ HW0.out.1 ht,he,(ht.block _ HW0.out.2.2.1.lt (by omega)).trans HW0.out.2.2.1,Al HW0.out.2.2.2 ht (fun k hk=>by omega) HW0.out.2.2.2.size⟩;clear he ht;go_wp2_with fail;refine(signed_any HW0.out.2.1).mono ?_;rintro x w1 ⟨rfl,he,ht⟩;replace HW0:=Qs (Dn w1∧Au w1 w.heap.size (Lw (Hg (hunV e)))∧Au w1 (w.heap.size+1) Ai∧Below w.heap.size w w1) ⟨HTX.out _ _ HW0.out.1 ht,he,(ht.block _ HW0.out.2.2.1.lt (by omega)).trans HW0.out.2.2.1,Al HW0.out.2.2.2 ht (fun k hk=>by omega) HW0.out.2.2.2.size⟩;clear he ht;go_wp2_with fail;refine(O0 HW0.out.2.1).mono ?_;rintro x w1 ⟨rfl,he,ht⟩;replace HW0:=Qs (Dn w1∧Au w1 w.heap.size (Eg (Lw (Hg (hunV e))))∧Au w1 (w.heap.size+1) Ai∧Below w.heap.size w w1) ⟨HTX.out _ _ HW0.out.1 ht,he,(ht.block _ HW0.out.2.2.1.lt (by omega)).trans HW0.out.2.2.1,Al HW0.out.2.2.2 ht (fun k hk=>by omega) HW0.out.2.2.2.size⟩;clear he ht;obtain⟨E,hE⟩: ∃ E,E=Eg (Lw (Hg (hunV e))):=⟨_,rfl⟩;have HR:=Qs (Hy 1 e=E) (by rw [riseV_1,hE]);rw [←hE] at HW0;clear hE;have HEE:=Qh HW0.out.2.1;have HZZ:=Qh HW0.out.2.2.1;go_wp2_with (first|(with_reducible refine A6 rfl (.tmp 3) rfl w.heap.size E rfl HEE.out ?_)|(with_reducible refine Bd rfl (.tmp 4) (.tmp 18) rfl (w.heap.size+1) Ai E rfl rfl HZZ.out ?_));intro wz hz;have HZ:=Qs (Au wz (w.heap.size+1) E∧Below w.heap.size w wz) ⟨hz.out.1,Al HW0.out.2.2.2 hz.out.2 (fun k hk=>by omega) HW0.out.2.2.2.size⟩;clear hz;go_wp2;exact π (v:=Ga E) (Jq rfl _ _ (w.heap.size+1) E rfl HZ.out.1) rfl ⟨by rw [HR.out],HZ.out.2⟩
 ·go_enter func74,ntmps74;go_wp2_with fail;refine(drops_any HW0.out.2.1 HW0.out.1 HG.out HC.out (by have:=HQ.out;exact⟨by show -1000000≤e.qty;omega,by show e.qty≤1000000;omega⟩)).mono ?_;rintro x w1 ⟨rfl,he,ht⟩;replace HW0:=Qs (Dn w1∧Au w1 w.heap.size (Hg e)∧Au w1 (w.heap.size+1) Ai∧Below w.heap.size w w1) ⟨HTX.out _ _ HW0.out.1 ht,he,(ht.block _ HW0.out.2.2.1.lt (by omega)).trans HW0.out.2.2.1,Al HW0.out.2.2.2 ht (fun k hk=>by omega) HW0.out.2.2.2.size⟩;clear he ht;go_wp2_with fail;refine(signed_any HW0.out.2.1).mono ?_;rintro x w1 ⟨rfl,he,ht⟩;replace HW0:=Qs (Dn w1∧Au w1 w.heap.size (Lw (Hg e))∧Au w1 (w.heap.size+1) Ai∧Below w.heap.size w w1) ⟨HTX.out _ _ HW0.out.1 ht,he,(ht.block _ HW0.out.2.2.1.lt (by omega)).trans HW0.out.2.2.1,Al HW0.out.2.2.2 ht (fun k hk=>by omega) HW0.out.2.2.2.size⟩;clear he ht;go_wp2_with fail;refine(O0 HW0.out.2.1).mono ?_;rintro x w1 ⟨rfl,he,ht⟩;replace HW0:=Qs (Dn w1∧Au w1 w.heap.size (Eg (Lw (Hg e)))∧Au w1 (w.heap.size+1) Ai∧Below w.heap.size w w1) ⟨HTX.out _ _ HW0.out.1 ht,he,(ht.block _ HW0.out.2.2.1.lt (by omega)).trans HW0.out.2.2.1,Al HW0.out.2.2.2 ht (fun k hk=>by omega) HW0.out.2.2.2.size⟩;clear he ht;obtain⟨E,hE⟩: ∃ E,E=Eg (Lw (Hg e)):=⟨_,rfl⟩;have HR:=Qs (Hy 2 e=E) (by rw [riseV_2,hE]);rw [←hE] at HW0;clear hE;have HEE:=Qh HW0.out.2.1;have HZZ:=Qh HW0.out.2.2.1;go_wp2_with (first|(with_reducible refine A6 rfl (.tmp 3) rfl w.heap.size E rfl HEE.out ?_)|(with_reducible refine Bd rfl (.tmp 4) (.tmp 18) rfl (w.heap.size+1) Ai E rfl rfl HZZ.out ?_));intro wz hz;have HZ:=Qs (Au wz (w.heap.size+1) E∧Below w.heap.size w wz) ⟨hz.out.1,Al HW0.out.2.2.2 hz.out.2 (fun k hk=>by omega) HW0.out.2.2.2.size⟩;clear hz;go_wp2;exact π (v:=Ga E) (Jq rfl _ _ (w.heap.size+1) E rfl HZ.out.1) rfl ⟨by rw [HR.out],HZ.out.2⟩
 ·go_enter func74,ntmps74;go_wp2_with fail;refine(signed_any HW0.out.2.1).mono ?_;rintro x w1 ⟨rfl,he,ht⟩;replace HW0:=Qs (Dn w1∧Au w1 w.heap.size (Lw e)∧Au w1 (w.heap.size+1) Ai∧Below w.heap.size w w1) ⟨HTX.out _ _ HW0.out.1 ht,he,(ht.block _ HW0.out.2.2.1.lt (by omega)).trans HW0.out.2.2.1,Al HW0.out.2.2.2 ht (fun k hk=>by omega) HW0.out.2.2.2.size⟩;clear he ht;go_wp2_with fail;refine(O0 HW0.out.2.1).mono ?_;rintro x w1 ⟨rfl,he,ht⟩;replace HW0:=Qs (Dn w1∧Au w1 w.heap.size (Eg (Lw e))∧Au w1 (w.heap.size+1) Ai∧Below w.heap.size w w1) ⟨HTX.out _ _ HW0.out.1 ht,he,(ht.block _ HW0.out.2.2.1.lt (by omega)).trans HW0.out.2.2.1,Al HW0.out.2.2.2 ht (fun k hk=>by omega) HW0.out.2.2.2.size⟩;clear he ht;obtain⟨E,hE⟩: ∃ E,E=Eg (Lw e):=⟨_,rfl⟩;have HR:=Qs (Hy 3 e=E) (by rw [riseV_3,hE]);rw [←hE] at HW0;clear hE;have HEE:=Qh HW0.out.2.1;have HZZ:=Qh HW0.out.2.2.1;go_wp2_with (first|(with_reducible refine A6 rfl (.tmp 3) rfl w.heap.size E rfl HEE.out ?_)|(with_reducible refine Bd rfl (.tmp 4) (.tmp 18) rfl (w.heap.size+1) Ai E rfl rfl HZZ.out ?_));intro wz hz;have HZ:=Qs (Au wz (w.heap.size+1) E∧Below w.heap.size w wz) ⟨hz.out.1,Al HW0.out.2.2.2 hz.out.2 (fun k hk=>by omega) HW0.out.2.2.2.size⟩;clear hz;go_wp2;exact π (v:=Ga E) (Jq rfl _ _ (w.heap.size+1) E rfl HZ.out.1) rfl ⟨by rw [HR.out],HZ.out.2⟩
 ·go_enter func74,ntmps74;go_wp2_with fail;refine(O0 HW0.out.2.1).mono ?_;rintro x w1 ⟨rfl,he,ht⟩;replace HW0:=Qs (Dn w1∧Au w1 w.heap.size (Eg e)∧Au w1 (w.heap.size+1) Ai∧Below w.heap.size w w1) ⟨HTX.out _ _ HW0.out.1 ht,he,(ht.block _ HW0.out.2.2.1.lt (by omega)).trans HW0.out.2.2.1,Al HW0.out.2.2.2 ht (fun k hk=>by omega) HW0.out.2.2.2.size⟩;clear he ht;obtain⟨E,hE⟩: ∃ E,E=Eg e:=⟨_,rfl⟩;have HR:=Qs (Hy 4 e=E) (by rw [riseV_4,hE]);rw [←hE] at HW0;clear hE;have HEE:=Qh HW0.out.2.1;have HZZ:=Qh HW0.out.2.2.1;go_wp2_with (first|(with_reducible refine A6 rfl (.tmp 3) rfl w.heap.size E rfl HEE.out ?_)|(with_reducible refine Bd rfl (.tmp 4) (.tmp 18) rfl (w.heap.size+1) Ai E rfl rfl HZZ.out ?_));intro wz hz;have HZ:=Qs (Au wz (w.heap.size+1) E∧Below w.heap.size w wz) ⟨hz.out.1,Al HW0.out.2.2.2 hz.out.2 (fun k hk=>by omega) HW0.out.2.2.2.size⟩;clear hz;go_wp2;exact π (v:=Ga E) (Jq rfl _ _ (w.heap.size+1) E rfl HZ.out.1) rfl ⟨by rw [HR.out],HZ.out.2⟩
 ·go_enter func74,ntmps74;obtain⟨E,hE⟩: ∃ E,E=e:=⟨_,rfl⟩;have HR:=Qs (Hy 5 e=E) (by rw [riseV_5,hE]);subst hE;have HEE:=Qh HW0.out.2.1;have HZZ:=Qh HW0.out.2.2.1;go_wp2_with (first|(with_reducible refine A6 rfl (.tmp 3) rfl w.heap.size E rfl HEE.out ?_)|(with_reducible refine Bd rfl (.tmp 4) (.tmp 18) rfl (w.heap.size+1) Ai E rfl rfl HZZ.out ?_));intro wz hz;have HZ:=Qs (Au wz (w.heap.size+1) E∧Below w.heap.size w wz) ⟨hz.out.1,Al HW0.out.2.2.2 hz.out.2 (fun k hk=>by omega) HW0.out.2.2.2.size⟩;clear hz;go_wp2;exact π (v:=Ga E) (Jq rfl _ _ (w.heap.size+1) E rfl HZ.out.1) rfl ⟨by rw [HR.out],HZ.out.2⟩
def ReadQ (w:World) (r:Ev×Int) (e:Ending) (w':World):Prop:=e= .returned (.tuple #[Ga r.1,Vi Vk r.2])∧Below w.heap.size w w'
def upV (b:List UInt8):Ev:=Hy (Gy b).1 (Gy b).2.1
theorem decEvQ_fin (v:Int) (q:List Ce×Int): ∃ q' e',O2 v q=finQ v q' e':=⟨_,_,rfl⟩
theorem decEv_check {v:Int}  (h:(Gh v b).2=0):Am v (Gh v b).1=0:=by
 unfold Gh at h ⊢;split at h
 ·cases h
 ·rename_i h3;rw [γ h3];split at h
  ·rename_i h4;exact absurd h h4
  ·rename_i h4;rw [γ h4];obtain⟨q,e,hf⟩:=decEvQ_fin v ((tlvDec b).2,0);rw [hf] at h ⊢;unfold finQ at h ⊢;split at h
   ·rename_i h5;exact absurd h h5
   ·rename_i h5;rw [γ h5];split at h
    ·rename_i h6;exact absurd h h6
    ·rename_i h6;rw [γ h6];exact Decidable.not_not.1 h6
theorem unpack_check (h:(Gy b).2.2=0):Am (Gy b).1 (Gy b).2.1=0:=by
 unfold Gy at h ⊢;split at h
 ·rename_i h1;exact absurd h h1
 ·rename_i h1;rw [γ h1];split at h
  ·rename_i h2;exact absurd h h2
  ·rename_i h2;rw [γ h2];exact decEv_check (Decidable.not_not.1 h2)
theorem upRead_any (b:List UInt8) (bv:Value) (w:World) (hv:B7 w bv b) (hl:b.length≤9223372036854775807) (h0:(Gy b).2.2=0) (ht:Dn w) (hg:4≤w.heap.size):Calls prog 44 #[bv] w (ReadQ w (upV b,0)):=by
 have hck:=unpack_check h0;have hb1:=Aa w (.cells (A8 Ai) 38);have HZ0:=Qs (Au (w.alloc (.cells (A8 Ai) 38)) w.heap.size Ai) (σ w _);have HB0:=Qh hb1;have HT0:=Qh (ht.below hb1);have HUN:=Qh (unpack_any b bv _ (hv.below hb1) hl);have HCK:=Qh hck;have HG:=Qh hg;unfold upV;obtain⟨u,hu⟩: ∃ u,u=Gy b:=⟨_,rfl⟩;rw [←hu] at HUN HCK h0;rw [←hu];obtain⟨v,e,e0⟩:=u;dsimp only at h0 HCK;subst h0;unfold UnpQ at HUN;simp only [A8,Ai] at HZ0 HB0 HT0 HUN;clear hck hb1 ht hg hv hl hu;go_enter func44,ntmps44;go_wp2_with fail;generalize w.alloc (.cells #[Vi Vk 0,Vi Vk 0,Vi Vk 0,Vi Vk 0,Vi Vk 0,Vi Vk 0,Vi Vk 0,.string ⟨#[]⟩,Vi Vk 0,.string ⟨#[]⟩] 38)=w0 at*;refine HUN.out.mono ?_;rintro x w1 ⟨rfl,hb⟩;have hba:=Aa w1 (.cells (A8 e) 38);have HE1:=Qs (Au (w1.alloc (.cells (A8 e) 38)) w1.heap.size e) (σ w1 _);have HZ1:=Qs (Au (w1.alloc (.cells (A8 e) 38)) w.heap.size Ai) ((HZ0.out.below hb).below hba);have HB1:=Qh (Below.next (Below.next HB0.out hb) hba);have HT1:=Qh ((HT0.out.below hb).below hba);simp only [A8] at HE1 HZ1 HB1 HT1;clear hb hba HZ0 HB0 HT0 HUN;go_wp2_with (with_reducible refine A6 rfl (.tmp 5) rfl w1.heap.size e rfl HE1.out ?_);refine(rise_any v e _ HCK.out HT1.out (η HG.out HB1.out.size)).mono ?_;rintro x w2 ⟨rfl,hb2⟩;obtain⟨E,hE⟩: ∃ E,E=Hy v e:=⟨_,rfl⟩;have HZ2:=Qh (HZ1.out.below hb2);have HB2:=Qh (Below.next HB1.out hb2);rw [←hE];have HEQ:=Qh hE;clear hb2 hE HE1 HZ1 HT1 HB1;go_wp2_with (with_reducible refine Bd rfl (.tmp 2) (.tmp 19) rfl w.heap.size Ai E rfl rfl HZ2.out ?_);intro wz hz;have HZ:=Qs (Au wz w.heap.size E∧Below w.heap.size w wz) ⟨hz.out.1,Al HB2.out hz.out.2 (fun k hk=>by omega) HB2.out.size⟩;clear hz;go_wp2;exact π (v:= .tuple #[Ga E,Vi Vk 0]) (Fh rfl _ _ w.heap.size E _ rfl rfl HZ.out.1) rfl ⟨by rw [HEQ.out],HZ.out.2⟩
abbrev RecS:=Int×Ev
def rsCs (r:RecS):Array Value:= #[Vi Vk r.1,Vi Vk r.2.kind,Vi Vk r.2.order,Vi Vk r.2.item,Vi Vk r.2.qty,Vi Vk r.2.price,Vi Vk r.2.cur,Vi Vk r.2.tax,.string ⟨r.2.who.toArray⟩,Vi Vk r.2.stamp,.string ⟨r.2.note.toArray⟩]
def rsCells (rs:List RecS):List Value:=rs.flatMap fun r=>(rsCs r).toList
theorem rsCells_snoc (rs:List RecS) (r:RecS):rsCells (rs++[r])=rsCells rs++(rsCs r).toList:=by simp [rsCells]
def N9 (w:World) (B:Nat) (v:Value) (rs:List RecS):Prop:=w.ownsRow B 52 11 v rs.length (rsCells rs)
theorem rsOwn_nil (w:World) (B:Nat):N9 w B (.slice none 0 0) []:=⟨rfl,.inl ⟨rfl,rfl⟩⟩
def zeroRs:Value:= .agg #[Vi Vk 0,Vi Vk 0,Vi Vk 0,Vi Vk 0,Vi Vk 0,Vi Vk 0,Vi Vk 0,Vi Vk 0,.string ⟨#[]⟩,Vi Vk 0,.string ⟨#[]⟩]
theorem infoRs:(prog.info? 52).map (fun i=>(i.zero,i.size,i.bytes))=some (some zeroRs,11,104):=by kernel_rfl
theorem wpList_appRs {rest:List Oper}  (hgd:o.guard=none) (s y:Operand) (ho:o.op= .call {callee:= .builtin .append,args:= #[s,y],argTypes:= #[47,47]})  {rs:List RecS} {r:RecS} 
  (hs:a.eval s=v) (hN:N=w.heap.size) (hy:a.eval y= .slice (some ⟨N,0,none⟩) 1 1) (hown:N9 w B v rs) (hB:B≤w.heap.size) (hl:rs.length≤1000000)
  (h: ∀ v' w',N9 w' B v' (rs++[r])→Ab (fun k=>v.ownBlock=some k) w w'→(∀ k,v'.ownBlock=some k→v.ownBlock=some k∨w.heap.size≤k)→wpList prog ops Q rest (a.put o.dst v') w'):
  wpList prog ops Q (o::rest) a (w.alloc (.cells #[Vi Vk r.1,Vi Vk r.2.kind,Vi Vk r.2.order,Vi Vk r.2.item,Vi Vk r.2.qty,Vi Vk r.2.price,Vi Vk r.2.cur,Vi Vk r.2.tax,.string ⟨r.2.who.toArray⟩,Vi Vk r.2.stamp,.string ⟨r.2.note.toArray⟩] 52)):=by
 subst hN;obtain⟨i0,hi,hz0,hz1,hz2⟩:=info_parts infoRs;have hb:=Aa w (.cells (rsCs r) 52);refine Em _ hgd s y 47 ho B 52 i0 zeroRs 11 104 underlying47 hi hz0 hz1 hz2 rfl (by decide) v rs.length (rsCells rs) hs (A2 hown hb) ⟨w.heap.size,0,none⟩ 1 1 (rsCs r).toList hy rfl (fun j u hj=> ?_) (fun u hu=> ?_) (by unfold maxLen;omega) (by omega) (η hB hb.size) (by decide) ?_
 ·rw [Cr,Nat.zero_add,World.cell?_alloc_new];simpa [rsCs] using hj
 ·simp [rsCs] at hu;rcases hu with rfl|rfl|rfl|rfl|rfl|rfl|rfl|rfl|rfl|rfl|rfl<;>rfl
 ·intro v' w' hown' hg hnew;refine h v' w' ?_ ((Ab.below hb).trans (Ab.grown (S:=fun k=>v.ownBlock=some k) hg fun _ hk=>hk) fun _ h=> .inl h) fun k hk=> ?_
  ·unfold N9;rw [ζ,rsCells_snoc];exact hown'
  ·rcases hnew with h|h
   ·exact .inl (h▸hk)
   ·rw [h] at hk;have hk2:=φ hk;have hsz:=hb.size;exact .inr (hk2▸hsz)
def J8 (from_:Int) (ps:List I3):List RecS:=(ps.filter fun p=>decide (from_≤(p.f.s:Int))).map fun p=>((p.f.s:Int),upV p.f.body)
theorem Hx (from_:Int) (a b:List I3):J8 from_ (a++b)=J8 from_ a++J8 from_ b:=by simp [J8]
theorem recP_le (from_:Int) (ps:List I3):(J8 from_ ps).length≤ps.length:=by unfold J8;rw [List.length_map];exact List.length_filter_le _ _
section
variable {w W W' : World} {b f m : Nat} {L : List Aq} {d d' : Af} {s : C6} {mv sv : Value} {g : Sg}
theorem PieceIn.rd {en cnt:Nat} (h:PieceIn d s g x ms en cnt) (n:Nat):PieceIn (Df d n) s g x ms en cnt:=⟨h.fil,h.src,h.le,h.rise,h.few,h.cnt,h.first⟩
theorem Ny.low (h:Ny A W v ps):Ny (fun k=>A k∧k<W.heap.size) W v ps:=by
 obtain⟨oa,cap,h1,h2,h3,h4⟩:=h;refine⟨oa,cap,h1,h2,h3,fun hn=> ?_⟩;obtain⟨b,off,e,ha,hc⟩:=h4 hn;have hb:b<W.heap.size:=by
  obtain⟨p,r,rfl⟩:=List.exists_cons_of_ne_nil hn;obtain⟨dv,h5,_⟩:=hc 0 p rfl;exact World.block_lt_of_cell? W _ (h5 0 _ rfl)
 exact⟨b,off,e,⟨ha,hb⟩,fun i p hp=>by obtain⟨dv,h5,h6⟩:=hc i p hp;exact⟨dv,h5,h6.low⟩⟩
theorem take_flat {α:Type} (l:List (List α)) (k:Nat) (x:List α) (h:l[k]? =some x):(l.take (k+1)).flatten=(l.take k).flatten++x:=by
 rw [List.take_add_one,h];simp
theorem recP_take {from_:Int} {ps:List I3} {j:Nat} {p:I3} (h:ps[j]? =some p):J8 from_ (ps.take (j+1))=J8 from_ (ps.take j)++if from_≤(p.f.s:Int) then [((p.f.s:Int),upV p.f.body)] else []:=by
 rw [List.take_add_one,h,Hx];congr 1;unfold J8;simp only [Option.toList_some,List.filter_cons,List.filter_nil];split<;>simp_all
def SegIn (d:Af) (s:C6) (from_:Int) (g:Sg) (ps:List I3):Prop:=
 (0<g.count∧g.first+g.count - 1<from_∧ps=[])∨(¬ (0<g.count∧g.first+g.count - 1<from_)∧ ∃ x ms en cnt,PieceIn d s g x ms en cnt∧
  ((Kb ms (max from_ g.first)=none∧cnt=0∧ps=[])∨ ∃ ks kp lf:Nat,Kb ms (max from_ g.first)=some ⟨(ks:Int),(kp:Int)⟩∧kp≤en∧g.first+(cnt:Int) - (ks:Int)=(lf:Int)∧0<lf∧lf≤1000000∧Bt ((x.data.drop kp).take (en - kp)) 0 ks lf=(ps,en - kp)∧ps.length=lf))
theorem SJ.aside {d0:Af} (h0:SJ w b f m L d0 s mv sv) (h:SJ W b f m L d s mv sv) (tu:Ab (Br b mv f m L) w W) (ht:Ab S W W') (hS: ∀ k,S k→w.heap.size≤k):SJ W' b f m L d s mv sv:=by
 have hno: ∀ k,Br b mv f m L k→ ¬ S k:=fun k hk hs=>by have:=h0.lt k hk;have:=hS k hs;omega
 have tu2:Ab (Br b mv f m L) w W':=tu.trans ht fun k hk=> .inr (hS k hk);refine⟨h.blk.keep (ht.block b h.blk.lt (hno b (.inl rfl))),h.fs.turned ht (fun k hk=>hno k (.inr (.inr hk))),h.mks.kept' fun k hk=>ht.block k (mk_lt h.mks k hk) (hno k (.inr (.inl hk))),?_,?_,⟨η h.gl.1 ht.size,h.gl.2⟩,h.sep⟩
 ·exact(h0.sg.low.turned tu2 fun k hk hc=>hk.1 hc).mono fun k hk=>hk.1
 ·refine h.nib.turned ht (fun hc=> ?_) h.nib.lt;have:=hS _ hc;have:=h0.nib.lt;omega
structure RW (w W:World) (b f m:Nat) (L:List Aq) (d:Af) (s:C6) (mv sv:Value) (ov:Value) (rs:List RecS):Prop where
 sj: ∃ n,SJ W b f m L (Df d n) s mv sv
 tu:Ab (fun k=>k=f) w W
 out:N9 W w.heap.size ov rs
theorem RW.below {ov:Value} {rs:List RecS} (h:RW w W b f m L d s mv sv ov rs) (hb:Below W.heap.size W W'):RW w W' b f m L d s mv sv ov rs:=by
 obtain⟨n,h1⟩:=h.sj;exact⟨⟨n,h1.below hb⟩,h.tu.trans (Ab.below (S:=fun k=>k=f) hb) fun _ h=> .inl h,A2 h.out hb⟩
theorem RW.app {ov ov':Value} {rs rs':List RecS} (h0:SJ w b f m L d s mv sv) (h:RW w W b f m L d s mv sv ov rs) (ho:N9 W' w.heap.size ov' rs') (ht:Ab S W W') (hS: ∀ k,S k→w.heap.size≤k):RW w W' b f m L d s mv sv ov' rs':=by
 obtain⟨n,h1⟩:=h.sj;exact⟨⟨n,h0.aside h1 (h.tu.mono fun k hk=> .inr (.inr (.inl hk))) ht hS⟩,h.tu.trans ht fun k hk=> .inr (hS k hk),ho⟩
def ReadS (w:World) (b f m:Nat) (L:List Aq) (d:Af) (s:C6) (mv sv:Value) (rs:List RecS) (gone:Nat) (e:Ending) (w':World):Prop:=
 ∃ v n,e= .returned (.tuple #[v,Vi Vk 0])∧N9 w' w.heap.size v rs∧SJ w' b f m L (Df d n) {s with decoded:=gone} mv sv∧Ab (Br b mv f m L) w w'
theorem stoRead_none (from_:Int) (h:SJ w b f m L d s mv sv) (hs:SB s) (hc:s.closed=false) (hd:d.down=false) (hf:from_<1∨lastE s+1<from_):
  Calls prog 15 #[.pointer (some ⟨b,0,none⟩),Vi Vk from_] w fun e w'=>e= .returned (.tuple #[.slice none 0 0,Vi Vk 1])∧Below w.heap.size w w':=by
 have HAL:=Qh (F0 h hc hd);have HLS:=Qh (F2 h hs);have hw9:IntKind.i64.wrap (lastE s+1)=lastE s+1:=by rw [ν];unfold lastE;have:=hs.first;have:=hs.count;omega
 clear h hs hc hd;generalize lastE s=le at*;rcases hq1:decide (from_<1) with _|_
 ·have hq2:decide (le+1<from_)=true:=ξ (by have:=Γ hq1;omega);clear hf;go_enter func15,ntmps15;go_wp2_with fail;refine HAL.out.mono ?_;rintro e w1 ⟨rfl,hww⟩;subst hww;go_wp2_with fail;refine HLS.out.mono ?_;rintro e w1 ⟨rfl,hb⟩;have HB:=Qh hb;clear hb;go_wp2;go_ret2;exact⟨rfl,HB.out⟩
 ·clear hf hw9 HLS;go_enter func15,ntmps15;go_wp2_with fail;refine HAL.out.mono ?_;rintro e w1 ⟨rfl,hww⟩;subst hww;go_wp2;go_ret2;exact⟨rfl,χ _ _⟩
theorem stoRead_end (h:SJ w b f m L d s mv sv) (hs:SB s) (hc:s.closed=false) (hd:d.down=false) (hfl:s.man.floor=0):
  Calls prog 15 #[.pointer (some ⟨b,0,none⟩),Vi Vk (lastE s+1)] w (ReadS w b f m L d s mv sv [] 0):=by
 have hlo:0≤lastE s∧lastE s≤2199023255552:=by unfold lastE;have:=hs.first;have:=hs.count;omega
 have HAL:=Qh (F0 h hc hd);have HLS:=Qh (fun W (hB:Below w.heap.size w W)=>F2 (h.below hB) hs);have hw9:IntKind.i64.wrap (lastE s+1)=lastE s+1:=by rw [ν];omega
 have HJ:=Qh h;have HFL:=Qh hfl;clear h hs hc hd hfl;generalize lastE s=le at*;have hq1:decide (le+1<1)=false:=ρ (by omega);have hq2:decide (le+1<le+1)=false:=ρ (by omega);have hq4:decide (le<le+1)=true:=ξ (by omega);have HL:=Qh hlo;clear hlo;obtain⟨fr,hfr⟩: ∃ fr,fr=le+1:=⟨_,rfl⟩;rw [←hfr] at hq1 hq4;have hw10:IntKind.i64.wrap (le+1)=fr:=by rw [hfr];exact hw9
 clear hw9;have hq2':decide (fr<fr)=false:=by simp
 have hq3:decide (fr≤0)=false:=ρ (by have:=HL.out;omega);rw [←hfr];clear hq2;have HFR:=Qh hfr;clear hfr;go_enter func15,ntmps15;go_wp2_with fail;refine HAL.out.mono ?_;rintro e w1 ⟨rfl,hww⟩;subst hww;go_wp2_with fail;refine(HLS.out _ (χ _ _)).mono ?_;rintro e w1 ⟨rfl,hb⟩;have HB:=Qh hb;have c8:w1.cell? ⟨b,8,none⟩=some (Vi Vk 0):=by rw [←HFL.out];exact(HJ.out.below hb).blk.cell 8
 clear hb;go_wp2_with fail;refine(HLS.out _ HB.out).mono ?_;rintro e w2 ⟨rfl,hb2⟩;have HB2:=Qh (Below.next HB.out hb2);have HJ2:=Qh (HJ.out.below HB2.out);clear hb2 c8;have c13:w2.cell? ⟨b,13,none⟩=some (Vi Vk (s.decoded:Int)):=HJ2.out.blk.cell 13;have f13:=HJ2.out.blk.free 13;obtain⟨hj,ht⟩:=HJ2.out.set (s':={s with decoded:=0}) (j:=13) (v:= Vi Vk 0) (by simp [Kc]) rfl rfl;have HJ3:=Qh hj;have HT3:=Qh ((Ab.below (S:=Br b mv f m L) HB2.out).trans ht fun _ h=> .inl h);clear hj ht;go_wp2;go_ret2;exact⟨_,0,rfl,rsOwn_nil _ _,by rw [Lc HJ.out.fs.ok];exact HJ3.out,HT3.out⟩
theorem stoRead_any (from_:Int) (pcs:List (List I3)) (h:SJ w b f m L d s mv sv) (ht:Dn w) (hs:SB s) (hc:s.closed=false) (hd:d.down=false) (hfl:s.man.floor=0) (hf:1≤from_∧from_≤lastE s) (hsl:s.man.segs.length≤256)
  (hpl:pcs.length=s.man.segs.length) (hpc: ∀ (i:Nat) g ps,s.man.segs[i]? =some g→pcs[i]? =some ps→SegIn d s from_ g ps) (hsg: ∀ g∈s.man.segs,0≤g.first∧g.first≤1099511627777∧0≤g.count∧g.count≤512) (hb: ∀ ps∈pcs,ps.length≤512∧ ∀ p∈ps,Du p.f.body):
  Calls prog 15 #[.pointer (some ⟨b,0,none⟩),Vi Vk from_] w (ReadS w b f m L d s mv sv (J8 from_ pcs.flatten) pcs.flatten.length):=by
 have hlo:0≤lastE s∧lastE s≤2199023255552:=by unfold lastE;have:=hs.first;have:=hs.count;omega
 have HAL:=Qh (F0 h hc hd);have HLS:=Qh (fun W (hB:Below w.heap.size w W)=>F2 (h.below hB) hs);have hw9:IntKind.i64.wrap (lastE s+1)=lastE s+1:=by rw [ν];omega
 have HJ:=Qh h;have HFL:=Qh hfl;have HPL:=Qh hpl;have HPC:=Qh hpc;have HSG:=Qh hsg;have HBD:=Qh hb;have HSB:=Qh hs;have HDN:=Qh hd;have HSL:=Qh hsl;have HNB:=Qs (¬ (0:Nat)=f) (fun hc=>h.gl.2 0 (by decide) (.inr (.inr (.inl hc))));have HTX:=Qh (fun W (t:Ab (fun k=>k=f) w W)=>ht.turned t HNB.out ht.lt);have HGL:=Qh h.gl.1;have HFW:=Qs (f<w.heap.size) h.fs.hd.lt;have hq1:decide (from_<1)=false:=ρ (by omega);have hq2:decide (lastE s+1<from_)=false:=ρ (by omega);have hq3:decide (from_≤0)=false:=ρ (by omega);have hq4:decide (lastE s<from_)=false:=ρ (by omega);clear h ht hs hc hd hfl hf hsl hpl hpc hsg hb hlo;generalize lastE s=le at*;go_enter func15,ntmps15;go_wp2_with fail;refine HAL.out.mono ?_;rintro e w1 ⟨rfl,hww⟩;subst hww;go_wp2_with fail;refine(HLS.out _ (χ _ _)).mono ?_;rintro e w1 ⟨rfl,hb⟩;have HB:=Qh hb;have c8:w1.cell? ⟨b,8,none⟩=some (Vi Vk 0):=by rw [←HFL.out];exact(HJ.out.below hb).blk.cell 8
 clear hb;go_wp2_with fail;refine(HLS.out _ HB.out).mono ?_;rintro e w2 ⟨rfl,hb2⟩;have HB2:=Qh (Below.next HB.out hb2);have HJ2:=Qh (HJ.out.below HB2.out);clear hb2 c8 HB HLS HAL hw9;obtain⟨osv,csv,hsv,_,_,_⟩:=id HJ2.out.sg;subst hsv;have c11:w2.cell? ⟨b,11,none⟩=some (.slice osv s.man.segs.length csv):=HJ2.out.blk.cell 11;have HRW:=Qh (show RW w w2 b f m L d s mv _ (.slice none 0 0) [] from⟨⟨0,by rw [Lc HJ.out.fs.ok];exact HJ2.out⟩,Ab.below HB2.out,rsOwn_nil _ _⟩);obtain⟨n,hn⟩: ∃ n,n=s.man.segs.length:=⟨_,rfl⟩;rw [←hn] at c11;have HN:=Qh hn;have hn256:n≤256:=by have:=HSL.out;omega
 clear hn HB2 HJ2;go_wp2;go_loopw [7,8,54] (fun ov gv iv wr=> ∃ (k:Nat),k≤n∧iv= Vi Vk (k:Int)∧gv= Vi Vk ((pcs.take k).flatten.length:Int)∧Hid (RW w wr b f m L d s mv (.slice osv s.man.segs.length csv) ov (J8 from_ (pcs.take k).flatten))) (fun _ _ iv _=>n - (intOf iv).toNat)
 case atStart=>exact⟨0,θ _,rfl,rfl,Qh (by simpa [J8] using HRW.out)⟩
 case round=>
  obtain⟨k,hk,rfl,rfl,HR⟩:=hrel;clear HRW c11;by_cases hlt:k<n
  ·obtain⟨g,hg⟩: ∃ g,s.man.segs[k]? =some g:=⟨s.man.segs[k]'(by rw [←HN.out];exact hlt),Θ _⟩;obtain⟨ps,hps⟩: ∃ ps,pcs[k]? =some ps:=⟨pcs[k]'(by rw [HPL.out,←HN.out];exact hlt),Θ _⟩;have hgf:=HSG.out g (List.mem_of_getElem? hg);have HPB:=Qh (HBD.out ps (List.mem_of_getElem? hps));have HTF:=Qh (take_flat pcs k ps hps);have hsi:=HPC.out k g ps hg hps;have hgl:(pcs.take k).flatten.length≤131072:=by
    have h1: ∀ (l:List (List I3)),(∀ x∈l,x.length≤512)→l.flatten.length≤512*l.length:=fun l=>by
     induction l with
     |nil=>intro _;simp
     |cons x r ih=>intro h;have:=ih (fun y hy=>h y (by simp [hy]));have:=h x (by simp);simp only [List.flatten_cons,ζ,τ];omega
    have:=h1 (pcs.take k) fun x hx=>(HBD.out x (List.mem_of_mem_take hx)).1;rw [ω] at this;omega
   obtain⟨n0,HJr⟩:=HR.out.sj;obtain⟨_,_,e2,_,_,hat⟩:=id HJr.sg;simp only [Value.slice.injEq,true_and] at e2;obtain⟨rfl,rfl⟩:=e2;obtain⟨gb,off,rfl,_,hcell⟩:=hat k g hg;have HCE:=Qh hcell;have HJR:=Qh HJr;have q0:(k:Int)<(n:Int):=by omega
   have hw1:IntKind.i64.wrap (g.first+g.count)=g.first+g.count:=by rw [ν];omega
   have hw2:IntKind.i64.wrap (g.first+g.count - 1)=g.first+g.count - 1:=by rw [ν];omega
   have hk1:IntKind.i64.wrap ((k:Int)+1)=(k:Int)+1:=by rw [ν];omega
   have hba:=Aa wr (.cells (B4 g) 72);have HG0:=Qs (Ft (wr.alloc (.cells (B4 g) 72)) wr.heap.size g) (σ wr _);have HZR:=Qh HR.out.tu.size;have HOVR:=Qh (fun q (hq:u7.ownBlock=some q)=>(World.ownsRow.lt HR.out.out q hq).2);have HR0:=Qh (HR.out.below hba);have HJ0:=Qh (HJR.out.below hba);have HGF:=Qh hgf;have HGLE:=Qh hgl;obtain⟨G,hG⟩: ∃ G,G=(pcs.take k).flatten.length:=⟨_,rfl⟩;rw [←hG] at HGLE;have HGG:=Qh hG;rw [←hG];simp only [B4] at HG0 HR0 HJ0;clear hg hps hgf hgl hat hcell HJr hba HR HJR hG;rcases hsi with⟨h1,h2,h3⟩|⟨h1,x,ms,en,cnt,h2,h3⟩
   ·have q1:decide (0<g.count)=true:=ξ h1;have q2:decide (g.first+g.count - 1<from_)=true:=ξ h2;clear h1 h2;go_wp2_with (with_reducible refine Bc rfl (.tmp 56) rfl gb (off+k*4) g rfl HCE.out ?_);go_roundw
    case rel=>exact⟨k+1,by omega,rfl,by rw [HTF.out,h3,List.append_nil,←HGG.out],Qh (by rw [HTF.out,h3,List.append_nil];exact HR0.out)⟩
    case measure=>simp [intOf];omega
   ·have H1:=Qh h1;have H2:=Qh h2;have H3:=Qh h3;clear h1 h2 h3;go_upto_region 17 with(with_reducible refine Bc rfl (.tmp 56) rfl gb (off+k*4) g rfl HCE.out ?_);generalize wr.alloc (.cells #[Vi Vk g.num,Vi Vk g.first,Vi Vk g.count,Vi Vk g.foot] 72)=wa at*;generalize wr.heap.size=ga at*;have cc:wa.cell? ⟨ga,2,none⟩=some (Vi Vk g.count):=HG0.out.cell 2
    go_cut [71] from 64 to 71 (fun c wx=>c= .bool false∧wx=wa)
    case first=>
     rcases q1:decide (0<g.count) with _|_
     ·go_wp2_with fail;go_meet;exact⟨rfl,rfl⟩
     ·have q2:decide (g.first+g.count - 1<from_)=false:=ρ fun hh=>H1.out ⟨ψ q1,hh⟩;go_wp2_with fail;go_meet;exact⟨rfl,rfl⟩
    case rest=>
     obtain⟨rfl,rfl⟩:=hcut;clear cc;have cf:wc.cell? ⟨ga,1,none⟩=some (Vi Vk g.first):=HG0.out.cell 1;have HPI:=Qh (piece_any (w:=wc) x ms en cnt (max from_ g.first) ps HJ0.out HDN.out (H2.out.rd n0) H3.out);go_wp2_with (with_reducible refine Bc rfl (.tmp 10) rfl ga 0 g rfl HG0.out.range ?_);refine HPI.out.mono ?_;rintro e w4 ⟨pv,n1,rfl,hpc,hj,ht⟩;have HR4:=Qh (show RW w w4 b f m L d s mv _ u7 (J8 from_ (pcs.take k).flatten) from⟨⟨n0+n1,by rw [←rdD_rdD];exact hj⟩,HR0.out.tu.trans ht fun q hq=> .inl hq,Fx HR0.out.out ht fun q hq hc=>by have:=(World.ownsRow.lt HR0.out.out q hq).1;have:=HFW.out;omega⟩);have HP4:=Qh hpc.low;have HO4:=Qs ((∀ q,u7.ownBlock=some q→q<wc.heap.size∨w4.heap.size≤q)∧wc.heap.size≤w4.heap.size) ⟨fun q hq=> .inl (by have:=HOVR.out q hq;have:=(δ.1 HG0.out).1;omega),ht.size⟩;obtain⟨op,cp,rfl,_,_,_⟩:=hpc.shape;have hg1:IntKind.i64.wrap ((G:Int)+(ps.length:Int))=((G+ps.length:Nat):Int):=by have:=HGLE.out;have:=HPB.out.1;rw [ν];omega
     have HPL2:=Qh HPB.out.1;clear hpc hj ht HPI HG0 HR0 HJ0 HCE cf;go_wp2;go_loopw [7,90] (fun ov2 jv wy=> ∃ j,j≤ps.length∧jv= Vi Vk (j:Int)∧Hid (RW w wy b f m L d s mv (.slice (some ⟨gb,off,none⟩) s.man.segs.length csv) ov2 (J8 from_ ((pcs.take k).flatten++ps.take j)))∧Hid (Ny (fun q=>wc.heap.size≤q∧q<w4.heap.size) wy (.slice op ps.length cp) ps)∧Hid ((∀ q,ov2.ownBlock=some q→q<wc.heap.size∨w4.heap.size≤q)∧w4.heap.size≤wy.heap.size)) (fun _ jv _=>ps.length - (intOf jv).toNat)
     case atStart=>exact⟨0,θ _,rfl,Qh (by simpa using HR4.out),HP4,Qh ⟨HO4.out.1,μ _⟩⟩
     case round=>
      obtain⟨j,hj,rfl,HRy,HPy,HOy⟩:=hrel;clear HR4 HP4 HO4;by_cases hjl:j<ps.length
      ·obtain⟨p,hp⟩: ∃ p,ps[j]? =some p:=⟨ps[j]'hjl,Θ _⟩;have hbo:=HPB.out.2 p (List.mem_of_getElem? hp);have HTP:=Qh (@recP_take from_ ps j p hp);obtain⟨_,_,e3,_,_,hat2⟩:=HPy.out.shape;simp only [Value.slice.injEq,true_and] at e3;obtain⟨rfl,rfl⟩:=e3;obtain⟨pb,poff,rfl,_,dv,hpcell,hpbody⟩:=hat2 j p hp;obtain⟨od,cd,rfl,_,_⟩:=id hpbody;obtain⟨dl,hdl⟩: ∃ dl,dl=p.f.body.length:=⟨_,rfl⟩;rw [←hdl] at hpcell hpbody;clear hdl;have HPE:=Qh hpcell;have qj:(j:Int)<(ps.length:Int):=by omega
       have hj1:IntKind.i64.wrap ((j:Int)+1)=(j:Int)+1:=by have:=HPL2.out;rw [ν];omega
       have hba:=Aa wr (.cells (Im p (.slice od dl cd)) 103);have HPB0:=Qs (Hm (wr.alloc (.cells (Im p (.slice od dl cd)) 103)) wr.heap.size p (.slice od dl cd)) (σ wr _);have HRy0:=Qh (HRy.out.below hba);have HPy0:=Qh (HPy.out.below hba);have HDV:=Qh (hpbody.brow.below hba);have HOy0:=Qs ((∀ q,u7.ownBlock=some q→q<wc.heap.size∨w4.heap.size≤q)∧w4.heap.size≤(wr.alloc (.cells (Im p (.slice od dl cd)) 103)).heap.size) ⟨HOy.out.1,η HOy.out.2 hba.size⟩;have c3:(wr.alloc (.cells (Im p (.slice od dl cd)) 103)).cell? ⟨wr.heap.size,3,none⟩=some (Vi Vk (p.f.s:Int)):=HPB0.out.cell 3;have c4:(wr.alloc (.cells (Im p (.slice od dl cd)) 103)).cell? ⟨wr.heap.size,4,none⟩=some (.slice od dl cd):=HPB0.out.cell 4;simp only [Im] at HPB0 HRy0 HPy0 HDV HOy0 c3 c4;have HBO:=Qh hbo;clear hp hbo hpcell hpbody hat2 hba HRy HPy HOy;rcases hq:decide ((p.f.s:Int)<from_) with _|_;rotate_left
       ·go_wp2_with (with_reducible refine Lr rfl (.tmp 92) rfl pb (poff+j*5) p (.slice od dl cd) rfl HPE.out ?_);go_roundw
        case rel=>exact⟨j+1,by omega,rfl,Qh (by rw [Hx,HTP.out,γ (by have:=ψ hq;omega),List.append_nil,←Hx];exact HRy0.out),HPy0,HOy0⟩
        case measure=>simp [intOf];omega
       ·have HTP2:=Qs (J8 from_ (ps.take (j+1))=J8 from_ (ps.take j)++[((p.f.s:Int),upV p.f.body)]) (by rw [HTP.out,κ (by have:=Γ hq;omega)]);have HUR:=Qh (upRead_any p.f.body (.slice od dl cd) _ HDV.out (η HBO.out.2 (by decide)) HBO.out.1 (HTX.out _ HRy0.out.tu) (η HGL.out HRy0.out.tu.size));obtain⟨E,hE⟩: ∃ E,E=upV p.f.body:=⟨_,rfl⟩;rw [←hE] at HUR HTP2;unfold ReadQ at HUR;dsimp only at HUR;clear hE HTP;go_wp2_with (with_reducible refine Lr rfl (.tmp 92) rfl pb (poff+j*5) p (.slice od dl cd) rfl HPE.out ?_);refine HUR.out.mono ?_;rintro e w6 ⟨rfl,hb6⟩;have hbb:=Aa w6 (.cells (A8 E) 38);have HEV:=Qs (Au (w6.alloc (.cells (A8 E) 38)) w6.heap.size E) (σ w6 _);have HRy1:=Qh ((HRy0.out.below hb6).below hbb);have HPy1:=Qh ((HPy0.out.below hb6).below hbb);have hz1:w4.heap.size≤(w6.alloc (.cells (A8 E) 38)).heap.size:=η (η HOy0.out.2 hb6.size) hbb.size;have c5:(w6.alloc (.cells (A8 E) 38)).cell? ⟨wr.heap.size,3,none⟩=some (Vi Vk (p.f.s:Int)):=cell_later hbb (cell_later hb6 (HPB0.out.cell 3));have HO1:=Qh HOy0.out.1;have HZ1:=Qh hz1;simp only [A8] at HEV HRy1 HPy1 HZ1 c5;clear hb6 hbb hz1 HUR HRy0 HPy0 HOy0 HPB0 HDV c3 c4 HPE;have HOW:=Qh HRy1.out.out;have hsz:=HRy1.out.tu.size;have hle:(J8 from_ ((pcs.take k).flatten++ps.take j)).length≤1000000:=by
         have h1:=recP_le from_ ((pcs.take k).flatten++ps.take j);rw [ζ,ω,←HGG.out] at h1;have:=HGLE.out;have:=HPL2.out;omega
        go_wp2_with (first|(with_reducible refine A6 rfl (.tmp 16) rfl w6.heap.size E rfl HEV.out ?_)|(with_reducible refine wpList_appRs (v:=u7) (r:=((p.f.s:Int),E)) rfl (.tmp 108) (.tmp 114) rfl rfl (World.size_alloc _ _).symm rfl HOW.out hsz hle ?_));intro v' wn ho' ht' hn'
        have HRn:=Qh (show RW w wn b f m L d s mv (.slice (some ⟨gb,off,none⟩) s.man.segs.length csv) v' (J8 from_ ((pcs.take k).flatten++ps.take (j+1))) from
         RW.app HJ.out HRy1.out (by rw [Hx,HTP2.out,←List.append_assoc,←Hx];exact ho') ht' fun q hq=>(World.ownsRow.lt HOW.out q hq).1)
        have HPn:=Qh (HPy1.out.turned ht' fun q hA hq=>by have:=HO1.out q hq;omega);have HOn:=Qh (show (∀ q,v'.ownBlock=some q→q<wc.heap.size∨w4.heap.size≤q)∧w4.heap.size≤wn.heap.size from⟨fun q hq=>by
         rcases hn' q hq with h1|h1
         ·exact HO1.out q h1
         ·exact .inr (by have:=HZ1.out;rw [World.size_alloc] at this;omega),η HZ1.out ht'.size⟩)
        clear ho' ht' hn' HRy1 HPy1 HOW HEV c5;go_wp2_with fail;go_roundw
        case rel=>exact⟨j+1,by omega,by go_num,HRn,HPn,HOn⟩
        case measure=>simp [intOf];omega
      ·obtain rfl:j=ps.length:=by omega
       have HRf:=Qs (RW w wr b f m L d s mv (.slice (some ⟨gb,off,none⟩) s.man.segs.length csv) u7 (J8 from_ (pcs.take (k+1)).flatten)) (by have:=HRy.out;rw [List.take_length,←HTF.out] at this;exact this);clear HRy HPy HOy;go_wp2;go_roundw
       case rel=>exact⟨k+1,by omega,by go_num,by rw [HTF.out,ζ,←HGG.out];push_cast;rfl,HRf⟩
       case measure=>simp [intOf];omega
  ·obtain rfl:k=n:=by omega
   have HRf:=Qs (RW w wr b f m L d s mv (.slice osv s.man.segs.length csv) u7 (J8 from_ pcs.flatten)) (by have:=HR.out;rw [show pcs.take k=pcs from by rw [HN.out,←HPL.out,List.take_length]] at this;exact this);have HGF:=Qs ((pcs.take k).flatten.length=pcs.flatten.length) (by rw [HN.out,←HPL.out,List.take_length]);rw [HGF.out];obtain⟨n0,HJr⟩:=HRf.out.sj;have c13:wr.cell? ⟨b,13,none⟩=some (Vi Vk (s.decoded:Int)):=HJr.blk.cell 13;have f13:=HJr.blk.free 13;obtain⟨hj,ht⟩:=HJr.set (s':={s with decoded:=pcs.flatten.length}) (j:=13) (v:= Vi Vk (pcs.flatten.length:Int)) (by simp [Kc]) rfl rfl;have HJ3:=Qh hj;have HT3:=Qh ((HRf.out.tu.mono (S':=Br b mv f m L) fun q hq=> .inr (.inr (.inl hq))).trans ht fun _ h=> .inl h);have HO3:=Qs (N9 (wr.setCell ⟨b,13,none⟩ (Vi Vk (pcs.flatten.length:Int))) w.heap.size u7 (J8 from_ pcs.flatten)) (Fx HRf.out.out (Ab.setCell (S:=fun q=>q=b) _ ⟨b,13,none⟩ _ rfl) fun q hq hc=>by have:=(World.ownsRow.lt HRf.out.out q hq).1;have:=HJ.out.blk.lt;omega);generalize pcs.flatten.length=G at*;clear HR HRf HJr hj ht HGF;go_wp2;go_ret2;exact⟨_,n0,rfl,HO3.out,HJ3.out,HT3.out⟩
end
def cfCs (a b:Nat):Array Value:= #[Vi Vk (a:Int),Vi Vk (b:Int)]
theorem cfInfo:(prog.info? 24).map (·.size)=some 2:=by kernel_rfl
theorem J5 {rest:List Oper}  (hgd:o.guard=none) (x:Operand) (ho:o.op= .load 24 x)
  (g p q:Nat) (hx:a.eval x= .pointer (some ⟨g,0,none⟩)) (hE:w.heap[g]? =some (.cells (cfCs p q) 24 (0,0)))
  (h:wpList prog ops Q rest (a.put o.dst (.agg #[Vi Vk (p:Int),Vi Vk (q:Int)])) w):wpList prog ops Q (o::rest) a w:=
 wpList_load_row hgd 24 x ho g hx 24 (cfCs p q) (0,0) _ hE underlying24 rfl cfInfo h
def OpenQ (w:World) (f m:Nat) (L:List Aq) (d1:Af) (s:C6) (e:Ending) (w':World):Prop:=
 ∃ sb mv sv L' n,e= .returned (.tuple #[.pointer (some ⟨sb,0,none⟩),Vi Vk 0])∧SJ w' sb f m L' (Df d1 n) s mv sv∧Ab (foot f m L) w w'∧w.heap.size≤sb∧ ∀ k,Br sb mv f m L' k→foot f m L k∨w.heap.size≤k
theorem stoOpen_good (stride segEv:Nat) (p:Pl) (d1:Af) (x:Bl) (num first at_ n0:Nat) (ps:List I3) (w:World) (f m:Nat) (d:Af) (L:List Aq) (h:Bv w f m d L) (hn:Bh w) (hg:4≤w.heap.size∧ ∀ k,k<4→ ¬ foot f m L k) (hst:d.steps≤1152921504606846976) (h0:(B6 d).1.1.snap≤0)
  (hc1:1≤stride∧stride≤64) (hc2:1≤segEv∧segEv≤512) (hrun:runR d=((p,0),d1)) (hseg:p.man.segs≠ []) (hx:Bf d1.files (A9 p.man)=some x) (hd1:d1.down=false) (hcut:p.cut=(x.data.length:Int)) (hhd:B5 x.data=(num,first,at_,0)) (hat:at_≤x.data.length)
  (hff:(Ah p.man).first=(first:Int)) (hsc:Bt x.data at_ first 512=(ps,n0)) (hlen:x.data.length≤67108864) (hpl:ps.length≤512):
  Calls prog 9 #[.pointer (some ⟨f,0,none⟩),.agg #[Vi Vk (stride:Int),Vi Vk (segEv:Int)]] w (OpenQ w f m L d1 ⟨ps.length,x.data.length,F7 stride 0 ps,stride,segEv,p.man,false,0⟩):=by
 have HB0:=Qh (Aa w (.cells #[Vi Vk (stride:Int),Vi Vk (segEv:Int)] 24));have HC0:=Qs ((w.alloc (.cells #[Vi Vk (stride:Int),Vi Vk (segEv:Int)] 24)).heap[w.heap.size]? =some (.cells (cfCs stride segEv) 24 (0,0))) (σ w _);have HRU:=Qh (by have:=run_bookless _ f m d L (h.below HB0.out) (hn.below HB0.out) (hg.2 _ (by decide)) hst h0;rw [hrun] at this;exact this);have HLT:=Qh h.lt;have HFW:=Qs (f<w.heap.size) h.hd.lt;have HNB:=Qh (hn.below HB0.out);have HNL:=Qh (hn.below HB0.out).lt;have HG:=Qh hg;have HX:=Qh hx;have HD1:=Qh hd1;have HCUT:=Qh hcut;have HHD:=Qh hhd;have HAT:=Qh hat;have HFF:=Qh hff;have HSC:=Qh hsc;have HLEN:=Qh hlen;have HPL:=Qh hpl;have HSEG:=Qh hseg;have HST:=Qh hc1;have q1:decide ((stride:Int)<1)=false:=ρ (by omega);have q2:decide (64<(stride:Int))=false:=ρ (by omega);have q3:decide ((segEv:Int)<1)=false:=ρ (by omega);have q4:decide (512<(segEv:Int))=false:=ρ (by omega);unfold RunQ at HRU;dsimp only at HRU;clear h hn hg hst h0 hc1 hc2 hrun hseg hx hd1 hcut hhd hat hff hsc hlen hpl;go_enter func9,ntmps9;go_wp2_with fail;generalize w.alloc (.cells #[Vi Vk (stride:Int),Vi Vk (segEv:Int)] 24)=w0 at*;refine HRU.out.mono ?_;rintro e w1 ⟨sv,rv,L',rfl,hsg,hst1,hone,hrone,hf1,ht1,hl1⟩;obtain⟨osv,csv,rfl,_,_,_⟩:=id hsg;obtain⟨orv,crv,rfl,_,_,_⟩:=id hst1;have hba:=Aa w1 (.cells (Gf p (.slice osv p.man.segs.length csv) (.slice orv p.remove.length crv)) 75);have HP2:=Qs (Cb (w1.alloc (.cells (Gf p (.slice osv p.man.segs.length csv) (.slice orv p.remove.length crv)) 75)) w1.heap.size p (.slice osv p.man.segs.length csv) (.slice orv p.remove.length crv)) (σ w1 _);have hf0: ∀ k,foot f m L k→k<w0.heap.size:=fun k hk=>by have:=HLT.out k hk;have:=HB0.out.size;omega
 have hcw:w.heap.size<w0.heap.size:=(δ.1 HC0.out).1;have hnf: ¬ foot f m L w.heap.size:=fun hc=>by have:=HLT.out _ hc;omega
 have HC1:=Qh (show (w1.alloc (.cells (Gf p (.slice osv p.man.segs.length csv) (.slice orv p.remove.length crv)) 75)).heap[w.heap.size]? =some (.cells (cfCs stride segEv) 24 (0,0)) from
  (hba.block _ (by have:=ht1.size;omega)).trans ((ht1.block _ hcw hnf).trans HC0.out))
 have HSG1:=Qh (hsg.low);have HF1:=Qh hf1;have HT1:=Qs (Ab (foot f m L) w w1) ((Ab.below HB0.out).trans ht1 fun k hk=> .inl hk);have HL1:=Qs (∀ k,foot f m L' k→foot f m L k∨w.heap.size≤k) (fun k hk=>(hl1 k hk).imp id fun h=>η HB0.out.size h);have HN1:=Qs (Bh w1) (HNB.out.turned ht1 (HG.out.2 _ (by decide)) HNL.out);have HWW:=Qs (w.heap.size<w1.heap.size) (by have:=ht1.size;omega);simp only [Gf] at HP2 HC1 hba;have HBA:=Qh hba;clear hsg hst1 hf1 ht1 hl1 hba hf0 hcw hnf HRU HC0 HNB HNL HLT HB0;obtain⟨sl,hsl⟩: ∃ sl,sl=p.man.segs.length:=⟨_,rfl⟩;rw [←hsl] at HP2 HC1 HSG1 HBA;rw [←hsl];have HSL:=Qh hsl;clear hsl;have HMR:=Qh (show World.rangeAt _ w1.heap.size 1 (B3 p.man (.slice osv sl csv)).toList from fun j u hj=>by
  have h9:=HP2.out;unfold Cb at h9;rw [cell_of_row _ _ _ _ _ _ h9]
  match j,hj with
  |0,hj=>exact hj
  |1,hj=>exact hj
  |2,hj=>exact hj
  |3,hj=>exact hj
  |4,hj=>exact hj
  |5,hj=>exact hj)
 go_wp2_with (first|(with_reducible refine J5 rfl (.tmp 3) rfl w.heap.size stride segEv rfl HC1.out ?_)|(with_reducible refine Kv rfl (.tmp 46) rfl w1.heap.size 1 p.man (.slice osv sl csv) rfl HMR.out ?_));generalize hw2:w1.alloc (.cells #[.bool p.fresh,Vi Vk p.man.gen,Vi Vk p.man.next,Vi Vk p.man.floor,Vi Vk p.man.snap,Vi Vk p.man.snapSeq,.slice osv sl csv,.slice orv p.remove.length crv,Vi Vk p.cut,Vi Vk p.last] 75)=w2 at*;have hbs:=Aa w2 (.cells #[Vi Vk 0,Vi Vk 0,.slice none 0 0,.pointer (some ⟨f,0,none⟩),Vi Vk (stride:Int),Vi Vk (segEv:Int),Vi Vk p.man.gen,Vi Vk p.man.next,Vi Vk p.man.floor,Vi Vk p.man.snap,Vi Vk p.man.snapSeq,.slice osv sl csv,.bool false,Vi Vk 0] 82);have HSBK:=Qs (Dy (w2.alloc (.cells #[Vi Vk 0,Vi Vk 0,.slice none 0 0,.pointer (some ⟨f,0,none⟩),Vi Vk (stride:Int),Vi Vk (segEv:Int),Vi Vk p.man.gen,Vi Vk p.man.next,Vi Vk p.man.floor,Vi Vk p.man.snap,Vi Vk p.man.snapSeq,.slice osv sl csv,.bool false,Vi Vk 0] 82)) w2.heap.size f ⟨0,0,[],stride,segEv,p.man,false,0⟩ (.slice none 0 0) (.slice osv sl csv)) (σ w2 _);have HSZ2:=Qs (w1.heap.size<w2.heap.size) HP2.out.lt;have HJ3:=Qs (SJ (w2.alloc (.cells #[Vi Vk 0,Vi Vk 0,.slice none 0 0,.pointer (some ⟨f,0,none⟩),Vi Vk (stride:Int),Vi Vk (segEv:Int),Vi Vk p.man.gen,Vi Vk p.man.next,Vi Vk p.man.floor,Vi Vk p.man.snap,Vi Vk p.man.snapSeq,.slice osv sl csv,.bool false,Vi Vk 0] 82)) w2.heap.size f m L' d1 ⟨0,0,[],stride,segEv,p.man,false,0⟩ (.slice none 0 0) (.slice osv sl csv)) (by
  have hb:=Below.next HBA.out hbs;have hfl: ∀ k,foot f m L' k→k<w1.heap.size:=HF1.out.lt;have h2:=HSZ2.out;refine⟨HSBK.out,HF1.out.below hb,G6 _ _,(HSG1.out.below hb).mono fun k hk hc=> ?_,HN1.out.below hb,⟨?_,fun k hk hc=> ?_⟩,fun hc=> ?_,(by intro hc;cases hc),fun k hk=>by cases hk⟩
  ·rcases hc with hc|hc|hc
   ·omega
   ·cases hc
   ·exact hk.1.2 hc
  ·have:=HG.out.1;have:=HWW.out;have:=hb.size;omega
  ·rcases hc with hc|hc|hc
   ·have:=HG.out.1;have:=HWW.out;omega
   ·cases hc
   ·rcases HL1.out k hc with h3|h3
    ·exact HG.out.2 k hk h3
    ·have:=HG.out.1;omega
  ·have:=hfl _ hc;omega)
 have HP3:=Qh (HP2.out.below hbs);have HC3:=Qh ((hbs.block _ (by have:=HWW.out;have:=HSZ2.out;omega)).trans HC1.out);have HT3:=Qs (Ab (foot f m L) w (w2.alloc (.cells #[Vi Vk 0,Vi Vk 0,.slice none 0 0,.pointer (some ⟨f,0,none⟩),Vi Vk (stride:Int),Vi Vk (segEv:Int),Vi Vk p.man.gen,Vi Vk p.man.next,Vi Vk p.man.floor,Vi Vk p.man.snap,Vi Vk p.man.snapSeq,.slice osv sl csv,.bool false,Vi Vk 0] 82))) (HT1.out.trans (Ab.below (S:=fun _=>False) (Below.next HBA.out hbs)) fun _ h=>h.elim);have HOWN:=Qh (show ∀ k,Br w2.heap.size (.slice none 0 0) f m L' k→foot f m L k∨w.heap.size≤k from fun k hk=>by
  rcases hk with hk|hk|hk
  ·have:=HWW.out;have:=HSZ2.out;exact .inr (by omega)
  ·cases hk
  ·exact HL1.out k hk)
 have HWS:=Qs (w.heap.size≤w2.heap.size) (by have:=HWW.out;have:=HSZ2.out;omega);have hsz2:w2.heap.size=w1.heap.size+1:=by rw [←hw2,World.size_alloc]
 clear HSBK hbs HP2 HC1 HMR HT1 hw2;generalize w2.alloc (.cells #[Vi Vk 0,Vi Vk 0,.slice none 0 0,.pointer (some ⟨f,0,none⟩),Vi Vk (stride:Int),Vi Vk (segEv:Int),Vi Vk p.man.gen,Vi Vk p.man.next,Vi Vk p.man.floor,Vi Vk p.man.snap,Vi Vk p.man.snapSeq,.slice osv sl csv,.bool false,Vi Vk 0] 82)=w3 at*;rw [hsz2] at HJ3 HOWN HWS;clear hsz2;have HSBW:=Qs (w1.heap.size<w1.heap.size+1) (Nat.lt_succ_self _);generalize w1.heap.size+1=sb at*;have HNM:=Qh (fun W (hB:Below w3.heap.size w3 W)=>Hz (HJ3.out.below hB) HSEG.out);have hbd:Below w3.heap.size w3 (World.drew w3):=Ac w3 1;have C8:=Qs (w3.cell? ⟨w1.heap.size,8,none⟩=some (Vi Vk (x.data.length:Int))) (by
  have h9:=HP3.out;unfold Cb at h9;rw [cell_of_row _ _ _ _ _ _ h9];show some (Value.int .i64 p.cut)=_;rw [HCUT.out])
 refine ε (S:=fun w'=>w'.cell? ⟨w1.heap.size,8,none⟩=some (Vi Vk (x.data.length:Int))) (by kernel_rfl) C8.out (fun hHeld=> ?_);have FX1:=Qh (fun(wF:World) (hSw:(fun w'=>w'.cell? ⟨w1.heap.size,8,none⟩=some (Vi Vk (x.data.length:Int))) wF)=>(hSw));refine tf FX1 0 rfl ?_;refine tf FX1 1 rfl ?_;refine tf FX1 3 rfl ?_;refine tf FX1 4 rfl ?_;clear FX1;generalize World.drew w3=wd at*;refine Rd 2 rfl fun K hK=> ?_;go_simp;refine(HNM.out _ hbd).mono ?_;rintro e w4 ⟨rfl,hb4⟩;have hb34:=Below.next hbd hb4;have HJ4:=Qh (HJ3.out.below hb34);have HP4:=Qh (HP3.out.below hb34);have HC4:=Qh ((hb34.block _ (by have:=(δ.1 HC3.out).1;exact this)).trans HC3.out);have HT4:=Qh (HT3.out.trans (Ab.below (S:=fun _=>False) hb34) fun _ h=>h.elim);have C84:=Qh (cell_later hb34 C8.out);clear hb34 hb4 hbd HNM HJ3 HP3 HC3 HT3 C8;go_wp2_with fail;refine hK.out _ _ C84.out (fun hHeld=> ?_);clear hK K;have HRD:=Qh (Ld w4 f m d1 L' HJ4.out.fs (A9 p.man) x (Ey HJ4.out.fs.ok HD1.out HX.out) HX.out 0 x.data.length (by omega));rw [show (x.data.drop 0).take x.data.length=x.data from by rw [List.drop_zero,List.take_length]] at HRD;refine Rd 5 rfl fun K hK=> ?_;go_simp;refine HRD.out.mono ?_;rintro e w5 ⟨v5,rfl,ho5,hf5,ht5⟩;have HJ5:=Qh (HJ4.out.read hf5 ht5);have hfn:w1.heap.size≠f∧w.heap.size≠f:=by have:=HFW.out;have:=HWW.out;omega
 have HP5:=Qs (Cb w5 w1.heap.size p (.slice osv sl csv) (.slice orv p.remove.length crv)) ((ht5.block _ HP4.out.lt hfn.1).trans HP4.out);have HC5:=Qh ((ht5.block _ (δ.1 HC4.out).1 hfn.2).trans HC4.out);have HT5:=Qs (Ab (foot f m L) w w5) (HT4.out.trans ht5 fun k hk=>by subst hk;exact HL1.out _ (.inl rfl));obtain⟨o5,c5,rfl,_,_⟩:=Aj ho5;have HV5:=Qh ho5.brow;have C85:=Qs (w5.cell? ⟨w1.heap.size,8,none⟩=some (Vi Vk (x.data.length:Int))) (ht5.cell C84.out (by simpa using hfn.1));clear ho5 hf5 ht5 HRD HJ4 HP4 HC4 HT4 C84 hfn;go_wp2_with fail;refine hK.out _ _ C85.out (fun hHeld=> ?_);clear hK K;refine tq 6 rfl ?_;refine tq 7 rfl ?_;refine tq 8 rfl ?_;refine tq 9 rfl ?_;refine tq 10 rfl ?_;refine Ξ (by kernel_rfl) ?_ _;clear hHeld;go_wp2_with fail;refine(Kx HJ5.out HSEG.out).mono ?_;rintro e w6 ⟨rfl,hb6⟩;have hba6:=Aa w6 (.cells (B4 (Ah p.man)) 72);have HGB:=Qs (Ft (w6.alloc (.cells (B4 (Ah p.man)) 72)) w6.heap.size (Ah p.man)) (σ w6 _);have hb56:=Below.next hb6 hba6;have HJ6:=Qh (HJ5.out.below hb56);have HC6:=Qh ((hb56.block _ (δ.1 HC5.out).1).trans HC5.out);have HT6:=Qh (HT5.out.trans (Ab.below (S:=fun _=>False) hb56) fun _ h=>h.elim);have HV6:=Qh (HV5.out.below hb56);have C86:=Qh (cell_later hb56 C85.out);simp only [B4] at HGB HJ6 HC6 HT6 HV6 C86;clear hb6 hba6 hb56 HJ5 HC5 HT5 HV5 C85 HP5;go_wp2_with fail;have HHO:=Qh (by have:=hdrOf_any x.data _ _ HV6.out (by have:=HLEN.out;omega) HJ6.out.nib;rw [HHD.out] at this;exact this);unfold HdrPost at HHO;dsimp only at HHO;generalize w6.alloc (.cells #[Vi Vk (Ah p.man).num,Vi Vk (Ah p.man).first,Vi Vk (Ah p.man).count,Vi Vk (Ah p.man).foot] 72)=w7 at*;generalize w6.heap.size=gb at*;refine HHO.out.mono ?_;rintro e w8 ⟨rfl,hb8⟩;have HJ8:=Qh (HJ6.out.below hb8);have HC8:=Qh ((hb8.block _ (δ.1 HC6.out).1).trans HC6.out);have HT8:=Qh (HT6.out.trans (Ab.below (S:=fun _=>False) hb8) fun _ h=>h.elim);have HV8:=Qh (HV6.out.below hb8);have C88:=Qh (cell_later hb8 C86.out);have cfi:w8.cell? ⟨gb,1,none⟩=some (Vi Vk (first:Int)):=by rw [←HFF.out];exact cell_later hb8 (cell_of_row w7 gb 1 _ _ _ HGB.out)
 have HSR:=Qh (Nv x.data _ at_ first 512 w8 HV8.out HLEN.out HJ8.out.nib HAT.out (by decide) (by decide));rw [HSC.out] at HSR;unfold RunP at HSR;dsimp only at HSR;clear hb8 HHO HJ6 HC6 HT6 HV6 C86 HGB;go_wp2_with fail;refine HSR.out.mono ?_;rintro e w9 ⟨pv,rfl,hp9,hb9⟩;have HJ9:=Qh (HJ8.out.below hb9);have HC9:=Qh ((hb9.block _ (δ.1 HC8.out).1).trans HC8.out);have HT9:=Qh (HT8.out.trans (Ab.below (S:=fun _=>False) hb9) fun _ h=>h.elim);have C89:=Qh (cell_later hb9 C88.out);have HP9:=Qh hp9;obtain⟨op,cp,rfl,_,_,_⟩:=hp9.shape;clear hb9 hp9 HSR HJ8 HC8 HT8 HV8 C88 cfi;go_wp2_with fail;have hbd:Below w9.heap.size w9 (World.drew w9):=Ac w9 1;have hcf: ∀ W:World,W.heap[w.heap.size]? =some (.cells (cfCs stride segEv) 24 (0,0))→W.cell? ⟨w.heap.size,0,none⟩=some (Vi Vk (stride:Int)):=fun W h=>cell_of_row W w.heap.size 0 _ _ _ h;refine ε (S:=fun w'=>w'.cell? ⟨w1.heap.size,8,none⟩=some (Vi Vk (x.data.length:Int))∧w'.cell? ⟨w.heap.size,0,none⟩=some (Vi Vk (stride:Int))) (by kernel_rfl) ⟨C89.out,hcf _ HC9.out⟩ (fun hHeld=> ?_);have FX2:=Qh (fun(wF:World) (hSw:(fun w'=>w'.cell? ⟨w1.heap.size,8,none⟩=some (Vi Vk (x.data.length:Int))∧w'.cell? ⟨w.heap.size,0,none⟩=some (Vi Vk (stride:Int))) wF)=>And.intro ((hSw.1)) ((hSw.2)));refine tf FX2 0 rfl ?_;refine tf FX2 1 rfl ?_;refine tf FX2 2 rfl ?_;refine tf FX2 3 rfl ?_;refine tf FX2 4 rfl ?_;refine tf FX2 5 rfl ?_;refine tf FX2 6 rfl ?_;refine tf FX2 7 rfl ?_;clear FX2;have HJA:=Qh (HJ9.out.below hbd);have HPA:=Qh (HP9.out.below hbd);have HTA:=Qh (HT9.out.trans (Ab.below (S:=fun _=>False) hbd) fun _ h=>h.elim);clear hbd HJ9 HP9 HT9 HC9 C89 hcf;generalize World.drew w9=wa at*;refine Rd 8 rfl fun K hK=> ?_;go_simp;refine(build_any ps _ stride _ wa HPA.out HST.out HPL.out).mono ?_;rintro e wb ⟨mv,rfl,hmo,hbb⟩;obtain⟨om,cm,rfl,_,_⟩:=Aj hmo;have HSGB:=Qh (HJA.out.sg.low.below hbb);have HJB:=Qh (HJA.out.below hbb);have HTB:=Qh (HTA.out.trans (Ab.below (S:=fun _=>False) hbb) fun _ h=>h.elim);have HMO:=Qh hmo;have HMZ:=Qs (∀ k,(Value.slice om (F7 stride 0 ps).length cm).ownBlock=some k→wa.heap.size≤k∧k<wb.heap.size) (fun k hk=>World.ownsRow.lt hmo k hk);have HLA:=Qs (sb<wa.heap.size∧(∀ k,foot f m L' k→k<wa.heap.size)∧w.heap.size≤wa.heap.size∧4≤wa.heap.size) ⟨HJA.out.blk.lt,HJA.out.fs.lt,HTA.out.size,HJA.out.gl.1⟩;have hone:(Value.slice om (F7 stride 0 ps).length cm).oneCell'=true:=rfl;go_wp2_with fail;refine hK.out _ _ ⟨cell_later hbb hHeld.1,cell_later hbb hHeld.2⟩ (fun hHeld=> ?_);clear hK K hbb hmo HJA HTA HPA;refine tq 9 rfl ?_;refine Rd 10 rfl fun K hK=> ?_;go_simp;refine hK.out _ _ hHeld (fun hHeld=> ?_);clear hK K;refine Rd 11 rfl fun K hK=> ?_;go_simp;refine hK.out _ _ hHeld (fun hHeld=> ?_);clear hK K;refine Rd 12 rfl fun K hK=> ?_;rw [κ (by kernel_rfl)];refine wp_store_mid 80 (.tmp 87) (.tmp 85) rfl sb 0 #[Vi Vk (ps.length:Int),Vi Vk (x.data.length:Int),(Value.slice om (F7 stride 0 ps).length cm)] rfl rfl (HJB.out.blk.there 0 3 (by omega)) tailInfo (Array.all_eq_true_iff_forall_mem.2 (by
  intro u hu;simp only [List.mem_toArray,Δ,Ω,or_false] at hu;rcases hu with rfl|rfl|rfl
  ·rfl
  ·rfl
  ·exact hone)) ?_
 have hts:=Me sb [Vi Vk (ps.length:Int),Vi Vk (x.data.length:Int),(Value.slice om (F7 stride 0 ps).length cm)] 0 wb;have hbk:=Md [Vi Vk (ps.length:Int),Vi Vk (x.data.length:Int),(Value.slice om (F7 stride 0 ps).length cm)] 0 wb _ HJB.out.blk;have HJZ:=Qs (SJ (wb.setCells sb 0 [Vi Vk (ps.length:Int),Vi Vk (x.data.length:Int),(Value.slice om (F7 stride 0 ps).length cm)]) sb f m L' (Df d1 x.data.length) ⟨ps.length,x.data.length,F7 stride 0 ps,stride,segEv,p.man,false,0⟩ (Value.slice om (F7 stride 0 ps).length cm) (.slice osv sl csv)) (by
  have ha:=HLA.out;have hj:=HJB.out;refine⟨by
   have e:Po (Kc f ⟨0,0,[],stride,segEv,p.man,false,0⟩ (.slice none 0 0) (.slice osv sl csv)) 0 [Vi Vk (ps.length:Int),Vi Vk (x.data.length:Int),(Value.slice om (F7 stride 0 ps).length cm)]=Kc f ⟨ps.length,x.data.length,F7 stride 0 ps,stride,segEv,p.man,false,0⟩ (Value.slice om (F7 stride 0 ps).length cm) (.slice osv sl csv):=by simp [Po,Kc]
   unfold Dy;rw [←e];exact hbk,hj.fs.turned hts (fun k hk hc=>hj.sep.1 (hc▸hk)),?_,?_,hj.nib.turned hts (fun hc=>hj.gl.2 _ (by decide) (.inl hc)) hj.nib.lt,⟨η hj.gl.1 hts.size,fun k hk hc=> ?_⟩,hj.sep.1,fun hc=> ?_,fun k hk hc=> ?_⟩
  ·exact(Es.mono HMO.out (θ _)).kept' fun k hk=>hts.block k (HMZ.out k hk).2 (by have:=(HMZ.out k hk).1;omega)
  ·refine(HSGB.out.turned hts fun k hk hc=>hk.1 (.inl hc)).mono fun k hk hc=> ?_;rcases hc with hc|hc|hc
   ·exact hk.1 (.inl hc)
   ·have:=(HMZ.out k hc).1;have:=hk.2;omega
   ·exact hk.1 (.inr (.inr hc))
  ·rcases hc with hc|hc|hc
   ·exact hj.gl.2 k hk (.inl hc)
   ·have:=(HMZ.out k hc).1;omega
   ·exact hj.gl.2 k hk (.inr (.inr hc))
  ·have:=(HMZ.out _ hc).1;omega
  ·have:=(HMZ.out k hk).1;have:=ha.2.1 k hc;omega)
 refine hK.out _ _ ⟨hts.cell hHeld.1 (by have:=HSBW.out;show ¬ w1.heap.size=sb;omega),hts.cell hHeld.2 (by have:=HSBW.out;have:=HWW.out;show ¬ w.heap.size=sb;omega)⟩ (fun _=> ?_);have HTZ:=Qs (Ab (foot f m L) w (wb.setCells sb 0 [Vi Vk (ps.length:Int),Vi Vk (x.data.length:Int),(Value.slice om (F7 stride 0 ps).length cm)])) (HTB.out.trans hts fun k hk=> .inr (by rw [hk];exact HWS.out));clear hK K hHeld hts hbk HJB HTB;generalize wb.setCells sb 0 [Vi Vk (ps.length:Int),Vi Vk (x.data.length:Int),(Value.slice om (F7 stride 0 ps).length cm)]=wz at*;refine Ξ (by kernel_rfl) ?_ _;go_wp2;go_ret2;refine⟨sb,(Value.slice om (F7 stride 0 ps).length cm),_,L',x.data.length,rfl,HJZ.out,HTZ.out,HWS.out,fun k hk=> ?_⟩;rcases hk with hk|hk|hk
 ·exact HOWN.out k (.inl hk)
 ·have:=(HMZ.out k hk).1;have:=HLA.out;exact .inr (by omega)
 ·exact HOWN.out k (.inr (.inr hk))
theorem decGo_ten: ∀ (b:List UInt8) (i u:Nat),i≤9→(Gd i u b).2.2=0→(Gd i u b).2.1≤10
 | [],_,_=>by simp [Gd]
 |c::r,i,u=>by
  intro hi
  rw [Gd]
  split
  ·simp
  ·rename_i h1
   split
   ·rename_i h2
    exact decGo_ten r (i+1) _ (by omega)
   ·split
    ·simp
    ·intro _;simp only;omega
theorem unpack_len (h:(Gy b).2.2=0):b.length≤1040:=by
 unfold Gy at h;split at h
 ·rename_i h1;exact absurd h h1
 ·rename_i h1;split at h
  ·rename_i h2;exact absurd h h2
  ·rename_i h2;have h2':(Gh (E8 (A3 b).1) (b.drop (A3 b).2.1)).2=0:=by omega
   unfold Gh at h2';split at h2'
   ·cases h2'
   ·split at h2'
    ·rename_i h3;exact absurd h2' h3
    ·rename_i h3;have h4:(b.drop (A3 b).2.1).length≤1024:=by
      rcases Nat.lt_or_ge 1024 (b.drop (A3 b).2.1).length with hc|hc
      ·exfalso;apply h3;unfold tlvDec;rw [κ hc];decide
      ·exact hc
     have h5:(A3 b).2.1≤10:=decGo_ten b 0 0 (by decide) (by unfold A3 at h1;omega);rw [Λ] at h4;omega
theorem Kr {v:Int}  (hc:Am v e=0):Du (Iy v e):=⟨by rw [Mf hc],unpack_len (by rw [Mf hc])⟩
theorem Mo.same {g:Sg}  (h:Mo fs s G g bs) (hd: ∀ k,Dh fs' k=Dh fs k):Mo fs' s G g bs:=by
 refine⟨h.ok,h.snap,h.segs,(hd _).trans h.man,(hd _).trans h.act,h.cnt,h.size,h.marks,fun x hx=> ?_,h.body,h.cfg,fun k x hx=> ?_,h.top⟩
 ·have:=h.seals x hx;exact⟨(hd _).trans this.dat,this.len,this.count,this.foot⟩
 ·have:=hd k;rw [D5 hx] at this;obtain⟨y,hy,_⟩:=Dm this.symm;exact h.clean k y hy
theorem Fe.dec (h:Fe d s E) (n:Nat):Fe d {s with decoded:=n} E:=by
 obtain⟨G,g,bs,hs,hE⟩:=h.sta;exact⟨h.ok,h.up,⟨G,g,bs,⟨hs.ok,hs.snap,hs.segs,hs.man,hs.act,hs.cnt,hs.size,hs.marks,hs.seals,hs.body,hs.cfg,hs.clean,hs.top⟩,hE⟩,h.floor,h.closed⟩
theorem sync_files (hr:Fs fs) (ha:Bf fs n=some x) (k:List UInt8):Dh (Ec fs (Ag n)) k=Dh fs k:=by
 have e:Ec fs (Ag n)=Fd n (fun _=>{x with safe:=(x.data.length:Int)}) fs:=by
  rw [chgL_set (x:=x) hr ha (by simp [Ag]) (by simp [Ag]) (by simp [Ag])];simp [Ll,Ag]
 have hn:x.name=n:=(B8 ha).1;rw [e];unfold Dh;by_cases hk:k=n
 ·subst hk;rw [Kz (y:={x with safe:=(x.data.length:Int)}) ha hn,ha];rfl
 ·rw [Gv (y:={x with safe:=(x.data.length:Int)}) hn hk]
structure Like (d d':Af):Prop where
 room:d'.room=d.room
 used:usedF d'.files=usedF d.files
 len:d'.files.length=d.files.length
 dat: ∀ k,Dh d'.files k=Dh d.files k
theorem load_snap (h:Fe d s E):(B6 d).1.1.snap≤0:=by
 obtain⟨G,g,bs,hs,rfl⟩:=h.sta;obtain⟨x,hx,hxd⟩:=Dm hs.man;unfold B6;rw [Nk h.ok h.up,hx];dsimp only;rw [hxd,Mv hs.ok];rw [γ (by simp)];exact Int.le_of_eq hs.snap
theorem new_sta (h:1≤stride∧stride≤64) (h2:1≤segEv∧segEv≤512):Mo (Gx []) ⟨0,22,[],stride,segEv,Ap,false,0⟩ [] ⟨1,1,0,0⟩ []:=by
 have hm:Bf (Gx []) Aw=some ⟨Aw,Gw,29⟩:=rfl;have hg:Bf (Gx []) (Ad 1)=some ⟨Ad 1,Gk,22⟩:=by
  unfold Gx;rw [Gu (by rw [seg1];decide)];exact Ee (f:=⟨Ad 1,Gk,22⟩) (fun _ h=>(Ω h).elim)
 have hl:(Cl ⟨1,1,0,0⟩ []).length=22:=by unfold Cl;rw [ζ];exact G3.1
 refine⟨firstM_ok,rfl,rfl,?_,?_,⟨rfl,by decide⟩,hl.symm,rfl,fun _ h=>(Ω h).elim,⟨fun _ h=>(Ω h).elim,fun _ h=>(Ω h).elim⟩,⟨h,h2⟩,?_,by decide⟩
 ·unfold Dh;rw [hm];rfl
 ·unfold Dh;rw [hg];show some Gk=some (Gk++[]);rw [List.append_nil]
 ·intro k x hx;have hk:=(B8 hx);have hmem:x∈Dp ⟨Aw,Gw,29⟩ (Dp ⟨Ad 1,Gk,22⟩ []):=hk.2;rw [←hk.1];have:x=⟨Aw,Gw,29⟩∨x=⟨Ad 1,Gk,22⟩:=by
   simp only [Dp] at hmem;split at hmem<;>simp at hmem
   ·exact hmem
   ·exact hmem.symm
  rcases this with rfl|rfl
  ·exact ns_man true Ap
  ·show A5 true Ap (Ad 1)=false;rw [seg1];decide
theorem new_run {room:Int} (hr:51≤(Lp room).room): ∃ d1,runR (Lp room)=((planF,0),d1)∧A0 d1∧d1.down=false∧d1.fuse=0∧d1.room=(Lp room).room∧d1.files=Gx []∧d1.steps≤7:=by
 have hok:=newD_ok room;have hp:(Bq (Lp room)).1=(planF,0):=by
  rw [planD_on hok rfl];show newB (Lp room).room []=_;unfold newB;rw [γ (by simp [Hn,usedF];omega)];rfl
 generalize hn:(Bq (Lp room)).2=n;have hw:=begin_went (d:=Df (Lp room) n) (rdD_okS hok n) rfl rfl rfl (by show (51:Int)≤(Lp room).room - ((usedF []:Nat):Int);simp [usedF];omega) (by show ([]:List Bl).length≤698;decide);have e:B1 (Df (Lp room) n) planF=Bk (Df (Lp room) n) (Et (A9 Ap) (Ah Ap) Ap):=by
  unfold B1;rw [show planF.man=Ap from rfl,firstM_ok];rfl
 have hst:=Jf (Et (A9 Ap) (Ah Ap) Ap) (Df (Lp room) n);rw [←e] at hw hst;rcases hw.out with⟨h1,h2,h3,h4⟩|⟨_,h2,_⟩
 ·refine⟨_,?_,hw.ok,h3,h4 rfl,hw.room,h2,hst⟩;have h0:(Bq (Lp room)).1.2=0:=by rw [hp]
  rw [runR_good h0 (by rw [hn,hp];exact h1),hn,hp]
 ·exact absurd rfl h2
theorem new_lim (h:1≤stride∧stride≤64) (h2:1≤segEv∧segEv≤512) {d1:Af} (h3:A0 d1) (h4:d1.down=false) (h5:d1.fuse=0) (h6:d1.files=Gx []) (h7:d1.steps≤7):Lim d1 ⟨0,22,[],stride,segEv,Ap,false,0⟩ [] 0:=
 ⟨⟨h3,h4,⟨[],⟨1,1,0,0⟩,[],by rw [h6];exact new_sta h h2,rfl⟩,rfl,rfl⟩,h5,by show (2:Int)≤((0:Nat):Int)+2;decide,by show (1:Int)≤((0:Nat):Int)+1;decide,by omega,μ _⟩
theorem open_calls {d1:Af} {p:Pl}  (h:Bv w f m d L) (hn:Bh w) (hg:4≤w.heap.size∧ ∀ k,k<4→ ¬ foot f m L k) (hst:d.steps≤1152921504606846976) (h0:(B6 d).1.1.snap≤0)
  (hrun:runR d=((p,0),d1)) (ho:Fe d1 s E) (hp:p.man=s.man∧p.cut=(s.size:Int)) (hdec:s.decoded=0):
  Calls prog 9 #[.pointer (some ⟨f,0,none⟩),.agg #[Vi Vk (s.stride:Int),Vi Vk (s.segEv:Int)]] w (OpenQ w f m L d1 s):=by
 obtain⟨G,g,bs,hs,hE⟩:=ho.sta;obtain⟨x,hx,hxd⟩:=Dm hs.act;have hsg:=hs.seg;obtain⟨_,a2,a3,_⟩:=act_found hsg.1 ⟨hsg.2.1,hs.top⟩ hs.body.2 hs.cnt.2;have hpl:(Jt (Hk g).length (Fc 0 (evFr g.first.toNat bs))).length=bs.length:=by rw [Gq,Fy,Dj]
 have hz:=hs.sizeLe;have hbl:F7 s.stride 0 (Jt (Hk g).length (Fc 0 (evFr g.first.toNat bs)))=s.marks:=by rw [bldM_lay,hs.marks,Nat.add_zero]
 have:=stoOpen_good s.stride s.segEv p d1 x g.num.toNat g.first.toNat (Hk g).length (Cl g bs).length (Jt (Hk g).length (Fc 0 (evFr g.first.toNat bs))) w f m d L h hn hg hst h0 hs.cfg.1 hs.cfg.2 hrun (by rw [hp.1];exact ho.seg) (by rw [hp.1,hs.name];exact hx) ho.up (by rw [hp.2,hs.size,hxd]) (by rw [hxd];exact a2)
  (by rw [hxd];unfold Cl;rw [ζ];omega) (by rw [hp.1,hs.last];omega) (by rw [hxd];exact a3) (by rw [hxd];omega) (by rw [hpl];exact hs.cnt.2)
 rw [hpl,hbl,hxd,←hs.size,←hs.cnt.1,hp.1] at this;have e:(⟨s.count,s.size,s.marks,s.stride,s.segEv,s.man,false,0⟩:C6)=s:=by
  have hc:=ho.closed;obtain⟨_,_,_,_,_,_,_,_⟩:=s;simp only at hc hdec;rw [hc,hdec]
 rw [e] at this;exact this
structure Dead (fs:List Bl) (m:Da) (stride:Nat) (G:List Grp) (g:Sg) (bs:List (List UInt8)) (ft:List J6) (n:Nat):Prop where
 ok:Cy m=true
 snap:m.snap=0
 floor:m.floor=0
 segs:m.segs=G.map (·.1)++[g]
 man:Dh fs Aw=some (Ct m).1
 cut:(Hk g).length≤n
 act:Dh fs (Ad g.num)=some ((Hk g++Hl (evFr g.first.toNat bs++ft)).take n)
 foot: ∀ f∈ft,FrmOk f∧f.k≠1
 seals: ∀ x∈G,SealAt fs stride x
 body:(∀ x∈G,∀ b∈x.2,Du b)∧ ∀ b∈bs,Du b
 cfg:1≤stride∧stride≤64
 len:bs.length≤512
 top:g.first+(bs.length:Int)≤1099511627777
section
variable {fs : List Bl} {m : Da} {stride : Nat} {G : List Grp} {g : Sg} {bs : List (List UInt8)} {ft : List J6} {n : Nat}
theorem Dead.seg (h:Dead fs m stride G g bs ft n):(1≤g.num∧g.num≤999999)∧1≤g.first∧g.first≤1099511627777:=by
 have hf:=Cj h.ok;have:=hf.seg g (by rw [h.segs];simp);have:=h.top;have:=hf.next;exact⟨by omega,by omega,by omega⟩
theorem Dead.last (h:Dead fs m stride G g bs ft n):Ah m=g∧A9 m=Ad g.num:=by
 have:Ah m=g:=by unfold Ah;rw [h.segs];simp
 exact⟨this,by unfold A9;rw [this]⟩
theorem at_keep (s:List UInt8→Bool) (k:List UInt8) (hk:s k=false) (fs:List Bl):Bf (fs.filter fun f=> !s f.name) k=Bf fs k:=by
 unfold Bf
 induction fs with
 |nil=>rfl
 |cons f r ih=>
  by_cases hf:f.name=k
  ·have e:(!s f.name)=true:=by rw [hf,hk];rfl
   rw [List.filter_cons,κ e,List.find?_cons,List.find?_cons,show (f.name==k)=true by simpa using hf]
  ·have e2:(f.name==k)=false:=by simpa using hf
   rw [List.find?_cons,e2,←ih,List.filter_cons];split
   ·rw [List.find?_cons,e2]
   ·rfl
def stoD (m:Da) (stride segEv:Nat) (g:Sg) (bs:List (List UInt8)):C6:=⟨bs.length,(Cl g bs).length,Fv stride 0 g.first.toNat (Hk g).length bs,stride,segEv,m,false,0⟩
theorem Dead.run (h:Dead d.files m stride G g bs ft n) (hok:A0 d) (hd:d.down=false) (hfz:d.fuse=0)  (hc:1≤segEv∧segEv≤512):
  ∃ mm d1,mm≤bs.length∧(∀ q,q≤bs.length→(Cl g (bs.take q)).length≤n→q≤mm)∧Fe d1 (stoD m stride segEv g (bs.take mm)) (G.flatMap (·.2)++bs.take mm)∧d1.fuse=0∧d1.room=d.room∧d1.steps≤d.steps+1500∧(∀ k x,Bf d1.files k=some x→A5 true m k=false∧ ∃ x0,Bf d.files k=some x0∧x.data.length≤x0.data.length)∧
   ∃ p,runR d=((p,0),d1)∧p.man=m∧p.cut=((Cl g (bs.take mm)).length:Int):=by
 obtain⟨hs1,hs2⟩:=h.seg;obtain⟨hl1,hl2⟩:=h.last;obtain⟨x,hx,hxd⟩:=Dm h.act;obtain⟨mm,c0,c1,_,⟨r,c4⟩,c5⟩:=cut_found hs1 ⟨hs2.1,h.top⟩ h.body.2 h.len ft h.foot h.cut;have hmt:(bs.take mm).length=mm:=by rw [ω];omega
 have hsub: ∀ b∈bs.take mm,Du b:=fun b hb=>h.body.2 b (List.mem_of_mem_take hb);have hf:=Cj h.ok;have hgm:g∈m.segs:=by rw [h.segs];simp
 have hxs:x.data=Cl g (bs.take mm)++r:=by rw [hxd,c4]
 have hact:I9 (some x.data) g=((Cl g (bs.take mm)).length,mm,true):=by rw [hxd];exact c1
 obtain⟨y,hy⟩: ∃ y:Bl,y=⟨Ad g.num,Cl g (bs.take mm),0⟩:=⟨_,rfl⟩;obtain⟨fs1,hfs1⟩: ∃ fs1,fs1=Fd (Ad g.num) (fun _=>y) (d.files.filter fun f=> !A5 true m f.name):=⟨_,rfl⟩;have hyn:y.name=Ad g.num:=by rw [hy]
 have hkeep: ∀ k,A5 true m k=false→Bf (d.files.filter fun f=> !A5 true m f.name) k=Bf d.files k:=fun k hk=>at_keep _ k hk _;have hgn:=Pi hf hgm;have hsame: ∀ k,A5 true m k=false→k≠Ad g.num→Dh fs1 k=Dh d.files k:=fun k hk hk2=>by
  unfold Dh;rw [hfs1,Gv hyn hk2,hkeep k hk]
 have hat1:Bf fs1 (Ad g.num)=some y:=by rw [hfs1];exact Kz (by rw [hkeep _ hgn];exact hx) hyn
 have hsg: ∀ z∈G,Ad z.1.num≠Ad g.num∧A5 true m (Ad z.1.num)=false:=fun z hz=>by
  have hzm:z.1∈m.segs.dropLast:=by rw [h.segs,List.dropLast_concat];exact List.mem_map_of_mem hz
  have:=seg_ne_last hf hzm;rw [hl2] at this;exact⟨this,Pi hf (by rw [h.segs];exact List.mem_append_left _ (List.mem_map_of_mem hz))⟩
 have hS1:Mo fs1 (stoD m stride segEv g (bs.take mm)) G g (bs.take mm):=by
  refine⟨h.ok,h.snap,h.segs,?_,?_,⟨rfl,by have:=h.len;omega⟩,rfl,rfl,fun z hz=> ?_,⟨h.body.1,hsub⟩,⟨h.cfg,hc⟩,fun k f hk=> ?_,by have:=h.top;omega⟩
  ·exact(hsame _ (ns_man _ _) (seg_ne hs1).2.1.symm).trans h.man
  ·rw [D5 hat1,hy]
  ·have hz1:=h.seals z hz;obtain⟨e1,e2⟩:=hsg z hz;exact⟨(hsame _ e2 e1).trans hz1.dat,hz1.len,hz1.count,hz1.foot⟩
  ·by_cases hk2:k=Ad g.num
   ·rw [hk2];exact hgn
   ·rw [hfs1,Gv hyn hk2] at hk;obtain⟨e1,e2⟩:=B8 hk;have:=(List.mem_filter.1 e2).2;rw [e1] at this;show A5 true m k=false;simpa using this
 have hdm:(B2 (Ct m).1)=(m,0):=Mv h.ok;have hF1:=find_sta hS1 d.room;rw [find_man hS1.man (by rw [show (stoD m stride segEv g (bs.take mm)).man=m from rfl,hdm]),show (stoD m stride segEv g (bs.take mm)).man=m from rfl,hdm] at hF1;have hcutB:=manB_cut (fs:=fs1) (fs':=d.files) hf (fun k hk hk2=>(hsame k hk (by rw [←hl2];exact hk2)).symm) (by
  rw [hl1,hl2,D5 hx,hact,D5 hat1,hy];exact(act_found hs1 ⟨hs2.1,by have:=h.top;omega⟩ hsub (by have:=h.len;omega)).2.2.2.symm▸(by rw [hmt]))
 rw [hF1] at hcutB;obtain⟨b1,b2,b3,b4⟩:=hcutB;obtain⟨p,hp⟩: ∃ p,Pe d.files m=(p,0):=⟨(Pe d.files m).1,Prod.ext rfl b1⟩;rw [hp] at b2 b3 b4;have hpl:(Bq d).1=(p,0):=by rw [planD_on hok hd,find_man h.man (by rw [hdm]),hdm];exact hp
 generalize hn:(Bq d).2=nr;have hokr:A0 (Df d nr):=rdD_okS hok nr;have hmc:=man_clean (d:=Df d nr) hokr hd hfz h.man (by rw [hdm]) (p:=p) (by rw [hdm];exact hp);rw [hdm] at hmc;obtain⟨k1,k2,k3,k4,k5,k10,k11,x',y',k6,k7,k8,k9⟩:=hmc;rw [hl2] at k6;have hxx:x'=x:=φ (k6.symm.trans hx);subst hxx;rw [hl1,hact] at k7 k8 k9;have hy':y'.data=Cl g (bs.take mm):=by rw [k8,hxs,List.take_left]
 have hd1: ∀ k,Dh (B1 (Df d nr) p).1.files k=Dh fs1 k:=fun k=>by
  by_cases hk:k=Ad g.num
  ·subst hk;rw [D5 hat1,hy,←hl2,D5 k7.at_,hy']
  ·rcases hst:A5 true m k with _|_
   ·rw [hsame k hst hk];unfold Dh;rw [k7.oth k hst (by rw [hl2];exact hk)];rfl
   ·have e1:Bf fs1 k=none:=by
     rcases hz:Bf fs1 k with _|z
     ·rfl
     ·have:=hS1.clean k z hz;rw [show (stoD m stride segEv g (bs.take mm)).man=m from rfl,hst] at this;cases this
    have e2:Bf (B1 (Df d nr) p).1.files k=none:=by
     rcases hz:Bf (B1 (Df d nr) p).1.files k with _|z
     ·rfl
     ·obtain⟨z1,z2⟩:=B8 hz;have:=k7.ns z z2;rw [z1,hst] at this;cases this
    rw [Ki e1,Ki e2]
 have hrm:p.remove.length≤700:=by
  have hpe:=(manB_inv hp).1;rw [hpe];exact η (List.length_filter_le _ _) (by rw [List.length_map];exact hok.count)
 have hst:=(by
  unfold B1;rw [show Cy p.man=true by rw [b2];exact h.ok,κ rfl];exact Jf (M4 (Df d nr) p) (Df d nr):(B1 (Df d nr) p).1.steps≤(Df d nr).steps+((M4 (Df d nr) p).length:Int))
 have hrl:=refOps_len (Df d nr) p;refine⟨mm,(B1 (Df d nr) p).1,by omega,c5,⟨k2,k3,⟨G,g,bs.take mm,hS1.same hd1,rfl⟩,h.floor,rfl⟩,k4,k5,by have:(Df d nr).steps=d.steps:=rfl;omega,fun k z hz=> ?_,p,?_,b2,by rw [b3];rfl⟩
 ·have hns:A5 true m k=false:=by
   obtain⟨z1,z2⟩:=B8 hz;have:=k7.ns z z2;rwa [z1] at this
  refine⟨hns,?_⟩;have e:=hd1 k;rw [D5 hz] at e;by_cases hk:k=Ad g.num
  ·subst hk;rw [D5 hat1,hy] at e;have e:=φ e;exact⟨x',hx,by rw [e,hxs,ζ];exact Nat.le_add_right _ _⟩
  ·rw [hsame k hns hk] at e;obtain⟨x0,e1,e2⟩:=Dm e.symm;exact⟨x0,e1,by rw [e2];exact μ _⟩
 rw [runR_good (by rw [hpl]) (by rw [hpl,hn];exact k1),hpl,hn]
end
structure Ke (fs:List Bl) (G:List Grp) (g:Sg) (bs:List (List UInt8)) (S:Nat):Prop where
 man: ∀ x,Bf fs Aw=some x→x.safe=(x.data.length:Int)
 seals: ∀ z∈G,∀ x,Bf fs (Ad z.1.num)=some x→x.safe=(x.data.length:Int)
 act: ∃ x q,Bf fs (Ad g.num)=some x∧((Hk g).length:Int)≤x.safe∧q≤bs.length∧S≤(G.flatMap (·.2)).length+q∧((Cl g (bs.take q)).length:Int)≤x.safe
def G7 (d:Af) (s:C6) (E:List (List UInt8)) (S:Nat):Prop:=Fe d s E∧ ∃ G g bs,Mo d.files s G g bs∧E=G.flatMap (·.2)++bs∧Ke d.files G g bs S
def Lost (fs:List Bl) (m:Da) (stride:Nat) (E:List (List UInt8)) (S:Nat):Prop:=
 ∃ G g bs ft n,Dead fs m stride G g bs ft n∧(Hk g++Hl (evFr g.first.toNat bs++ft)).length≤n∧E=G.flatMap (·.2)++bs∧Ke fs G g bs S
def Near (fs0:List Bl) (m:Da) (fs:List Bl):Prop:= ∀ k x,A5 true m k=false→Bf fs k=some x→ ∃ x0,Bf fs0 k=some x0∧x.data.length≤x0.data.length+(if A9 m=k then 6220 else 0)
theorem Near.refl (fs:List Bl) (m:Da):Near fs m fs:=fun _ x _ h=>⟨x,h,Nat.le_add_right _ _⟩
theorem rest_act: ∀ (fs:List Bl) (ks:List Int) (n:List UInt8) (x:Bl),Bf fs n=some x→ ∃ k,Bf (restF fs ks) n=some ⟨x.name,x.data.take (Jz x k).toNat,Jz x k⟩
 | [],_,_,_,h=>by simp [Bf] at h
 |f::r,ks,n,x,h=>by
  unfold Bf at h ⊢
  rw [restF,List.find?_cons]
  rw [List.find?_cons] at h
  by_cases hn:(f.name==n)=true
  ·rw [hn] at h ⊢
   dsimp only at h ⊢
   obtain rfl:=φ h
   exact⟨_,rfl⟩
  ·rw [Bool.not_eq_true] at hn
   rw [hn] at h ⊢
   dsimp only at h ⊢
   exact rest_act r ks.tail n x h
theorem rest_none: ∀ (fs:List Bl) (ks:List Int) (n:List UInt8),Bf fs n=none→Bf (restF fs ks) n=none
 | [],_,_,_=>by simp [restF,Bf]
 |f::r,ks,n,h=>by
  unfold Bf at h ⊢
  rw [restF,List.find?_cons]
  rw [List.find?_cons] at h
  by_cases hn:(f.name==n)=true
  ·rw [hn] at h
   cases h
  ·rw [Bool.not_eq_true] at hn
   rw [hn] at h ⊢
   exact rest_none r ks.tail n h
theorem Lost.rest {m:Da} {S:Nat} (h:Lost fs m stride E S) (hs: ∀ f∈fs,0≤f.safe∧f.safe≤(f.data.length:Int)) (ks:List Int):
  ∃ G g bs ft n q,Dead (restF fs ks) m stride G g bs ft n∧E=G.flatMap (·.2)++bs∧q≤bs.length∧S≤(G.flatMap (·.2)).length+q∧(Cl g (bs.take q)).length≤n:=by
 obtain⟨G,g,bs,ft,n,hD,hn,hE,hS⟩:=h;obtain⟨x,q,hx,hh,hq,hSq,hqs⟩:=hS.act;obtain⟨k,hk⟩:=rest_act fs ks _ x hx;have hb:=keptN_bd (hs x (B8 hx).2) k;have hxd:x.data=(Hk g++Hl (evFr g.first.toNat bs++ft)).take n:=by
  have:=hD.act;rw [D5 hx] at this;exact φ this
 have hxn:x.data.length≤n:=by rw [hxd,ω];omega
 have hsame: ∀ k,(∀ x,Bf fs k=some x→x.safe=(x.data.length:Int))→Dh (restF fs ks) k=Dh fs k:=fun k h=>by unfold Dh;rw [rest_at fs ks k h]
 refine⟨G,g,bs,ft,min (Jz x k).toNat n,q,⟨hD.ok,hD.snap,hD.floor,hD.segs,(hsame _ hS.man).trans hD.man,by omega,?_,hD.foot,fun z hz=> ?_,hD.body,hD.cfg,hD.len,hD.top⟩,hE,hq,hSq,by omega⟩
 ·rw [D5 hk,hxd,List.take_take]
 ·have:=hD.seals z hz;exact⟨(hsame _ (hS.seals z hz)).trans this.dat,this.len,this.count,this.foot⟩
theorem Lost.open {m:Da} {S:Nat} (h:Lost d.files m stride E S) (hok:A0 d) (ks:List Int)  (hc:1≤segEv∧segEv≤512):
  ∃ j d1 s,S≤j∧j≤E.length∧Fe d1 s (E.take j)∧s.man=m∧s.stride=stride∧s.segEv=segEv∧s.decoded=0∧d1.fuse=0∧d1.room=d.room∧d1.steps≤d.steps+1500∧(∀ k x,Bf d1.files k=some x→A5 true m k=false∧ ∃ x0,Bf d.files k=some x0∧x.data.length≤x0.data.length)∧(B6 {d with files:=restF d.files ks,down:=false,fuse:=0}).1.1.snap≤0∧
   ∃ p,runR {d with files:=restF d.files ks,down:=false,fuse:=0}=((p,0),d1)∧p.man=s.man∧p.cut=(s.size:Int):=by
 obtain⟨G,g,bs,ft,n,q,hD,hE,hq,hSq,hqn⟩:=h.rest hok.safe ks;obtain⟨mm,d1,a1,a2,a3,a4,a5,a6,a10,p,a7,a8,a9⟩:=Dead.run (d:={d with files:=restF d.files ks,down:=false,fuse:=0}) hD (rest_ok hok ks) rfl rfl hc;have h1:=a2 q hq hqn;have e:E.take ((G.flatMap (·.2)).length+mm)=G.flatMap (·.2)++bs.take mm:=by
  rw [hE,List.take_append,List.take_of_length_le (by omega),Nat.add_sub_cancel_left]
 refine⟨(G.flatMap (·.2)).length+mm,d1,_,by omega,by rw [hE,ζ];omega,by rw [e];exact a3,rfl,rfl,rfl,rfl,a4,a5,a6,fun k x hx=> ?_,?_,p,a7,a8,a9⟩
 ·obtain⟨b1,x0,b2,b3⟩:=a10 k x hx;refine⟨b1,?_⟩;rcases hz:Bf d.files k with _|z
  ·rw [rest_none _ _ _ hz] at b2;cases b2
  ·obtain⟨c,hc⟩:=rest_act d.files ks k z hz;rw [hc] at b2;obtain rfl:=φ b2;exact⟨z,rfl,η b3 (by show (z.data.take _).length≤_;rw [ω];exact Nat.min_le_right _ _)⟩
 ·obtain⟨x,hx,hxd⟩:=Dm hD.man;unfold B6;rw [Nk (rest_ok hok ks) rfl,hx];dsimp only;rw [hxd,Mv hD.ok];rw [γ (by simp)];exact Int.le_of_eq hD.snap
theorem Mo.dead {g:Sg}  (h:Mo fs s G g bs) (hf:s.man.floor=0):Dead fs s.man s.stride G g bs [] (Cl g bs).length:=
 ⟨h.ok,h.snap,hf,h.segs,h.man,by unfold Cl;rw [ζ];omega,by rw [h.act,List.append_nil];unfold Cl;rw [List.take_of_length_le (μ _)],(fun f hf=>by cases hf),h.seals,h.body,h.cfg.1,h.cnt.2,h.top⟩
theorem Mo.lost {g:Sg}  {S:Nat} (h:Mo fs s G g bs) (hf:s.man.floor=0) (hs:Ke fs G g bs S):Lost fs s.man s.stride (G.flatMap (·.2)++bs) S:=
 ⟨G,g,bs,[],_,h.dead hf,by rw [List.append_nil];exact μ _,rfl,hs⟩
theorem Mo.apart {g:Sg}  (h:Mo fs s G g bs):Aw≠Ad g.num∧ ∀ z∈G,Ad z.1.num≠Ad g.num:=by
 refine⟨(seg_ne h.seg.1).2.1.symm,fun z hz=> ?_⟩;have:=seg_ne_last (Cj h.ok) (g:=z.1) (by rw [h.segs,List.dropLast_concat];exact List.mem_map_of_mem hz);rwa [h.name] at this
theorem Ke.act' {g:Sg} {bs':List (List UInt8)} {S:Nat} {y:Bl} (h:Ke fs G g bs S) (hs:Mo fs s G g bs) (hx:Bf fs (Ad g.num)=some x) (h1: ∀ k,k≠Ad g.num→Bf fs' k=Bf fs k) (h2:Bf fs' (Ad g.num)=some y) (h3:x.safe≤y.safe) (hb: ∃ r,bs'=bs++r):Ke fs' G g bs' S:=by
 obtain⟨x',q,e1,e2,e3,e4,e5⟩:=h.act;obtain rfl:=φ (e1.symm.trans hx);obtain⟨a1,a2⟩:=hs.apart;obtain⟨r,rfl⟩:=hb;exact⟨fun z hz=>h.man z (by rw [←h1 _ a1];exact hz),fun z hz w hw=>h.seals z hz w (by rw [←h1 _ (a2 z hz)];exact hw),y,q,h2,by omega,by rw [ζ];omega,e4,by rw [List.take_append_of_le_length e3];omega⟩
theorem live_append {S:Nat} (h:G7 d s E S) (hb:Du raw) (hl:s.count<512) (ht:lastE s<1099511627776) (hu:((usedF d.files+(Fl s raw).length:Nat):Int)≤d.room):
  ((Ik d s (Fl s raw)).1=(lastE s+1,0)∧(Ik d s (Fl s raw)).2.1=addS s (Fl s raw)∧G7 (Ik d s (Fl s raw)).2.2 (Ik d s (Fl s raw)).2.1 (E++[raw]) S∨
   (Ik d s (Fl s raw)).1=(0,3)∧(Ik d s (Fl s raw)).2.2.down=true∧A0 (Ik d s (Fl s raw)).2.2∧Lost (Ik d s (Fl s raw)).2.2.files s.man s.stride (E++[raw]) S∧Near d.files s.man (Ik d s (Fl s raw)).2.2.files)∧
   (Ik d s (Fl s raw)).2.2.room=d.room∧usedF (Ik d s (Fl s raw)).2.2.files=usedF d.files+(Fl s raw).length∧(Ik d s (Fl s raw)).2.2.files.length=d.files.length:=by
 obtain⟨ho,G,g,bs,hs,rfl,hsf⟩:=h;obtain⟨x,hx,hxd⟩:=Dm hs.act;obtain⟨b1,b2,b3,b4⟩:=at_app ho.ok.rise hx (b:=Fl s raw);have hS:=add_sta hs hb (by have:=hs.cnt.1;omega) ht hx (fun k hk=>b1 k hk) b2 rfl;have hSF:=hsf.act' hs hx b1 b2 (Int.le_refl _) ⟨[raw],rfl⟩;have hE:G.flatMap (·.2)++bs++[raw]=G.flatMap (·.2)++(bs++[raw]):=List.append_assoc _ _ _;have hw:=went_app (P:=fun fs=>fs=Ec d.files (Ae (Ad g.num) (Fl s raw))) (Q:=fun fs=>fs=Ec d.files (Ae (Ad g.num) (Fl s raw))) (ops:=[]) ho.ok ho.up hx hu rfl fun d' f _ n o _=>Oo o n f;rw [hE];unfold Ik;rw [hs.name];by_cases h0:(Bi d (Ae (Ad g.num) (Fl s raw))).2.2.2=0
 ·rw [κ h0];have e:Bk d [Ae (Ad g.num) (Fl s raw)]=((Bi d (Ae (Ad g.num) (Fl s raw))).1,0):=by rw [Dx h0];rfl
  rw [e] at hw;rcases hw.out with⟨_,h2,h3,_⟩|⟨h1,_⟩
  ·simp only at h2;rw [←h2] at hS hSF b3 b4;exact⟨.inl ⟨rfl,rfl,⟨hw.ok,h3,⟨G,g,_,hS,rfl⟩,ho.floor,ho.closed⟩,G,g,_,hS,rfl,hSF⟩,hw.room,b3,b4⟩
  ·cases h1
 ·rw [γ h0];rw [Ch h0] at hw;rcases hw.out with⟨h1,_⟩|⟨h1,_,h3,h4⟩
  ·exact absurd h1 h0
  ·simp only at h1 h3 h4;have hnr:Near d.files s.man (Bi d (Ae (Ad g.num) (Fl s raw))).1.files:=fun k y _ hy=>by
    have hev:(Fl s raw).length=raw.length+20:=Az _ _ _;have hbl:=hb.2;rw [h4] at hy;by_cases hk:k=Ad g.num
    ·subst hk;rw [b2] at hy;obtain rfl:=φ hy;refine⟨x,hx,?_⟩;rw [κ hs.name];show (x.data++Fl s raw).length≤_;rw [ζ];omega
    ·rw [b1 _ hk] at hy;exact⟨y,hy,Nat.le_add_right _ _⟩
   rw [←h4] at hS hSF b3 b4;exact⟨.inr ⟨by rw [h1],h3,hw.ok,hS.lost ho.floor hSF,hnr⟩,hw.room,b3,b4⟩
theorem live_sync {S:Nat} (h:G7 d s E S):
  ((Bi d (Ag (A9 s.man))).2.2.2=0∧G7 (Bi d (Ag (A9 s.man))).1 s E E.length∧Like d (Bi d (Ag (A9 s.man))).1∨
   (Bi d (Ag (A9 s.man))).2.2.2=3∧(Bi d (Ag (A9 s.man))).1.down=true∧A0 (Bi d (Ag (A9 s.man))).1∧(Bi d (Ag (A9 s.man))).1.room=d.room∧(Bi d (Ag (A9 s.man))).1.files=d.files):=by
 obtain⟨ho,G,g,bs,hs,rfl,hsf⟩:=h;obtain⟨x,hx,hxd⟩:=Dm hs.act;obtain⟨b1,b2,b3,b4⟩:=at_sync ho.ok.rise hx;have hdat:=sync_files ho.ok.rise hx;have hw:=went_sync (P:=fun fs=>fs=d.files) (Q:=fun fs=>fs=Ec d.files (Ag (Ad g.num))) (ops:=[]) ho.ok ho.up hx rfl fun d' f _ n o _=>Oo o n f;rw [hs.name];by_cases h0:(Bi d (Ag (Ad g.num))).2.2.2=0
 ·have e:Bk d [Ag (Ad g.num)]=((Bi d (Ag (Ad g.num))).1,0):=by rw [Dx h0];rfl
  rw [e] at hw;rcases hw.out with⟨_,h2,h3,_⟩|⟨h1,_⟩
  ·simp only at h2;rw [←h2] at b1 b2 b3 b4 hdat;have hS:=hs.same hdat;have hc:=hs.cnt;refine .inl ⟨h0,⟨⟨hw.ok,h3,⟨G,g,bs,hS,rfl⟩,ho.floor,ho.closed⟩,G,g,bs,hS,rfl,?_⟩,⟨hw.room,b3,b4,hdat⟩⟩;obtain⟨a1,a2⟩:=hs.apart;refine⟨fun z hz=>hsf.man z (by rw [←b1 _ a1];exact hz),fun z hz w hw=>hsf.seals z hz w (by rw [←b1 _ (a2 z hz)];exact hw),_,bs.length,b2,?_,μ _,by rw [ζ];exact μ _,?_⟩
   ·show ((Hk g).length:Int)≤(x.data.length:Int);rw [hxd];unfold Cl;rw [ζ];omega
   ·show ((Cl g (bs.take bs.length)).length:Int)≤(x.data.length:Int);rw [hxd,List.take_length];exact Int.le_refl _
  ·cases h1
 ·rw [Ch h0] at hw;rcases hw.out with⟨h1,_⟩|⟨h1,_,h3,h4⟩
  ·exact absurd h1 h0
  ·exact .inr ⟨h1,h3,hw.ok,hw.room,h4⟩
theorem mid_lost {g:Sg}  {S:Nat} (hs:Mo fs s G g bs) (hfl:s.man.floor=0) (hsf:Ke fs G g bs S) (hm:Mid fs s fs') (hlen:(Fo s).length≤6220):Lost fs' s.man s.stride (G.flatMap (·.2)++bs) S:=by
 have hf:=Cj hs.ok;obtain⟨x,y,hx,hy,hyd,hxy⟩:=hm.act;rw [hs.name] at hx hy;have hxd:x.data=Cl g bs:=by
  have:=hs.act;rw [D5 hx] at this;exact φ this
 have hsg:=hs.seg;obtain⟨a1,a2⟩:=hs.apart;have hman:Bf fs' Aw=Bf fs Aw:=hm.oth _ (ns_man _ _) (by rw [hs.name];exact a1);have hsl: ∀ z∈G,Bf fs' (Ad z.1.num)=Bf fs (Ad z.1.num):=fun z hz=>hm.oth _ (Pi hf (by rw [hs.segs];exact List.mem_append_left _ (List.mem_map_of_mem hz))) (by rw [hs.name];exact a2 z hz);obtain⟨F,hF⟩: ∃ F:J6,F=⟨3,(Ah s.man).num.toNat,Fa (Ah s.man).first.toNat s.count s.stride s.marks⟩:=⟨_,rfl⟩;have hFS:Fo s=By F.k F.s F.body:=by rw [hF];rfl
 have hFo:FrmOk F∧F.k≠1:=by
  have h1:=hlen;rw [hFS,Az] at h1;rw [hF] at h1 ⊢;refine⟨⟨⟨show 1≤3 by decide,show 3≤7 by decide⟩,?_,by simp only at h1 ⊢;omega⟩,show 3≠1 by decide⟩;show (Ah s.man).num.toNat≤1099511627776;rw [hs.last];omega
 obtain⟨x',q,e1,e2,e3,e4,e5⟩:=hsf.act;obtain rfl:=φ (e1.symm.trans hx);have hSA:Ke fs' G g bs S:=⟨fun z hz=>hsf.man z (by rw [←hman];exact hz),fun z hz w hw=>hsf.seals z hz w (by rw [←hsl z hz];exact hw),y,q,hy,by omega,e3,e4,by omega⟩;have hdead: ∀ ft:List J6,y.data=Hk g++Hl (evFr g.first.toNat bs++ft)→(∀ f∈ft,FrmOk f∧f.k≠1)→Lost fs' s.man s.stride (G.flatMap (·.2)++bs) S:=fun ft hd hft=>
  ⟨G,g,bs,ft,_,⟨hs.ok,hs.snap,hfl,hs.segs,by have:=hs.man;unfold Dh at this ⊢;rw [hman];exact this,by rw [ζ];omega,by rw [D5 hy,hd,List.take_of_length_le (μ _)],hft,fun z hz=>by
   have:=hs.seals z hz;exact⟨by have h9:=this.dat;unfold Dh at h9 ⊢;rw [hsl z hz];exact h9,this.len,this.count,this.foot⟩,hs.body,hs.cfg.1,hs.cnt.2,hs.top⟩,μ _,rfl,hSA⟩
 rcases hyd with h|h
 ·exact hdead [] (by rw [h,hxd,List.append_nil];rfl) fun f hf=>by cases hf
 ·refine hdead [F] ?_ fun f hf=>by rw [List.mem_singleton.1 hf];exact hFo
  rw [h,hxd,hFS,Pc,Iu,show Hl []=[] from rfl,List.append_nil];unfold Cl;rw [List.append_assoc]
theorem mid_near (hm:Mid fs s fs') (hlen:(Fo s).length≤6220):Near fs s.man fs':=fun k z hk hz=>by
 obtain⟨x,y,hx,hy,hyd,_⟩:=hm.act
 by_cases e:k=A9 s.man
 ·subst e
  rw [hy] at hz
  obtain rfl:=φ hz
  refine⟨x,hx,?_⟩
  rw [κ rfl]
  rcases hyd with h|h
  ·rw [h];exact Nat.le_add_right _ _
  ·rw [h,ζ];omega
 ·rw [hm.oth k hk e] at hz
  exact⟨z,hz,Nat.le_add_right _ _⟩
theorem turn_safe {g:Sg}  {S:Nat} (hs:Mo fs s G g bs) (hsf:Ke fs G g bs S) (hq:TurnQ fs s G g bs fs'):
  Ke fs' (G++[(⟨g.num,g.first,s.count,s.size⟩,bs)]) ⟨s.man.next,g.first+(bs.length:Int),0,0⟩ [] (G.flatMap (·.2)++bs).length:=by
 have hf:=Cj hs.ok;obtain⟨a1,a2⟩:=hs.apart;obtain⟨x,hx,hxd⟩:=Dm hq.sta.act;refine⟨hq.safe _ (.inl rfl),fun z hz w hw=> ?_,x,0,hx,?_,μ _,?_,?_⟩
 ·rcases List.mem_append.1 hz with hz|hz
  ·have hzs:=hs.sealSeg hz;have h1:Ad z.1.num≠Ad s.man.next:=by
    intro e;have:=hq.sta.apart.2 z (List.mem_append_left _ hz);exact this e
   rw [hq.oth _ (seg_ne hzs.1).2.1 (a2 z hz) h1 (seg_ne hzs.1).1] at hw;exact hsf.seals z hz w hw
  ·rw [List.mem_singleton.1 hz] at hw;exact hq.safe _ (.inr (.inl rfl)) w hw
 ·rw [hq.safe _ (.inr (.inr rfl)) x hx,hxd];unfold Cl;rw [ζ];omega
 ·simp
 ·rw [hq.safe _ (.inr (.inr rfl)) x hx,hxd];exact Int.le_refl _
theorem live_turn {S:Nat} (h:G7 d s E S) (ht:turnE d s more=0):
  ((Bj d s more).1=0∧(Bj d s more).2.1=turned s∧G7 (Bj d s more).2.2 (turned s) E E.length∧usedF (Bj d s more).2.2.files≤usedF d.files+(Fo s).length+(Jy s).length+(Ct (Bu s)).1.length∧(Bj d s more).2.2.files.length≤d.files.length+2∨
   (Bj d s more).1=3∧(Bj d s more).2.2.down=true∧A0 (Bj d s more).2.2∧Lost (Bj d s more).2.2.files s.man s.stride E S∧Near d.files s.man (Bj d s more).2.2.files)∧(Bj d s more).2.2.room=d.room:=by
 have hfl:=K4 h.1;obtain⟨ho,G,g,bs,hs,rfl,hsf⟩:=h;obtain⟨_,_,hnx,_⟩:=Ku ht;have hnb:=(Cj hs.ok).next;have hw:=seal_went (d:=Df d s.size) (P:=fun fs'=>Lost fs' s.man s.stride (G.flatMap (·.2)++bs) S∧Near d.files s.man fs') (more:=more) (rdD_okS ho.ok _) ho.up hs ht (fun fs' hm=>⟨mid_lost hs ho.floor hsf hm hfl,mid_near hm hfl⟩);unfold Bj;rw [κ ht];by_cases h0:(Bk (Df d s.size) (Ds s)).2=0
 ·rw [κ h0];rcases hw.out with⟨_,h2,h3,_⟩|⟨h1,_⟩
  ·refine⟨.inl ⟨rfl,rfl,⟨⟨hw.ok,h3,⟨_,_,_,h2.sta,by simp⟩,ho.floor,ho.closed⟩,_,_,_,h2.sta,by simp,turn_safe hs hsf h2⟩,h2.used,h2.len⟩,hw.room⟩
  ·rw [h0] at h1;cases h1
 ·rw [γ h0];rcases hw.out with⟨h1,_⟩|⟨h1,_,h3,h4⟩
  ·exact absurd h1 h0
  ·exact⟨.inr ⟨h1,h3,hw.ok,h4⟩,hw.room⟩
theorem Ke.less {g:Sg}  {S S':Nat} (h:Ke fs G g bs S) (hs:S'≤S):Ke fs G g bs S':=by
 obtain⟨x,q,e1,e2,e3,e4,e5⟩:=h.act;exact⟨h.man,h.seals,x,q,e1,e2,e3,η hs e4,e5⟩
theorem G7.less {S S':Nat} (h:G7 d s E S) (hs:S'≤S):G7 d s E S':=by
 obtain⟨ho,G,g,bs,h1,h2,h3⟩:=h;exact⟨ho,G,g,bs,h1,h2,h3.less hs⟩
theorem Lost.less {m:Da} {S S':Nat} (h:Lost fs m stride E S) (hs:S'≤S):Lost fs m stride E S':=by
 obtain⟨G,g,bs,ft,n,h1,h2,h3,h4⟩:=h;exact⟨G,g,bs,ft,n,h1,h2,h3,h4.less hs⟩
structure F6 (d:Af) (s:C6) (E:List (List UInt8)) (k:Nat):Prop where
 next:s.man.next≤(k:Int)+2
 gen:s.man.gen≤(k:Int)+1
 steps:d.steps≤(k:Int)*50+50
 len:E.length≤k
 room:d.room=16777216
 used:usedF d.files≤100+k*17660
 files:d.files.length≤2+k*2
 segs:s.man.segs.length≤1+k
theorem F6.turnE (h:F6 d s E k) (ho:Fe d s E) (hk:k≤210) (hc:s.count≠0) (hm:more≤1060):Go.Proofs.YtgkdenejkcngnaaGreatDoor.turnE d s more=0:=by
 have h1:=h.room;have h2:=h.used;have h3:=h.files;have h4:=h.segs;have h5:=h.next;have h6:=h.gen;have h7:=ho.last;have h8:=h.len;have f1:=K4 ho;have f2:=K6 ho (by omega) (by omega);have f3:=Pg (Bu s);unfold Go.Proofs.YtgkdenejkcngnaaGreatDoor.turnE;rw [γ hc,γ (by omega),γ (by omega),γ (by omega)]
theorem turnM_len (h:s.man.segs≠ []):(Bu s).segs.length=s.man.segs.length+1:=by
 have:=Ψ.2 h;unfold Bu;simp only [ζ,List.length_dropLast,τ,Φ];omega
theorem turn_num {S:Nat} (h:G7 d s E S) (hn:F6 d s E k) (hk:k≤210) (hc:s.count≠0) (hm:more≤1060) (hu:usedF (Bj d s more).2.2.files≤usedF d.files+(Fo s).length+(Jy s).length+(Ct (Bu s)).1.length) (hl:(Bj d s more).2.2.files.length≤d.files.length+2) (hr:(Bj d s more).2.2.room=d.room):F6 (Bj d s more).2.2 (turned s) E (k+1):=by
 have f1:=K4 h.1;have f2:=K6 h.1 (by have:=hn.next;omega) (by have:=h.1.last;have:=hn.len;omega);have f3:=Pg (Bu s);have hte:=hn.turnE h.1 hk hc hm;have hst:(Bj d s more).2.2.steps≤d.steps+9:=by
  have:=Jf (Ds s) (Df d s.size);have e:(Ds s).length=9:=rfl;have e2:(Df d s.size).steps=d.steps:=rfl;unfold Bj;rw [κ hte];split
  ·show (Bk (Df d s.size) (Ds s)).1.steps≤_;omega
  ·show (Bk (Df d s.size) (Ds s)).1.steps≤_;omega
 exact⟨by show s.man.next+1≤_;have:=hn.next;omega,by show s.man.gen+1≤_;have:=hn.gen;omega,by have:=hn.steps;omega,by have:=hn.len;omega,hr.trans hn.room,by have:=hn.used;omega,by have:=hn.files;omega,by show (Bu s).segs.length≤_;rw [turnM_len h.1.seg];have:=hn.segs;omega⟩
structure Gone (d:Af) (stride:Nat) (E:List (List UInt8)) (S k:Nat):Prop where
 ok:A0 d
 room:d.room=16777216
 steps:d.steps≤(k:Int)*50+50
 len:E.length≤k
 lost: ∃ m fs0,Lost d.files m stride E S∧Near fs0 m d.files∧m.next≤(k:Int)+2∧m.gen≤(k:Int)+1∧m.segs.length≤1+k∧Fs fs0∧usedF fs0≤100+k*17660∧fs0.length≤2+k*2
theorem live_safe {S:Nat} (h:G7 d s E S):S≤E.length:=by
 obtain⟨_,G,g,bs,_,e,hs⟩:=h;obtain⟨_,q,_,_,h1,h2,_⟩:=hs.act;rw [e,ζ];omega
theorem G7.gone {S:Nat} (h:G7 d s E S) (hn:F6 d s E k):Gone d s.stride E S k:=by
 have hs:=hn.steps;have hl:=hn.len;obtain⟨ho,G,g,bs,h1,rfl,h2⟩:=h;exact⟨ho.ok,hn.room,hs,hl,s.man,d.files,h1.lost ho.floor h2,Near.refl _ _,hn.next,hn.gen,hn.segs,ho.ok.rise,hn.used,hn.files⟩
theorem F6.gone {E':List (List UInt8)} {S S' n:Nat} (h:G7 d s E S) (hn:F6 d s E k) (hok:A0 d') (hr:d'.room=d.room) (hst:d'.steps≤d.steps+40) (hl:Lost d'.files s.man s.stride E' S'∧Near d.files s.man d'.files) (hE:E'.length≤k+1) (hkn:k+1≤n):Gone d' s.stride E' S' n:=by
 have h1:=hn.steps;have h2:=hn.next;have h3:=hn.gen;have h4:=hn.segs;have h5:=hn.used;have h6:=hn.files;have g1:s.man.next≤(n:Int)+2:=by omega
 have g2:s.man.gen≤(n:Int)+1:=by omega
 have g5:usedF d.files≤100+n*17660:=η h5 (Nat.add_le_add_left (Nat.mul_le_mul_right _ (by omega)) _);have g6:d.files.length≤2+n*2:=by omega
 have g7:d'.steps≤(n:Int)*50+50:=by omega
 exact⟨hok,hr.trans hn.room,g7,by omega,s.man,d.files,hl.1,hl.2,g1,g2,by omega,h.1.ok.rise,g5,g6⟩
theorem turn_steps:(Bj d s more).2.2.steps≤d.steps+9:=by
 have:=Jf (Ds s) (Df d s.size);have e:(Ds s).length=9:=rfl;have e2:(Df d s.size).steps=d.steps:=rfl;unfold Bj;split
 ·split
  ·show (Bk (Df d s.size) (Ds s)).1.steps≤_;omega
  ·show (Bk (Df d s.size) (Ds s)).1.steps≤_;omega
 ·split<;>(simp only [Df];omega)
theorem live_push {S:Nat} (h:G7 d s E S) (hn:F6 d s E k) (hk:k≤208) (hb:Du raw):
  ((Dg d s raw).1=((E.length:Int)+1,0)∧G7 (Dg d s raw).2.2 (Dg d s raw).2.1 (E++[raw]) S∧F6 (Dg d s raw).2.2 (Dg d s raw).2.1 (E++[raw]) (k+1)∧(Dg d s raw).2.1.stride=s.stride∧(Dg d s raw).2.1.segEv=s.segEv∨
   (Dg d s raw).1=(0,3)∧(Dg d s raw).2.2.down=true∧ ∃ E',(E'=E∨E'=E++[raw])∧Gone (Dg d s raw).2.2 s.stride E' S (k+2)):=by
 have hla:=h.1.last;have hlen:=hn.len;have hraw:=hb.2;have hev:(Fl s raw).length=raw.length+20:=Az _ _ _;have hcf:(1≤s.segEv∧s.segEv≤512)∧s.count≤512:=by
  obtain⟨G,g,bs,hs,_⟩:=h.1.sta;exact⟨hs.cfg.2,by have:=hs.cnt;omega⟩
 have hro:=hn.room;have hus:=hn.used;unfold Dg;rw [γ (by omega)];by_cases hc:s.segEv≤s.count
 ·rw [κ hc];have hc0:s.count≠0:=by omega
  have hte:=hn.turnE (more:=(Fl s raw).length) h.1 (by omega) hc0 (by omega);obtain⟨t1,t2⟩:=live_turn h hte;rcases t1 with⟨a1,a2,a3,a4,a5⟩|⟨a1,a2,a3,a4⟩
  ·rw [κ a1];have hN:=turn_num h hn (by omega) hc0 (by omega) a4 a5 t2;have hev2:Fl (turned s) raw=Fl s raw:=by
    unfold Fl;rw [a3.1.last,hla]
   rw [a2];have hte2:=Ku hte;obtain⟨b1,b2,b3,b4⟩:=live_append (raw:=raw) a3 hb (by show 0<512;decide) (by rw [a3.1.last];omega) (by rw [hev2,t2];omega);rw [hev2] at b1 b2 b3 b4;have hst:(Ik (Bj d s (Fl s raw).length).2.2 (turned s) (Fl s raw)).2.2.steps≤d.steps+40:=by
    have h2:=(Bx (Bj d s (Fl s raw).length).2.2 (Ae (A9 (turned s).man) (Fl s raw))).1;have h3:=turn_steps (d:=d) (s:=s) (more:=(Fl s raw).length);unfold Ik;split
    ·simp only;omega
    ·simp only;omega
   rcases b1 with⟨c1,c2,c3⟩|⟨c1,c2,c3,c4⟩
   ·refine .inl ⟨by rw [c1,a3.1.last],c3.less (by have:=h.2;obtain⟨G,g,bs,e1,e2,e3⟩:=this;obtain⟨x,q,f1,f2,f3,f4,f5⟩:=e3.act;rw [e2,ζ];omega),?_,by rw [c2];rfl,by rw [c2];rfl⟩;rw [c2];exact⟨by show s.man.next+1≤_;have:=hn.next;omega,by show s.man.gen+1≤_;have:=hn.gen;omega,by have:=hn.steps;omega,by rw [ζ,List.length_singleton];omega,by rw [b2,t2];exact hro,by
     have f1:=K4 h.1;have f2:=K6 h.1 (by have:=hn.next;omega) (by omega);have f3:=Pg (Bu s);omega,by have:=hn.files;omega,hN.segs⟩
   ·have hG:=fun hs=>F6.gone (n:=k+2) (S':=S) a3 hN c3 b2 hs ⟨c4.1.less (live_safe h),c4.2⟩ (by rw [ζ,List.length_singleton];omega) (μ _);refine .inr ⟨c1,c2,_,.inr rfl,hG ?_⟩;have h2:=(Bx (Bj d s (Fl s raw).length).2.2 (Ae (A9 (turned s).man) (Fl s raw))).1;unfold Ik;split
    ·simp only;omega
    ·simp only;omega
  ·rw [γ (by rw [a1];decide)];exact .inr ⟨by rw [a1],a2,_,.inl rfl,F6.gone h hn a3 t2 (by have:=turn_steps (d:=d) (s:=s) (more:=(Fl s raw).length);show (Bj d s (Fl s raw).length).2.2.steps≤_;omega) a4 (by omega) (by omega)⟩
 ·rw [γ hc,γ (by omega)];obtain⟨b1,b2,b3,b4⟩:=live_append (raw:=raw) h hb (by omega) (by omega) (by omega);have hst:(Ik d s (Fl s raw)).2.2.steps≤d.steps+1:=by
   have h2:=(Bx d (Ae (A9 s.man) (Fl s raw))).1;unfold Ik;split
   ·simp only;omega
   ·simp only;omega
  rcases b1 with⟨c1,c2,c3⟩|⟨c1,c2,c3,c4⟩
  ·refine .inl ⟨by rw [c1,hla],c3,?_,by rw [c2];rfl,by rw [c2];rfl⟩;rw [c2];exact⟨by show s.man.next≤_;have:=hn.next;omega,by show s.man.gen≤_;have:=hn.gen;omega,by have:=hn.steps;omega,by rw [ζ,List.length_singleton];omega,by rw [b2];exact hro,by omega,by have:=hn.files;omega,by show s.man.segs.length≤_;have:=hn.segs;omega⟩
  ·exact .inr ⟨c1,c2,_,.inr rfl,F6.gone h hn c3 b2 (by omega) c4 (by rw [ζ,List.length_singleton];omega) (by omega)⟩
theorem live_rotate {S:Nat} (h:G7 d s E S) (hn:F6 d s E k) (hk:k≤208):
  (s.count=0∧Bj d s 0=(93,s,d)∨(Bj d s 0).1=0∧G7 (Bj d s 0).2.2 (Bj d s 0).2.1 E E.length∧F6 (Bj d s 0).2.2 (Bj d s 0).2.1 E (k+1)∧(Bj d s 0).2.1.stride=s.stride∧(Bj d s 0).2.1.segEv=s.segEv∨
   (Bj d s 0).1=3∧(Bj d s 0).2.2.down=true∧Gone (Bj d s 0).2.2 s.stride E S (k+1)):=by
 by_cases hc:s.count=0
 ·refine .inl ⟨hc,?_⟩;have e:turnE d s 0=93:=by unfold turnE;rw [κ hc]
  unfold Bj;rw [e,γ (by decide),γ (by decide)]
 ·have hte:=hn.turnE (more:=0) h.1 (by omega) hc (by omega);obtain⟨t1,t2⟩:=live_turn h hte;rcases t1 with⟨a1,a2,a3,a4,a5⟩|⟨a1,a2,a3,a4⟩
  ·have hN:=turn_num h hn (by omega) hc (by omega) a4 a5 t2;refine .inr (.inl ⟨a1,by rw [a2];exact a3,by rw [a2];exact hN,by rw [a2];rfl,by rw [a2];rfl⟩)
  ·exact .inr (.inr ⟨a1,a2,F6.gone h hn a3 t2 (by have:=turn_steps (d:=d) (s:=s) (more:=0);omega) a4 (by have:=hn.len;omega) (μ _)⟩)
theorem F6.like (h:F6 d s E k) (hl:Like d d') (hs:d'.steps≤d.steps+40):F6 d' s E (k+1):=
 ⟨by have:=h.next;omega,by have:=h.gen;omega,by have:=h.steps;omega,by have:=h.len;omega,hl.room.trans h.room,by have:=h.used;have:=hl.used;omega,by have:=h.files;have:=hl.len;omega,by have:=h.segs;omega⟩
theorem live_reopen {S:Nat} (h:G7 d s E S):
  (∃ d1,runR d=((⟨false,s.man,[],s.size,lastE s⟩,0),d1)∧G7 d1 s E E.length∧Like d d1∧d1.steps≤d.steps+1)∨
   ∃ d1,runR d=((Ay,3),d1)∧d1.down=true∧A0 d1∧d1.room=d.room∧d1.files=d.files∧d1.steps≤d.steps+1:=by
 obtain⟨ho,G,g,bs,hs,hE,hsf⟩:=h;obtain⟨x,hx,hxd⟩:=Dm hs.act;have hp:(Bq d).1=(⟨false,s.man,[],s.size,lastE s⟩,0):=by rw [planD_on ho.ok ho.up];exact find_sta hs _
 generalize hn:(Bq d).2=n;have hL:G7 (Df d n) s E S:=⟨ho.rd n,G,g,bs,hs,hE,hsf⟩;have hx':Bf (Df d n).files (A9 s.man)=some x:=by rw [hs.name];exact hx
 have hap:B1 (Df d n) ⟨false,s.man,[],s.size,lastE s⟩=Bk (Df d n) [Ag (A9 s.man)]:=by
  unfold B1;rw [show (⟨false,s.man,[],s.size,lastE s⟩:Pl).man=s.man from rfl,hs.ok];simp only [if_true];have e:M4 (Df d n) ⟨false,s.man,[],s.size,lastE s⟩=[Ek (A9 s.man),Ag (A9 s.man)]:=by
   unfold M4 Je;simp only [List.map_nil,List.nil_append,Bool.false_eq_true,if_false,List.any_nil];rw [hx'];unfold cutOps;dsimp only;rw [γ (by rw [hxd,hs.size];omega)];rfl
  have hoo:=Ey hL.1.ok hL.1.up hx';rw [e,Dx (by rw [sizeO hoo hx']),sizeO hoo hx']
 have h0:(Bq d).1.2=0:=by rw [hp]
 have hst:=(Bx (Df d n) (Ag (A9 s.man))).1;rcases live_sync hL with⟨a1,a2,a3⟩|⟨a1,a2,a3,a4,a5⟩
 ·have e:B1 (Df d n) ⟨false,s.man,[],s.size,lastE s⟩=((Bi (Df d n) (Ag (A9 s.man))).1,0):=by rw [hap,Dx a1];rfl
  refine .inl ⟨_,?_,a2,⟨a3.room,a3.used,a3.len,a3.dat⟩,hst⟩;rw [runR_good h0 (by rw [hn,hp];exact congrArg (·.2) e),hn,hp];rw [show (((⟨false,s.man,[],s.size,lastE s⟩:Pl),(0:Int)).1)=⟨false,s.man,[],s.size,lastE s⟩ from rfl,e]
 ·have e:B1 (Df d n) ⟨false,s.man,[],s.size,lastE s⟩=((Bi (Df d n) (Ag (A9 s.man))).1,3):=by rw [hap,Ch (by rw [a1];decide),a1]
  refine .inr ⟨_,?_,a2,a3,a4,a5,hst⟩;rw [runR_off h0 (by rw [hn,hp];show (B1 (Df d n) ⟨false,s.man,[],s.size,lastE s⟩).2≠0;rw [e];show (3:Int)≠0;decide),hn,hp];rw [show (((⟨false,s.man,[],s.size,lastE s⟩:Pl),(0:Int)).1)=⟨false,s.man,[],s.size,lastE s⟩ from rfl,e]
section
variable {w w1 w2 : World} {b f m : Nat} {L L1 : List Aq} {d d1 d2 : Af} {s s' : C6} {mv sv : Value}
theorem wp_appMk (x y:Operand) (ho:o.op= .call {callee:= .builtin .append,args:= #[x,y],argTypes:= #[78,78]})  (p:Mk)
  (hs:a.eval x=v) (hy:a.eval y= .slice (some ⟨w.heap.size,0,none⟩) 1 1) (hown:Es w 0 v ms) (hl:ms.length≤100000)
  (h: ∀ v' w',Es w' 0 v' (ms++[p])→Ab (fun k=>v.ownBlock=some k) w w'→v'.oneCell'=true→(∀ k,v'.ownBlock=some k→v.ownBlock=some k∨w.heap.size≤k)→K (a.put o.dst v') w'):o.wp prog a (w.alloc (.cells #[Vi Vk p.s,Vi Vk p.p] 135)) K Q:=by
 obtain⟨i0,hi,hz0,hz1,hz2⟩:=info_parts infoMk;have hb:=Aa w (.cells #[Vi Vk p.s,Vi Vk p.p] 135);obtain⟨v',w',hr,hown',hg,hnew⟩:=I6 (P:=prog) (w.alloc (.cells #[Vi Vk p.s,Vi Vk p.p] 135)) 0 78 o.type 135 i0 (mkV ⟨0,0⟩) 2 16 underlying78 hi hz0 hz1 hz2 rfl (by decide) v ms.length (Mb ms) (hown.later hb) ⟨w.heap.size,0,none⟩ 1 1 [Vi Vk p.s,Vi Vk p.p] rfl (fun j u hj=>by
  rw [Cr,Nat.zero_add,World.cell?_alloc_new];simpa using hj) (fun u hu=>by
  simp at hu;rcases hu with rfl|rfl<;>rfl) (by unfold maxLen;omega) (by omega) (θ _) (by decide)
 unfold Oper.wp execOp;simp only [ho,resolve,invoke,builtin,Sem.run_bind,Sem.run_pure,Result.andThen_ok,List.map_toArray,List.map_cons,List.map_nil,hs,hy,hr];refine h v' w' ?_ ((Ab.below hb).trans (Ab.grown (S:=fun k=>v.ownBlock=some k) hg fun _ hk=>hk) fun _ h=> .inl h) ?_ fun k hk=> ?_
 ·unfold Es;rw [ζ,mkCells_snoc];exact hown'
 ·obtain⟨_,_,e,_⟩:=Aj hown';rw [e];rfl
 ·rcases hnew with h|h
  ·exact .inl (h▸hk)
  ·rw [h] at hk;have:=φ hk;have:=hb.size;exact .inr (by omega)
theorem SJ.mark (h:SJ w b f m L d s mv sv)  (hm:Es w1 0 v' s'.marks) (ht:Ab (fun k=>mv.ownBlock=some k) w w1) (hn: ∀ k,v'.ownBlock=some k→mv.ownBlock=some k∨w.heap.size≤k)
  (e:(Kc f s mv sv).setIfInBounds 2 v'=Kc f s' v' sv) (e2:s'.man.segs=s.man.segs):SJ (w1.setCell ⟨b,2,none⟩ v') b f m L d s' v' sv∧Ab (Br b mv f m L) w (w1.setCell ⟨b,2,none⟩ v')∧ ∀ k,Br b v' f m L k→Br b mv f m L k∨w.heap.size≤k:=by
 have hs:Ab (fun k=>k=b) w1 (w1.setCell ⟨b,2,none⟩ v'):=Ab.setCell _ _ _ rfl;have ha:Ab (fun k=>mv.ownBlock=some k∨k=b) w (w1.setCell ⟨b,2,none⟩ v'):=(ht.mono fun _ hk=> .inl hk).trans hs fun _ hk=> .inl (.inr hk);have hb:Dy w1 b f s mv sv:=h.blk.keep (ht.block b h.blk.lt h.sep.2.1);have hsub: ∀ k,Br b v' f m L k→Br b mv f m L k∨w.heap.size≤k:=by
  rintro k (hk|hk|hk)
  ·exact .inl (.inl hk)
  ·exact(hn k hk).imp (fun x=> .inr (.inl x)) id
  ·exact .inl (.inr (.inr hk))
 refine⟨⟨hb.set 2 v' e,h.fs.turned ha (fun k hk hc=> ?_),hm.kept' (fun k hk=>hs.block k (mk_lt hm k hk) fun hc=> ?_),?_,h.nib.turned ha (fun hc=> ?_) h.nib.lt,⟨η h.gl.1 ha.size,fun k hk hc=> ?_⟩,h.sep.1,fun hc=> ?_,fun k hk hc=> ?_⟩,ha.mono fun k hk=> ?_,hsub⟩
 ·rcases hc with hc|hc
  ·exact h.sep.2.2 k hc hk
  ·exact h.sep.1 (hc▸hk)
 ·rcases hn k hk with h1|h1
  ·exact h.sep.2.1 (hc▸h1)
  ·have:=h.blk.lt;omega
 ·rw [e2];refine(h.sg.low.turned ha fun k hk hc=>hk.1 ?_).mono fun k hk hc=> ?_
  ·rcases hc with hc|hc
   ·exact .inr (.inl hc)
   ·exact .inl hc
  ·rcases hsub k hc with hc|hc
   ·exact hk.1 hc
   ·omega
 ·rcases hc with hc|hc
  ·exact h.gl.2 _ (by decide) (.inr (.inl hc))
  ·exact h.gl.2 _ (by decide) (.inl hc)
 ·rcases hsub k hc with hc|hc
  ·exact h.gl.2 k hk hc
  ·have:=h.gl.1;omega
 ·rcases hn b hc with h1|h1
  ·exact h.sep.2.1 h1
  ·have:=h.blk.lt;omega
 ·rcases hn k hk with h1|h1
  ·exact h.sep.2.2 k h1 hc
  ·have:=h.fs.lt k hc;omega
 ·rcases hk with hk|hk
  ·exact .inr (.inl hk)
  ·exact .inl hk
def PushQ (w:World) (b f m:Nat) (L:List Aq) (mv:Value) (R:(Int×Int)×C6×Af) (e:Ending) (w':World):Prop:=e= .returned (.tuple #[Vi Vk R.1.1,Vi Vk R.1.2])∧E9 w b f m L mv R.2.2 R.2.1 w'
end
section
variable {w w1 w2 : World} {b f m : Nat} {L L1 : List Aq} {d d1 d2 : Af} {s s' : C6} {mv sv : Value}
theorem As.disk2 {L':List Aq} {mv':Value}  (h:As (fun k=> ¬ Br b mv f m L k) w v l) (ht:Ab (Br b mv f m L) w w1) (hL: ∀ k,Br b mv' f m L' k→Br b mv f m L k∨w.heap.size≤k):As (fun k=> ¬ Br b mv' f m L' k) w1 v l:=
 (h.low.turned ht fun _ hk hc=>hk.1 hc).mono fun k hk hc=>by
  rcases hL k hc with hc|hc
  ·exact hk.1 hc
  ·omega
structure Fit (d:Af) (s:C6) (n:Nat):Prop where
 sb:SB s
 marks:s.marks.length≤512
 room:s.size+n+20≤67108864
 full:s.count<s.segEv
 steps:d.steps+60<4611686018427387904
def PushMid (w w5:World) (b f m:Nat) (L:List Aq) (mv vB:Value) (B:List UInt8) (n:Nat) (le:Int) (R:(Int×Int)×C6×Af):Prop:=
 ∃ L5 mv5 sv5 d5 s5,SJ w5 b f m L5 d5 s5 mv5 sv5∧Ab (Br b mv f m L) w w5∧(∀ k,Br b mv5 f m L5 k→Br b mv f m L k∨w.heap.size≤k)∧As (fun k=> ¬ Br b mv5 f m L5 k) w5 vB B∧Fit d5 s5 n∧le=lastE s5∧Ik d5 s5 B=R
theorem stoPush_any (raw:List UInt8) (rv:Value) (h:SJ w b f m L d s mv sv) (hs:SB s) (hl:raw.length≤1040) (hr:As (fun k=> ¬ Br b mv f m L k) w rv raw) (hfit:s.count<s.segEv→Fit d s raw.length)
  (htn:s.segEv≤s.count→(∀ W,SJ W b f m L d s mv sv→Calls prog 52 #[.pointer (some ⟨b,0,none⟩),Vi Vk ((raw.length+20:Nat):Int)] W (StepQ W b f m L mv (Bj d s (raw.length+20))))
   ∧((Bj d s (raw.length+20)).1=0→Fit (Bj d s (raw.length+20)).2.2 (Bj d s (raw.length+20)).2.1 raw.length∧lastE s=lastE (Bj d s (raw.length+20)).2.1)):
  Calls prog 40 #[.pointer (some ⟨b,0,none⟩),rv] w (PushQ w b f m L mv (Dg d s raw)):=by
 have HL1:=Qh (F2 h hs);have HJ:=Qh h;have HSB:=Qh hs;have HR:=Qh hr;have HFI:=Qh hfit;have HTN:=Qh htn;have hlo:0≤lastE s:=by unfold lastE;have:=hs.first;omega
 obtain⟨R,hR⟩: ∃ R,Dg d s raw=R:=⟨_,rfl⟩;rw [hR];unfold Dg at hR;obtain⟨orv,crv,rfl,_,_⟩:=id hr;rcases hq:decide (1099511627776≤lastE s) with _|_;rotate_left
 ·rw [κ (ψ hq)] at hR;subst hR;clear h hs hl hr hlo HR HSB hfit htn HFI HTN;generalize lastE s=le at*;go_enter func40,ntmps40;go_wp2_with fail;refine HL1.out.mono ?_;rintro e w1 ⟨rfl,hb1⟩;have HP:=Qh (E9.below HJ.out hb1);clear hb1;go_wp2;go_ret2;exact⟨rfl,HP.out⟩
 have hql:=Γ hq;rw [γ hql] at hR;have hw1:IntKind.i64.wrap (lastE s+1)=lastE s+1:=by rw [ν];omega
 have HEV:=Qs (Cx 1 (lastE s+1) raw=(Fl s raw,0)) (by rw [Nl (by omega) (by omega)];rfl);have hel:(Fl s raw).length=raw.length+20:=Az _ _ _;rw [hel,←hel] at hR;rw [←hel] at HTN;have HRL:=Qh hl;clear h hs hl hr hlo hql hfit htn;obtain⟨B,hB⟩: ∃ B,B=Fl s raw:=⟨_,rfl⟩;rw [←hB] at HEV hel hR HTN;have HEL:=Qh hel;clear hB hel;have HLE:=Qh (fun W (hB:Below w.heap.size w W)=>F2 (HJ.out.below hB) HSB.out);obtain⟨le,hle⟩: ∃ le,le=lastE s:=⟨_,rfl⟩;rw [←hle] at HLE HL1 HEV hw1 hq HTN;have HLF:=Qh hle;clear hle;have HW1:=Qh hw1;go_enter func40,ntmps40;go_wp2_with fail;refine HL1.out.mono ?_;rintro e w1 ⟨rfl,hb1⟩;have HB1:=Qh hb1;clear hb1 HL1;go_wp2_with fail;refine(HLE.out w1 HB1.out).mono ?_;rintro e w2 ⟨rfl,hb2⟩;have HB2:=Qh (Below.next HB1.out hb2);clear hb2 HB1 HLE;have HFr:=Qh (by have:=frame_any 1 (le+1) raw _ w2 (HR.out.below HB2.out).brow (HJ.out.below HB2.out).nib;rw [HEV.out] at this;exact this);unfold Cv at HFr;go_wp2_with fail;refine HFr.out.mono ?_;rintro e w3 ⟨v3,rfl,h3,hb3⟩;obtain⟨o3,c3',rfl,_,_⟩:=Aj h3;have HB3:=Qh (Below.next HB2.out hb3);have HJ3:=Qh (HJ.out.below HB3.out);have HF3:=Qh (F8 (A:=fun k=> ¬ Br b mv f m L k) h3 fun k hk hc=>by have:=HJ.out.lt k hc;have:=HB2.out.size;omega);clear h3 hb3 HFr HB2 hw1;go_wp2_with fail;have C0:=Qs (w3.cell? ⟨b,0,none⟩=some (Vi Vk (s.count:Int))) (HJ3.out.blk.cell 0);have C5:=Qs (w3.cell? ⟨b,5,none⟩=some (Vi Vk (s.segEv:Int))) (HJ3.out.blk.cell 5);obtain⟨ge,hge⟩: ∃ ge,decide (s.segEv≤s.count)=ge:=⟨_,rfl⟩;have HGE:=Qh hge;clear hge;refine ε (S:=fun w'=>Below w3.heap.size w3 w') (by kernel_rfl) (Ac w3 1) (fun hHeld=> ?_);have FX1:=Qh (fun(wF:World) (hSw:(fun w'=>Below w3.heap.size w3 w') wF)=>And.intro ((cell_later hSw C0.out)) ((cell_later hSw C5.out)));refine tf FX1 0 rfl ?_;refine tf FX1 1 rfl ?_;refine tf FX1 2 rfl ?_;refine tf FX1 3 rfl ?_;refine tf FX1 4 rfl ?_;refine tf FX1 5 rfl ?_;refine tf FX1 6 rfl ?_;refine tf FX1 7 rfl ?_;refine tf FX1 8 rfl ?_;refine tf FX1 9 rfl ?_;clear FX1;have FX2:=Qh (fun(wF:World) (hSw:(fun w'=>Below w3.heap.size w3 w') wF)=>(HGE.out));refine tf FX2 10 rfl ?_;clear FX2;have HB4:=Qs (Below w.heap.size w (World.drew w3)) (Below.next HB3.out (Ac w3 1));have HF4:=Qh (show As _ (World.drew w3) _ B from HF3.out.below (Ac w3 1));clear HB3 HJ3 HF3 C0 C5;refine Ξ (by kernel_rfl) ?_ _;clear hHeld;generalize World.drew w3=w4 at*;have HJ4:=Qh (HJ.out.below HB4.out);have hge:=HGE.out;rcases ge with _|_
 focus
  rw [γ (Γ HGE.out)] at hR;have c3:w4.cell? ⟨b,3,none⟩=some (.pointer (some ⟨f,0,none⟩)):=HJ4.out.blk.cell 3;have HFE:=Qh (fsFree_any w4 f m d L HJ4.out.fs);rcases hfr:decide (d.room - (usedF d.files:Int)<(B.length:Int)) with _|_;rotate_left
  ·rw [κ (ψ hfr)] at hR;subst hR;generalize d.room - (usedF d.files:Int)=fr at*;go_wp2_with fail;refine HFE.out.mono ?_;rintro e w5 ⟨rfl,hb5⟩;have HP:=Qh (E9.below HJ.out (Below.next HB4.out hb5));clear hb5;go_wp2;go_ret2;exact⟨rfl,HP.out⟩
  rw [γ (Γ hfr)] at hR;generalize d.room - (usedF d.files:Int)=fr at*;go_wp2_with fail;refine HFE.out.mono ?_;rintro e w5 ⟨rfl,hb5⟩;have HMID:=Qs (PushMid w w5 b f m L mv (.slice o3 B.length c3') B raw.length le R) ⟨L,mv,sv,d,s,HJ4.out.below hb5,Ab.below (Below.next HB4.out hb5),fun _ h=> .inl h,HF4.out.below hb5,HFI.out (by have:=Γ HGE.out;omega),HLF.out,hR⟩;clear hb5 HB4 HJ4 HF4 HFE c3 hge HGE HFI HTN HLF hR HR HSB HJ;go_wp2_with fail
 rotate_left
 focus
  rw [κ (ψ HGE.out)] at hR;obtain⟨htc,htf⟩:=HTN.out (ψ HGE.out);obtain⟨T,hT⟩: ∃ T,T=Bj d s B.length:=⟨_,rfl⟩;rw [←hT] at htc htf hR;obtain⟨E1,s5,d5⟩:=T;dsimp only at htc htf hR;have HTC:=Qh (htc w4 HJ4.out);have HTF:=Qh htf;clear htc htf hT;rcases he0:(E1==0) with _|_
  ·have hne: ¬ E1=0:=by simpa using he0
   rw [γ hne] at hR;subst hR;go_wp2_with fail;unfold StepQ at HTC;refine HTC.out.mono ?_;rintro e w5 ⟨rfl,hsp⟩;have HP:=Qh (hsp.then (Ab.below HB4.out) fun _ h=> .inl h);clear hsp;go_wp2;go_ret2;exact⟨rfl,HP.out⟩
  obtain rfl:E1=0:=by simpa using he0
  rw [κ rfl] at hR;go_wp2_with fail;unfold StepQ at HTC;refine HTC.out.mono ?_;rintro e w5 ⟨rfl,hsp⟩;obtain⟨L5,mv5,sv5,hj5,ht5,hl5⟩:=hsp;have HMID:=Qs (PushMid w w5 b f m L mv (.slice o3 B.length c3') B raw.length le R) ⟨L5,mv5,sv5,d5,s5,hj5,(Ab.below HB4.out).trans ht5 fun _ h=> .inl h,fun k hk=>(hl5 k hk).imp id (η HB4.out.size),HF4.out.disk2 ht5 hl5,(HTF.out (by first|rfl|trivial)).1,(HTF.out (by first|rfl|trivial)).2,hR⟩;clear hj5 ht5 hl5 HB4 HJ4 HF4 hge HGE HFI HTN HLF hR HR HSB HJ HTC HTF;go_wp2_with fail
 all_goals
  obtain⟨L5,mv5,sv5,d5,s5,hj5,ht5,hl5,hf5,hft,hle5,hR⟩:=HMID.out;have HJ5:=Qh hj5;have HT5:=Qh ht5;have HL5:=Qh hl5;have HF5:=Qh hf5;have HFT:=Qh hft;have HLEE:=Qh hle5;clear hj5 ht5 hl5 hf5 hft hle5 HMID;have HNM:=Qh (fun W (hB:Below w5.heap.size w5 W)=>Hz (HJ5.out.below hB) HFT.out.sb.segs);have hbd:Below w5.heap.size w5 (World.drew w5):=Ac w5 1;refine ε (S:=fun w'=>w'.cell? ⟨b,3,none⟩=some (.pointer (some ⟨f,0,none⟩))) (by kernel_rfl) (HJ5.out.blk.cell 3) (fun hHeld=> ?_);have FX3:=Qh (fun(wF:World) (hSw:(fun w'=>w'.cell? ⟨b,3,none⟩=some (.pointer (some ⟨f,0,none⟩))) wF)=>(hSw));refine tf FX3 0 rfl ?_;refine tf FX3 1 rfl ?_;refine tf FX3 2 rfl ?_;refine tf FX3 3 rfl ?_;refine tf FX3 4 rfl ?_;refine tf FX3 5 rfl ?_;refine tf FX3 7 rfl ?_;clear FX3;generalize World.drew w5=Wd at*;refine Rd 6 rfl fun K hK=> ?_;go_simp;refine(HNM.out _ hbd).mono ?_;rintro e w6 ⟨rfl,hb6⟩;have hb56:=Below.next hbd hb6;have HJ6:=Qh (HJ5.out.below hb56);have HF6:=Qh (HF5.out.below hb56);have HT6:=Qs (Ab (Br b mv f m L) w w6) (HT5.out.trans (Ab.below (S:=fun _=>False) hb56) fun _ h=>h.elim);clear hb6 hbd hb56 HJ5 HF5 HT5 HNM;go_wp2_with fail;refine hK.out _ _ (HJ6.out.blk.cell 3) (fun hHeld=> ?_);clear hK K;refine Rd 8 rfl fun K hK=> ?_;go_simp;refine(Mp w6 f m d5 L5 HJ6.out.fs (by have:=HFT.out.steps;omega) (A9 s5.man) B _ HF6.out.off).mono ?_;unfold Ik at hR;rintro e w7 ⟨rfl,hfp⟩;obtain⟨L7,hj7,ht7,hl7⟩:=HJ6.out.disk hfp;have HJ7:=Qh hj7;have HT7:=Qs (Ab (Br b mv f m L) w w7) (HT6.out.trans ht7 HL5.out);have HL7:=Qh (fun k (hk:Br b mv5 f m L7 k)=>show Br b mv f m L k∨w.heap.size≤k from(hl7 k hk).elim (HL5.out k) fun h=> .inr (η HT6.out.size h));clear hfp hj7 ht7 hl7 HJ6 HF6 HT6;rw [←HLEE.out] at hR;generalize (Bi d5 (Ae (A9 s5.man) B)).1=d7 at*;generalize (Bi d5 (Ae (A9 s5.man) B)).2.2.2=E at*;go_wp2_with fail;refine hK.out _ _ (HJ7.out.blk.cell 3) (fun hHeld=> ?_);clear hK K;refine Rd 9 rfl fun K hK=> ?_;go_simp;refine(Pt E HJ7.out).mono ?_;rintro e w8 ⟨rfl,hj8,ht8⟩;have HJ8:=Qh hj8;have HT8:=Qh (HT7.out.trans ht8 HL7.out);clear hj8 ht8 HJ7 HT7;go_wp2_with fail;refine hK.out _ _ (HJ8.out.blk.cell 3) (fun hHeld=> ?_);clear hK K;refine tq 10 rfl ?_;refine Ξ (by kernel_rfl) ?_ _;rcases hE:(E==0) with _|_
  ·have hE2: ¬ E=0:=by simpa using hE
   rw [γ hE2] at hR;subst hR;go_wp2;go_ret2;exact⟨rfl,L7,mv5,sv5,HJ8.out,HT8.out,HL7.out⟩
  obtain rfl:E=0:=by simpa using hE
  rw [κ rfl] at hR;have HJ9:=Qs (SJ w8 b f m L7 d7 s5 mv5 sv5) HJ8.out;clear hE HJ8 hHeld;go_wp2_with fail;have C0:=Qs (w8.cell? ⟨b,0,none⟩=some (Vi Vk (s5.count:Int))) (HJ9.out.blk.cell 0);have C4:=Qs (w8.cell? ⟨b,4,none⟩=some (Vi Vk (s5.stride:Int))) (HJ9.out.blk.cell 4);have HS0:=Qs (¬ s5.stride=0) (by have:=HFT.out.sb.stride;omega);obtain⟨x,hx,hm⟩: ∃ x:Int,(s5.count:Int).tmod (s5.stride:Int)=x∧((x==0)=true↔s5.count % s5.stride=0):=⟨_,rfl,by rw [show (s5.count:Int).tmod (s5.stride:Int)=((s5.count % s5.stride:Nat):Int) from rfl];simp;omega⟩;have HX:=Qh hx;have HM:=Qh hm;clear hx hm;rcases hxx:(x==0) with _|_
  all_goals
   have HXX:=Qh hxx;clear hxx;refine ε (S:=fun w'=>Below w8.heap.size w8 w') (by kernel_rfl) (Ac w8 1) (fun hHeld=> ?_);have FX4:=Qh (fun(wF:World) (hSw:(fun w'=>Below w8.heap.size w8 w') wF)=>And.intro ((cell_later hSw C0.out)) ((cell_later hSw C4.out)));refine tf FX4 0 rfl ?_;refine tf FX4 1 rfl ?_;refine tf FX4 2 rfl ?_;refine tf FX4 3 rfl ?_;refine tf FX4 4 rfl ?_;refine tf FX4 5 rfl ?_;refine tf FX4 6 rfl ?_;refine tf FX4 7 rfl ?_;refine tf FX4 8 rfl ?_;refine tf FX4 9 rfl ?_;clear FX4;have FX5:=Qh (fun(wF:World) (hSw:(fun w'=>Below w8.heap.size w8 w') wF)=>And.intro ((HS0.out)) ((HX.out)));refine tf FX5 10 rfl ?_;clear FX5;have FX6:=Qh (fun(wF:World) (hSw:(fun w'=>Below w8.heap.size w8 w') wF)=>(HXX.out));refine tf FX6 11 rfl ?_;clear FX6;have hbd:Below w8.heap.size w8 (World.drew w8):=Ac w8 1;have HJa:=Qh (HJ9.out.below hbd);have HTa:=Qs (Ab (Br b mv f m L) w (World.drew w8)) (HT8.out.trans (Ab.below (S:=fun _=>False) hbd) fun _ h=>h.elim);clear hbd hHeld C0 C4;refine Ξ (by kernel_rfl) ?_ _;generalize World.drew w8=wa at*;have hxx:=HXX.out
  focus
   have HAE:=Qs (addS s5 B={s5 with marks:=s5.marks,count:=s5.count+1,size:=s5.size+B.length}) (by
    have hns: ¬ s5.count % s5.stride=0:=fun hc=>by have:=HM.out.2 hc;rw [HXX.out] at this;cases this
    unfold addS;rw [γ hns])
   obtain⟨ms,hms⟩: ∃ ms,ms=s5.marks:=⟨_,rfl⟩;rw [←hms] at HAE;have HJb:=Qs (SJ wa b f m L7 d7 {s5 with marks:=ms} mv5 sv5) (by rw [hms];exact HJa.out);have HTb:=Qh HTa.out;have HLc:=Qh HL7.out;clear HJa HTa hms HX HM HJ9 HT8 HL7;generalize wa=wb at*
  rotate_left
  focus
   have HAE:=Qs (addS s5 B={s5 with marks:=s5.marks++[⟨le+1,s5.size⟩],count:=s5.count+1,size:=s5.size+B.length}) (by
    have hns:s5.count % s5.stride=0:=HM.out.1 HXX.out;unfold addS;rw [κ hns,HLEE.out])
   have C1:=Qs (wa.cell? ⟨b,1,none⟩=some (Vi Vk (s5.size:Int))) (HJa.out.blk.cell 1);have HLE:=Qh (fun W (hB:Below wa.heap.size wa W)=>by have:=F2 (HJa.out.below hB) HFT.out.sb;rw [←HLEE.out] at this;exact this);clear HJ9 HT8 HX HM;go_wp2_with fail;clear hxx HXX;have hbd:Below wa.heap.size wa (World.drew wa):=Ac wa 1;refine ε (S:=fun w'=>w'.cell? ⟨b,1,none⟩=some (Vi Vk (s5.size:Int))) (by kernel_rfl) C1.out (fun hHeld=> ?_);have FX7:=Qh (fun(wF:World) (hSw:(fun w'=>w'.cell? ⟨b,1,none⟩=some (Vi Vk (s5.size:Int))) wF)=>(hSw));refine tf FX7 0 rfl ?_;refine tf FX7 1 rfl ?_;refine tf FX7 2 rfl ?_;refine tf FX7 3 rfl ?_;refine tf FX7 4 rfl ?_;refine tf FX7 6 rfl ?_;refine tf FX7 9 rfl ?_;refine tf FX7 10 rfl ?_;refine tf FX7 11 rfl ?_;refine tf FX7 12 rfl ?_;refine tf FX7 13 rfl ?_;clear FX7;generalize World.drew wa=Wd at*;refine wpAnyH_ready (rs:=[5,7]) (by kernel_rfl) (by simp) ?_;refine AllReadyH.cons rfl (fun K hK=> ?_) (AllReadyH.cons rfl (fun K hK=> ?_) AllReadyH.nil)
   focus
    have c2:Wd.cell? ⟨b,2,none⟩=some mv5:=(HJa.out.below hbd).blk.cell 2;go_simp;refine hK.out _ _ hHeld (fun hHeld=> ?_);clear hK K c2;refine Rd 7 rfl fun K hK=> ?_;go_simp;refine(HLE.out _ hbd).mono ?_;rintro e w9 ⟨rfl,hb9⟩;have HJc:=Qh (HJa.out.below (Below.next hbd hb9));have HTc:=Qs (Ab (Br b mv f m L) w w9) (HTa.out.trans (Ab.below (S:=fun _=>False) (Below.next hbd hb9)) fun _ h=>h.elim);clear hb9 hbd;go_wp2_with fail;refine hK.out _ _ (HJc.out.blk.cell 1) (fun hHeld=> ?_);clear hK K;have FX8:=Qh (fun(wF:World) (hSw:(fun w'=>w'.cell? ⟨b,1,none⟩=some (Vi Vk (s5.size:Int))) wF)=>(HW1.out));refine tf FX8 8 rfl ?_;refine tf FX8 14 rfl ?_;clear FX8;refine Rd 15 rfl fun K hK=> ?_;go_simp;refine hK.out _ _ (show (w9.alloc (.cells #[Vi Vk (le+1),Vi Vk (s5.size:Int)] 135)).cell? ⟨b,1,none⟩=_ from cell_later (Aa w9 _) (HJc.out.blk.cell 1)) (fun hHeld=> ?_);clear hK K
   rotate_left
   focus
    go_simp;refine(HLE.out _ hbd).mono ?_;rintro e w9 ⟨rfl,hb9⟩;have HJc:=Qh (HJa.out.below (Below.next hbd hb9));have HTc:=Qs (Ab (Br b mv f m L) w w9) (HTa.out.trans (Ab.below (S:=fun _=>False) (Below.next hbd hb9)) fun _ h=>h.elim);clear hb9 hbd;go_wp2_with fail;refine hK.out _ _ (HJc.out.blk.cell 1) (fun hHeld=> ?_);clear hK K;have FX9:=Qh (fun(wF:World) (hSw:(fun w'=>w'.cell? ⟨b,1,none⟩=some (Vi Vk (s5.size:Int))) wF)=>(HW1.out));refine tf FX9 8 rfl ?_;refine tf FX9 14 rfl ?_;clear FX9;refine wpAnyH_ready (rs:=[5,15]) (by kernel_rfl) (by simp) ?_;refine AllReadyH.cons rfl (fun K hK=> ?_) (AllReadyH.cons rfl (fun K hK=> ?_) AllReadyH.nil)
    focus
     have c2:w9.cell? ⟨b,2,none⟩=some mv5:=HJc.out.blk.cell 2;go_simp;refine hK.out _ _ hHeld (fun hHeld=> ?_);clear hK K c2;refine Rd 15 rfl fun K hK=> ?_;go_simp;refine hK.out _ _ (show (w9.alloc (.cells #[Vi Vk (le+1),Vi Vk (s5.size:Int)] 135)).cell? ⟨b,1,none⟩=_ from cell_later (Aa w9 _) (HJc.out.blk.cell 1)) (fun hHeld=> ?_);clear hK K
    rotate_left
    focus
     go_simp;refine hK.out _ _ (show (w9.alloc (.cells #[Vi Vk (le+1),Vi Vk (s5.size:Int)] 135)).cell? ⟨b,1,none⟩=_ from cell_later (Aa w9 _) (HJc.out.blk.cell 1)) (fun hHeld=> ?_);clear hK K;have c2:(w9.alloc (.cells #[Vi Vk (le+1),Vi Vk (s5.size:Int)] 135)).cell? ⟨b,2,none⟩=some mv5:=cell_later (Aa w9 _) (HJc.out.blk.cell 2);refine Rd 5 rfl fun K hK=> ?_;go_simp;refine hK.out _ _ hHeld (fun hHeld=> ?_);clear hK K c2
   all_goals
    refine Rd 16 rfl fun K hK=> ?_;rw [κ (by kernel_rfl)];refine wp_appMk (.tmp 78) (.tmp 88) rfl ⟨le+1,(s5.size:Int)⟩ rfl rfl HJc.out.mks (by have:=HFT.out.marks;omega) ?_;intro v' wm hm10 ht10 hone10 hnew10;have hb2:Dy wm b f s5 mv5 sv5:=HJc.out.blk.keep (ht10.block b HJc.out.blk.lt HJc.out.sep.2.1);have HB2:=Qh hb2;have HMA:=Qh (HJc.out.mark (s':={s5 with marks:=s5.marks++[⟨le+1,s5.size⟩]}) hm10 ht10 hnew10 rfl rfl);clear hm10 ht10 hnew10 hb2;refine hK.out _ _ (HB2.out.cell 1) (fun hHeld=> ?_);clear hK K;refine Rd 17 rfl fun K hK=> ?_;go_simp;refine hK.out _ _ hHeld (fun hHeld=> ?_);clear hK K;refine Rd 18 rfl fun K hK=> ?_;go_simp;refine hK.out _ _ hHeld (fun hHeld=> ?_);clear hK K;refine Rd 19 rfl fun K hK=> ?_;go_simp;refine hK.out _ _ hHeld (fun hHeld=> ?_);clear hK K;refine Rd 20 rfl fun K hK=> ?_;rw [κ (by kernel_rfl)];refine Fi 78 (.tmp 92) (.tmp 89) rfl b 2 v' mv5 (by kernel_rfl) hone10 (by kernel_rfl) (by kernel_rfl) (HB2.out.cell 2) (HB2.out.free 2) ?_;obtain⟨hj,ht,hl⟩:=HMA.out;obtain⟨ms,hms⟩: ∃ ms,ms=s5.marks++[⟨le+1,s5.size⟩]:=⟨_,rfl⟩;rw [←hms] at hj HAE;generalize wm.setCell ⟨b,2,none⟩ v'=wb at*;have HJb:=Qh hj;have HTb:=Qh (HTc.out.trans ht HL7.out);have HLc:=Qh (fun k (hk:Br b v' f m L7 k)=>show Br b mv f m L k∨w.heap.size≤k from by
     rcases hl k hk with h1|h1
     ·exact HL7.out k h1
     ·exact .inr (η HTc.out.size h1))
    refine hK.out _ _ (hj.blk.cell 1) (fun _=> ?_);clear hK K hj ht hl HMA hms HB2 hHeld;refine Ξ (by kernel_rfl) ?_ _
  all_goals
   have c0:wb.cell? ⟨b,0,none⟩=some (Vi Vk (s5.count:Int)):=HJb.out.blk.cell 0;have f0:=HJb.out.blk.free 0;have c1:wb.cell? ⟨b,1,none⟩=some (Vi Vk (s5.size:Int)):=HJb.out.blk.cell 1;have f1:=HJb.out.blk.free 1;have hc1:IntKind.i64.wrap ((s5.count:Int)+1)=(s5.count:Int)+1:=by rw [ν];have:=HFT.out.sb.count;omega
   have hz1:IntKind.i64.wrap ((s5.size:Int)+(B.length:Int))=(s5.size:Int)+(B.length:Int):=by rw [ν];have:=HFT.out.room;have:=HEL.out;omega
   obtain⟨hj1,ht1⟩:=HJb.out.set (s':={s5 with marks:=ms,count:=s5.count+1}) (j:=0) (v:= Vi Vk ((s5.count:Int)+1)) (by simp [Kc]) rfl rfl;obtain⟨hj2,ht2⟩:=hj1.set (s':={s5 with marks:=ms,count:=s5.count+1,size:=s5.size+B.length}) (j:=1) (v:= Vi Vk ((s5.size:Int)+(B.length:Int))) (by simp [Kc]) rfl rfl;have HJe:=Qh hj2;have HTe:=Qh (((HTb.out.trans ht1 HLc.out).trans ht2 HLc.out));clear hj1 hj2 ht1 ht2;go_wp2_with fail;have HLL:=Qh (F2 HJe.out ⟨HFT.out.sb.segs,HFT.out.sb.first,HFT.out.sb.num,by have:=HFT.out.sb.segEv;have:=HFT.out.full;show s5.count+1≤512;omega,by have:=HFT.out.room;have:=HEL.out;show s5.size+B.length≤67108864;omega,HFT.out.sb.stride,HFT.out.sb.segEv⟩);rw [show lastE {s5 with marks:=ms,count:=s5.count+1,size:=s5.size+B.length}=le+1 from by rw [HLEE.out];unfold lastE;simp only;omega] at HLL;refine HLL.out.mono ?_;rintro e we ⟨rfl,hbe⟩;have HPO:=Qs (E9 w b f m L mv d7 (addS s5 B) we) (by rw [HAE.out];exact(E9.below HJe.out hbe).then HTe.out HLc.out);clear hbe;go_wp2;go_ret2;subst hR;exact⟨rfl,HPO.out⟩
end
theorem schEnc_bad (v:Int) (e:Ev) (w:World) (hok:Lj 281474976710656 e) (hc:Am v e≠0):Calls prog 66 #[Vi Vk v,Ga e] w fun x w'=>x= .returned (.tuple #[.slice none 0 0,Vi Vk (Am v e)])∧Below w.heap.size w w':=by
 have HB0:=Qh (Aa w (.cells (A8 e) 38));have HCK:=Qh (Cf v e (w.alloc (.cells (A8 e) 38)) hok);obtain⟨n,hn⟩: ∃ n,n=Am v e:=⟨_,rfl⟩;rw [←hn] at HCK hc ⊢;have hb:(n==0)=false:=by simpa using hc
 simp only [A8] at HB0 HCK;clear hok hn hc;go_enter func66,ntmps66;go_wp2_with fail;refine HCK.out.mono ?_;rintro x w1 ⟨rfl,hb1⟩;have HB1:=Qh (Below.next HB0.out hb1);clear hb1 HB0 HCK;go_wp2;go_ret2;exact⟨rfl,HB1.out⟩
theorem pack_bad (v:Int) (e:Ev) (w:World) (hok:Lj 281474976710656 e) (hc:Am v e≠0):Calls prog 39 #[Vi Vk v,Ga e] w fun x w'=>x= .returned (.tuple #[.slice none 0 0,Vi Vk (Am v e)])∧Below w.heap.size w w':=by
 have HB0:=Qh (Aa w (.cells (A8 e) 38));have HE:=Qh (schEnc_bad v e (w.alloc (.cells (A8 e) 38)) hok hc);obtain⟨n,hn⟩: ∃ n,n=Am v e:=⟨_,rfl⟩;rw [←hn] at HE hc ⊢;have hb:(n==0)=false:=by simpa using hc
 simp only [A8] at HB0 HE;clear hok hn hc;go_enter func39,ntmps39;go_wp2_with fail;refine HE.out.mono ?_;rintro x w1 ⟨rfl,hb1⟩;have HB1:=Qh (Below.next HB0.out hb1);clear hb1 HB0 HE;go_wp2;go_ret2;exact⟨rfl,HB1.out⟩
section
variable {w W : World} {b f m : Nat} {L : List Aq} {d d' : Af} {s s' : C6} {mv sv : Value} {E E' : List (List UInt8)} {k u : Nat}
theorem Lim.fit (h:Lim d s E k) (hk:k≤1000) {n:Nat} (hn:n≤1040) (hc:s.count<s.segEv):Fit d s n:=by
 obtain⟨G,g,bs,hs,hE⟩:=h.ok.sta;have hz:=hs.sizeLe;have hsz:=hs.size;have hst:=h.steps;exact⟨h.sb hk,by rw [hs.marks];exact η (K9 _ _ _ _ _) hs.cnt.2,by omega,hc,by omega⟩
theorem push_calls (h:SJ w b f m L d s mv sv) (hl:Lim d s E k) (hk:k<1000) (hb:Du raw) (hr:As (fun k=> ¬ Br b mv f m L k) w rv raw):Calls prog 40 #[.pointer (some ⟨b,0,none⟩),rv] w (PushQ w b f m L mv (Dg d s raw)):=by
 have hb2:=hb.2;refine stoPush_any raw rv h (hl.sb (by omega)) hb2 hr (fun hc=>hl.fit (by omega) hb2 hc) fun hge=>⟨fun W hW=>turn_calls hW hl (by omega) (by omega),fun h0=> ?_⟩;obtain⟨t1,t2,t3⟩:=turn_ok hl.ok hl.fuse (raw.length+20);rcases t3 with⟨a1,a2,_,_⟩|⟨a1,a2,a3,a4⟩
 ·exact absurd (a1.symm.trans h0) a2
 ·have hlm:=hl.grow t2 t1 (by have:=hl.len;omega);exact⟨hlm.fit (by omega) hb2 (by have:=(hlm.sb (by omega)).segEv;omega),by rw [t1.last,hl.ok.last]⟩
theorem stoAppend_any (v:Int) (e:Ev) (hok:Lj 281474976710656 e) (h:SJ w b f m L d s mv sv) (hl:Lim d s E k) (hk:k<1000):
  Calls prog 12 #[.pointer (some ⟨b,0,none⟩),Vi Vk v,Ga e] w (PushQ w b f m L mv (if Am v e=0 then Dg d s (Iy v e) else ((0,Am v e),s,d))):=by
 have HB0:=Qh (Aa w (.cells (A8 e) 38));have HJ0:=Qh (h.below HB0.out);have HE0:=Qs (Au (w.alloc (.cells (A8 e) 38)) w.heap.size e) (σ w _);have HAL:=Qh (F0 HJ0.out hl.ok.closed hl.ok.up);have HJ:=Qh h;have HL:=Qh hl;rcases hz:decide (Am v e=0) with _|_
 ·have hne:=Γ hz;rw [γ hne];have HPK:=Qh (pack_bad v e (w.alloc (.cells (A8 e) 38)) hok hne);obtain⟨n,hn⟩: ∃ n,n=Am v e:=⟨_,rfl⟩;rw [←hn] at HPK hne ⊢;have hb:(n==0)=false:=by simpa using hne
  simp only [A8] at HB0 HE0 HAL HPK HJ0;clear hok h hl hn hne hz;go_enter func12,ntmps12;go_wp2_with fail;refine HAL.out.mono ?_;rintro x w1 ⟨rfl,rfl⟩;go_wp2_with (with_reducible refine A6 rfl (.tmp 5) rfl w.heap.size e rfl HE0.out ?_);refine HPK.out.mono ?_;rintro x w2 ⟨rfl,hb2⟩;have HPO:=Qh (E9.below HJ.out (Below.next HB0.out hb2));clear hb2;go_wp2;go_ret2;exact⟨rfl,HPO.out⟩
 ·have heq:=ψ hz;rw [κ heq];have HPK:=Qh (pack_any v e (w.alloc (.cells (A8 e) 38)) hok heq);have HBO:=Qs (Du (Iy v e)) (Kr heq);simp only [A8] at HB0 HE0 HAL HPK HJ0;obtain⟨raw,hraw⟩: ∃ raw,raw=Iy v e:=⟨_,rfl⟩;rw [←hraw] at HPK HBO ⊢;obtain⟨R,hR⟩: ∃ R,Dg d s raw=R:=⟨_,rfl⟩;rw [hR];obtain⟨⟨a1,a2⟩,s2,d2⟩:=R;have HRR:=Qh hR;clear hok h hl hz heq hraw hR;go_enter func12,ntmps12;go_wp2_with fail;refine HAL.out.mono ?_;rintro x w1 ⟨rfl,rfl⟩;go_wp2_with (with_reducible refine A6 rfl (.tmp 5) rfl w.heap.size e rfl HE0.out ?_);refine HPK.out.mono ?_;rintro x w2 ⟨v2,rfl,ho2,hb2⟩;obtain⟨o2,c2,rfl,_,_⟩:=Aj ho2;have HB2:=Qh (Below.next HB0.out hb2);have HJ2:=Qh (HJ.out.below HB2.out);have HR2:=Qh (F8 (A:=fun k=> ¬ Br b mv f m L k) ho2 fun k hk hc=>by have:=HJ0.out.lt k hc;omega);have HPC:=Qh (by have:=push_calls HJ2.out HL.out hk HBO.out HR2.out;rw [HRR.out] at this;exact this);clear ho2 hb2 HPK HAL HE0 HJ0 HR2;go_wp2_with fail;unfold PushQ at HPC;refine HPC.out.mono ?_;rintro x w3 ⟨rfl,hp⟩;have HPO:=Qh (hp.then (Ab.below HB2.out) fun _ h=> .inl h);clear hp;go_wp2;go_ret2;exact⟨rfl,HPO.out⟩
end
section
variable {w W : World} {b f m : Nat} {L : List Aq} {d d' : Af} {s s' : C6} {mv sv : Value} {E E' : List (List UInt8)} {k u S : Nat}
theorem F6.sb (h:F6 d s E k) (ho:Fe d s E) (hk:k≤1000):SB s:=by
 obtain⟨G,g,bs,hs,hE⟩:=ho.sta;have hev:=hs.events ho.floor;have hl:=h.len;rw [hE,ζ] at hl;have hz:=hs.sizeLe;have hsz:=hs.size;refine⟨ho.seg,?_,?_,by have:=hs.cnt;omega,by omega,hs.cfg.1,hs.cfg.2⟩
 ·rw [hs.last];have:=hs.seg;omega
 ·rw [hs.last];exact hs.seg.1
theorem F6.fit (h:F6 d s E k) (ho:Fe d s E) (hk:k≤1000) {n:Nat} (hn:n≤1040) (hc:s.count<s.segEv):Fit d s n:=by
 obtain⟨G,g,bs,hs,hE⟩:=ho.sta;have hz:=hs.sizeLe;have hsz:=hs.size;have hst:=h.steps;exact⟨h.sb ho hk,by rw [hs.marks];exact η (K9 _ _ _ _ _) hs.cnt.2,by omega,hc,by omega⟩
theorem turn_callsF (h:SJ w b f m L d s mv sv) (hl:G7 d s E S) (hn:F6 d s E k) (hk:k≤1000) (hm:more≤1060):Calls prog 52 #[.pointer (some ⟨b,0,none⟩),Vi Vk (more:Int)] w (StepQ w b f m L mv (Bj d s more)):=by
 have ho:=hl.1;obtain⟨G,g,bs,hs,hE⟩:=ho.sta;have hf:=Cj hs.ok;obtain⟨x,hx,hxd⟩:=Dm hs.act;have hnx:=hn.next;have hgn:=hn.gen;have hst:=hn.steps;have hla:=ho.last;have hle:=hn.len;refine stoTurn_any more x h (hn.sb ho hk) (by omega) ho.closed ho.up (by rw [hs.name];exact hx) (by rw [hs.size,hxd]) hf.len ?_ ?_ ?_ ?_
 ·intro hc v W hv hn;rw [hxd] at hv;exact hs.foot hc v W hv hn
 ·intro h0;have hz:=Ku h0;obtain⟨e,ho⟩:=hs.turnOk hz.1 hz.2.1 hz.2.2.1 hz.2.2.2.1;refine⟨ho,?_⟩;have h1:=hf.seg g hs.mem;rw [hs.last,e];unfold Ah;simp;omega
 ·have h1:=K4 ho;have h2:=K6 ho (by omega) (by omega);have h3:=Pg (Bu s);omega
 ·have:=hf.next;have:=hf.gen;omega
theorem push_callsF (h:SJ w b f m L d s mv sv) (hl:G7 d s E S) (hn:F6 d s E k) (hk:k≤205) (hb:Du raw) (hr:As (fun k=> ¬ Br b mv f m L k) w rv raw):Calls prog 40 #[.pointer (some ⟨b,0,none⟩),rv] w (PushQ w b f m L mv (Dg d s raw)):=by
 have hb2:=hb.2;refine stoPush_any raw rv h (hn.sb hl.1 (by omega)) hb2 hr (fun hc=>hn.fit hl.1 (by omega) hb2 hc) fun hge=>⟨fun W hW=>turn_callsF hW hl hn (by omega) (by omega),fun h0=> ?_⟩;have hc0:s.count≠0:=by
  obtain⟨G,g,bs,hs,_⟩:=hl.1.sta;have:=hs.cfg.2;omega
 have hte:=hn.turnE (more:=raw.length+20) hl.1 (by omega) hc0 (by omega);obtain⟨t1,t2⟩:=live_turn hl hte;rcases t1 with⟨a1,a2,a3,a4,a5⟩|⟨a1,_⟩
 ·have hN:=turn_num hl hn (by omega) hc0 (by omega) a4 a5 t2;rw [a2];exact⟨hN.fit a3.1 (by omega) hb2 (by have:=(hn.sb hl.1 (by omega)).segEv;show 0<s.segEv;omega),by rw [a3.1.last,hl.1.last]⟩
 ·rw [a1] at h0;cases h0
theorem stoAppendF (v:Int) (e:Ev) (hok:Lj 281474976710656 e) (h:SJ w b f m L d s mv sv) (hl:G7 d s E S) (hn:F6 d s E k) (hk:k≤205):
  Calls prog 12 #[.pointer (some ⟨b,0,none⟩),Vi Vk v,Ga e] w (PushQ w b f m L mv (if Am v e=0 then Dg d s (Iy v e) else ((0,Am v e),s,d))):=by
 have HB0:=Qh (Aa w (.cells (A8 e) 38));have HJ0:=Qh (h.below HB0.out);have HE0:=Qs (Au (w.alloc (.cells (A8 e) 38)) w.heap.size e) (σ w _);have HAL:=Qh (F0 HJ0.out hl.1.closed hl.1.up);have HJ:=Qh h;have HL:=Qh (And.intro hl hn);rcases hz:decide (Am v e=0) with _|_
 ·have hne:=Γ hz;rw [γ hne];have HPK:=Qh (pack_bad v e (w.alloc (.cells (A8 e) 38)) hok hne);clear hn;obtain⟨n,hn⟩: ∃ n,n=Am v e:=⟨_,rfl⟩;rw [←hn] at HPK hne ⊢;have hb:(n==0)=false:=by simpa using hne
  simp only [A8] at HB0 HE0 HAL HPK HJ0;clear hok h hl hn hne hz;go_enter func12,ntmps12;go_wp2_with fail;refine HAL.out.mono ?_;rintro x w1 ⟨rfl,rfl⟩;go_wp2_with (with_reducible refine A6 rfl (.tmp 5) rfl w.heap.size e rfl HE0.out ?_);refine HPK.out.mono ?_;rintro x w2 ⟨rfl,hb2⟩;have HPO:=Qh (E9.below HJ.out (Below.next HB0.out hb2));clear hb2;go_wp2;go_ret2;exact⟨rfl,HPO.out⟩
 ·have heq:=ψ hz;rw [κ heq];have HPK:=Qh (pack_any v e (w.alloc (.cells (A8 e) 38)) hok heq);have HBO:=Qs (Du (Iy v e)) (Kr heq);simp only [A8] at HB0 HE0 HAL HPK HJ0;obtain⟨raw,hraw⟩: ∃ raw,raw=Iy v e:=⟨_,rfl⟩;rw [←hraw] at HPK HBO ⊢;obtain⟨R,hR⟩: ∃ R,Dg d s raw=R:=⟨_,rfl⟩;rw [hR];obtain⟨⟨a1,a2⟩,s2,d2⟩:=R;have HRR:=Qh hR;clear hok h hl hn hz heq hraw hR;go_enter func12,ntmps12;go_wp2_with fail;refine HAL.out.mono ?_;rintro x w1 ⟨rfl,rfl⟩;go_wp2_with (with_reducible refine A6 rfl (.tmp 5) rfl w.heap.size e rfl HE0.out ?_);refine HPK.out.mono ?_;rintro x w2 ⟨v2,rfl,ho2,hb2⟩;obtain⟨o2,c2,rfl,_,_⟩:=Aj ho2;have HB2:=Qh (Below.next HB0.out hb2);have HJ2:=Qh (HJ.out.below HB2.out);have HR2:=Qh (F8 (A:=fun k=> ¬ Br b mv f m L k) ho2 fun k hk hc=>by have:=HJ0.out.lt k hc;omega);have HPC:=Qh (by have:=push_callsF HJ2.out HL.out.1 HL.out.2 hk HBO.out HR2.out;rw [HRR.out] at this;exact this);clear ho2 hb2 HPK HAL HE0 HJ0 HR2;go_wp2_with fail;unfold PushQ at HPC;refine HPC.out.mono ?_;rintro x w3 ⟨rfl,hp⟩;have HPO:=Qh (hp.then (Ab.below HB2.out) fun _ h=> .inl h);clear hp;go_wp2;go_ret2;exact⟨rfl,HPO.out⟩
theorem stoRotateF (h:SJ w b f m L d s mv sv) (hl:G7 d s E S) (hn:F6 d s E k) (hk:k≤205):
  Calls prog 23 #[.pointer (some ⟨b,0,none⟩)] w (StepQ w b f m L mv (Bj d s 0)):=by
 have HAL:=Qh (F0 h hl.1.closed hl.1.up);have HTC:=Qh (turn_callsF (more:=0) h hl hn (by omega) (by decide));obtain⟨R,hR⟩: ∃ R,R=Bj d s 0:=⟨_,rfl⟩;rw [←hR] at HTC ⊢;clear h hl hn hR;obtain⟨e1,s1,d1⟩:=R;unfold StepQ at HTC;go_enter func23,ntmps23;go_wp2_with fail;refine HAL.out.mono ?_;rintro x w1 ⟨rfl,rfl⟩;go_wp2_with fail;refine HTC.out.mono ?_;rintro x w2 ⟨rfl,hp⟩;have HPO:=Qh hp;clear hp;go_wp2;go_ret;exact⟨rfl,HPO.out⟩
end
end Go.Proofs.YtgkdenejkcngnaaGreatDoor
