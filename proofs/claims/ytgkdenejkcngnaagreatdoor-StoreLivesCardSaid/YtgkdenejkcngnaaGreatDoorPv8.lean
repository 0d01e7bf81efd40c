import Derived.Deep.MidRow
import Derived.Deep.CutRange
import Derived.Test.YtgkdenejkcngnaaGreatDoorPv7
set_option maxRecDepth 100000
set_option maxHeartbeats 8000000
namespace Go.Proofs.YtgkdenejkcngnaaGreatDoor
open Go.RowKit
open Value renaming int→Vi
open IntKind renaming i64→Vk
open Go.Proofs.Tryz
variable {a:Act}{K:Act→World→Prop}{d d':Af}{listed:Array Bool}{af:Array Edge}{ops:Array Oper}{x:Bl}{s:C6}{D:DataW Value}{e:Ev}{Q:Exit→Act→World→Prop}{fn:Func}{h:Hd}{bad from_ num:Int}{xs:List (Ce×Value)}{E bs:List (List UInt8)}{L:List Aq}{fs fs':List Bl}{G:List Grp}{ps:List I3}{zs:List Int}{ms:List Mk}{us vs:List Nat}{rest:List Oper}{b body l n raw t:List UInt8}{cs:List Value}{B N base c f first g i j k m more most p r segEv size stride u:Nat}{A A' S:Nat→Prop}{o:Oper}{P:Program}{q:Tmp}{bv mv rv sv v v' v1:Value}{W W' X w w' w0 w1 w2:World}
def Po (cs:Array Value):Nat→List Value→Array Value
 |_,[]=>cs
 |o,v::r=>Po (cs.setIfInBounds o v) (o+1) r
theorem Md {b:Nat} {T:TypeId} {fz:Nat×Nat}: ∀ (vs:List Value) (o:Nat) (w:World) (cs:Array Value),w.heap[b]? =some (.cells cs T fz)→(w.setCells b o vs).heap[b]? =some (.cells (Po cs o vs) T fz)
 | [],_,_,_,h=>h
 |v::r,o,w,cs,h=>by
  rw [World.setCells,Po]
  refine Md r (o+1) _ _ ?_
  simp only [World.setCell]
  rw [Array.getElem?_modify]
  simp [h]
theorem Me (b:Nat): ∀ (vs:List Value) (o:Nat) (w:World),Ab (fun k=>k=b) w (w.setCells b o vs)
 | [],_,_=>Ab.refl _ _
 |v::r,o,w=>(Ab.setCell (S:=fun k=>k=b) w ⟨b,o,none⟩ v rfl).trans (Me b r (o+1) _) fun _ h=> .inl h
section
variable {w w' : World} {b f m : Nat} {L L' : List Aq} {d d' : Af} {s s' : C6} {mv sv : Value}
theorem Dy.there (h:Dy w b f s mv sv) (o n:Nat) (hn:o+n≤14):w.there b o n:=fun j hj=>by
 refine⟨?_,h.free _⟩
 rw [h.cell,Array.getElem?_eq_getElem (by show o+j<14;omega)]
 rfl
theorem Fu.disk {l:List Sg}  (h:Fu (fun k=> ¬ Br b mv f m L k) w v l) (ht:Ab (Br b mv f m L) w w') (hL: ∀ k,Br b mv f m L' k→Br b mv f m L k∨w.heap.size≤k):Fu (fun k=> ¬ Br b mv f m L' k) w' v l:=
 (h.low.turned ht fun k hk hc=>hk.1 hc).mono fun k hk hc=>by
  rcases hL k hc with hc|hc
  ·exact hk.1 hc
  ·omega
theorem Kn {mn:Da} (h:Cy mn=true):mn.segs≠ []:=by
 intro e;unfold Cy at h;simp only [Bool.and_eq_true] at h;have:=h.2;rw [e] at this;simp [A4] at this
theorem ownF_nil (b f m:Nat) (mv:Value) (L:List Aq): ∀ k,Br b (.slice none 0 0) f m L k→Br b mv f m L k:=by
 rintro k (hk|hk|hk)
 ·exact .inl hk
 ·cases hk
 ·exact .inr (.inr hk)
theorem tailInfo:(prog.info? 80).map (·.size)=some 3:=by kernel_rfl
theorem SJ.put (h:SJ w b f m L d s mv sv) {sv':Value} (ht:Ab (fun k=>k=b) w w') (hb:Dy w' b f s' (.slice none 0 0) sv') (hm:s'.marks=[]) (hg:Fu (fun k=> ¬ Br b (.slice none 0 0) f m L k) w sv' s'.man.segs):SJ w' b f m L d s' (.slice none 0 0) sv':=
 ⟨hb,h.fs.turned ht (fun k hk e=>h.sep.1 (e▸hk)),hm▸G6 w' 0,hg.turned ht fun k hk e=>hk (.inl e),h.nib.turned ht (fun hc=>h.gl.2 _ (by decide) (.inl hc)) h.nib.lt,⟨η h.gl.1 ht.size,fun k hk hc=>h.gl.2 k hk (ownF_nil b f m mv L k hc)⟩,h.sep.1,nofun,nofun⟩
theorem oneSl (a:Option Addr) (n c:Nat):(Value.slice a n c).oneCell'=true:=rfl
theorem setMany_man (f:Nat) (s:C6) (mv sv sv':Value) (mn:Da):Po (Kc f s mv sv) 6 (B3 mn sv').toList=Kc f {s with man:=mn} mv sv':=by
 simp [Po,Kc,B3]
theorem wpList_store_tail (hgd:o.guard=none) (x y:Operand) (ho:o.op= .store 80 x y) (n:Nat)
  (hx:a.eval x= .pointer (some ⟨b,0,none⟩)) (hy:a.eval y= .agg #[Vi Vk 0,Vi Vk (n:Int),.slice none 0 0]) (hE:Dy w b f s mv sv)
  (h: ∀ W,Dy W b f {s with count:=0,size:=n,marks:=[]} (.slice none 0 0) sv→Ab (fun k=>k=b) w W→wpList prog ops Q rest (a.put o.dst undef) W):wpList prog ops Q (o::rest) a w:=
 wpList_store_mid hgd 80 x y ho b 0 #[Vi Vk 0,Vi Vk (n:Int),.slice none 0 0] hx hy (hE.there 0 3 (by omega)) tailInfo (Array.all_eq_true_iff_forall_mem.2 (by
  intro u hu
  simp only [List.mem_toArray,Δ,Ω,or_false] at hu
  rcases hu with rfl|rfl|rfl<;>rfl)) (h _ (Md _ 0 _ _ hE) (Me _ _ _ _))
theorem wpList_store_man (hgd:o.guard=none) (x y:Operand) (ho:o.op= .store 69 x y) (mn:Da) (sv':Value) (h1:sv'.oneCell'=true)
  (hx:a.eval x= .pointer (some ⟨b,6,none⟩)) (hy:a.eval y=mnV mn sv') (hE:Dy w b f s mv sv)
  (h: ∀ W,Dy W b f {s with man:=mn} mv sv'→Ab (fun k=>k=b) w W→wpList prog ops Q rest (a.put o.dst undef) W):wpList prog ops Q (o::rest) a w:=
 wpList_store_mid hgd 69 x y ho b 6 (B3 mn sv') hx hy (hE.there 6 6 (by omega)) Ko (Array.all_eq_true_iff_forall_mem.2 (by
  intro u hu
  simp only [B3,List.mem_toArray,Δ,Ω,or_false] at hu
  rcases hu with rfl|rfl|rfl|rfl|rfl|rfl<;>first|rfl|assumption)) (h _ (by have:=Md (B3 mn sv').toList 6 w _ hE;rw [setMany_man] at this;exact this) (Me _ _ _ _))
theorem stoSave_any (mn:Da) (sv':Value) (n:Nat) (h:SJ w b f m L d s mv sv) (hs:d.steps+4<4611686018427387904) (hr:Fu (fun k=> ¬ Br b mv f m L k) w sv' mn.segs) (hok:Cy mn=true) (hsg:s.man.segs≠ []) (hne:(Ah mn).num≠(Ah s.man).num):
  Calls prog 127 #[.pointer (some ⟨b,0,none⟩),mnV mn sv',Vi Vk (n:Int)] w fun e w'=>e= .returned (Vi Vk (Bk d (Ei mn)).2)∧
   E9 w b f m L mv (Bk d (Ei mn)).1 (if (Bk d (Ei mn)).2=0 then {s with count:=0,size:=n,marks:=[],man:=mn} else s) w':=by
 obtain⟨oa,cap,rfl,hl1,hl2,hc⟩:=id hr;obtain⟨gb,off,rfl,hgo,hgr⟩:=hc _ _ (Oe (Kn hok));have hb0:=Aa w (.cells (B3 mn (.slice (some ⟨gb,off,none⟩) mn.segs.length cap)) 69);have HM0:=Qh (Ca w mn (.slice (some ⟨gb,off,none⟩) mn.segs.length cap));have HJ0:=Qh (h.below hb0);have HB0:=Qh hb0;have HR0:=Qh (hr.below hb0);have HNF:=Qs (¬ Br b mv f m L w.heap.size) (fun hc=>Nat.lt_irrefl _ (h.lt _ hc));have HSV:=Qh (fun W (hB:Bv W f m d L) (hR:Oa W (.slice (some ⟨gb,off,none⟩) mn.segs.length cap) mn.segs) (hN:Bh W)=>save_any W f m d L hB hs mn _ hR hN hok);have HSG:=Qh hsg;have HMS:=Qh (Kn hok);have HNE:=Qs (((Ah mn).num != (Ah s.man).num)=true) (by simpa using hne);have hp:=Ψ.2 (Kn hok);clear h hs hr hok hsg hne hb0 hc hgo hgr;obtain⟨D,E,hDE⟩: ∃ D E,Bk d (Ei mn)=(D,E):=⟨_,_,rfl⟩;rw [hDE];have HDE:=Qh hDE;clear hDE;simp only [B3] at HM0 HJ0 HB0 HR0;go_enter func127,ntmps127;go_wp2_with fail;generalize w.alloc (.cells #[Vi Vk mn.gen,Vi Vk mn.next,Vi Vk mn.floor,Vi Vk mn.snap,Vi Vk mn.snapSeq,.slice (some ⟨gb,off,none⟩) mn.segs.length cap] 69)=w0 at*;have C3:=Qs (w0.cell? ⟨b,3,none⟩=some (.pointer (some ⟨f,0,none⟩))) (HJ0.out.blk.cell 3);refine ε (S:=fun w'=>w'.cell? ⟨b,3,none⟩=some (.pointer (some ⟨f,0,none⟩))∧At w' w.heap.size mn (.slice (some ⟨gb,off,none⟩) mn.segs.length cap)) (by kernel_rfl) ⟨C3.out,HM0.out⟩ (fun hHeld=> ?_);have FX1:=Qh (fun(wF:World) (hSw:(fun w'=>w'.cell? ⟨b,3,none⟩=some (.pointer (some ⟨f,0,none⟩))∧At w' w.heap.size mn (.slice (some ⟨gb,off,none⟩) mn.segs.length cap)) wF)=>(hSw.1));refine tf FX1 0 rfl ?_;refine tf FX1 1 rfl ?_;refine tf FX1 2 rfl ?_;refine tf FX1 3 rfl ?_;clear FX1;refine tkl 4 w.heap.size 0 [Vi Vk mn.gen,Vi Vk mn.next,Vi Vk mn.floor,Vi Vk mn.snap,Vi Vk mn.snapSeq,.slice (some ⟨gb,off,none⟩) mn.segs.length cap] rfl rfl (fun w' h j u hj=>by rw [Nat.zero_add,h.2.cell];simpa [B3] using hj) underlying69 rfl (by rw [Ko];rfl) ?_;simp only [pA];have hbd:=Ac w0 1;have HJd:=Qs (SJ (World.drew w0) b f m L d s mv sv) (HJ0.out.below hbd);have HRd:=Qh (show Fu _ (World.drew w0) _ _ from HR0.out.below hbd);have HBd:=Qs (Below w.heap.size w (World.drew w0)) (Below.next HB0.out hbd);have HMd:=Qh (show At (World.drew w0) _ _ _ from HM0.out);clear hbd;generalize World.drew _=Wd at*;refine Rd 5 rfl fun K hK=> ?_;go_simp;refine(HSV.out Wd HJd.out.fs HRd.out.row HJd.out.nib).mono ?_;unfold Fj;rw [HDE.out];rintro e w1 ⟨rfl,hfp⟩;obtain⟨L1,hj1,ht1,hl1'⟩:=HJd.out.disk hfp;have HJ1:=Qh hj1;have HR1:=Qh (HRd.out.disk ht1 hl1');have HM1:=Qs (At w1 w.heap.size mn (.slice (some ⟨gb,off,none⟩) mn.segs.length cap)) ((ht1.block _ HMd.out.lt HNF.out).trans HMd.out);have HT1:=Qs (Ab (Br b mv f m L) w w1) ((Ab.below HBd.out).trans ht1 fun _ h=> .inl h);have HL1:=Qh (fun k (hk:Br b mv f m L1 k)=>show Br b mv f m L k∨w.heap.size≤k from(hl1' k hk).imp id (η HBd.out.size));clear hfp hj1 ht1 hl1';go_wp2_with fail;refine hK.out _ _ ⟨HJ1.out.blk.cell 3,HM1.out⟩ (fun hHeld=> ?_);clear hK K;refine tq 6 rfl ?_;refine Ξ (by kernel_rfl) ?_ _;rcases hE:(E==0) with _|_
 ·have hE2: ¬ E=0:=by simpa using hE
  go_wp2;go_ret;exact⟨rfl,L1,mv,sv,HJ1.out,HT1.out,HL1.out⟩
 obtain rfl:E=0:=by simpa using hE
 clear hE;clear hHeld;have C5:=Qs (w1.cell? ⟨w.heap.size,5,none⟩=some (.slice (some ⟨gb,off,none⟩) mn.segs.length cap)) (HM1.out.cell 5);have HGR:=Qs (w1.rangeAt gb (off+(mn.segs.length - 1)*4) (B4 (Ah mn)).toList) (by
  obtain⟨_,_,e,_,_,hc⟩:=HR1.out;simp only [Value.slice.injEq] at e;obtain⟨rfl,_,rfl⟩:=e;obtain⟨_,_,e,_,hgr⟩:=hc _ _ (Oe HMS.out);simp only [Option.some.injEq,Addr.mk.injEq,and_true] at e;obtain⟨rfl,rfl⟩:=e;exact hgr)
 have CN:=Qs (w1.cell? ⟨gb,off+(mn.segs.length - 1)*4,none⟩=some (Vi Vk (Ah mn).num)) (HGR.out 0 _ rfl);have HAC:=Qh (fun W (hB:Below w1.heap.size w1 W)=>by have:=Kx (HJ1.out.below hB) HSG.out;unfold sgV at this;exact this);have HOK:=Qh (show Fu (fun k=> ¬ Br b (.slice none 0 0) f m L1 k) w1 (.slice (some ⟨gb,off,none⟩) mn.segs.length cap) mn.segs from HR1.out.mono fun k hk hc=>hk (ownF_nil b f m mv L1 k hc));obtain⟨k,hk⟩: ∃ k,k=mn.segs.length:=⟨_,rfl⟩;rw [←hk] at C5 CN hp HM1 HOK hl1;have q0:0<k:=hp;have qm:k - 1<k:=by omega
 have qn:((k - 1:Nat):Int)<(k:Int):=by omega
 have hwn:IntKind.i64.wrap ((k:Int) - 1)=((k - 1:Nat):Int):=by rw [ν];omega
 have hne:=HNE.out;have hfl: ∀ (W:World),(Instr.field 72 (.agg #[Vi Vk (Ah s.man).num,Vi Vk (Ah s.man).first,Vi Vk (Ah s.man).count,Vi Vk (Ah s.man).foot]) 0).run prog W= .ok (Vi Vk (Ah s.man).num) W:=fun W=>by kernel_rfl
 generalize (Ah mn).num=nn at*;rw [←hk];have HK:=Qh hk;clear hk HR1 HGR HMS HM0 HJ0 HB0 HR0 C3 HJd HRd HBd HMd HSV;go_wp2_with fail;refine ε (S:=fun w'=>Below w1.heap.size w1 w') (by kernel_rfl) (Ac w1 1) (fun hHeld=> ?_);have FX2:=Qh (fun(wF:World) (hSw:(fun w'=>Below w1.heap.size w1 w') wF)=>And.intro ((cell_later hSw C5.out)) (And.intro ((cell_later hSw CN.out)) ((hwn))));refine tf FX2 0 rfl ?_;refine tf FX2 1 rfl ?_;refine tf FX2 2 rfl ?_;refine tf FX2 3 rfl ?_;refine tf FX2 4 rfl ?_;refine tf FX2 5 rfl ?_;refine tf FX2 6 rfl ?_;refine tf FX2 7 rfl ?_;refine tf FX2 8 rfl ?_;refine tf FX2 9 rfl ?_;clear FX2;generalize World.drew _=We at*;refine Rd 10 rfl fun K hK=> ?_;go_simp;refine(HAC.out We hHeld).mono ?_;rintro e w2 ⟨rfl,hb2⟩;have HB2:=Qh (Below.next hHeld hb2);clear hb2 hHeld;go_wp2_with fail;refine hK.out _ _ HB2.out (fun hHeld=> ?_);clear hK K;have FX3:=Qh (fun(wF:World) (hSw:(fun w'=>Below w1.heap.size w1 w') wF)=>(hfl));refine tf FX3 11 rfl ?_;refine tf FX3 12 rfl ?_;clear FX3;refine Ξ (by kernel_rfl) ?_ _;have HJ2:=Qh (HJ1.out.below HB2.out);have HM2:=Qh (HM1.out.below HB2.out);have HG2:=Qh (HOK.out.below HB2.out);have HBN:=Qs (¬ w.heap.size=b) (fun e=>HNF.out (.inl e));clear hfl HM1 HOK HAC C5 CN HNE hHeld;go_wp2_with (with_reducible refine wpList_store_tail rfl (.tmp 34) (.tmp 32) rfl n rfl rfl HJ2.out.blk ?_);intro w3 hs3 ht3;have HS3:=Qh hs3;have HT3:=Qh ht3;have HM3:=Qs (At w3 w.heap.size mn (.slice (some ⟨gb,off,none⟩) k cap)) ((ht3.block _ HM2.out.lt HBN.out).trans HM2.out);clear hs3 ht3;go_wp2_with (first|with_reducible refine Co rfl (.tmp 4) rfl w.heap.size mn (.slice (some ⟨gb,off,none⟩) k cap) rfl HM3.out ?_|with_reducible refine wpList_store_man rfl (.tmp 38) (.tmp 36) rfl mn (.slice (some ⟨gb,off,none⟩) k cap) (oneSl _ _ _) rfl rfl HS3.out ?_);intro w4 hs4 ht4;have HS4:=Qh hs4;have HT4:=Qh ht4;clear hs4 ht4;go_wp2;go_ret;have ht:=HT3.out.trans HT4.out fun _ h=> .inl h;refine⟨rfl,L1,.slice none 0 0,_,HJ2.out.put ht HS4.out rfl HG2.out,((HT1.out.trans (Ab.below (S:=fun _=>False) HB2.out) fun _ h=>h.elim).trans ht fun k hk=> .inl (.inl hk)),fun k hk=>HL1.out k (ownF_nil b f m mv L1 k hk)⟩
end
structure SW (w w1:World) (b f m:Nat) (L L1:List Aq) (d1:Af) (s:C6) (mv sv:Value) (mn:Da) (sv' fv hv:Value) (F H:List UInt8):Prop where
 sj:SJ w1 b f m L1 d1 s mv sv
 tu:Ab (Br b mv f m L) w w1
 sub: ∀ k,Br b mv f m L1 k→Br b mv f m L k∨w.heap.size≤k
 sg:Fu (fun k=> ¬ Br b mv f m L1 k) w1 sv' mn.segs
 fb:As (fun k=> ¬ Br b mv f m L1 k) w1 fv F
 hb:As (fun k=> ¬ Br b mv f m L1 k) w1 hv H
 mb:At w1 w.heap.size mn sv'
 nf: ¬ Br b mv f m L1 w.heap.size
section
variable {w w1 w2 : World} {b f m : Nat} {L L1 : List Aq} {d d1 d2 : Af} {s : C6} {mv sv : Value} {mn : Da} {sv' fv hv : Value} {F H : List UInt8}
theorem As.disk {L':List Aq}  (h:As (fun k=> ¬ Br b mv f m L k) w v l) (ht:Ab (Br b mv f m L) w w1) (hL: ∀ k,Br b mv f m L' k→Br b mv f m L k∨w.heap.size≤k):As (fun k=> ¬ Br b mv f m L' k) w1 v l:=
 (h.low.turned ht fun _ hk hc=>hk.1 hc).mono fun k hk hc=>by
  rcases hL k hc with hc|hc
  ·exact hk.1 hc
  ·omega
theorem SW.below (h:SW w w1 b f m L L1 d1 s mv sv mn sv' fv hv F H) (hb:Below w1.heap.size w1 w2):SW w w2 b f m L L1 d1 s mv sv mn sv' fv hv F H:=
 ⟨h.sj.below hb,h.tu.trans (Ab.below (S:=fun _=>False) hb) fun _ h=>h.elim,h.sub,h.sg.below hb,h.fb.below hb,h.hb.below hb,h.mb.below hb,h.nf⟩
theorem SW.disk (h:SW w w1 b f m L L1 d1 s mv sv mn sv' fv hv F H) (hp:A1 w1 f m L1 d2 w2): ∃ L2,SW w w2 b f m L L2 d2 s mv sv mn sv' fv hv F H:=by
 obtain⟨L2,h1,h2,h3⟩:=h.sj.disk hp;refine⟨L2,h1,h.tu.trans h2 h.sub,fun k hk=> ?_,h.sg.disk h2 h3,h.fb.disk h2 h3,h.hb.disk h2 h3,(h2.block _ h.mb.lt h.nf).trans h.mb,fun hc=> ?_⟩
 ·rcases h3 k hk with hk|hk
  ·exact h.sub k hk
  ·exact .inr (η h.tu.size hk)
 ·rcases h3 _ hc with hc|hc
  ·exact h.nf hc
  ·exact Nat.lt_irrefl _ (Nat.lt_of_lt_of_le h.mb.lt hc)
theorem SW.post (h:SW w w1 b f m L L1 d1 s mv sv mn sv' fv hv F H):E9 w b f m L mv d1 s w1:=⟨L1,mv,sv,h.sj,h.tu,h.sub⟩
theorem SW.c3 (h:SW w w1 b f m L L1 d1 s mv sv mn sv' fv hv F H):w1.cell? ⟨b,3,none⟩=some (.pointer (some ⟨f,0,none⟩)):=h.sj.blk.cell 3
theorem As.off {L1:List Aq}  (h:As (fun k=> ¬ Br b mv f m L1 k) w v l):As (fun k=> ¬ foot f m L1 k) w v l:=h.mono fun _ hk hc=>hk (.inr (.inr hc))
def sealR (s:C6) (F H:List UInt8) (mn:Da):List Ls:=[Ae (A9 s.man) F,Ag (A9 s.man),Ak (Ad (Ah mn).num),Ae (Ad (Ah mn).num) H,Ag (Ad (Ah mn).num)]++Ei mn
def SealQ (w:World) (b f m:Nat) (L:List Aq) (mv:Value) (s:C6) (H:List UInt8) (mn:Da) (R:Af×Int) (e:Ending) (w':World):Prop:=
 e= .returned (Vi Vk R.2)∧E9 w b f m L mv R.1 (if R.2=0 then {s with count:=0,size:=H.length,marks:=[],man:=mn} else s) w'
theorem stoSeal_any (mn:Da) (sv' fv hv:Value) (F H:List UInt8) (h:SJ w b f m L d s mv sv) (hs:d.steps+20<4611686018427387904) (hr:Fu (fun k=> ¬ Br b mv f m L k) w sv' mn.segs) (hok:Cy mn=true) (hsg:s.man.segs≠ []) (hne:(Ah mn).num≠(Ah s.man).num)
  (hF:As (fun k=> ¬ Br b mv f m L k) w fv F) (hH:As (fun k=> ¬ Br b mv f m L k) w hv H):
  Calls prog 83 #[.pointer (some ⟨b,0,none⟩),mnV mn sv',fv,hv] w (SealQ w b f m L mv s H mn (Bk d (sealR s F H mn))):=by
 obtain⟨oa,cap,rfl,hl1,hl2,hc⟩:=id hr;obtain⟨gb,off,rfl,hgo,hgr⟩:=hc _ _ (Oe (Kn hok));have hb0:=Aa w (.cells (B3 mn (.slice (some ⟨gb,off,none⟩) mn.segs.length cap)) 69)
 have HW:=Qh (show SW w (w.alloc (.cells (B3 mn (.slice (some ⟨gb,off,none⟩) mn.segs.length cap)) 69)) b f m L L d s mv sv mn _ fv hv F H from
  ⟨h.below hb0,Ab.below hb0,fun _ h=> .inl h,hr.below hb0,hF.below hb0,hH.below hb0,Ca w mn _,fun hc=>Nat.lt_irrefl _ (h.lt _ hc)⟩)
 obtain⟨of,cf,rfl,_,_⟩:=id hF;obtain⟨oh,ch,rfl,_,_⟩:=id hH;have HSG:=Qh hsg;have HOK:=Qh hok;have HNE:=Qh hne;have HST:=Qh hs;clear h hs hr hok hsg hne hb0 hc hgo hgr hF hH;unfold sealR;simp only [List.cons_append,List.nil_append];obtain⟨R,hR⟩: ∃ R,Bk d (Ae (A9 s.man) F::Ag (A9 s.man)::Ak (Ad (Ah mn).num)::Ae (Ad (Ah mn).num) H::Ag (Ad (Ah mn).num)::Ei mn)=R:=⟨_,rfl⟩;rw [hR];simp only [B3] at HW;go_enter func83,ntmps83;go_wp2_with fail;generalize w.alloc (.cells #[Vi Vk mn.gen,Vi Vk mn.next,Vi Vk mn.floor,Vi Vk mn.snap,Vi Vk mn.snapSeq,.slice (some ⟨gb,off,none⟩) mn.segs.length cap] 69)=w0 at*;have HNM:=Qh (fun W (hB:Below w0.heap.size w0 W)=>Hz (HW.out.sj.below hB) HSG.out);have hbd:Below w0.heap.size w0 (World.drew w0):=Ac w0 1;refine ε (S:=fun w'=>w'.cell? ⟨b,3,none⟩=some (.pointer (some ⟨f,0,none⟩))) (by kernel_rfl) HW.out.c3 (fun hHeld=> ?_);have FX1:=Qh (fun(wF:World) (hSw:(fun w'=>w'.cell? ⟨b,3,none⟩=some (.pointer (some ⟨f,0,none⟩))) wF)=>(hSw));refine tf FX1 0 rfl ?_;refine tf FX1 1 rfl ?_;refine tf FX1 2 rfl ?_;refine tf FX1 3 rfl ?_;refine tf FX1 4 rfl ?_;refine tf FX1 6 rfl ?_;clear FX1;replace HW:=Qh (show SW w (World.drew w0) b f m L _ _ s mv sv mn _ _ _ F H from HW.out.below hbd);generalize World.drew _=Wd at*;refine Rd 5 rfl fun K hK=> ?_;go_simp;refine(HNM.out _ hbd).mono ?_;rintro e We ⟨rfl,hb⟩;replace HW:=Qh (HW.out.below hb);clear hb HNM hbd;go_wp2_with fail;refine hK.out _ _ HW.out.c3 (fun hHeld=> ?_);clear hK K;refine Rd 7 rfl fun K hK=> ?_;go_simp;refine(Mp We f m _ _ HW.out.sj.fs (by have:=HST.out;omega) (A9 s.man) F _ HW.out.fb.off).mono ?_;rintro e w1 ⟨rfl,hfp⟩;obtain⟨L1,hw⟩:=HW.out.disk hfp;replace HW:=Qh hw;clear hw hfp;go_wp2_with fail;refine hK.out _ _ HW.out.c3 (fun hHeld=> ?_);clear hK K;refine tq 8 rfl ?_;refine Ξ (by kernel_rfl) ?_ _;have hst1:=Bx d (Ae (A9 s.man) F);rcases hE:((Bi d (Ae (A9 s.man) F)).2.2.2==0) with _|_
 ·have hE2: ¬ (Bi d (Ae (A9 s.man) F)).2.2.2=0:=by simpa using hE
  rw [Ch hE2] at hR;subst hR;have HX:=Qh HW.out.post;clear HW HST hst1;generalize (Bi d (Ae (A9 s.man) F)).2.2.2=E at*;go_wp2;go_ret;exact⟨rfl,by rw [γ hE2];exact HX.out⟩
 have hE2:(Bi d (Ae (A9 s.man) F)).2.2.2=0:=by simpa using hE
 rw [Dx hE2] at hR;rw [hE2];replace HST:=Qs ((Bi d (Ae (A9 s.man) F)).1.steps+18<4611686018427387904) (by have:=HST.out;omega);clear hE hE2 hst1;generalize (Bi d (Ae (A9 s.man) F)).1=d1 at*;go_wp2_with fail;have HNM:=Qh (fun W (hB:Below w1.heap.size w1 W)=>Hz (HW.out.sj.below hB) HSG.out);have hbd:Below w1.heap.size w1 (World.drew w1):=Ac w1 1;refine ε (S:=fun w'=>w'.cell? ⟨b,3,none⟩=some (.pointer (some ⟨f,0,none⟩))) (by kernel_rfl) HW.out.c3 (fun hHeld=> ?_);have FX2:=Qh (fun(wF:World) (hSw:(fun w'=>w'.cell? ⟨b,3,none⟩=some (.pointer (some ⟨f,0,none⟩))) wF)=>(hSw));refine tf FX2 0 rfl ?_;refine tf FX2 1 rfl ?_;refine tf FX2 2 rfl ?_;refine tf FX2 3 rfl ?_;refine tf FX2 4 rfl ?_;clear FX2;replace HW:=Qh (show SW w (World.drew w1) b f m L _ _ s mv sv mn _ _ _ F H from HW.out.below hbd);generalize World.drew _=Wd at*;refine Rd 5 rfl fun K hK=> ?_;go_simp;refine(HNM.out _ hbd).mono ?_;rintro e We ⟨rfl,hb⟩;replace HW:=Qh (HW.out.below hb);clear hb HNM hbd;go_wp2_with fail;refine hK.out _ _ HW.out.c3 (fun hHeld=> ?_);clear hK K;refine Rd 6 rfl fun K hK=> ?_;go_simp;refine(Lg We f m _ _ HW.out.sj.fs (by have:=HST.out;omega) (A9 s.man)).mono ?_;rintro e w2 ⟨rfl,hfp⟩;obtain⟨L2,hw⟩:=HW.out.disk hfp;replace HW:=Qh hw;clear hw hfp;go_wp2_with fail;refine hK.out _ _ HW.out.c3 (fun hHeld=> ?_);clear hK K;refine tq 7 rfl ?_;refine Ξ (by kernel_rfl) ?_ _;have hst2:=Bx d1 (Ag (A9 s.man));rcases hE:((Bi d1 (Ag (A9 s.man))).2.2.2==0) with _|_
 ·have hE2: ¬ (Bi d1 (Ag (A9 s.man))).2.2.2=0:=by simpa using hE
  rw [Ch hE2] at hR;subst hR;have HX:=Qh HW.out.post;clear HW HST hst2;generalize (Bi d1 (Ag (A9 s.man))).2.2.2=E at*;go_wp2;go_ret;exact⟨rfl,by rw [γ hE2];exact HX.out⟩
 have hE2:(Bi d1 (Ag (A9 s.man))).2.2.2=0:=by simpa using hE
 rw [Dx hE2] at hR;rw [hE2];replace HST:=Qs ((Bi d1 (Ag (A9 s.man))).1.steps+16<4611686018427387904) (by have:=HST.out;omega);clear hE hE2 hst2;generalize (Bi d1 (Ag (A9 s.man))).1=d2 at*;have C5:=Qs (w2.cell? ⟨w.heap.size,5,none⟩=some (.slice (some ⟨gb,off,none⟩) mn.segs.length cap)) (HW.out.mb.cell 5);have CN:=Qs (w2.cell? ⟨gb,off+(mn.segs.length - 1)*4,none⟩=some (Vi Vk (Ah mn).num)) (by
  obtain⟨_,_,e,_,_,hc⟩:=HW.out.sg;simp only [Value.slice.injEq] at e;obtain⟨rfl,_,rfl⟩:=e;obtain⟨_,_,e,_,hgr⟩:=hc _ _ (Oe (Kn HOK.out));simp only [Option.some.injEq,Addr.mk.injEq,and_true] at e;obtain⟨rfl,rfl⟩:=e;exact hgr 0 _ rfl)
 have hp:=Ψ.2 (Kn HOK.out);obtain⟨k,hk⟩: ∃ k,k=mn.segs.length:=⟨_,rfl⟩;rw [←hk] at C5 CN hp HW hl1;have q0:0<k:=hp;have qm:k - 1<k:=by omega
 have qn:((k - 1:Nat):Int)<(k:Int):=by omega
 have hwn:IntKind.i64.wrap ((k:Int) - 1)=((k - 1:Nat):Int):=by rw [ν];omega
 rw [←hk];have HK:=Qh hk;clear hk;have c5:=C5.out;have cn:=CN.out;go_wp2_with fail;refine(Jm (Ah mn).num w2).mono ?_;rintro e We ⟨rfl,hb⟩;replace HW:=Qh (HW.out.below hb);clear hb c5 cn C5 CN;have c3:=HW.out.c3;go_wp2_with fail;refine(create_any We f m _ _ HW.out.sj.fs (by have:=HST.out;omega) (Ad (Ah mn).num)).mono ?_;rintro e w3 ⟨rfl,hfp⟩;obtain⟨L3,hw⟩:=HW.out.disk hfp;replace HW:=Qh hw;clear hw hfp c3;have hst3:=Bx d2 (Ak (Ad (Ah mn).num));rcases hE:((Bi d2 (Ak (Ad (Ah mn).num))).2.2.2==0) with _|_
 ·have hE2: ¬ (Bi d2 (Ak (Ad (Ah mn).num))).2.2.2=0:=by simpa using hE
  rw [Ch hE2] at hR;subst hR;have HX:=Qh HW.out.post;clear HW HST hst3;generalize (Bi d2 (Ak (Ad (Ah mn).num))).2.2.2=E at*;go_wp2;go_ret;exact⟨rfl,by rw [γ hE2];exact HX.out⟩
 have hE2:(Bi d2 (Ak (Ad (Ah mn).num))).2.2.2=0:=by simpa using hE
 rw [Dx hE2] at hR;rw [hE2];replace HST:=Qs ((Bi d2 (Ak (Ad (Ah mn).num))).1.steps+14<4611686018427387904) (by have:=HST.out;omega);clear hE hE2 hst3;generalize (Bi d2 (Ak (Ad (Ah mn).num))).1=d3 at*;have c3:=HW.out.c3;go_wp2_with fail;refine(Mp w3 f m _ _ HW.out.sj.fs (by have:=HST.out;omega) (Ad (Ah mn).num) H _ HW.out.hb.off).mono ?_;rintro e w4 ⟨rfl,hfp⟩;obtain⟨L4,hw⟩:=HW.out.disk hfp;replace HW:=Qh hw;clear hw hfp c3;have hst4:=Bx d3 (Ae (Ad (Ah mn).num) H);rcases hE:((Bi d3 (Ae (Ad (Ah mn).num) H)).2.2.2==0) with _|_
 ·have hE2: ¬ (Bi d3 (Ae (Ad (Ah mn).num) H)).2.2.2=0:=by simpa using hE
  rw [Ch hE2] at hR;subst hR;have HX:=Qh HW.out.post;clear HW HST hst4;generalize (Bi d3 (Ae (Ad (Ah mn).num) H)).2.2.2=E at*;go_wp2;go_ret;exact⟨rfl,by rw [γ hE2];exact HX.out⟩
 have hE2:(Bi d3 (Ae (Ad (Ah mn).num) H)).2.2.2=0:=by simpa using hE
 rw [Dx hE2] at hR;rw [hE2];replace HST:=Qs ((Bi d3 (Ae (Ad (Ah mn).num) H)).1.steps+12<4611686018427387904) (by have:=HST.out;omega);clear hE hE2 hst4;generalize (Bi d3 (Ae (Ad (Ah mn).num) H)).1=d4 at*;have c3:=HW.out.c3;go_wp2_with fail;refine(Lg w4 f m _ _ HW.out.sj.fs (by have:=HST.out;omega) (Ad (Ah mn).num)).mono ?_;rintro e w5 ⟨rfl,hfp⟩;obtain⟨L5,hw⟩:=HW.out.disk hfp;replace HW:=Qh hw;clear hw hfp c3;have hst5:=Bx d4 (Ag (Ad (Ah mn).num));rcases hE:((Bi d4 (Ag (Ad (Ah mn).num))).2.2.2==0) with _|_
 ·have hE2: ¬ (Bi d4 (Ag (Ad (Ah mn).num))).2.2.2=0:=by simpa using hE
  rw [Ch hE2] at hR;subst hR;have HX:=Qh HW.out.post;clear HW HST hst5;generalize (Bi d4 (Ag (Ad (Ah mn).num))).2.2.2=E at*;go_wp2;go_ret;exact⟨rfl,by rw [γ hE2];exact HX.out⟩
 have hE2:(Bi d4 (Ag (Ad (Ah mn).num))).2.2.2=0:=by simpa using hE
 rw [Dx hE2] at hR;rw [hE2];replace HST:=Qs ((Bi d4 (Ag (Ad (Ah mn).num))).1.steps+10<4611686018427387904) (by have:=HST.out;omega);clear hE hE2 hst5;generalize (Bi d4 (Ag (Ad (Ah mn).num))).1=d5 at*;go_wp2_with (with_reducible refine Co rfl (.tmp 5) rfl w.heap.size mn (.slice (some ⟨gb,off,none⟩) k cap) rfl HW.out.mb ?_);have hsv:=stoSave_any mn (.slice (some ⟨gb,off,none⟩) k cap) H.length HW.out.sj (by have:=HST.out;omega) HW.out.sg HOK.out HSG.out HNE.out;rw [hR] at hsv;refine hsv.mono ?_;rintro e w6 ⟨rfl,hpo⟩;have HPO:=Qh (hpo.then HW.out.tu HW.out.sub);clear hpo hsv;go_wp2;go_ret;exact⟨rfl,HPO.out⟩
end
section
variable {w : World} {b f m : Nat} {L : List Aq} {d : Af} {s : C6} {mv sv : Value}
def SyncQ (w:World) (b f m:Nat) (L:List Aq) (mv:Value) (s:C6) (R:Af×Int) (e:Ending) (w':World):Prop:=e= .returned (Vi Vk R.2)∧E9 w b f m L mv R.1 (shutS s R.2) w'
theorem stoSync_any (h:SJ w b f m L d s mv sv) (hsg:s.man.segs≠ []) (hst:d.steps<4611686018427387904) (hc:s.closed=false) (hd:d.down=false):
  Calls prog 27 #[.pointer (some ⟨b,0,none⟩)] w (SyncQ w b f m L mv s ((Bi d (Ag (A9 s.man))).1,(Bi d (Ag (A9 s.man))).2.2.2)):=by
 have HAL:=Qh (F0 h hc hd);have HJ:=Qh h;have HST:=Qh hst;have HNM:=Qh (fun W (hB:Below w.heap.size w W)=>Hz (h.below hB) hsg);clear h hsg hst hc hd;obtain⟨D,hD⟩: ∃ D,(Bi d (Ag (A9 s.man))).1=D:=⟨_,rfl⟩;obtain⟨E,hE⟩: ∃ E,(Bi d (Ag (A9 s.man))).2.2.2=E:=⟨_,rfl⟩;rw [hD,hE];have HD:=Qh hD;have HE:=Qh hE;clear hD hE;go_enter func27,ntmps27;go_wp2_with fail;refine HAL.out.mono ?_;rintro e w1 ⟨rfl,rfl⟩;go_wp2_with fail;have hbd:Below w.heap.size w (World.drew w):=Ac w 1;refine ε (S:=fun w'=>w'.cell? ⟨b,3,none⟩=some (.pointer (some ⟨f,0,none⟩))) (by kernel_rfl) (HJ.out.blk.cell 3) (fun hHeld=> ?_);have FX1:=Qh (fun(wF:World) (hSw:(fun w'=>w'.cell? ⟨b,3,none⟩=some (.pointer (some ⟨f,0,none⟩))) wF)=>(hSw));refine tf FX1 0 rfl ?_;refine tf FX1 1 rfl ?_;refine tf FX1 2 rfl ?_;refine tf FX1 3 rfl ?_;refine tf FX1 4 rfl ?_;refine tf FX1 5 rfl ?_;clear FX1;generalize World.drew w=Wd at*;refine Rd 6 rfl fun K hK=> ?_;go_simp;refine(HNM.out _ hbd).mono ?_;rintro e w2 ⟨rfl,hb2⟩;have HB2:=Qh (Below.next hbd hb2);have HJ2:=Qh (HJ.out.below HB2.out);clear hb2 hbd HNM HAL;go_wp2_with fail;refine hK.out _ _ (HJ2.out.blk.cell 3) (fun hHeld=> ?_);clear hK K;refine Rd 7 rfl fun K hK=> ?_;go_simp;refine(Lg w2 f m d L HJ2.out.fs HST.out (A9 s.man)).mono ?_;rw [HD.out,HE.out];rintro e w3 ⟨rfl,hfp⟩;obtain⟨L3,hj3,ht3,hl3⟩:=HJ2.out.disk hfp;have HJ3:=Qh hj3;have HT3:=Qs (Ab (Br b mv f m L) w w3) ((Ab.below HB2.out).trans ht3 fun _ h=> .inl h);have HL3:=Qh (fun k (hk:Br b mv f m L3 k)=>show Br b mv f m L k∨w.heap.size≤k from(hl3 k hk).imp id (η HB2.out.size));clear hfp hj3 ht3 hl3;go_wp2_with fail;refine hK.out _ _ (HJ3.out.blk.cell 3) (fun hHeld=> ?_);clear hK K;refine Rd 8 rfl fun K hK=> ?_;go_simp;refine(Pt E HJ3.out).mono ?_;rintro e w4 ⟨rfl,hj4,ht4⟩;have HJ4:=Qh hj4;have HT4:=Qh (HT3.out.trans ht4 HL3.out);clear hj4 ht4;go_wp2_with fail;refine hK.out _ _ (HJ4.out.blk.cell 3) (fun hHeld=> ?_);clear hK K;refine tq 9 rfl ?_;refine Ξ (by kernel_rfl) ?_ _;go_wp2;go_ret;exact⟨rfl,L3,mv,sv,HJ4.out,HT4.out,HL3.out⟩
def CloseQ (w:World) (b f m:Nat) (L:List Aq) (mv:Value) (s:C6) (R:Af×Int) (e:Ending) (w':World):Prop:=e= .returned (Vi Vk R.2)∧E9 w b f m L mv R.1 {s with closed:=true} w'
theorem stoClose_any (h:SJ w b f m L d s mv sv) (hsg:s.man.segs≠ []) (hst:d.steps<4611686018427387904) (hc:s.closed=false) (hd:d.down=false):
  Calls prog 28 #[.pointer (some ⟨b,0,none⟩)] w (CloseQ w b f m L mv s ((Bi d (Ag (A9 s.man))).1,(Bi d (Ag (A9 s.man))).2.2.2)):=by
 have HAL:=Qh (F0 h hc hd);have HJ:=Qh h;have HST:=Qh hst;have HNM:=Qh (fun W (hB:Below w.heap.size w W)=>Hz (h.below hB) hsg);clear h hsg hst hc hd;obtain⟨D,hD⟩: ∃ D,(Bi d (Ag (A9 s.man))).1=D:=⟨_,rfl⟩;obtain⟨E,hE⟩: ∃ E,(Bi d (Ag (A9 s.man))).2.2.2=E:=⟨_,rfl⟩;rw [hD,hE];have HD:=Qh hD;have HE:=Qh hE;clear hD hE;go_enter func28,ntmps28;go_wp2_with fail;refine HAL.out.mono ?_;rintro e w1 ⟨rfl,rfl⟩;go_wp2_with fail;have hbd:Below w.heap.size w (World.drew w):=Ac w 1;refine ε (S:=fun w'=>w'.cell? ⟨b,3,none⟩=some (.pointer (some ⟨f,0,none⟩))) (by kernel_rfl) (HJ.out.blk.cell 3) (fun hHeld=> ?_);have FX2:=Qh (fun(wF:World) (hSw:(fun w'=>w'.cell? ⟨b,3,none⟩=some (.pointer (some ⟨f,0,none⟩))) wF)=>(hSw));refine tf FX2 0 rfl ?_;refine tf FX2 1 rfl ?_;refine tf FX2 2 rfl ?_;refine tf FX2 3 rfl ?_;refine tf FX2 4 rfl ?_;clear FX2;generalize World.drew w=Wd at*;refine Rd 5 rfl fun K hK=> ?_;go_simp;refine(HNM.out _ hbd).mono ?_;rintro e w2 ⟨rfl,hb2⟩;have HB2:=Qh (Below.next hbd hb2);have HJ2:=Qh (HJ.out.below HB2.out);clear hb2 hbd HNM HAL;go_wp2_with fail;refine hK.out _ _ (HJ2.out.blk.cell 3) (fun hHeld=> ?_);clear hK K;refine Rd 6 rfl fun K hK=> ?_;go_simp;refine(Lg w2 f m d L HJ2.out.fs HST.out (A9 s.man)).mono ?_;rw [HD.out,HE.out];rintro e w3 ⟨rfl,hfp⟩;obtain⟨L3,hj3,ht3,hl3⟩:=HJ2.out.disk hfp;have HJ3:=Qh hj3;have HT3:=Qs (Ab (Br b mv f m L) w w3) ((Ab.below HB2.out).trans ht3 fun _ h=> .inl h);have HL3:=Qh (fun k (hk:Br b mv f m L3 k)=>show Br b mv f m L k∨w.heap.size≤k from(hl3 k hk).imp id (η HB2.out.size));clear hfp hj3 ht3 hl3;go_wp2_with fail;refine hK.out _ _ (HJ3.out.blk.cell 3) (fun hHeld=> ?_);clear hK K;refine tq 7 rfl ?_;refine Ξ (by kernel_rfl) ?_ _;have f12:=HJ3.out.blk.free 12;have c12:w3.cell? ⟨b,12,none⟩=some (.bool s.closed):=HJ3.out.blk.cell 12;obtain⟨hj4,ht4⟩:=HJ3.out.set (s':={s with closed:=true}) (j:=12) (v:= .bool true) rfl rfl rfl;have HJ4:=Qh hj4;have HT4:=Qh (HT3.out.trans ht4 HL3.out);clear hj4 ht4;go_wp2;go_ret;exact⟨rfl,L3,mv,sv,HJ4.out,HT4.out,HL3.out⟩
end
theorem sgCells_of: ∀ (l:List Sg) (j:Nat) (u:Value),(sgCells l)[j]? =some u→ ∃ g,l[j / 4]? =some g∧(B4 g).toList[j % 4]? =some u
 | [],j,u,h=>by simp [sgCells] at h
 |g::r,j,u,h=>by
  unfold sgCells at h
  rw [List.flatMap_cons] at h
  by_cases hj:j<4
  ·rw [List.getElem?_append_left (by simpa [B4] using hj)] at h
   exact⟨g,by rw [Nat.div_eq_of_lt hj];rfl,by rw [Nat.mod_eq_of_lt hj];exact h⟩
  ·rw [List.getElem?_append_right (by simp [B4];omega)] at h
   obtain⟨x,h1,h2⟩:=sgCells_of r (j - 4) u (by unfold sgCells;rw [show (B4 g).toList.length=4 from rfl] at h;exact h)
   refine⟨x,?_,?_⟩
   ·rw [show j / 4=(j - 4) / 4+1 by omega,List.getElem?_cons_succ];exact h1
   ·rw [show j % 4=(j - 4) % 4 by omega];exact h2
theorem sgSome_eq (w:World) (ad:Addr) (n cap:Nat):(binOp .eql 67 (.slice (some ad) n cap) (.slice none 0 0)).run prog w= .ok (.bool false) w:=by kernel_rfl
def Io (w:World) (B:Nat) (v:Value) (l:List Sg):Prop:=w.ownsRow B 72 4 v l.length (sgCells l)
theorem Io.mono {B':Nat} {l:List Sg} (h:Io w B v l) (hB:B'≤B):Io w B' v l:=by
 refine⟨h.1,?_⟩;rcases h.2 with hn|⟨g,cap,cur,e,hb1,rest⟩
 ·exact .inl hn
 ·exact .inr ⟨g,cap,cur,e,η hB hb1,rest⟩
theorem cloneSg_any (l:List Sg) (v:Value) (w:World) (hv:Oa w v l) (hne:l≠ []) (hn:l.length≤1000):
  Calls prog 56 #[v] w fun e w'=> ∃ v',e= .returned v'∧Io w' w.heap.size v' l∧Below w.heap.size w w':=by
 obtain⟨oa,cap,rfl,hl,hl2,hc⟩:=hv;have hp:=Ψ.2 hne;obtain⟨b,off,rfl,_⟩:=hc 0 (l[0]'hp) (Θ hp);have h1:=sgSome_eq w ⟨b,off,none⟩ l.length cap;obtain⟨i0,hi,hz0,hz1,hz2⟩:=info_parts infoSg;have HC:=Qh (show ∀ (j:Nat) (u:Value),(sgCells l)[j]? =some u→w.cell? ⟨b,off+j,none⟩=some u from fun j u hj=>by
  obtain⟨g,h2,h3⟩:=sgCells_of l j u hj;obtain⟨b',off',e,hr⟩:=hc _ _ h2;simp only [Option.some.injEq,Addr.mk.injEq,and_true] at e;obtain⟨rfl,rfl⟩:=e;have:=hr _ _ h3;rwa [show off+j / 4*4+j % 4=off+j by omega] at this)
 have HCL:=Qs ((sgCells l).length=l.length*4) (J3 l);have HO:=Qs (Io (w.alloc (.cells #[] 72)) w.heap.size (.slice (some ⟨w.heap.size,0,none⟩) 0 0) []) (own_fresh w 72 4 w.heap.size (μ _));have HB:=Qh (Aa w (.cells #[] 72));have HONE:=Qh (show ∀ u∈sgCells l,u.oneCell'=true from fun u hu=>by
  obtain⟨g,_,hg⟩:=List.mem_flatMap.1 hu;simp [B4] at hg;rcases hg with rfl|rfl|rfl|rfl<;>rfl)
 clear hc hl2;go_enter func56,ntmps56;go_wp2_with (at_builtin;refine Em _ rfl _ _ 67 rfl w.heap.size 72 i0 zeroSg 4 32 underlying67 hi hz0 hz1 hz2 rfl (by decide) _ 0 [] rfl HO.out ⟨b,off,none⟩ l.length cap (sgCells l) rfl (J3 l) (fun j u hj=>by rw [Cr];exact cell_later HB.out (HC.out j u hj)) HONE.out (by unfold maxLen;omega) (by omega) HB.out.size hp ?_);intro v' w' h2 hg hnew;have HF:=Qs (Io w' w.heap.size v' l) (by unfold Io;simpa using h2);have HG:=Qs (Below w.heap.size w w') (HB.out.trans (Cm HO.out HB.out.size hg));clear h2 hg hnew;go_wp2;go_ret;exact⟨_,rfl,HF.out,HG.out⟩
section
variable {w : World} {b f m : Nat} {L : List Aq} {d : Af} {s : C6} {mv sv : Value}
theorem Dy.manAt {sv:Value} (h:Dy w b f s mv sv):w.rangeAt b 6 (B3 s.man sv).toList:=fun j u hj=>by
 rw [h.cell]
 match j,hj with
 |0,hj=>exact hj
 |1,hj=>exact hj
 |2,hj=>exact hj
 |3,hj=>exact hj
 |4,hj=>exact hj
 |5,hj=>exact hj
theorem stoManifest_any (h:SJ w b f m L d s mv sv) (hc:s.closed=false) (hsg:s.man.segs≠ []) (hl:s.man.segs.length≤1000):
  Calls prog 30 #[.pointer (some ⟨b,0,none⟩)] w fun e w'=> ∃ v',e= .returned (mnV s.man v')∧Io w' w.heap.size v' s.man.segs∧Below w.heap.size w w':=by
 obtain⟨gb,off,cap,rfl,_,_,_⟩:=h.segs hsg;have hb0:=Aa w (.cells (B3 ⟨0,0,0,0,0,[]⟩ (.slice none 0 0)) 69);have HJ0:=Qh (h.below hb0);have HB0:=Qh hb0;have HZ0:=Qh (Ca w ⟨0,0,0,0,0,[]⟩ (.slice none 0 0));have HCL:=Qh (by have:=N4 HJ0.out;rw [hc] at this;exact this);have HSG:=Qh hsg;have HLL:=Qh hl;simp only [B3] at HJ0 HB0 HZ0 HCL;clear h hc hsg hl hb0;go_enter func30,ntmps30;go_wp2_with fail;refine HCL.out.mono ?_;rintro e w1 ⟨rfl,rfl⟩;generalize w.alloc (.cells #[Vi Vk 0,Vi Vk 0,Vi Vk 0,Vi Vk 0,Vi Vk 0,.slice none 0 0] 69)=w0 at*;go_wp2_with (with_reducible refine Kv rfl (.tmp 9) rfl b 6 s.man (.slice (some ⟨gb,off,none⟩) s.man.segs.length cap) rfl HJ0.out.blk.manAt ?_);have hb1:=Aa w0 (.cells (B3 s.man (.slice (some ⟨gb,off,none⟩) s.man.segs.length cap)) 69);have HM1:=Qh (Ca w0 s.man (.slice (some ⟨gb,off,none⟩) s.man.segs.length cap));have HR1:=Qh (HJ0.out.sg.row.below hb1);have HB1:=Qh (Below.next HB0.out hb1);have HZ1:=Qh (HZ0.out.below hb1);have HNE:=Qs (¬ w0.heap.size=w.heap.size) (fun e=>by have:=HZ0.out.lt;omega);simp only [B3] at HM1 HR1 HB1 HZ1;generalize w0.alloc (.cells #[Vi Vk s.man.gen,Vi Vk s.man.next,Vi Vk s.man.floor,Vi Vk s.man.snap,Vi Vk s.man.snapSeq,.slice (some ⟨gb,off,none⟩) s.man.segs.length cap] 69)=w1 at*;refine(cloneSg_any s.man.segs _ w1 HR1.out HSG.out HLL.out).mono ?_;rintro e w2 ⟨v2,rfl,ho2,hb2⟩;obtain⟨o2,c2',rfl,_,_⟩:=Aj ho2;have HM2:=Qh (HM1.out.below hb2);have c5:=HM2.out.c5;have f5:w2.frozen? ⟨w0.heap.size,5,none⟩=false:=by have:=HM2.out;unfold At at this;simp [World.frozen?,this]
 have HM3:=Qs (At (w2.setCell ⟨w0.heap.size,5,none⟩ (.slice o2 s.man.segs.length c2')) w0.heap.size s.man (.slice o2 s.man.segs.length c2')) (HM2.out.set rfl);have ht3:Ab (fun k=>k=w0.heap.size) w2 (w2.setCell ⟨w0.heap.size,5,none⟩ (.slice o2 s.man.segs.length c2')):=Ab.setCell _ _ _ rfl;have HT3:=Qh ht3;have HO2:=Qh ho2;have HB2:=Qh (Below.next HB1.out hb2);have HZ3:=Qs (At (w2.setCell ⟨w0.heap.size,5,none⟩ (.slice o2 s.man.segs.length c2')) w.heap.size ⟨0,0,0,0,0,[]⟩ (.slice none 0 0)) ((ht3.block _ (HZ1.out.below hb2).lt fun e=>HNE.out e.symm).trans (HZ1.out.below hb2));clear ho2 hb1 hb2 ht3;go_wp2_with (first|with_reducible refine Co rfl (.tmp 3) rfl w0.heap.size s.man (.slice o2 s.man.segs.length c2') rfl HM3.out ?_|with_reducible refine Bp rfl (.tmp 2) (.tmp 15) rfl w.heap.size ⟨0,0,0,0,0,[]⟩ s.man (.slice none 0 0) (.slice o2 s.man.segs.length c2') rfl rfl HZ3.out (oneSl _ _ _) ?_);intro W hW;have HW:=Qs (At W w.heap.size s.man (.slice o2 s.man.segs.length c2')) (by rw [hW.out];exact HZ3.out.row);have h4:Ab (fun k=>k=w.heap.size) (w2.setCell ⟨w0.heap.size,5,none⟩ (.slice o2 s.man.segs.length c2')) W:=by rw [hW.out];exact Jh _ _ _
 have ht:Ab (fun k=>k=w0.heap.size∨k=w.heap.size) w2 W:=(HT3.out.mono (S':=fun k=>k=w0.heap.size∨k=w.heap.size) fun _ h=> .inl h).trans h4 fun _ h=> .inl (.inr h);have HO:=Qh (show Io W w.heap.size (.slice o2 s.man.segs.length c2') s.man.segs from Io.mono (B:=w1.heap.size) (Fx HO2.out ht fun k hk hc=>by
  have h1:=(World.ownsRow.lt HO2.out k hk).1;have h2:=HM1.out.lt;have h3:=HZ1.out.lt;omega) HB1.out.size)
 have HB:=Qh (show Below w.heap.size w W from Al HB2.out ht (fun k hk=>by
  rcases hk with rfl|rfl
  ·exact HB0.out.size
  ·exact μ _) HB2.out.size)
 clear h4 ht hW;go_wp2;exact π (results_mn1 rfl _ _ _ _ _ rfl HW.out) rfl ⟨_,rfl,HO.out,HB.out⟩
theorem stoDecoded_any (h:SJ w b f m L d s mv sv) (hc:s.closed=false):Calls prog 17 #[.pointer (some ⟨b,0,none⟩)] w fun e w'=>e= .returned (Vi Vk (s.decoded:Int))∧w=w':=by
 have HC:=Qh (by have:=N4 h;rw [hc] at this;exact this);have c:w.cell? ⟨b,13,none⟩=some (Vi Vk (s.decoded:Int)):=h.blk.cell 13;clear h hc;go_enter func17,ntmps17;go_wp2_with fail;refine HC.out.mono ?_;rintro e w1 ⟨rfl,rfl⟩;go_wp2;go_ret;exact⟨rfl,rfl⟩
theorem stoLastP_any (h:SJ w b f m L d s mv sv) (hc:s.closed=false) (hs:SB s):Calls prog 16 #[.pointer (some ⟨b,0,none⟩)] w fun e w'=>e= .returned (Vi Vk (lastE s))∧Below w.heap.size w w':=by
 have HC:=Qh (by have:=N4 h;rw [hc] at this;exact this);have HL:=Qh (F2 h hs);clear h hc hs;go_enter func16,ntmps16;go_wp2_with fail;refine HC.out.mono ?_;rintro e w1 ⟨rfl,rfl⟩;go_wp2_with fail;refine HL.out.mono ?_;rintro e w2 ⟨rfl,hb⟩;have HB:=Qh hb;clear hb;go_wp2;go_ret;exact⟨rfl,HB.out⟩
end
theorem own_setIn {n cap:Nat} {e:TypeId} {u:Value} {xs:List Value} (h:w.ownsRow B e size (.slice (some ⟨g,0,none⟩) n cap) n xs):(w.setCell ⟨g,j,none⟩ u).ownsRow B e size (.slice (some ⟨g,0,none⟩) n cap) n (xs.set j u):=by
 refine⟨by rw [List.length_set];exact h.1,?_⟩;rcases h.2 with⟨hn,_⟩|⟨g',cap',cur,e1,hb1,hg,h1,h2,h3,h4⟩
 ·cases hn
 ·simp only [Value.slice.injEq,Option.some.injEq,Addr.mk.injEq,and_true,true_and] at e1;obtain⟨rfl,rfl⟩:=e1;refine .inr ⟨g,cap,cur.setIfInBounds j u,rfl,hb1,?_,h1,h2,by simp [h3],?_⟩
  ·simp only [World.setCell];rw [Array.getElem?_modify];simp [hg]
  ·rw [←h4,Array.toList_setIfInBounds,List.take_set]
theorem sgCells_set (l:List Sg) (g:Sg) (j:Nat) (u:Value):(sgCells (l++[g])).set (l.length*4+j) u=sgCells l++(B4 g).toList.set j u:=by
 unfold sgCells;rw [List.flatMap_append,List.set_append_right _ _ (by have:=J3 l;unfold sgCells at this;omega)];have:=J3 l;unfold sgCells at this;rw [this,Nat.add_sub_cancel_left];simp
theorem Pp (l:List Sg) (g:Sg):sgCells (l++[g])=sgCells l++(B4 g).toList:=by simp [sgCells]
theorem wp_appSg (x y:Operand) (ho:o.op= .call {callee:= .builtin .append,args:= #[x,y],argTypes:= #[67,67]})  {l:List Sg} (p:Sg)
  (hs:a.eval x=v) (hy:a.eval y= .slice (some ⟨w.heap.size,0,none⟩) 1 1) (hown:Io w B v l) (hB:B≤w.heap.size) (hl:l.length≤100000)
  (h: ∀ v' w',Io w' B v' (l++[p])→Ab (fun k=>v.ownBlock=some k) w w'→v'.oneCell'=true→(∀ k,v'.ownBlock=some k→v.ownBlock=some k∨w.heap.size≤k)→K (a.put o.dst v') w'):o.wp prog a (w.alloc (.cells (B4 p) 72)) K Q:=by
 obtain⟨i0,hi,hz0,hz1,hz2⟩:=info_parts infoSg;have hb:=Aa w (.cells (B4 p) 72);obtain⟨v',w',hr,hown',hg,hnew⟩:=I6 (P:=prog) (w.alloc (.cells (B4 p) 72)) B 67 o.type 72 i0 zeroSg 4 32 underlying67 hi hz0 hz1 hz2 rfl (by decide) v l.length (sgCells l) (A2 hown hb) ⟨w.heap.size,0,none⟩ 1 1 (B4 p).toList rfl (fun j u hj=>by
  rw [Cr,Nat.zero_add,World.cell?_alloc_new];simpa using hj) (fun u hu=>by
  simp [B4] at hu;rcases hu with rfl|rfl|rfl|rfl<;>rfl) (by unfold maxLen;omega) (by omega) (η hB hb.size) (by decide)
 unfold Oper.wp execOp;simp only [ho,resolve,invoke,builtin,Sem.run_bind,Sem.run_pure,Result.andThen_ok,List.map_toArray,List.map_cons,List.map_nil,hs,hy,hr];refine h v' w' ?_ ((Ab.below hb).trans (Ab.grown (S:=fun k=>v.ownBlock=some k) hg fun _ hk=>hk) fun _ h=> .inl h) ?_ fun k hk=> ?_
 ·unfold Io;rw [ζ,Pp];exact hown'
 ·obtain⟨_,_,e,_⟩:=Aj hown';rw [e];rfl
 ·rcases hnew with h|h
  ·exact .inl (h▸hk)
  ·rw [h] at hk;have:=φ hk;have:=hb.size;exact .inr (by omega)
section
variable {w : World} {b f m : Nat} {L : List Aq} {d : Af} {s : C6} {mv sv : Value}
theorem Mm {e:Int} (h:turnE d s more=e) (h0:e≠0):Bj d s more=(e,s,if e=54 then Df d s.size else d):=by unfold Bj;rw [h,γ h0]
def StepQ (w:World) (b f m:Nat) (L:List Aq) (mv:Value) (R:Int×C6×Af) (e:Ending) (w':World):Prop:=e= .returned (Vi Vk R.1)∧E9 w b f m L mv R.2.2 R.2.1 w'
structure TW (X W:World) (g:Nat) (mn:Da) (sv':Value):Prop where
 bl:Below X.heap.size X W
 own:Io W X.heap.size sv' mn.segs
 man:At W g mn sv'
 gw:X.heap.size≤g
 ne: ∀ k,sv'.ownBlock=some k→k≠g
theorem TW.below {mn:Da} {sv':Value} (h:TW X W g mn sv') (hb:Below W.heap.size W W'):TW X W' g mn sv':=
 ⟨Below.next h.bl hb,A2 h.own hb,h.man.below hb,h.gw,h.ne⟩
theorem own_freeG {n cap:Nat} {e:TypeId} {xs:List Value} (h:w.ownsRow B e size (.slice (some ⟨g,0,none⟩) n cap) n xs) (j:Nat):w.frozen? ⟨g,j,none⟩=false:=by
 rcases h.2 with⟨hn,_⟩|⟨g',cap',cur,e1,_,hg,_⟩
 ·cases hn
 ·simp only [Value.slice.injEq,Option.some.injEq,Addr.mk.injEq,and_true,true_and] at e1;obtain⟨rfl,rfl⟩:=e1;simp [World.frozen?,hg]
theorem TW.put {g4 cap:Nat} {mn mn':Da} {u:Value} (h:TW X W g mn (.slice (some ⟨g4,0,none⟩) k cap)) (hk:k=mn.segs.length) (hl:mn'.segs.length=mn.segs.length) (hc:(sgCells mn.segs).set j u=sgCells mn'.segs) (hm: ∀ v,B3 mn v=B3 mn' v):
  TW X (W.setCell ⟨g4,j,none⟩ u) g mn' (.slice (some ⟨g4,0,none⟩) k cap):=by
 subst hk;have ho:=h.own;have hg4:X.heap.size≤g4:=(World.ownsRow.lt ho g4 rfl).1;refine⟨h.bl.setCell hg4 _,?_,?_,h.gw,h.ne⟩
 ·unfold Io at ho ⊢;rw [hl,←hc];exact own_setIn ho
 ·have hne:=h.ne g4 rfl;have:=h.man.otherCell (k:=g4) (fun e=>hne e.symm) j u;unfold At at this ⊢;rw [←hm];exact this
theorem TW.set {mn mn':Da} {u:Value} (h:TW X W g mn sv) (hs:mn'.segs=mn.segs) (hc:(B3 mn sv).setIfInBounds j u=B3 mn' sv):TW X (W.setCell ⟨g,j,none⟩ u) g mn' sv:=by
 refine⟨h.bl.setCell h.gw _,?_,?_,h.gw,h.ne⟩
 ·rw [hs];unfold Io;exact Fx h.own (Ab.setCell (S:=fun k=>k=g) _ ⟨g,j,none⟩ _ rfl) fun k hk hc=>h.ne k hk hc
 ·have hm:=h.man;unfold At at hm ⊢;rw [←hc];simp only [World.setCell];rw [Array.getElem?_modify];simp [hm]
theorem TW.app {mn:Da}  {p:Sg} (h:TW X W g mn sv) (hm:Io W' X.heap.size v' (mn.segs++[p])) (ht:Ab (fun k=>sv.ownBlock=some k) W W') (hn: ∀ k,v'.ownBlock=some k→sv.ownBlock=some k∨W.heap.size≤k):
  At W' g mn sv∧TW X (W'.setCell ⟨g,5,none⟩ v') g {mn with segs:=mn.segs++[p]} v':=by
 have hk: ∀ k,sv.ownBlock=some k→X.heap.size≤k:=fun k hk=>(World.ownsRow.lt h.own k hk).1;have hb:At W' g mn sv:=(ht.block g h.man.lt fun hc=>h.ne g hc rfl).trans h.man;have hbl:=Al h.bl ht hk h.bl.size;refine⟨hb,hbl.setCell h.gw _,Fx hm (Ab.setCell (S:=fun k=>k=g) _ ⟨g,5,none⟩ _ rfl) fun k a c=> ?_,hb.set rfl,h.gw,fun k a c=> ?_⟩
 ·rcases hn k a with b|b
  ·exact h.ne k b c
  ·have:=h.man.lt;omega
 ·rcases hn k a with b|b
  ·exact h.ne k b c
  ·have:=h.man.lt;omega
theorem stoTurn_any (more:Nat) (x:Bl) (h:SJ w b f m L d s mv sv) (hs:SB s) (hst:d.steps+60<4611686018427387904) (hc:s.closed=false) (hd:d.down=false)
  (hx:Bf d.files (A9 s.man)=some x) (hxl:s.size=x.data.length) (hsl:s.man.segs.length≤256)
  (hfo:s.count≠0→ ∀ v W,B7 W v x.data→Bh W→Calls prog 79 #[v,Vi Vk (s.stride:Int)] W (Cv W (Fo s,0)))
  (hmo:turnE d s more=0→Cy (Bu s)=true∧(Ah (Bu s)).num≠(Ah s.man).num) (hln:(Fo s).length+(Jy s).length+(Ct (Bu s)).1.length+more≤1000000) (hgn:s.man.gen≤1099511627776∧s.man.next≤1000000∧0≤s.man.gen∧0≤s.man.next):
  Calls prog 52 #[.pointer (some ⟨b,0,none⟩),Vi Vk (more:Int)] w (StepQ w b f m L mv (Bj d s more)):=by
 obtain⟨gb,off,cap,rfl,hcp,_,_⟩:=h.segs hs.segs;have HJ:=Qh h;have HSB:=Qh hs;have HST:=Qh hst;have HC:=Qh hc;have HD:=Qh hd;have HX:=Qh hx;have HXL:=Qh hxl;have HFO:=Qh hfo;have HMO:=Qh hmo;have HLN:=Qh hln;have HGN:=Qh hgn;have HSL:=Qh hsl;obtain⟨R,hR⟩: ∃ R,Bj d s more=R:=⟨_,rfl⟩;rw [hR];have c0:w.cell? ⟨b,0,none⟩=some (Vi Vk (s.count:Int)):=h.blk.cell 0;clear h hs hst hc hd hx hxl hsl hfo hmo hln hgn;rcases hq:((s.count:Int)==0) with _|_;rotate_left
 ·rw [Mm (e:=93) (by unfold turnE;rw [κ (by simpa using hq)]) (by decide),γ (by decide)] at hR;subst hR;go_enter func52,ntmps52;go_wp2;go_ret;exact⟨rfl,E9.same HJ.out⟩
 have hq0: ¬ s.count=0:=by simpa using hq
 have c11:w.cell? ⟨b,11,none⟩=some (.slice (some ⟨gb,off,none⟩) s.man.segs.length cap):=HJ.out.blk.cell 11;obtain⟨n,hn⟩: ∃ n,n=s.man.segs.length:=⟨_,rfl⟩;rw [←hn] at c11 hcp;have HN:=Qh hn;clear hn;rcases hq2:decide ((256:Int)≤(n:Int)) with _|_;rotate_left
 ·rw [Mm (e:=90) (by unfold turnE;rw [γ hq0,κ (by rw [←HN.out];have:=ψ hq2;omega)]) (by decide),γ (by decide)] at hR;subst hR;clear hq0;go_enter func52,ntmps52;go_wp2;go_ret;exact⟨rfl,E9.same HJ.out⟩
 have hq20: ¬ 256≤s.man.segs.length:=by rw [←HN.out];have:=Γ hq2;omega
 have c7:w.cell? ⟨b,7,none⟩=some (Vi Vk s.man.next):=HJ.out.blk.cell 7;have c6:w.cell? ⟨b,6,none⟩=some (Vi Vk s.man.gen):=HJ.out.blk.cell 6;obtain⟨nx,hnx⟩: ∃ nx,nx=s.man.next:=⟨_,rfl⟩;obtain⟨gn,hgn⟩: ∃ gn,gn=s.man.gen:=⟨_,rfl⟩;rw [←hnx] at c7;rw [←hgn] at c6;have HNX:=Qh hnx;have HGE:=Qh hgn;clear hnx hgn;rcases hq3:decide (999999<nx) with _|_;rotate_left
 ·rw [Mm (e:=91) (by unfold turnE;rw [γ hq0,γ hq20,κ (.inl (by rw [←HNX.out];exact ψ hq3))]) (by decide),γ (by decide)] at hR;subst hR;clear hq0 hq20;go_enter func52,ntmps52;go_wp2;go_ret;exact⟨rfl,E9.same HJ.out⟩
 rcases hq4:decide (1099511627776≤gn) with _|_;rotate_left
 ·rw [Mm (e:=91) (by unfold turnE;rw [γ hq0,γ hq20,κ (.inr (by rw [←HGE.out];exact ψ hq4))]) (by decide),γ (by decide)] at hR;subst hR;clear hq0 hq20;go_enter func52,ntmps52;go_wp2;go_ret;exact⟨rfl,E9.same HJ.out⟩
 have HQ:=Qs (turnE d s more=if d.room - (usedF d.files:Int)<((Fo s).length:Int)+((Jy s).length:Int)+((Ct (Bu s)).1.length:Int)+(more:Int)∨700<d.files.length+2 then 54 else 0) (by
  unfold turnE;rw [γ hq0,γ hq20,γ (by rw [←HNX.out,←HGE.out];rintro(h|h);exact Γ hq3 h;exact Γ hq4 h)])
 have HQ0:=Qh hq0;clear hq0 hq20;go_enter func52,ntmps52;go_wp2_with fail;clear hq hq2 hq3 hq4 c0 c6 c7 c11;have HNM:=Qh (fun W (hB:Below w.heap.size w W)=>Hz (HJ.out.below hB) HSB.out.segs);have hbd:Below w.heap.size w (World.drew w):=Ac w 1;refine ε (S:=fun w'=>w'.cell? ⟨b,3,none⟩=some (.pointer (some ⟨f,0,none⟩))∧w'.cell? ⟨b,1,none⟩=some (Vi Vk (s.size:Int))) (by kernel_rfl) ⟨HJ.out.blk.cell 3,HJ.out.blk.cell 1⟩ (fun hHeld=> ?_);have FX1:=Qh (fun(wF:World) (hSw:(fun w'=>w'.cell? ⟨b,3,none⟩=some (.pointer (some ⟨f,0,none⟩))∧w'.cell? ⟨b,1,none⟩=some (Vi Vk (s.size:Int))) wF)=>And.intro ((hSw.1)) ((hSw.2)));refine tf FX1 0 rfl ?_;refine tf FX1 1 rfl ?_;refine tf FX1 2 rfl ?_;refine tf FX1 3 rfl ?_;refine tf FX1 4 rfl ?_;refine tf FX1 6 rfl ?_;refine tf FX1 7 rfl ?_;refine tf FX1 8 rfl ?_;refine tf FX1 9 rfl ?_;refine tf FX1 10 rfl ?_;clear FX1;generalize World.drew w=Wd at*;refine Rd 5 rfl fun K hK=> ?_;go_simp;refine(HNM.out _ hbd).mono ?_;rintro e w2 ⟨rfl,hb2⟩;have HB2:=Qh (Below.next hbd hb2);have HJ2:=Qh (HJ.out.below HB2.out);clear hb2 hbd HNM;go_wp2_with fail;refine hK.out _ _ ⟨HJ2.out.blk.cell 3,HJ2.out.blk.cell 1⟩ (fun hHeld=> ?_);clear hK K;have HRD:=Qh (Ld w2 f m d L HJ2.out.fs (A9 s.man) x (Ey HJ2.out.fs.ok HD.out HX.out) HX.out 0 s.size (by rw [HXL.out];omega));rw [show (x.data.drop 0).take s.size=x.data from by rw [HXL.out,List.drop_zero,List.take_length]] at HRD;refine Rd 11 rfl fun K hK=> ?_;go_simp;refine HRD.out.mono ?_;rintro e w3 ⟨v3,rfl,ho3,hf3,ht3⟩;have HJ3:=Qh (HJ2.out.read hf3 ht3);have HT3:=Qs (Ab (Br b mv f m L) w w3) ((Ab.below (S:=Br b mv f m L) HB2.out).trans (ht3.mono fun k hk=> .inr (.inr (.inl hk))) fun _ h=> .inl h);have HSZ3:=Qh HT3.out.size;obtain⟨o3,c3',rfl,_,_⟩:=Aj ho3;have HV3:=Qh ho3.brow;clear ho3 hf3 ht3 HRD HB2 HJ2;go_wp2_with fail;refine hK.out _ _ ⟨HJ3.out.blk.cell 3,HJ3.out.blk.cell 1⟩ (fun hHeld=> ?_);clear hK K;refine tq 12 rfl ?_;refine tq 13 rfl ?_;refine tq 14 rfl ?_;refine tq 15 rfl ?_;refine tq 16 rfl ?_;refine Ξ (by kernel_rfl) ?_ _;clear hHeld;have c4:w3.cell? ⟨b,4,none⟩=some (Vi Vk (s.stride:Int)):=HJ3.out.blk.cell 4;have HFT:=Qh (HFO.out HQ0.out _ w3 HV3.out HJ3.out.nib);go_wp2_with fail;refine HFT.out.mono ?_;rintro e X ⟨fv,rfl,hof,hbx⟩;obtain⟨of,cf,rfl,_,_⟩:=Aj hof;have HJX:=Qh (HJ3.out.below hbx);have HTX:=Qh (HT3.out.trans (Ab.below (S:=fun _=>False) hbx) fun _ h=>h.elim);have HFX:=Qh (show As (fun k=> ¬ Br b mv f m L k∧k<X.heap.size) X (.slice (some ⟨0,0,none⟩) 0 0) []∨True from .inr trivial);have HOF:=Qh hof;have HW3:=Qh hbx.size;clear hof hbx HFT HFO c4 HV3 HJ3 HT3 HFX;go_wp2_with fail;have HSI:=Qh (show ∀ W g v,TW X W g (Bu s) v→Fu (fun k=> ¬ Br b mv f m L k) W v (Bu s).segs from fun W g v hw=>sgIn_own hw.own fun k hk hc=>by have:=HJX.out.lt k hc;omega);have HMS:=Qh (show ∀ W g v,TW X W g (Bu s) v→Calls prog 81 #[mnV (Bu s) v] W fun e w'=>e= .returned (Vi Vk ((Ct (Bu s)).1.length:Int))∧Below W.heap.size W w' from fun W g v hw=>manSize_any (Bu s) v W (HSI.out W g v hw).row (HJX.out.nib.below hw.bl));have HFE:=Qh (show ∀ W,Below X.heap.size X W→Calls prog 69 #[.pointer (some ⟨f,0,none⟩)] W fun e w'=>e= .returned (Vi Vk (d.room - (usedF d.files:Int)))∧Below W.heap.size W w' from fun W hB=>fsFree_any W f m (Df d s.size) L (HJX.out.below hB).fs);have HLI:=Qh (show ∀ W,Below X.heap.size X W→Calls prog 82 #[.pointer (some ⟨f,0,none⟩)] W fun e w'=> ∃ v,e= .returned v∧w'.ownsRow W.heap.size 9 1 v L.length ((Cu L).map encStr)∧Below W.heap.size W w' from fun W hB=>list_any W f m (Df d s.size) L (HJX.out.below hB).fs HD.out);have HMF:=Qh (stoManifest_any HJX.out HC.out HSB.out.segs (by have:=HSL.out;omega));refine HMF.out.mono ?_;rintro e w4 ⟨v4,rfl,ho4,hb4⟩;have hn0:0<s.man.segs.length:=Ψ.2 HSB.out.segs;obtain⟨g4,cap4,rfl,hg4,hl4,hc4,_⟩:=Dr ho4 hn0;obtain⟨pre,hpre⟩: ∃ pre,s.man.segs=pre++[Ah s.man]:=⟨s.man.segs.dropLast,by
  unfold Ah;rw [List.getLast?_eq_some_getLast HSB.out.segs];exact(List.dropLast_concat_getLast HSB.out.segs).symm⟩
 have HPR:=Qh hpre;have hba:=Aa w4 (.cells (B3 s.man (.slice (some ⟨g4,0,none⟩) s.man.segs.length cap4)) 69)
 have HW:=Qh (show TW X (w4.alloc (.cells (B3 s.man (.slice (some ⟨g4,0,none⟩) s.man.segs.length cap4)) 69)) w4.heap.size s.man (.slice (some ⟨g4,0,none⟩) s.man.segs.length cap4) from
  ⟨Below.next hb4 hba,A2 ho4 hba,σ w4 _,hb4.size,fun k hk hc=>by have:=(World.ownsRow.lt ho4 k hk).2;omega⟩)
 simp only [B3] at HW;have hk1:s.man.segs.length=pre.length+1:=by rw [hpre];simp
 obtain⟨P,hP⟩: ∃ P,P=pre.length:=⟨_,rfl⟩;obtain⟨k,hk⟩: ∃ k,k=s.man.segs.length:=⟨_,rfl⟩;rw [←hk] at HW hc4;have HK:=Qh hk;have HPP:=Qh hP;have HKP:=Qs (k=P+1) (by omega);have hwn:IntKind.i64.wrap ((k:Int) - 1)=(P:Int):=by have:=HSL.out;rw [ν];omega
 have qm:P<k:=by omega
 have qn:(P:Int)<(k:Int):=by omega
 rw [←hk];clear ho4 hb4 hba hg4 hl4 HMF hpre hk1 hk hP hn0;have C5:=HW.out.man.c5;go_wp2_with fail;generalize w4.heap.size=g at*;generalize w4.alloc (.cells #[Vi Vk s.man.gen,Vi Vk s.man.next,Vi Vk s.man.floor,Vi Vk s.man.snap,Vi Vk s.man.snapSeq,.slice (some ⟨g4,0,none⟩) k cap4] 69)=w5 at*;clear C5;have hbd:Below w5.heap.size w5 (World.drew w5):=Ac w5 1;replace HW:=Qh (HW.out.below hbd);refine ε (S:=fun w'=>Below X.heap.size X w') (by kernel_rfl) HW.out.bl (fun hHeld=> ?_);have FX2:=Qh (fun(wF:World) (hSw:(fun w'=>Below X.heap.size X w') wF)=>And.intro ((cell_later hSw (show X.cell? ⟨b,0,none⟩=some (Vi Vk (s.count:Int)) from HJX.out.blk.cell 0))) ((cell_later hSw (show X.cell? ⟨b,1,none⟩=some (Vi Vk (s.size:Int)) from HJX.out.blk.cell 1))));refine tf FX2 0 rfl ?_;refine tf FX2 1 rfl ?_;refine tf FX2 2 rfl ?_;refine tf FX2 3 rfl ?_;refine tf FX2 4 rfl ?_;refine tf FX2 5 rfl ?_;refine tf FX2 6 rfl ?_;refine tf FX2 7 rfl ?_;refine tf FX2 8 rfl ?_;refine tf FX2 9 rfl ?_;refine tf FX2 10 rfl ?_;refine tf FX2 11 rfl ?_;refine tf FX2 12 rfl ?_;refine tf FX2 13 rfl ?_;clear FX2;clear hbd;generalize World.drew w5=w6 at*;have HS1:=Qh (HW.out.put (j:=P*4+2) (u:= Vi Vk (s.count:Int)) (mn':={s.man with segs:=pre++[{Ah s.man with count:=(s.count:Int)}]}) HK.out (by rw [HPR.out];simp) (by rw [HPR.out,HPP.out,sgCells_set,Pp];rfl) (fun _=>rfl));have HS2:=Qh (HS1.out.put (j:=P*4+3) (u:= Vi Vk (s.size:Int)) (mn':={s.man with segs:=pre++[{Ah s.man with count:=(s.count:Int),foot:=(s.size:Int)}]}) (by rw [HKP.out,HPP.out];simp) (by simp) (by rw [HPP.out,sgCells_set,Pp];rfl) (fun _=>rfl));have HC2:=Qs (w6.cell? ⟨g4,P*4+2,none⟩=some (Vi Vk (Ah s.man).count)) (by
  obtain⟨g',c',e,_,_,_,_,hc⟩:=Dr HW.out.own (by rw [←HK.out];omega);simp only [Value.slice.injEq,Option.some.injEq,Addr.mk.injEq,and_true] at e;obtain⟨rfl,_,rfl⟩:=e;exact hc _ _ (M6 _ P (Ah s.man) (by rw [HPR.out,HPP.out];simp) 2 _ rfl))
 have HC3:=Qs ((w6.setCell ⟨g4,P*4+2,none⟩ (Vi Vk (s.count:Int))).cell? ⟨g4,P*4+3,none⟩=some (Vi Vk (Ah s.man).foot)) (by
  obtain⟨g',c',e,_,_,_,_,hc⟩:=Dr HS1.out.own (by simp);simp only [Value.slice.injEq,Option.some.injEq,Addr.mk.injEq,and_true] at e;obtain⟨rfl,_,rfl⟩:=e;exact hc _ _ (M6 _ P {Ah s.man with count:=(s.count:Int)} (by rw [HPP.out];simp) 3 _ rfl))
 have HF2:=Qh (fun(W:World) (mn':Da) (hw:TW X W g mn' (.slice (some ⟨g4,0,none⟩) k cap4)) (he:k=mn'.segs.length) j=>own_freeG (by have:=hw.own;unfold Io at this;rw [←he] at this;exact this) j);refine Rd 14 rfl fun K hK=> ?_;rw [κ (by kernel_rfl)];refine Fi 3 (.tmp 96) (.tmp 89) rfl g4 (P*4+2) (Vi Vk (s.count:Int)) (Vi Vk (Ah s.man).count) (by kernel_rfl) rfl (by kernel_rfl) (by kernel_rfl) HC2.out (HF2.out w6 _ HW.out HK.out _) ?_;generalize w6.setCell ⟨g4,P*4+2,none⟩ (Vi Vk (s.count:Int))=w7 at*;refine hK.out _ _ HS1.out.bl (fun hHeld=> ?_);clear hK K;refine tq 15 rfl ?_;refine tq 16 rfl ?_;refine Rd 17 rfl fun K hK=> ?_;rw [κ (by kernel_rfl)];refine Fi 3 (.tmp 98) (.tmp 94) rfl g4 (P*4+3) (Vi Vk (s.size:Int)) (Vi Vk (Ah s.man).foot) (by kernel_rfl) rfl (by kernel_rfl) (by kernel_rfl) HC3.out (HF2.out w7 _ HS1.out (by rw [HKP.out,HPP.out];simp) _) ?_;generalize w7.setCell ⟨g4,P*4+3,none⟩ (Vi Vk (s.size:Int))=w8 at*;refine hK.out _ _ HS2.out.bl (fun hHeld=> ?_);clear hK K hHeld;refine Ξ (by kernel_rfl) ?_ _;obtain⟨m1,hm1⟩: ∃ m1:Da,m1={s.man with segs:=pre++[{Ah s.man with count:=(s.count:Int),foot:=(s.size:Int)}]}:=⟨_,rfl⟩;rw [←hm1] at HS2;have HM1:=Qh hm1;have HW8:=Qh HS2.out;have HSG1:=Qs (k=m1.segs.length) (by rw [hm1,HKP.out,HPP.out];simp);clear HS1 HS2 HC2 HC3 HW hm1;go_wp2_with fail;have HNX1:=Qs (m1.next=s.man.next) (by rw [HM1.out]);have hbd:Below w8.heap.size w8 (World.drew w8):=Ac w8 1;replace HW8:=Qh (HW8.out.below hbd);have HLS:=Qh (fun W (hB:Below X.heap.size X W)=>F2 (HJX.out.below hB) HSB.out);have HLE:=Qs (0≤lastE s∧lastE s≤2199023255552) (by unfold lastE;have:=HSB.out.first;have:=HSB.out.count;omega);refine ε (S:=fun w'=>w'.cell? ⟨g,1,none⟩=some (Vi Vk m1.next)) (by kernel_rfl) HW8.out.man.c1 (fun hHeld=> ?_);have FX3:=Qh (fun(wF:World) (hSw:(fun w'=>w'.cell? ⟨g,1,none⟩=some (Vi Vk m1.next)) wF)=>(hSw));refine tf FX3 0 rfl ?_;refine tf FX3 2 rfl ?_;refine tf FX3 3 rfl ?_;refine tf FX3 4 rfl ?_;clear FX3;clear hbd;generalize World.drew w8=w9 at*;have hw9:IntKind.i64.wrap (lastE s+1)=lastE s+1:=by rw [ν];have:=HLE.out;omega
 have HW9:=Qh hw9;clear hw9;refine wpAnyH_ready (rs:=[1,5]) (by kernel_rfl) (by simp) ?_;refine AllReadyH.cons rfl (fun K hK=> ?_) (AllReadyH.cons rfl (fun K hK=> ?_) AllReadyH.nil)
 focus
  have c5:w9.cell? ⟨g,5,none⟩=some (.slice (some ⟨g4,0,none⟩) k cap4):=HW8.out.man.c5;go_simp;refine hK.out _ _ hHeld (fun hHeld=> ?_);clear hK K c5;refine Rd 5 rfl fun K hK=> ?_;go_simp;refine(HLS.out _ HW8.out.bl).mono ?_;rintro e wl ⟨rfl,hbl⟩;have HWL:=Qh (HW8.out.below hbl);clear hbl hHeld;go_wp2_with fail;refine hK.out _ _ HWL.out.man.c1 (fun hHeld=> ?_);clear hK K;have FX4:=Qh (fun(wF:World) (hSw:(fun w'=>w'.cell? ⟨g,1,none⟩=some (Vi Vk m1.next)) wF)=>(HW9.out));refine tf FX4 6 rfl ?_;refine tf FX4 7 rfl ?_;clear FX4;refine Rd 8 rfl fun K hK=> ?_;go_simp;refine hK.out _ _ (show (wl.alloc (.cells #[Vi Vk m1.next,Vi Vk (lastE s+1),Vi Vk 0,Vi Vk 0] 72)).cell? ⟨g,1,none⟩=_ from cell_later (Aa wl _) HWL.out.man.c1) (fun hHeld=> ?_);clear hK K
 rotate_left
 focus
  go_simp;refine(HLS.out _ HW8.out.bl).mono ?_;rintro e wl ⟨rfl,hbl⟩;have HWL:=Qh (HW8.out.below hbl);clear hbl hHeld;go_wp2_with fail;refine hK.out _ _ HWL.out.man.c1 (fun hHeld=> ?_);clear hK K;have FX5:=Qh (fun(wF:World) (hSw:(fun w'=>w'.cell? ⟨g,1,none⟩=some (Vi Vk m1.next)) wF)=>(HW9.out));refine tf FX5 6 rfl ?_;refine tf FX5 7 rfl ?_;clear FX5;refine wpAnyH_ready (rs:=[1,8]) (by kernel_rfl) (by simp) ?_;refine AllReadyH.cons rfl (fun K hK=> ?_) (AllReadyH.cons rfl (fun K hK=> ?_) AllReadyH.nil)
  focus
   have c5:wl.cell? ⟨g,5,none⟩=some (.slice (some ⟨g4,0,none⟩) k cap4):=HWL.out.man.c5;go_simp;refine hK.out _ _ hHeld (fun hHeld=> ?_);clear hK K c5;refine Rd 8 rfl fun K hK=> ?_;go_simp;refine hK.out _ _ (show (wl.alloc (.cells #[Vi Vk m1.next,Vi Vk (lastE s+1),Vi Vk 0,Vi Vk 0] 72)).cell? ⟨g,1,none⟩=_ from cell_later (Aa wl _) HWL.out.man.c1) (fun hHeld=> ?_);clear hK K
  rotate_left
  focus
   go_simp;refine hK.out _ _ (show (wl.alloc (.cells #[Vi Vk m1.next,Vi Vk (lastE s+1),Vi Vk 0,Vi Vk 0] 72)).cell? ⟨g,1,none⟩=_ from cell_later (Aa wl _) HWL.out.man.c1) (fun hHeld=> ?_);clear hK K;have c5:(wl.alloc (.cells #[Vi Vk m1.next,Vi Vk (lastE s+1),Vi Vk 0,Vi Vk 0] 72)).cell? ⟨g,5,none⟩=some (.slice (some ⟨g4,0,none⟩) k cap4):=cell_later (Aa wl _) HWL.out.man.c5;refine Rd 1 rfl fun K hK=> ?_;go_simp;refine hK.out _ _ hHeld (fun hHeld=> ?_);clear hK K c5
 all_goals
  refine Rd 9 rfl fun K hK=> ?_;rw [κ (by kernel_rfl)];refine wp_appSg (.tmp 100) (.tmp 107) rfl ⟨m1.next,lastE s+1,0,0⟩ rfl rfl (by have:=HWL.out.own;exact this) HWL.out.bl.size (by have:=HSG1.out;have:=HSL.out;have:=HK.out;omega) ?_;intro v5 wm hm5 ht5 hone5 hnew5;obtain⟨hmb,htw⟩:=HWL.out.app hm5 ht5 hnew5;have HMB:=Qh hmb;have HWA:=Qh htw;have HOB:=Qs (Io wm X.heap.size v5 (m1.segs++[⟨m1.next,lastE s+1,0,0⟩])) hm5;clear hmb htw hm5 ht5 hnew5 HWL;refine hK.out _ _ HMB.out.c1 (fun hHeld=> ?_);clear hK K;refine Rd 10 rfl fun K hK=> ?_;go_simp;refine hK.out _ _ hHeld (fun hHeld=> ?_);clear hK K;refine Rd 11 rfl fun K hK=> ?_;rw [κ (by kernel_rfl)];refine Fi 67 (.tmp 109) (.tmp 108) rfl g 5 v5 (.slice (some ⟨g4,0,none⟩) k cap4) (by kernel_rfl) hone5 (by kernel_rfl) (by kernel_rfl) HMB.out.c5 (HMB.out.free 5) ?_;generalize wm.setCell ⟨g,5,none⟩ v5=wn at*;refine hK.out _ _ HWA.out.man.c1 (fun _=> ?_);clear hK K hHeld HMB HOB hone5;refine Ξ (by kernel_rfl) ?_ _;obtain⟨sg2,hsg2⟩: ∃ sg2,sg2=m1.segs++[⟨m1.next,lastE s+1,0,0⟩]:=⟨_,rfl⟩;rw [←hsg2] at HWA;have HSS:=Qh hsg2;clear hsg2;have HSL2:=Qs (sg2.length=k+1) (by rw [HSS.out,ζ,←HSG1.out];rfl);have HMT:=Qs (Bu s={s.man with gen:=s.man.gen+1,next:=s.man.next+1,segs:=sg2}) (by
   unfold Bu;rw [HSS.out,HM1.out];simp only [HPR.out,List.dropLast_concat,List.append_assoc,List.cons_append,List.nil_append])
  have c1:wn.cell? ⟨g,1,none⟩=some (Vi Vk m1.next):=HWA.out.man.c1;have c0:wn.cell? ⟨g,0,none⟩=some (Vi Vk s.man.gen):=by have:=HWA.out.man.c0;rw [show ({m1 with segs:=sg2}:Da).gen=s.man.gen from by rw [HM1.out]] at this;exact this
  have f1:=HWA.out.man.free 1;have f0:=HWA.out.man.free 0;have hn1:IntKind.i64.wrap (m1.next+1)=m1.next+1:=by rw [ν,HNX1.out];have:=HGN.out;omega
  have hg1:IntKind.i64.wrap (s.man.gen+1)=s.man.gen+1:=by rw [ν];have:=HGN.out;omega
  have HWB:=Qs (TW X ((wn.setCell ⟨g,1,none⟩ (Vi Vk (m1.next+1))).setCell ⟨g,0,none⟩ (Vi Vk (s.man.gen+1))) g (Bu s) v5) (by
   have a:=HWA.out.set (j:=1) (u:= Vi Vk (m1.next+1)) (mn':={m1 with segs:=sg2,next:=m1.next+1}) rfl rfl;have b:=a.set (j:=0) (u:= Vi Vk (s.man.gen+1)) (mn':={m1 with segs:=sg2,next:=m1.next+1,gen:=s.man.gen+1}) rfl rfl;rw [HMT.out];rw [show ({m1 with segs:=sg2,next:=m1.next+1,gen:=s.man.gen+1}:Da)={s.man with gen:=s.man.gen+1,next:=s.man.next+1,segs:=sg2} from by rw [HNX1.out,HM1.out]] at b;exact b)
  clear HWA;go_wp2_with fail;generalize (wn.setCell ⟨g,1,none⟩ (Vi Vk (m1.next+1))).setCell ⟨g,0,none⟩ (Vi Vk (s.man.gen+1))=wo at*;clear c1 c0 f1 f0 hn1 hg1;obtain⟨K1,hK1⟩: ∃ K1,K1=k+1:=⟨_,rfl⟩;have HK1:=Qh hK1;obtain⟨g5,cap5,rfl,_,_,hc5,_,hcell5⟩:=Dr (show wo.ownsRow X.heap.size 72 4 v5 K1 (sgCells sg2) from by have:=HWB.out.own;rw [HMT.out] at this;unfold Io at this;simp only [HSL2.out,←hK1] at this;exact this) (by omega);have HN5:=Qs (wo.cell? ⟨g5,k*4,none⟩=some (Vi Vk s.man.next)) (hcell5 _ _ (M6 _ k ⟨m1.next,lastE s+1,0,0⟩ (by rw [HSS.out,HSG1.out];simp) 0 _ (by rw [HNX1.out];rfl)));have HW5:=Qs (wo.cell? ⟨g,5,none⟩=some (.slice (some ⟨g5,0,none⟩) K1 cap5)) HWB.out.man.c5;clear hcell5;have hbd:Below wo.heap.size wo (World.drew wo):=Ac wo 1;refine ε (S:=fun w'=>w'.cell? ⟨g,5,none⟩=some (.slice (some ⟨g5,0,none⟩) K1 cap5)∧w'.cell? ⟨g5,k*4,none⟩=some (Vi Vk s.man.next)) (by kernel_rfl) ⟨HW5.out,HN5.out⟩ (fun hHeld=> ?_);have hwk:IntKind.i64.wrap ((K1:Int) - 1)=(k:Int):=by have:=HSL.out;have:=HK.out;rw [ν];omega
  have qk:k<K1:=by omega
  have qk2:(k:Int)<(K1:Int):=by omega
  have HWK:=Qh (And.intro hwk (And.intro qk qk2));clear hwk qk qk2 hK1;have FX6:=Qh (fun(wF:World) (hSw:(fun w'=>w'.cell? ⟨g,5,none⟩=some (.slice (some ⟨g5,0,none⟩) K1 cap5)∧w'.cell? ⟨g5,k*4,none⟩=some (Vi Vk s.man.next)) wF)=>(hSw.1));refine tf FX6 0 rfl ?_;refine tf FX6 1 rfl ?_;refine tf FX6 2 rfl ?_;refine tf FX6 3 rfl ?_;refine tf FX6 4 rfl ?_;refine tf FX6 9 rfl ?_;clear FX6;have FX7:=Qh (fun(wF:World) (hSw:(fun w'=>w'.cell? ⟨g,5,none⟩=some (.slice (some ⟨g5,0,none⟩) K1 cap5)∧w'.cell? ⟨g5,k*4,none⟩=some (Vi Vk s.man.next)) wF)=>And.intro ((HWK.out.1)) (And.intro ((HWK.out.2.1)) ((HWK.out.2.2))));refine tf FX7 5 rfl ?_;refine tf FX7 6 rfl ?_;clear FX7;refine tq 7 rfl ?_;have FX8:=Qh (fun(wF:World) (hSw:(fun w'=>w'.cell? ⟨g,5,none⟩=some (.slice (some ⟨g5,0,none⟩) K1 cap5)∧w'.cell? ⟨g5,k*4,none⟩=some (Vi Vk s.man.next)) wF)=>(hSw.2));refine tf FX8 8 rfl ?_;clear FX8;clear hbd;generalize hwd:World.drew wo=wd at*;replace HWB:=Qs (TW X wd g (Bu s) (.slice (some ⟨g5,0,none⟩) K1 cap5)) (by rw [←hwd];exact HWB.out.below (Ac wo 1));clear hwd HW5 HN5;refine Rd 10 rfl fun K hK=> ?_;go_simp;refine(HLS.out _ HWB.out.bl).mono ?_;rintro e wl2 ⟨rfl,hbl⟩;replace HWB:=Qh (HWB.out.below hbl);have HSZX:=Qh HWB.out.bl.size;go_wp2_with fail;refine hK.out _ _ ⟨cell_later hbl hHeld.1,cell_later hbl hHeld.2⟩ (fun hHeld=> ?_);clear hK K hbl;have FX9:=Qh (fun(wF:World) (hSw:(fun w'=>w'.cell? ⟨g,5,none⟩=some (.slice (some ⟨g5,0,none⟩) K1 cap5)∧w'.cell? ⟨g5,k*4,none⟩=some (Vi Vk s.man.next)) wF)=>(HW9.out));refine tf FX9 11 rfl ?_;clear FX9;refine Rd 12 rfl fun K hK=> ?_;go_simp;have HHD:=Qh (header_any s.man.next (lastE s+1) wl2 (HJX.out.nib.below HWB.out.bl));obtain⟨hy,hhy⟩: ∃ y,y=Hs s.man.next (lastE s+1):=⟨_,rfl⟩;have HHS:=Qs (Jy s=hy.1) (by rw [hhy];rfl);rw [←hhy] at HHD;clear hhy;obtain⟨H,he1⟩:=hy;dsimp only at HHS;unfold Cv at HHD;dsimp only at HHD;refine HHD.out.mono ?_;rintro e wh ⟨hv,rfl,hoh,hbh⟩;obtain⟨oh,ch,rfl,_,_⟩:=Aj hoh;replace HWB:=Qh (HWB.out.below hbh);have HOH:=Qh hoh;go_wp2_with fail;refine hK.out _ _ ⟨cell_later hbh hHeld.1,cell_later hbh hHeld.2⟩ (fun hHeld=> ?_);clear hK K hbh hoh HHD;refine tq 13 rfl ?_;refine tq 14 rfl ?_;refine tq 15 rfl ?_;refine tq 16 rfl ?_;refine tq 17 rfl ?_;refine Ξ (by kernel_rfl) ?_ _;clear hHeld;obtain⟨ml,hml⟩: ∃ ml,ml=(Ct (Bu s)).1.length:=⟨_,rfl⟩;obtain⟨fl,hfl⟩: ∃ fl,fl=(Fo s).length:=⟨_,rfl⟩;obtain⟨fr,hfr⟩: ∃ fr:Int,fr=d.room - (usedF d.files:Int):=⟨_,rfl⟩;have HLNN:=Qs (fl+H.length+ml+more≤1000000) (by have:=HLN.out;rw [HHS.out] at this;omega);have HQQ:=Qs (turnE d s more=if fr<(fl:Int)+(H.length:Int)+(ml:Int)+(more:Int)∨700<d.files.length+2 then 54 else 0) (by rw [HQ.out,hml,hfl,hfr,HHS.out]);have HFN:=Qs (L.length=d.files.length) (by have:=HJX.out.fs.fil;rw [show (Df d s.size).files=d.files from rfl] at this;rw [←this];simp [Js]);have HFL:=Qh hfl;have HML:=Qh hml;have HFR:=Qh hfr;rw [←hfl];rw [←hfl] at HOF;clear hml hfl hfr;obtain⟨a1,ha1⟩: ∃ a1:Nat,a1=fl+H.length:=⟨_,rfl⟩;obtain⟨a2,ha2⟩: ∃ a2:Nat,a2=a1+ml:=⟨_,rfl⟩;obtain⟨a3,ha3⟩: ∃ a3:Nat,a3=a2+more:=⟨_,rfl⟩;have hx1:IntKind.i64.wrap ((fl:Int)+(H.length:Int))=(a1:Int):=by have:=HLNN.out;rw [ν];omega
  have hx2:IntKind.i64.wrap ((a1:Int)+((Ct (Bu s)).1.length:Int))=(a2:Int):=by have:=HLNN.out;rw [←HML.out,ν];omega
  have hx3:IntKind.i64.wrap ((a2:Int)+(more:Int))=(a3:Int):=by have:=HLNN.out;rw [ν];omega
  have HX1:=Qh hx1;have HX2:=Qh hx2;have HX3:=Qh hx3;have HA3:=Qs ((a3:Int)=(fl:Int)+(H.length:Int)+(ml:Int)+(more:Int)) (by omega);clear hx1 hx2 hx3 ha1 ha2 ha3;go_wp2_with fail;have hbd2:Below wh.heap.size wh (World.drew wh):=Ac wh 1;have HWD:=Qh (HWB.out.below hbd2);have HOHD:=Qs (Cw (World.drew wh) wl2.heap.size (.slice oh H.length ch) H) (A2 HOH.out hbd2);refine ε (S:=fun w'=>Below X.heap.size X w'∧At w' g (Bu s) (.slice (some ⟨g5,0,none⟩) K1 cap5)) (by kernel_rfl) ⟨HWD.out.bl,HWD.out.man⟩ (fun hHeld=> ?_);clear hbd2 HWB HOH;generalize World.drew wh=wd2 at*;refine tq 0 rfl ?_;refine tq 1 rfl ?_;refine tq 2 rfl ?_;refine tq 3 rfl ?_;have FX10:=Qh (fun(wF:World) (hSw:(fun w'=>Below X.heap.size X w'∧At w' g (Bu s) (.slice (some ⟨g5,0,none⟩) K1 cap5)) wF)=>(HX1.out));refine tf FX10 4 rfl ?_;clear FX10;refine tkl 5 g 0 [Vi Vk (Bu s).gen,Vi Vk (Bu s).next,Vi Vk (Bu s).floor,Vi Vk (Bu s).snap,Vi Vk (Bu s).snapSeq,.slice (some ⟨g5,0,none⟩) K1 cap5] rfl rfl (fun w' h j u hj=>by rw [Nat.zero_add,h.2.cell];simpa [B3] using hj) underlying69 rfl (by rw [Ko];rfl) ?_;simp only [pA,pB,pC,pD];have FX11:=Qh (fun(wF:World) (hSw:(fun w'=>Below X.heap.size X w'∧At w' g (Bu s) (.slice (some ⟨g5,0,none⟩) K1 cap5)) wF)=>(cell_later hSw.1 (show X.cell? ⟨b,3,none⟩=some (.pointer (some ⟨f,0,none⟩)) from HJX.out.blk.cell 3)));refine tf FX11 8 rfl ?_;refine tf FX11 10 rfl ?_;refine tf FX11 11 rfl ?_;refine tf FX11 12 rfl ?_;refine tf FX11 13 rfl ?_;clear FX11;refine Rd 6 rfl fun K hK=> ?_;go_simp;refine(HMS.out _ g _ HWD.out).mono ?_;rintro e wj ⟨rfl,hbj⟩;replace HWD:=Qh (HWD.out.below hbj);replace HOHD:=Qs (Cw wj wl2.heap.size (.slice oh H.length ch) H) (A2 HOHD.out hbj);go_wp2_with fail;refine hK.out _ _ ⟨HWD.out.bl,HWD.out.man⟩ (fun hHeld=> ?_);clear hK K hbj;have FX12:=Qh (fun(wF:World) (hSw:(fun w'=>Below X.heap.size X w'∧At w' g (Bu s) (.slice (some ⟨g5,0,none⟩) K1 cap5)) wF)=>(HX2.out));refine tf FX12 7 rfl ?_;clear FX12;have FX13:=Qh (fun(wF:World) (hSw:(fun w'=>Below X.heap.size X w'∧At w' g (Bu s) (.slice (some ⟨g5,0,none⟩) K1 cap5)) wF)=>(HX3.out));refine tf FX13 9 rfl ?_;clear FX13;refine Rd 14 rfl fun K hK=> ?_;go_simp;refine(HFE.out _ HWD.out.bl).mono ?_;rintro e wk ⟨rfl,hbk⟩;replace HWD:=Qh (HWD.out.below hbk);replace HOHD:=Qs (Cw wk wl2.heap.size (.slice oh H.length ch) H) (A2 HOHD.out hbk);go_wp2_with fail;refine hK.out _ _ ⟨HWD.out.bl,HWD.out.man⟩ (fun hHeld=> ?_);clear hK K hbk;rcases hdec:decide (d.room - (usedF d.files:Int)<(a3:Int)) with _|_;rotate_left
  focus
   have FX14:=Qh (fun(wF:World) (hSw:(fun w'=>Below X.heap.size X w'∧At w' g (Bu s) (.slice (some ⟨g5,0,none⟩) K1 cap5)) wF)=>(hdec));refine tf FX14 15 rfl ?_;clear FX14;refine tq 16 rfl ?_;refine tkn 17 rfl ?_;simp only [pA,pB,pC,pD];refine tkn 18 rfl ?_;simp only [pA,pB,pC,pD];refine tkn 19 rfl ?_;simp only [pA,pB,pC,pD];refine tkn 20 rfl ?_;simp only [pA,pB,pC,pD];refine tkn 21 rfl ?_;simp only [pA,pB,pC,pD];refine tkn 22 rfl ?_;simp only [pA,pB,pC,pD];refine tkn 23 rfl ?_;simp only [pA,pB,pC,pD];refine tkn 24 rfl ?_;simp only [pA,pB,pC,pD];refine tq 25 rfl ?_;rw [Mm (e:=54) (by rw [HQQ.out,κ (by left;have:=ψ hdec;have:=HA3.out;have:=HFR.out;omega)]) (by decide),κ rfl] at hR;subst hR;have HPO:=Qs (E9 w b f m L mv (Df d s.size) s wk) ((E9.below HJX.out HWD.out.bl).then HTX.out fun _ h=> .inl h);refine Ξ (by kernel_rfl) ?_ _;go_wp2;go_ret;exact⟨rfl,HPO.out⟩
  have FX15:=Qh (fun(wF:World) (hSw:(fun w'=>Below X.heap.size X w'∧At w' g (Bu s) (.slice (some ⟨g5,0,none⟩) K1 cap5)) wF)=>(hdec));refine tf FX15 15 rfl ?_;clear FX15;refine tq 16 rfl ?_;have FX16:=Qh (fun(wF:World) (hSw:(fun w'=>Below X.heap.size X w'∧At w' g (Bu s) (.slice (some ⟨g5,0,none⟩) K1 cap5)) wF)=>(cell_later hSw.1 (show X.cell? ⟨b,3,none⟩=some (.pointer (some ⟨f,0,none⟩)) from HJX.out.blk.cell 3)));refine tf FX16 17 rfl ?_;refine tf FX16 18 rfl ?_;refine tf FX16 19 rfl ?_;refine tf FX16 20 rfl ?_;clear FX16;refine Rd 21 rfl fun K hK=> ?_;go_simp;refine(HLI.out _ HWD.out.bl).mono ?_;rintro e wq ⟨lv,rfl,hol,hbq⟩;obtain⟨ol,cl,rfl,_,_⟩:=Aj hol;replace HWD:=Qh (HWD.out.below hbq);replace HOHD:=Qs (Cw wq wl2.heap.size (.slice oh H.length ch) H) (A2 HOHD.out hbq);go_wp2_with fail;refine hK.out _ _ ⟨HWD.out.bl,HWD.out.man⟩ (fun hHeld=> ?_);clear hK K hbq hol;have hln2:IntKind.i64.wrap ((L.length:Int)+2)=(L.length:Int)+2:=by rw [ν];have:=HFN.out;have:=HJX.out.fs.ok.count;have h7:(Df d s.size).files=d.files:=rfl;rw [h7] at this;omega
  have HLN2:=Qh hln2;clear hln2;refine tq 22 rfl ?_;have FX17:=Qh (fun(wF:World) (hSw:(fun w'=>Below X.heap.size X w'∧At w' g (Bu s) (.slice (some ⟨g5,0,none⟩) K1 cap5)) wF)=>(HLN2.out));refine tf FX17 23 rfl ?_;clear FX17;rcases hde2:decide (700<(L.length:Int)+2) with _|_;rotate_left
  focus
   have FX18:=Qh (fun(wF:World) (hSw:(fun w'=>Below X.heap.size X w'∧At w' g (Bu s) (.slice (some ⟨g5,0,none⟩) K1 cap5)) wF)=>(hde2));refine tf FX18 24 rfl ?_;clear FX18;refine tq 25 rfl ?_;rw [Mm (e:=54) (by rw [HQQ.out,κ (by right;have:=ψ hde2;have:=HFN.out;omega)]) (by decide),κ rfl] at hR;subst hR;have HPO:=Qs (E9 w b f m L mv (Df d s.size) s wq) ((E9.below HJX.out HWD.out.bl).then HTX.out fun _ h=> .inl h);refine Ξ (by kernel_rfl) ?_ _;go_wp2;go_ret;exact⟨rfl,HPO.out⟩
  have FX19:=Qh (fun(wF:World) (hSw:(fun w'=>Below X.heap.size X w'∧At w' g (Bu s) (.slice (some ⟨g5,0,none⟩) K1 cap5)) wF)=>(hde2));refine tf FX19 24 rfl ?_;clear FX19;refine tq 25 rfl ?_;refine Ξ (by kernel_rfl) ?_ _;clear hHeld;have HE0:=Qs (turnE d s more=0) (by
   rw [HQQ.out,γ];rintro(h|h)
   ·have:=Γ hdec;have:=HA3.out;have:=HFR.out;omega
   ·have:=Γ hde2;have:=HFN.out;omega)
  have HMB:=Qh HWD.out.man;have HTW:=Qs (Ab (Br b mv f m L) w wq) (HTX.out.trans (Ab.below (S:=fun _=>False) HWD.out.bl) fun _ h=>h.elim);have HLSG:=Qs ((Ah (Bu s)).num=s.man.next) (by
   rw [HMT.out];unfold Ah;simp only [HSS.out,List.getLast?_concat];exact HNX1.out)
  have HSO:=Qs (sealR s (Fo s) H (Bu s)=Ds s) (by unfold sealR Ds;rw [HLSG.out,HHS.out])
  have HSE:=Qh (stoSeal_any (Bu s) (.slice (some ⟨g5,0,none⟩) K1 cap5) (.slice of fl cf) (.slice oh H.length ch) (Fo s) H (HJX.out.below HWD.out.bl) (by have:=HST.out;show d.steps+20<_;omega) (HSI.out _ g _ HWD.out) (HMO.out HE0.out).1 HSB.out.segs (HMO.out HE0.out).2
   ((F8 (A:=fun k=> ¬ Br b mv f m L k) HOF.out fun k hk hc=>by have:=HJ.out.lt k hc;have:=HSZ3.out;omega).below HWD.out.bl)
   (F8 (A:=fun k=> ¬ Br b mv f m L k) HOHD.out fun k hk hc=>by have:=HJX.out.lt k hc;have:=HSZX.out;omega))
  rw [HSO.out] at HSE;obtain⟨R2,hR2⟩: ∃ R2,R2=Bk (Df d s.size) (Ds s):=⟨_,rfl⟩;rw [←hR2] at HSE;have HRR:=Qs (R=if R2.2=0 then (0,turned s,R2.1) else (R2.2,shutS s R2.2,R2.1)) (by rw [←hR];unfold Bj;rw [κ HE0.out,←hR2]);obtain⟨D2,E2⟩:=R2;unfold SealQ at HSE;dsimp only at HSE HRR;clear hR hR2;go_wp2_with (with_reducible refine Co rfl (.tmp 8) rfl g (Bu s) (.slice (some ⟨g5,0,none⟩) K1 cap5) rfl HMB.out ?_);refine HSE.out.mono ?_;rintro e wr ⟨rfl,hsp⟩;have HSP:=Qh (hsp.then HTW.out fun _ h=> .inl h);clear hsp HSE;rcases he0:(E2==0) with _|_
  ·have hne: ¬ E2=0:=by simpa using he0
   rw [γ hne] at HSP HRR;obtain⟨L3,mv3,sv3,hj3,ht3,hl3⟩:=HSP.out;have HJ3:=Qh hj3;have HT3':=Qh ht3;have HL3:=Qh hl3;clear hj3 ht3 hl3 hne;go_wp2_with fail;refine(Pt E2 HJ3.out).mono ?_;rintro e wt ⟨rfl,hj4,ht4⟩;have HPO:=Qs (E9 w b f m L mv D2 (shutS s E2) wt) ⟨L3,mv3,sv3,hj4,HT3'.out.trans ht4 HL3.out,HL3.out⟩;clear hj4 ht4;go_wp2;go_ret;rw [HRR.out];exact⟨rfl,HPO.out⟩
  ·obtain rfl:E2=0:=by simpa using he0
   rw [κ rfl] at HSP HRR;obtain⟨L3,mv3,sv3,hj3,ht3,hl3⟩:=HSP.out;have HJ3:=Qh hj3;have HT3':=Qh ht3;have HL3:=Qh hl3;clear hj3 ht3 hl3;go_wp2_with fail;refine(Pt 0 HJ3.out).mono ?_;rintro e wt ⟨rfl,hj4,ht4⟩;have HPO:=Qs (E9 w b f m L mv D2 (turned s) wt) ⟨L3,mv3,sv3,by unfold turned;rw [HHS.out];exact hj4,HT3'.out.trans ht4 HL3.out,HL3.out⟩;clear hj4 ht4;go_wp2;go_ret;rw [HRR.out];exact⟨rfl,HPO.out⟩
end
structure Lim (d:Af) (s:C6) (E:List (List UInt8)) (k:Nat):Prop where
 ok:Fe d s E
 fuse:d.fuse=0
 next:s.man.next≤(k:Int)+2
 gen:s.man.gen≤(k:Int)+1
 steps:d.steps≤(k:Int)*50+50
 len:E.length≤k
section
variable {w W : World} {b f m : Nat} {L : List Aq} {d d' : Af} {s s' : C6} {mv sv : Value} {E E' : List (List UInt8)} {k u : Nat}
theorem Lim.grow (h:Lim d s E k) (hg:Grow d s d' s' u 1) (ho:Fe d' s' E') (hl:E'.length≤k+1):Lim d' s' E' (k+1):=
 ⟨ho,hg.fuse,by have:=h.next;have:=hg.next;omega,by have:=h.gen;have:=hg.gen;omega,by have:=h.steps;have:=hg.steps;push_cast at *;omega,hl⟩
theorem Lim.up (h:Lim d s E k) {k':Nat} (hk:k≤k'):Lim d s E k':=⟨h.ok,h.fuse,by have:=h.next;omega,by have:=h.gen;omega,by have:=h.steps;omega,by have:=h.len;omega⟩
theorem Mo.sizeLe {g:Sg}  (h:Mo fs s G g bs):(Cl g bs).length≤542760:=by
 have h6:=Km h.body.2 g.first.toNat;have h7:=O9 h.seg.1 h.seg.2;have h8:(Cl g bs).length=(Hk g).length+(Hl (evFr g.first.toNat bs)).length:=by unfold Cl;rw [ζ]
 have:=h.cnt;omega
theorem Lim.sb (h:Lim d s E k) (hk:k≤1000):SB s:=by
 obtain⟨G,g,bs,hs,hE⟩:=h.ok.sta;have hev:=hs.events h.ok.floor;have hl:=h.len;rw [hE,ζ] at hl;have hz:=hs.sizeLe;have hsz:=hs.size;refine⟨h.ok.seg,?_,?_,by have:=hs.cnt;omega,by omega,hs.cfg.1,hs.cfg.2⟩
 ·rw [hs.last];have:=hs.seg;omega
 ·rw [hs.last];exact hs.seg.1
theorem Mo.foot {g:Sg}  (hs:Mo fs s G g bs) (hc:s.count≠0) (v:Value) (W:World) (hv:B7 W v (Cl g bs)) (hn:Bh W):
  Calls prog 79 #[v,Vi Vk (s.stride:Int)] W (Cv W (Fo s,0)):=by
 have hsg:=hs.seg;have h7:=O9 hsg.1 hsg.2;have h8:=Km hs.body.2 g.first.toNat;have hcn:=hs.cnt;have ht:=hs.top;obtain⟨_,a2,a3,_⟩:=act_found hsg.1 ⟨hsg.2.1,ht⟩ hs.body.2 hcn.2;have hbl:F7 s.stride 0 (Jt (Hk g).length (Fc 0 (evFr g.first.toNat bs)))=s.marks:=by rw [bldM_lay,hs.marks,Nat.add_zero]
 have hm:Dv s.marks=true:=by
  rw [hs.marks];unfold Dv;rw [mksG_ok s.stride bs 0 _ _ 0 (-1) (by omega) (by omega) (by omega) (by omega),ξ (η (K9 s.stride bs 0 _ _) hcn.2)];rfl
 have hpl:(Jt (Hk g).length (Fc 0 (evFr g.first.toNat bs))).length=bs.length:=by rw [Gq,Fy,Dj]
 have hfb:=Lz (first:=g.first.toNat) (count:=s.count) (stride:=s.stride) (by omega) (by omega) hs.cfg.1.2 hm
 have:=footer_any (Cl g bs) v g.num.toNat g.first.toNat (Hk g).length s.stride _ W hv (by have:=hs.sizeLe;omega) hn a2 (by unfold Cl;rw [ζ];omega) a3
  (by intro h0;rw [h0] at hpl;simp at hpl;omega) hs.cfg.1 (by rw [hbl];exact hm) (by omega)
 rw [hbl,hpl,←hcn.1,Nl (by omega) (by omega)] at this;have e:Fo s=By (3:Int).toNat ((g.num.toNat:Nat):Int).toNat (Fa g.first.toNat s.count s.stride s.marks):=by
  unfold Fo;rw [hs.last];rfl
 rw [e];exact this
theorem turn_calls (h:SJ w b f m L d s mv sv) (hl:Lim d s E k) (hk:k≤1000) (hm:more≤1060):Calls prog 52 #[.pointer (some ⟨b,0,none⟩),Vi Vk (more:Int)] w (StepQ w b f m L mv (Bj d s more)):=by
 obtain⟨G,g,bs,hs,hE⟩:=hl.ok.sta;have hf:=Cj hs.ok;obtain⟨x,hx,hxd⟩:=Dm hs.act;have hnx:=hl.next;have hgn:=hl.gen;have hst:=hl.steps;have hla:=hl.ok.last;have hle:=hl.len;refine stoTurn_any more x h (hl.sb hk) (by omega) hl.ok.closed hl.ok.up (by rw [hs.name];exact hx) (by rw [hs.size,hxd]) hf.len ?_ ?_ ?_ ?_
 ·intro hc v W hv hn;rw [hxd] at hv;exact hs.foot hc v W hv hn
 ·intro h0;have hz:=Ku h0;obtain⟨e,ho⟩:=hs.turnOk hz.1 hz.2.1 hz.2.2.1 hz.2.2.2.1;refine⟨ho,?_⟩;have h1:=hf.seg g hs.mem;rw [hs.last,e];unfold Ah;simp;omega
 ·have h1:=K4 hl.ok;have h2:=K6 hl.ok (by omega) (by omega);have h3:=Pg (Bu s);omega
 ·have:=hf.next;have:=hf.gen;omega
end
theorem schemaCheck_r (v:Int) (e:Ev) (w:World) (hv: ¬ (v<1∨5<v)) (hw:e.who.length≤281474976710656) (hn:e.note.length≤281474976710656):Calls prog 101 #[Vi Vk v,Ga e] w (Hf (Am v e) w):=by
 obtain⟨c,hc⟩: ∃ c,c=Am v e:=⟨_,rfl⟩;obtain⟨K,hK⟩: ∃ K,K=Dw v:=⟨_,rfl⟩;rw [←hc];have HC:=Qh hc;have HK:=Qh hK;have HV:=Qh hv;have hE:=Qh (Mx w e 38);unfold Ga;clear hc;rcases (show v=1∨v=2∨v=3∨v=4∨v=5 by omega) with rfl|rfl|rfl|rfl|rfl
 focus
  obtain⟨F,hF⟩: ∃ F,F=fitsV1 e:=⟨_,rfl⟩;obtain⟨Q,hQ⟩: ∃ Q,Q=G9 (ev1 e) e:=⟨_,rfl⟩;have HT:=Qh (fun W=>(show Jj 1 e=Value.iface 227 (v1V e) from rfl)▸Gp 1 e W);have HLa:=Qh (fun W=>last1_any e W);rw [show (5:Int)=K from hK.symm] at HLa;have HFi:=Qh (fun W=>hF▸fits1_any e W);have HEv:=Qh (fun W=>event1_any e W);have ml:=fun k W=>m1last k e W;have mf:=fun k W=>m1fits k e W;have me:=fun k W=>m1event k e W;have HQ:=fun W=>hQ▸Ml (ev1 e) e W;have HR:=Qs (Gj 1 e=(F&&Q)) (by rw [evFits_1,hF,hQ]);unfold v1V at HT ml mf me;clear hF hQ
 rotate_left
 focus
  obtain⟨F,hF⟩: ∃ F,F=fits2 e:=⟨_,rfl⟩;obtain⟨Q,hQ⟩: ∃ Q,Q=G9 (ev2 e) e:=⟨_,rfl⟩;have HT:=Qh (fun W=>(show Jj 2 e=Value.iface 229 (v2V e) from rfl)▸Gp 2 e W);have HLa:=Qh (fun W=>last1_any e W);rw [show (5:Int)=K from hK.symm] at HLa;have HFi:=Qh (fun W=>hF▸fits2_any e W);have HEv:=Qh (fun W=>event2_any e W);have ml:=fun k W=>m2last k e W;have mf:=fun k W=>m2fits k e W;have me:=fun k W=>m2event k e W;have HQ:=fun W=>hQ▸Ml (ev2 e) e W;have HR:=Qs (Gj 2 e=(F&&Q)) (by rw [evFits_2,hF,hQ]);unfold v2V at HT mf me;unfold v2V v1V at ml;clear hF hQ
 rotate_left
 focus
  obtain⟨F,hF⟩: ∃ F,F=fits3 e:=⟨_,rfl⟩;obtain⟨Q,hQ⟩: ∃ Q,Q=G9 (ev3 e) e:=⟨_,rfl⟩;have HT:=Qh (fun W=>(show Jj 3 e=Value.iface 231 (v3V e) from rfl)▸Gp 3 e W);have HLa:=Qh (fun W=>last3_any e W);rw [show (7:Int)=K from hK.symm] at HLa;have HFi:=Qh (fun W=>hF▸fits3_any e W);have HEv:=Qh (fun W=>event3_any e W);have ml:=fun k W=>m3last k e W;have mf:=fun k W=>m3fits k e W;have me:=fun k W=>m3event k e W;have HQ:=fun W=>hQ▸Ml (ev3 e) e W;have HR:=Qs (Gj 3 e=(F&&Q)) (by rw [evFits_3,hF,hQ]);unfold v3V at HT ml mf me;clear hF hQ
 rotate_left
 focus
  obtain⟨F,hF⟩: ∃ F,F=fits4 e:=⟨_,rfl⟩;obtain⟨Q,hQ⟩: ∃ Q,Q=G9 (ev4 e) e:=⟨_,rfl⟩;have HT:=Qh (fun W=>(show Jj 4 e=Value.iface 233 (v4V e) from rfl)▸Gp 4 e W);have HLa:=Qh (fun W=>last4_any e W);rw [show (9:Int)=K from hK.symm] at HLa;have HFi:=Qh (fun W=>hF▸fits4_any e W (by omega));have HEv:=Qh (fun W=>event4_any e W);have ml:=fun k W=>m4last k e W;have mf:=fun k W=>m4fits k e W;have me:=fun k W=>m4event k e W;have HQ:=fun W=>hQ▸Ml (ev4 e) e W;have HR:=Qs (Gj 4 e=(F&&Q)) (by rw [evFits_4,hF,hQ]);unfold v4V at HT ml mf me;clear hF hQ
 rotate_left
 focus
  obtain⟨F,hF⟩: ∃ F,F=fits5 e:=⟨_,rfl⟩;obtain⟨Q,hQ⟩: ∃ Q,Q=G9 (e) e:=⟨_,rfl⟩;have HT:=Qh (fun W=>(show Jj 5 e=Value.iface 235 (v5V e) from rfl)▸Gp 5 e W);have HLa:=Qh (fun W=>last5_any e W);rw [show (10:Int)=K from hK.symm] at HLa;have HFi:=Qh (fun W=>hF▸fits5_any e W (by omega));have HEv:=Qh (fun W=>event5_any e W);have ml:=fun k W=>m5last k e W;have mf:=fun k W=>m5fits k e W;have me:=fun k W=>m5event k e W;have HQ:=fun W=>hQ▸Ml (e) e W;have HR:=Qs (Gj 5 e=(F&&Q)) (by rw [evFits_5,hF,hQ,(evSame_iff e e).2 rfl,Bool.and_true]);unfold v5V at HT ml mf me;clear hF hQ
 rotate_left
 all_goals
  clear hv hK;unfold Ga at HQ HEv;by_cases h1:e.kind<1∨K<e.kind
  ·have hf:=Qh (HC.out.trans <| chk31 HV.out (by rw [←HK.out];exact h1));by_cases hk:e.kind<1
   ·have d1:=ξ hk;clear h1 hk;go_enter func101,ntmps101;go_wp2_with fail;refine(HT.out _).mono ?_;rintro x w2 ⟨rfl,hb⟩;have HB:=Qh (Below.next ((χ _ _).alloc (μ _) _) hb);have c0:=(hE.out.below hb).c0;clear hb;go_wp2
    go_quiet (fail)
    go_wp2;go_ret;exact⟨by rw [hf.out];rfl,Below.next HB.out (Ac _ _)⟩
   ·have d1:=ρ hk;have hk2:K<e.kind:=by rcases h1 with h|h;exact absurd h hk;exact h
    have d2:=ξ hk2;clear h1 hk hk2;go_enter func101,ntmps101;go_wp2_with fail;refine(HT.out _).mono ?_;rintro x w2 ⟨rfl,hb⟩;have HB:=Qh (Below.next ((χ _ _).alloc (μ _) _) hb);have c0:=(hE.out.below hb).c0;clear hb;go_wp2
    go_region_held3 (fun w'=>w'.cell? ⟨w.heap.size,0,none⟩=some (Vi Vk e.kind)) (first|assumption|exact cell_later hb2 c0|go_keep)
     (first|(refine(HLa.out _).mono ?_;rintro x w3 ⟨rfl,hb2⟩))
    go_wp2;go_ret;exact⟨by rw [hf.out];rfl,Below.next HB.out (Below.next ((χ _ _).drew) hb2)⟩
  ·have hk: ¬ e.kind<1:=fun h=>h1 (.inl h);have hk2: ¬ K<e.kind:=fun h=>h1 (.inr h);have d1:=ρ hk;have d2:=ρ hk2;by_cases h3:16<e.who.length∨120<e.note.length
   ·have hf:=Qh (HC.out.trans <| chk24 HV.out (by rw [←HK.out];exact h1) h3);clear h1 hk hk2;go_enter func101,ntmps101;go_wp2_with fail;refine(HT.out _).mono ?_;rintro x w2 ⟨rfl,hb⟩;have HB:=Qh (Below.next ((χ _ _).alloc (μ _) _) hb);have HE2:=Qh (hE.out.below hb);have c0:=HE2.out.c0;clear hb;go_wp2
    go_region_held3 (fun w'=>w'.cell? ⟨w.heap.size,0,none⟩=some (Vi Vk e.kind)) (first|assumption|exact cell_later hb2 c0|go_keep)
     (first|(refine(HLa.out _).mono ?_;rintro x w3 ⟨rfl,hb2⟩))
    have hb3:=Below.next ((χ _ _).drew) hb2;have HB3:=Qh (Below.next HB.out hb3);have c7:=(HE2.out.below hb3).c7;have c9:=(HE2.out.below hb3).c9;clear hb3 hb2;by_cases hw3:16<e.who.length
    ·go_wp2;go_ret;exact⟨by rw [hf.out];rfl,HB3.out⟩
    ·have hn3:120<e.note.length:=by omega
     clear h3;go_wp2;go_ret;exact⟨by rw [hf.out];rfl,HB3.out⟩
   ·have hf:=Qh (HC.out.trans <| chkRest HV.out (by rw [←HK.out];exact h1) h3);have hw16:e.who.length≤16:=by omega
    have hn120:e.note.length≤120:=by omega
    clear h1 hk hk2 h3;cases F
    ·have hfin:=Qs (c=32) (by rw [hf.out,HR.out];rfl);go_enter func101,ntmps101;go_wp2_with fail;refine(HT.out _).mono ?_;rintro x w2 ⟨rfl,hb⟩;have HB:=Qh (Below.next ((χ _ _).alloc (μ _) _) hb);have HE2:=Qh (hE.out.below hb);have c0:=HE2.out.c0;clear hb;go_wp2
     go_region_held3 (fun w'=>w'.cell? ⟨w.heap.size,0,none⟩=some (Vi Vk e.kind)) (first|assumption|exact cell_later hb2 c0|go_keep)
      (first|(refine(HLa.out _).mono ?_;rintro x w3 ⟨rfl,hb2⟩))
     have hb3:=Below.next ((χ _ _).drew) hb2;have HB3:=Qh (Below.next HB.out hb3);have HE3:=Qh (HE2.out.below hb3);have c7:=HE3.out.c7;have c9:=HE3.out.c9;clear hb3 hb2;go_wp2
     first|(go_region_with (refine(HFi.out _).mono ?_;rintro x w4 ⟨rfl,hb4⟩))|fail
     all_goals go_wp2
     all_goals go_ret
     all_goals exact⟨by rw [hfin.out];rfl,Below.next HB3.out (Below.next ((χ _ _).drew) hb4)⟩
    ·have hfin:=Qs (c=if Q then 0 else 32) (by rw [hf.out,HR.out];cases Q<;>rfl);cases Q
     all_goals
      go_enter func101,ntmps101;go_wp2_with fail;refine(HT.out _).mono ?_;rintro x w2 ⟨rfl,hb⟩;have HB:=Qh (Below.next ((χ _ _).alloc (μ _) _) hb);have HE2:=Qh (hE.out.below hb);have c0:=HE2.out.c0;clear hb;go_wp2
      go_region_held3 (fun w'=>w'.cell? ⟨w.heap.size,0,none⟩=some (Vi Vk e.kind)) (first|assumption|exact cell_later hb2 c0|go_keep)
       (first|(refine(HLa.out _).mono ?_;rintro x w3 ⟨rfl,hb2⟩))
      have hb3:=Below.next ((χ _ _).drew) hb2;have HB3:=Qh (Below.next HB.out hb3);have HE3:=Qh (HE2.out.below hb3);have c7:=HE3.out.c7;have c9:=HE3.out.c9;clear hb3 hb2;go_wp2;have HC0:=Qh (evCells HE3.out);have HCK:=Qh (show ∀ W,Below w3.drew.heap.size w3.drew W→_ from fun W h=>evCells (HE3.out.below (Below.next ((χ _ _).drew) h)));obtain⟨d0,d1',d2',d3',d4',d5',d6',d7',d8',d9'⟩:=HC0.out;have HKK:=Qs (∀ W W',(W.cell? ⟨w.heap.size,0,none⟩=some (Vi Vk e.kind)∧W.cell? ⟨w.heap.size,1,none⟩=some (Vi Vk e.order)∧W.cell? ⟨w.heap.size,2,none⟩=some (Vi Vk e.item)∧W.cell? ⟨w.heap.size,3,none⟩=some (Vi Vk e.qty)∧W.cell? ⟨w.heap.size,4,none⟩=some (Vi Vk e.price)∧W.cell? ⟨w.heap.size,5,none⟩=some (Vi Vk e.cur)∧W.cell? ⟨w.heap.size,6,none⟩=some (Vi Vk e.tax)∧W.cell? ⟨w.heap.size,7,none⟩=some (.string ⟨e.who.toArray⟩)∧W.cell? ⟨w.heap.size,8,none⟩=some (Vi Vk e.stamp)∧W.cell? ⟨w.heap.size,9,none⟩=some (.string ⟨e.note.toArray⟩))∧Below w3.drew.heap.size w3.drew W→Below W.heap.size W W'→(W'.cell? ⟨w.heap.size,0,none⟩=some (Vi Vk e.kind)∧W'.cell? ⟨w.heap.size,1,none⟩=some (Vi Vk e.order)∧W'.cell? ⟨w.heap.size,2,none⟩=some (Vi Vk e.item)∧W'.cell? ⟨w.heap.size,3,none⟩=some (Vi Vk e.qty)∧W'.cell? ⟨w.heap.size,4,none⟩=some (Vi Vk e.price)∧W'.cell? ⟨w.heap.size,5,none⟩=some (Vi Vk e.cur)∧W'.cell? ⟨w.heap.size,6,none⟩=some (Vi Vk e.tax)∧W'.cell? ⟨w.heap.size,7,none⟩=some (.string ⟨e.who.toArray⟩)∧W'.cell? ⟨w.heap.size,8,none⟩=some (Vi Vk e.stamp)∧W'.cell? ⟨w.heap.size,9,none⟩=some (.string ⟨e.note.toArray⟩))∧Below w3.drew.heap.size w3.drew W') (fun W W' h k=>⟨HCK.out W' (Below.next h.2 k),Below.next h.2 k⟩)
      first|(go_region_held3 (fun w'=>(w'.cell? ⟨w.heap.size,0,none⟩=some (Vi Vk e.kind)∧w'.cell? ⟨w.heap.size,1,none⟩=some (Vi Vk e.order)∧w'.cell? ⟨w.heap.size,2,none⟩=some (Vi Vk e.item)∧w'.cell? ⟨w.heap.size,3,none⟩=some (Vi Vk e.qty)∧w'.cell? ⟨w.heap.size,4,none⟩=some (Vi Vk e.price)∧w'.cell? ⟨w.heap.size,5,none⟩=some (Vi Vk e.cur)∧w'.cell? ⟨w.heap.size,6,none⟩=some (Vi Vk e.tax)∧w'.cell? ⟨w.heap.size,7,none⟩=some (.string ⟨e.who.toArray⟩)∧w'.cell? ⟨w.heap.size,8,none⟩=some (Vi Vk e.stamp)∧w'.cell? ⟨w.heap.size,9,none⟩=some (.string ⟨e.note.toArray⟩))∧Below w3.drew.heap.size w3.drew w')
       (first|exact⟨HC0.out,χ _ _⟩|assumption|(refine HKK.out _ _ ?_ hb4;assumption))
       (first
        |(refine(HFi.out _).mono ?_;rintro x w4 ⟨rfl,hb4⟩)
        |(refine(HEv.out _).mono ?_;rintro x w4 ⟨rfl,hb4⟩)))|fail
      go_split_ands;go_wp2;go_ret;exact⟨by rw [hfin.out];rfl,Below.next HB3.out (Below.next ((χ _ _).drew) (by assumption))⟩
theorem schemaCheck_5 (e:Ev) (w:World) (hw:e.who.length≤281474976710656) (hn:e.note.length≤281474976710656):Calls prog 101 #[Vi Vk 5,Ga e] w (Hf (Am 5 e) w):=schemaCheck_r 5 e w (by decide) hw hn
theorem Cf (v:Int) (e:Ev) (w:World) (hok:Lj 281474976710656 e):Calls prog 101 #[Vi Vk v,Ga e] w (Hf (Am v e) w):=by
 by_cases h:v<1∨5<v
 ·exact schemaCheck_version v e w h
 ·exact schemaCheck_r v e w h hok.who hok.note
section
open Go.RowKit Go.Maps
theorem fldV_data (b:List UInt8) (p last:Nat):(Fm b p last).2.1.data.length≤200:=by
 unfold Fm;dsimp only
 repeat' split
 all_goals first
  |exact θ _
  |(simp only [ω];omega)
theorem tlvGo_data (b:List UInt8): ∀ (n p last:Nat) (fs:List Ce),(∀ f∈fs,f.data.length≤200)→ ∀ f∈(tlvGo b n p last fs).2,f.data.length≤200
 |0,_,_,_=>fun h=>h
 |n+1,p,last,fs=>fun h=>by
  rw [tlvGo]
  split
  ·split
   ·refine tlvGo_data b n _ _ _ fun f hf=> ?_
    rcases List.mem_append.1 hf with hf|hf
    ·exact h f hf
    ·simp at hf;subst hf;exact fldV_data b p last
   ·intro f hf;cases hf
  ·exact h
theorem tlvDec_data {b:List UInt8}: ∀ f∈(tlvDec b).2,f.data.length≤200:=by
 unfold tlvDec;split
 ·intro f hf;cases hf
 ·exact tlvGo_data b _ _ _ _ fun f hf=>by cases hf
theorem takeP_mem (xs:List (Ce×Value)) (bad k:Int) (t:Bool):(takeP xs bad k t).1=(B9,.slice none 0 0)∨(takeP xs bad k t).1∈xs:=by
 unfold takeP;rcases h:xs.find? (Ez k) with _|x
 ·exact .inl rfl
 ·dsimp only;split
  ·exact .inr (List.mem_of_find?_eq_some h)
  ·exact .inl rfl
theorem takeP_sub {k:Int} {t:Bool}: ∀ x∈(takeP xs bad k t).2.1,x∈xs:=by
 intro x hx;unfold takeP at hx;split at hx
 ·exact hx
 ·split at hx
  ·exact(List.mem_filter.1 hx).1
  ·exact(List.mem_filter.1 hx).1
theorem conv_none (w:World) (src e dst:TypeId) (hs:P.underlying src=some (.slice e)) (he:P.underlying e=some (.int .u8)) (hd:P.underlying dst=some .string) (p:Option Addr) (c:Nat):(convert src dst (.slice p 0 c)).run P w= .ok (.string ByteArray.empty) w:=by
 rw [run_convert_bytes_string w src dst e _ 0 c hs he hd];cases p<;>simp [Conv.bytesToString,loadCells]
 all_goals rfl
theorem conv_brow (h:B7 w v l):(convert 39 9 v).run prog w= .ok (.string ⟨l.toArray⟩) w:=by
 obtain⟨oa,cap,rfl,_,hc⟩:=h;by_cases hl:l=[]
 ·subst hl;exact conv_none w 39 5 9 underlying39 underlying5 underlying9 oa cap
 ·obtain⟨b,off,rfl,hcell⟩:=hc hl;have:=run_convert_bytes_arg (P:=prog) w 39 5 underlying39 underlying5 b off l.length cap (l.map fun x=>(x.toNat:Int)) (by simp) (fun i hi=>by
   have h1:=hcell i l[i] (Θ hi);rw [h1];simp [hi]) 9 underlying9
  have e:strOfNums (l.map fun x=>(x.toNat:Int))=⟨l.toArray⟩:=by
   unfold strOfNums;rw [List.map_map];have:((fun n:Int=>UInt8.ofNat n.toNat)∘fun x:UInt8=>(x.toNat:Int))=id:=by funext x;simp
   rw [this,List.map_id]
  rw [this,e]
end
def BookLP (w:World) (f m:Nat) (d:Af) (L:List Aq) (r:(Int×Nat×List St)×Nat) (e:Ending) (w':World):Prop:=
 ∃ v,e= .returned (.tuple #[Vi Vk (r.1.2.1:Int),v,Vi Vk r.1.1])∧StsIn (fun k=>w.heap.size≤k) w' v r.1.2.2∧Bv w' f m (Df d r.2) L∧Ab (fun i=>i=f) w w'
theorem run_cut_sg (oa:Option Addr) (len cap n:Nat) (h:n≤cap) (w:World):(Instr.slice 67 (.slice oa len cap) none (some (Vi Vk n)) none).run prog w= .ok (.slice oa n cap) w:=by
 rw [run_slice_h (P:=prog) w 67 oa len cap (by kernel_rfl) .i64 n (by omega) (by omega)];have:(sizeOf (prog.elem 67)).run prog w= .ok 4 w:=by kernel_rfl
 rw [this];show Result.ok (Value.slice (if cap=0 then oa else oa.map (·.add (0*4))) (n - 0) (cap - 0)) w=_;have e:(if cap=0 then oa else oa.map (·.add (0*4)))=oa:=by
  split
  ·rfl
  ·cases oa with
   |none=>rfl
   |some a=>simp [Addr.add]
 rw [e,Nat.sub_zero,Nat.sub_zero]
theorem cut_sg (oa:Option Addr) (len cap n:Nat) (h:n≤cap) (w:World):(Instr.sliceAt 67 (.slice oa len cap) none (some (Vi Vk n)) none).run prog w= .ok (.slice oa n cap) w:=by
 rw [run_sliceAt_slice _ _ _ _ _ _ (by kernel_rfl)];exact run_cut_sg oa len cap n h w
def PlanP (w:World) (f m:Nat) (d:Af) (L:List Aq) (r:(Pl×Int)×Nat) (e:Ending) (w':World):Prop:=
 ∃ sv rv,e= .returned (.tuple #[plV r.1.1 sv rv,Vi Vk r.1.2])∧Fu (fun k=>w.heap.size≤k) w' sv r.1.1.man.segs∧StIn (fun k=>w.heap.size≤k) w' rv r.1.1.remove∧sv.oneCell'=true∧rv.oneCell'=true∧Bv w' f m (Df d r.2) L∧Ab (fun i=>i=f) w w'
structure PlW (w:World) (f m:Nat) (d:Af) (L:List Aq) (bm:Nat) (mn:Da) (sv:Value) (W:World):Prop where
 res:Cb W w.heap.size Ay (.slice none 0 0) (.slice none 0 0)
 man:At W bm mn sv
 seg:Fu (fun k=>w.heap.size<k) W sv mn.segs
 fs:Bv W f m d L
 nib:Bh W
 top:Ab (fun i=>i=f) w W
 bmf:w.heap.size<bm
theorem PlW.next {bm:Nat} {mn:Da}  (h:PlW w f m d L bm mn sv W) (hf:f<w.heap.size) (hF:Bv W' f m d' L) (ht:Ab (fun i=>i=f) W W'):PlW w f m d' L bm mn sv W':=
 ⟨(ht.block _ h.res.lt (by omega)).trans h.res,(ht.block _ h.man.lt (by have:=h.bmf;omega)).trans h.man,h.seg.turned ht (fun k hk=>by omega),hF,h.nib.turned ht (fs_nib h.fs h.nib) h.nib.lt,h.top.trans ht (fun i hi=> .inl hi),h.bmf⟩
theorem PlW.below {bm:Nat} {mn:Da}  (h:PlW w f m d L bm mn sv W) (hf:f<w.heap.size) (hb:Below W.heap.size W W'):PlW w f m d L bm mn sv W':=
 h.next hf (h.fs.below hb) (Ab.below hb)
theorem PlW.answer {bm:Nat} {mn:Da}  (h:PlW w f m d L bm mn sv W) (hF: ∀ k,foot f m L k→k<w.heap.size) (cs:Array Value):Bv (W.setRow w.heap.size cs) f m d L∧Ab (fun i=>i=f) w (W.setRow w.heap.size cs):=by
 have ht:Ab (fun k=>k=w.heap.size) W (W.setRow w.heap.size cs):=Ax _ _ _;exact⟨h.fs.turned ht (fun k hk he=>by have:=hF k hk;omega),h.top.trans ht fun i hi=> .inr (by omega)⟩
theorem takeRun_sub {first most:Nat}: ∀ (xs:List (Nat×J6)) (c:Nat),∀ _:Nat,∀ y∈takeRun first most c xs,y∈xs
 | [],_,_,_,h=>by simp [takeRun] at h
 |x::r,c,z,y,h=>by
  rw [takeRun] at h
  split at h
  ·cases h
  ·split at h
   ·simp at h;subst h;simp
   ·rcases Δ.1 h with rfl|h
    ·simp
    ·exact List.mem_cons_of_mem _ (takeRun_sub r (c+1) z y h)
theorem active_cnt (d:Af) (g:Sg):(Bn d g).1.2.1≤512∧(Bn d g).1.1≤67108864∨ ¬ A0 d:=by
 by_cases hok:A0 d
 ·left;unfold Bn;rcases hf:Kk d (Ad g.num) with _|x
  ·exact⟨θ _,θ _⟩
  ·dsimp only;split
   ·exact⟨θ _,θ _⟩
   ·have h1:=Nw (first:=(B5 x.data).2.1) (most:=512) (frs (x.data.drop (D4 x.data g).1)) 0 (by decide);have h2:=Fg (B8 (filD_at hf)).2;have h3:=hok.used;have h4:=hok.room;rename_i hb;have h5:=hdr_pos (b:=x.data) (g:=g) (by simpa using hb);have h6:=Pb (b:=x.data.drop (D4 x.data g).1) (takeRun (B5 x.data).2.1 512 0 (frs (x.data.drop (D4 x.data g).1))) 0 (θ _) fun y hy=>(frs_mem (takeRun_sub _ _ 0 y hy)).1;rw [Λ] at h6;simp only [Bt,Jt,List.length_map];omega
 ·exact .inr hok
theorem planD_err {d:Af} (h:(B6 d).1.2.2≠0):Bq d=((Ay,if (B6 d).1.2.2=80 then 4 else (B6 d).1.2.2),(B6 d).2):=by unfold Bq;rw [κ h]
theorem planD_new {d:Af} (h:(B6 d).1.2.2=0) (h2:(B6 d).1.2.1=false):Bq d=(Il d,(B6 d).2):=by unfold Bq;rw [γ (fun k=>k h),κ h2]
theorem planD_man {d:Af} (h:(B6 d).1.2.2=0) (h2:(B6 d).1.2.1=true):Bq d=((Lv d (B6 d).1.1).1,(B6 d).2+(Lv d (B6 d).1.1).2):=by unfold Bq;rw [γ (fun k=>k h),γ (by rw [h2];decide)]
theorem plan_core (w:World) (f m:Nat) (d:Af) (L:List Aq) (h:Bv w f m d L) (hn:Bh w)
  (hbk:0<(B6 d).1.1.snap→ ∀ (W:World) (n:Nat),Bv W f m (Df d n) L→Bh W→Calls prog 87 #[.pointer (some ⟨f,0,none⟩),Vi Vk (B6 d).1.1.snap] W (BookLP W f m (Df d n) L (J9 d (B6 d).1.1.snap))):
  Calls prog 57 #[.pointer (some ⟨f,0,none⟩)] w (PlanP w f m d L (Bq d)):=by
 have hf:=h.hd.lt;have HBKP:=Qh hbk;clear hbk;have HLT:=Qh h.lt;have HB0:=Qh (Aa w (.cells (Gf Ay (.slice none 0 0) (.slice none 0 0)) 75));have HR0:=Qh (Hv w Ay (.slice none 0 0) (.slice none 0 0));have HLD:=Qh (manLoad_any _ f m d L (h.below HB0.out) (hn.below HB0.out));have HN0:=Qh (hn.below HB0.out);have HF0:=Qh (h.below HB0.out);have HDR:=Qs (d.down=false∨(B6 d).1.2.2≠0) (by
  rcases hd:d.down
  ·exact .inl rfl
  ·right;unfold B6 Kk Av;rw [hd];simp)
 have HP1:=Qh (@planD_err d);have HP2:=Qh (@planD_new d);have HP3:=Qh (@planD_man d);have HMK:=Qh (@load_ok d);have HLR:=Qs ((B6 d).2≤67108864) (by
  refine η (load_read d) ?_;unfold sizeN;split
  ·exact θ _
  ·rename_i x hx;exact fil_len h hx)
 obtain⟨ld,hld⟩: ∃ ld,ld=B6 d:=⟨_,rfl⟩;rw [←hld] at HLD HP1 HP2 HP3 HMK HDR HLR HBKP;simp only [Gf,Ay,zeroM] at HB0 HR0 HLD HN0 HF0;clear h hn hld;obtain⟨⟨mn,th,e0⟩,nr⟩:=ld;unfold LoadMP at HLD;dsimp only at HLD HP1 HP2 HP3 HMK HDR HLR HBKP;go_enter func57,ntmps57;go_wp2_with fail;refine HLD.out.mono ?_;rintro e w1 ⟨sv,rfl,hsg,hone,hf1,ht1⟩;have HSO:=Qh hone;have hsz0:w.heap.size<(w.alloc (.cells #[.bool false,Vi Vk 0,Vi Vk 0,Vi Vk 0,Vi Vk 0,Vi Vk 0,.slice none 0 0,.slice none 0 0,Vi Vk 0,Vi Vk 0] 75)).heap.size:=HR0.out.lt;have hsz1:=ht1.size
 have HW1:=Qh (show Cb w1 w.heap.size Ay (.slice none 0 0) (.slice none 0 0)∧Fu (fun k=>w.heap.size<k) w1 sv mn.segs∧Bv w1 f m (Df d nr) L∧Bh w1∧Ab (fun i=>i=f) w w1 from
  ⟨(ht1.block _ HR0.out.lt (by omega)).trans HR0.out,hsg.mono (fun k hk=>by omega),hf1,HN0.out.turned ht1 (fs_nib HF0.out HN0.out) HN0.out.lt,(Ab.below HB0.out).trans ht1 fun i hi=> .inl hi⟩)
 have HMz:=Qh (Ca w1 zeroM (.slice none 0 0));have hba:=Aa w1 (.cells (B3 zeroM (.slice none 0 0)) 69);simp only [B3,zeroM] at HMz hba;clear hsg hone hf1 ht1 HLD HB0 HR0 HN0 HF0;go_wp2_with (with_reducible refine Bp rfl (.tmp 4) (.tmp 20) rfl w1.heap.size ⟨0,0,0,0,0,[]⟩ mn (.slice none 0 0) sv rfl rfl HMz.out HSO.out ?_);intro w2 hw2;have HW2:=Qs (PlW w f m (Df d nr) L w1.heap.size mn sv w2) (by
  have hb:Below w1.heap.size w1 w2:=by rw [hw2.out];exact Bw hba (μ _) _
  obtain⟨h1,h2,h3,h4,h5⟩:=HW1.out;exact⟨h1.below hb,by rw [hw2.out];exact HMz.out.row,h2.below hb,h3.below hb,h4.below hb,h5.trans (Ab.below hb) fun i hi=> .inl hi,by omega⟩)
 clear hw2 hba HMz HW1 hsz0 hsz1;generalize w1.heap.size=bm at*;rcases he8:(e0==80) with _|_
 case true=>
  have HPE:=Qs (Bq d=((Ay,4),nr)) (by rw [HP1.out (by simp at he8;omega),κ (by simpa using he8)]);go_wp2_with (with_reducible refine Bz rfl (.tmp 2) (.tmp 26) rfl w.heap.size Ay Ay (.slice none 0 0) (.slice none 0 0) (.slice none 0 0) (.slice none 0 0) rfl rfl HW2.out.res rfl rfl ?_);intro w3 hw3;have HP:=Qs (Cb w3 w.heap.size Ay (.slice none 0 0) (.slice none 0 0)) (by rw [hw3.out];exact HW2.out.res.row);have HA:=Qh (show Bv w3 f m (Df d nr) L∧Ab (fun i=>i=f) w w3 by rw [hw3.out];exact HW2.out.answer HLT.out _);clear hw3;go_wp2;refine π (v:= .tuple #[plV Ay (.slice none 0 0) (.slice none 0 0),Vi Vk 4]) (Cz rfl _ _ w.heap.size Ay _ _ _ rfl rfl HP.out) rfl ?_;rw [HPE.out];exact⟨_,_,rfl,D8 _ _,J4 _ _,rfl,rfl,HA.out⟩
 rcases he:(e0 != 0) with _|_
 case true=>
  have HPE:=Qs (Bq d=((Ay,e0),nr)) (by rw [HP1.out (by simpa using he),γ (by simpa using he8)]);go_wp2_with (with_reducible refine Bz rfl (.tmp 2) (.tmp 30) rfl w.heap.size Ay Ay (.slice none 0 0) (.slice none 0 0) (.slice none 0 0) (.slice none 0 0) rfl rfl HW2.out.res rfl rfl ?_);intro w3 hw3;have HP:=Qs (Cb w3 w.heap.size Ay (.slice none 0 0) (.slice none 0 0)) (by rw [hw3.out];exact HW2.out.res.row);have HA:=Qh (show Bv w3 f m (Df d nr) L∧Ab (fun i=>i=f) w w3 by rw [hw3.out];exact HW2.out.answer HLT.out _);clear hw3;go_wp2;refine π (v:= .tuple #[plV Ay (.slice none 0 0) (.slice none 0 0),Vi Vk e0]) (Cz rfl _ _ w.heap.size Ay _ _ _ rfl rfl HP.out) rfl ?_;rw [HPE.out];exact⟨_,_,rfl,D8 _ _,J4 _ _,rfl,rfl,HA.out⟩
 have he0:e0=0:=by simpa using he
 have HDN:=Qs (d.down=false) (by
  rcases HDR.out with h|h
  ·exact h
  ·exact absurd he0 h)
 cases th
 case false=>
  have HPE:=Qs (Bq d=(Il d,nr)) (HP2.out he0 rfl);have HFR:=Qs (Calls prog 86 #[.pointer (some ⟨f,0,none⟩)] w2 (FreshP w2 (Il d))) (freshG_any w2 f m (Df d nr) L HW2.out.fs HDN.out HW2.out.nib);obtain⟨fr,hfr⟩: ∃ fr,fr=Il d:=⟨_,rfl⟩;rw [←hfr] at HPE HFR;obtain⟨fp,fe⟩:=fr;unfold FreshP at HFR;clear hfr he0 HP1 HP2 HP3 HMK;go_wp2_with fail;refine HFR.out.mono ?_;rintro e w3 ⟨fsv,frv,rfl,hs3,hr3,ho3,hq3,hb3⟩;have HW3:=Qh (HW2.out.below hf hb3);have HS3:=Qh hs3;have HR3:=Qh hr3;have HO3:=Qh ho3;have HQ3:=Qh hq3;have hlo:w.heap.size<w2.heap.size:=HW2.out.res.lt;clear hs3 hr3 ho3 hq3 hb3 HFR HW2;go_wp2_with (with_reducible refine Bz rfl (.tmp 2) (.tmp 37) rfl w.heap.size Ay fp (.slice none 0 0) (.slice none 0 0) fsv frv rfl rfl HW3.out.res HO3.out HQ3.out ?_);intro w4 hw4;have HP:=Qs (Cb w4 w.heap.size fp fsv frv) (by rw [hw4.out];exact HW3.out.res.row);have HA:=Qh (show Bv w4 f m (Df d nr) L∧Ab (fun i=>i=f) w w4 by rw [hw4.out];exact HW3.out.answer HLT.out _);have HT:=Qh (show Ab (fun k=>k=w.heap.size) w3 w4 by rw [hw4.out];exact Ax _ _ _);clear hw4;go_wp2;refine π (v:= .tuple #[plV fp fsv frv,Vi Vk fe]) (Cz rfl _ _ w.heap.size fp _ _ _ rfl rfl HP.out) rfl ?_;rw [HPE.out];exact⟨_,_,rfl,(HS3.out.turned HT.out (fun k hk=>by omega)).mono (fun k hk=>by omega),(HR3.out.turned HT.out (fun k hk=>by omega)).mono (fun k hk=>by omega),HO3.out,HQ3.out,HA.out⟩
 case true=>
  have hmk:=(HMK.out rfl).1;have HMF:=Qh (Cj hmk);have HPE:=Qs (Bq d=((Lv d mn).1,nr+(Lv d mn).2)) (HP3.out he0 rfl);clear he0 HP1 HP2 HP3 HMK hmk;have hlr:=HLR.out;have s3:=HW2.out.man.c3
  go_upto_if 41 with fail
  go_cut [] from 39 to 58 (fun wx=>Hid (PlW w f m (Df d (nr+(I0 d mn).2)) L bm mn sv wx)∧Hid ((I0 d mn).1=true)∧Hid ((I0 d mn).2≤67108864))
  case first=>
   rcases hsn:decide (0<mn.snap) with _|_
   ·have HSV:=Qs (I0 d mn=(true,0)) (by unfold I0;rw [γ (by simpa using hsn)]);go_wp2_with fail;go_meet;exact⟨Qh (by rw [HSV.out];exact HW2.out),Qh (by rw [HSV.out]),Qh (by rw [HSV.out];decide)⟩
   ·have HSV:=Qs (I0 d mn=(decide ((J9 d mn.snap).1.1=0)&&decide (((J9 d mn.snap).1.2.1:Int)=mn.snapSeq),(J9 d mn.snap).2)) (by unfold I0;rw [κ (ψ hsn)]);have HBK:=Qs (Calls prog 87 #[.pointer (some ⟨f,0,none⟩),Vi Vk mn.snap] w2 (BookLP w2 f m (Df d nr) L (J9 d mn.snap))) (HBKP.out (ψ hsn) w2 nr HW2.out.fs HW2.out.nib);have HBR:=Qs ((J9 d mn.snap).2≤67108864) (by
     refine η (book_read d mn.snap) ?_;unfold sizeN;split
     ·exact θ _
     ·rename_i x hx;exact fil_len HW2.out.fs hx)
    obtain⟨bk,hbk⟩: ∃ bk,bk=J9 d mn.snap:=⟨_,rfl⟩;rw [←hbk] at HSV HBK HBR;obtain⟨⟨e1,sq,ss⟩,n1⟩:=bk;unfold BookLP at HBK;dsimp only at HSV HBK HBR;clear hbk;go_wp2_with fail;refine HBK.out.mono ?_;rintro e w3 ⟨bv,rfl,_,hf3,ht3⟩;have HW3:=Qh (HW2.out.next hf (by rw [rdD_rdD] at hf3;exact hf3) ht3);have t4:=HW3.out.man.c4;clear hf3 ht3 HBK HW2 s3;rcases he1:(e1 != 0) with _|_
    ·rcases hsq:((sq:Int) != mn.snapSeq) with _|_
     ·have HSW:=Qs (I0 d mn=(true,n1)) (by rw [HSV.out,ξ (by simpa using he1),ξ (by simpa using hsq)];rfl);go_wp2_with fail;go_meet;exact⟨Qh (by rw [HSW.out];exact HW3.out),Qh (by rw [HSW.out]),Qh (by rw [HSW.out];exact HBR.out)⟩
     ·have HSW:=Qs (I0 d mn=(false,n1)) (by rw [HSV.out,ξ (by simpa using he1),ρ (by simpa using hsq)];rfl);have HPE:=Qs (Bq d=((Ay,4),nr+n1)) (by rw [HPE.out];unfold Lv;rw [HSW.out,κ rfl]);go_wp2_with (with_reducible refine Bz rfl (.tmp 2) (.tmp 58) rfl w.heap.size Ay Ay (.slice none 0 0) (.slice none 0 0) (.slice none 0 0) (.slice none 0 0) rfl rfl HW3.out.res rfl rfl ?_);intro w9 hw9;have HP:=Qs (Cb w9 w.heap.size Ay (.slice none 0 0) (.slice none 0 0)) (by rw [hw9.out];exact HW3.out.res.row);have HA:=Qh (show Bv w9 f m (Df d (nr+n1)) L∧Ab (fun i=>i=f) w w9 by rw [hw9.out];exact HW3.out.answer HLT.out _);clear hw9;go_wp2;refine π (v:= .tuple #[plV Ay (.slice none 0 0) (.slice none 0 0),Vi Vk 4]) (Cz rfl _ _ w.heap.size Ay _ _ _ rfl rfl HP.out) rfl ?_;rw [HPE.out];exact⟨_,_,rfl,D8 _ _,J4 _ _,rfl,rfl,HA.out⟩
    ·have HSW:=Qs (I0 d mn=(false,n1)) (by rw [HSV.out,ρ (by simpa using he1)];rfl);have HPE:=Qs (Bq d=((Ay,4),nr+n1)) (by rw [HPE.out];unfold Lv;rw [HSW.out,κ rfl]);go_wp2_with (with_reducible refine Bz rfl (.tmp 2) (.tmp 58) rfl w.heap.size Ay Ay (.slice none 0 0) (.slice none 0 0) (.slice none 0 0) (.slice none 0 0) rfl rfl HW3.out.res rfl rfl ?_);intro w9 hw9;have HP:=Qs (Cb w9 w.heap.size Ay (.slice none 0 0) (.slice none 0 0)) (by rw [hw9.out];exact HW3.out.res.row);have HA:=Qh (show Bv w9 f m (Df d (nr+n1)) L∧Ab (fun i=>i=f) w w9 by rw [hw9.out];exact HW3.out.answer HLT.out _);clear hw9;go_wp2;refine π (v:= .tuple #[plV Ay (.slice none 0 0) (.slice none 0 0),Vi Vk 4]) (Cz rfl _ _ w.heap.size Ay _ _ _ rfl rfl HP.out) rfl ?_;rw [HPE.out];exact⟨_,_,rfl,D8 _ _,J4 _ _,rfl,rfl,HA.out⟩
  case rest=>
   obtain⟨HW3,HSV,HSR⟩:=hcut;obtain⟨hlast,hlmem⟩:=last_segs HMF.out
   have HPM:=Qh (show (Lv d mn)=if (He d mn.segs.dropLast).1=false then ((Ay,4),(I0 d mn).2+(He d mn.segs.dropLast).2)
    else if (Bn d (Ah mn)).1.2.2=false∨(Ah mn).first - 1+((Bn d (Ah mn)).1.2.1:Int)<mn.snapSeq then ((Ay,4),(I0 d mn).2+(He d mn.segs.dropLast).2+(Bn d (Ah mn)).2)
    else ((⟨false,mn,straysD d true mn,((Bn d (Ah mn)).1.1:Int),(Ah mn).first - 1+((Bn d (Ah mn)).1.2.1:Int)⟩,0),(I0 d mn).2+(He d mn.segs.dropLast).2+(Bn d (Ah mn)).2) by unfold Lv;rw [γ (by rw [HSV.out];decide)])
   obtain⟨ns,hns⟩: ∃ ns,ns=(I0 d mn).2:=⟨_,rfl⟩;rw [←hns] at HW3 HSR HPM;obtain⟨dl,hdl⟩: ∃ dl,dl=mn.segs.dropLast:=⟨_,rfl⟩;obtain⟨lg,hlg⟩: ∃ lg,lg=Ah mn:=⟨_,rfl⟩;have HSG:=Qh HMF.out.seg;have hnx:=HMF.out.next;have hlen:=HMF.out.len;have hdk: ∀ (k:Nat) g,dl[k]? =some g→mn.segs[k]? =some g∧g∈mn.segs:=fun k g hg=>by
    have h1:mn.segs[k]? =some g:=by rw [hlast,←hdl,List.getElem?_append_left (getElem?_lt hg)];exact hg
    exact⟨h1,List.mem_of_getElem? h1⟩
   have hlk:mn.segs[dl.length]? =some lg:=by rw [hlast,←hdl,←hlg];simp
   have hll:mn.segs.length=dl.length+1:=by rw [hlast,←hdl];simp
   rw [←hdl,←hlg] at HPM;rw [←hlg] at hlmem;have HDK:=Qh hdk;have HLK:=Qh hlk;have HLM:=Qh hlmem;clear hlast hns hdl hlg hdk hlk hlmem HSV s3 HW2;obtain⟨osg,scap,hsh,hl1,hl2,_⟩:=HW3.out.seg;have s5:=HW3.out.man.c5;rw [hsh] at s5;rw [hll] at s5 hl1;have hw1:IntKind.i64.wrap (((dl.length+1:Nat):Int) - 1)=(dl.length:Int):=by rw [ν];omega
   have hcut:=cut_sg osg (dl.length+1) scap dl.length (by omega);have HHAT:=Qh (fun(W:World) (hW:Fu (fun k=>w.heap.size<k) W sv mn.segs) (i:Nat) g (hg:mn.segs[i]? =some g)=>(show ∃ b off,osg=some ⟨b,off,none⟩∧W.rangeAt b (off+i*4) (B4 g).toList from by
    obtain⟨o1,c1,e1,_,_,h1⟩:=hW;rw [hsh] at e1;simp only [Value.slice.injEq,true_and] at e1;obtain⟨rfl,rfl⟩:=e1;obtain⟨b,off,e2,_,h2⟩:=h1 i g hg;exact⟨b,off,e2,h2⟩))
   have HSH:=Qh hsh;have HLL:=Qh hll;have hdn:dl.length≤256:=by omega
   clear hsh hll;go_wp2;go_loopw [68] (fun iv wr=> ∃ (k n2:Nat),k≤dl.length∧iv= Vi Vk (k:Int)∧Hid (PlW w f m (Df d (nr+(ns+n2))) L bm mn sv wr)∧Hid (He d dl=((He d (dl.drop k)).1,n2+(He d (dl.drop k)).2))∧Hid (n2≤k*134217728)) (fun iv _=>dl.length - (intOf iv).toNat)
   case atStart=>exact⟨0,0,θ _,rfl,HW3,Qh (by simp),Qh (θ _)⟩
   case round=>
    obtain⟨k,n2,hk,rfl,HW,HSL,HNN⟩:=hrel;clear HW3 s5;have hnn:=HNN.out;have hns:=HSR.out;by_cases hlt:k<dl.length
    ·have hgk:dl[k]? =some dl[k]:=Θ hlt;obtain⟨g,hg⟩: ∃ g,g=dl[k]:=⟨_,rfl⟩;rw [←hg] at hgk;have hdr:dl.drop k=g::dl.drop (k+1):=by rw [List.drop_eq_getElem_cons hlt,←hg]
     obtain⟨hgm,hgs⟩:=HDK.out k g hgk;rw [hdr,He] at HSL;obtain⟨b,off,rfl,hce⟩:=HHAT.out wr HW.out.seg k g hgm;have q1:(k:Int)<(dl.length:Int):=by omega
     have HCE:=Qh hce;have hft:=(HSG.out g hgs).2.2.2.2.2.2.1;have HSBR:=Qs ((Ep d g).2≤134217728) (by
      refine η (sealed_read d g) ?_;unfold sizeN;split
      ·omega
      ·rename_i x hx;have:x.data.length≤67108864:=fil_len HW.out.fs hx;omega)
     have HBA:=Qh (Aa wr (.cells (B4 g) 72));have HBK:=Qs (Ft (wr.alloc (.cells (B4 g) 72)) wr.heap.size g) (σ wr _);have HWA:=Qh (HW.out.below hf HBA.out)
     have HSE:=Qh (show Calls prog 88 #[.pointer (some ⟨f,0,none⟩),sgV g] (wr.alloc (.cells (B4 g) 72)) fun e w'=>e= .returned (.bool (Ep d g).1)∧Bv w' f m (Df (Df d (nr+(ns+n2))) (Ep d g).2) L∧Ab (fun i=>i=f) (wr.alloc (.cells (B4 g) 72)) w' from
      sealed_any _ f m (Df d (nr+(ns+n2))) L HWA.out.fs HWA.out.nib g hft)
     obtain⟨sr,hsr⟩: ∃ sr,sr=Ep d g:=⟨_,rfl⟩;rw [←hsr] at HSE HSBR HSL;obtain⟨sb,sn⟩:=sr;dsimp only at HSE HSBR HSL;have hk1:IntKind.i64.wrap ((k:Int)+1)=(k:Int)+1:=by rw [ν];omega
     clear hgk hg hdr hgm hgs hce hsr hft;simp only [B4] at HBA HBK HWA HSE;go_wp2_with (first|(with_reducible refine Bc rfl (.tmp 70) rfl b (off+k*4) g rfl HCE.out ?_)|(with_reducible refine Bc rfl (.tmp 12) rfl wr.heap.size 0 g rfl HBK.out.range ?_));refine HSE.out.mono ?_;rintro e w5 ⟨rfl,hf5,ht5⟩;have HW5:=Qh (HWA.out.next hf (show Bv w5 f m (Df d (nr+(ns+(n2+sn)))) L by rw [rdD_rdD] at hf5;rw [show nr+(ns+(n2+sn))=nr+(ns+n2)+sn by omega];exact hf5) ht5);clear hf5 ht5 HSE HWA HBK HBA HCE HW;cases sb
     ·have HSF:=Qs (He d dl=(false,n2+sn)) (by rw [HSL.out,γ (by decide)]);have HPE:=Qs (Bq d=((Ay,4),nr+(ns+(n2+sn)))) (by rw [HPE.out,HPM.out,HSF.out,κ rfl]);go_wp2_with (with_reducible refine Bz rfl (.tmp 2) (.tmp 76) rfl w.heap.size Ay Ay (.slice none 0 0) (.slice none 0 0) (.slice none 0 0) (.slice none 0 0) rfl rfl HW5.out.res rfl rfl ?_);intro w9 hw9;have HP:=Qs (Cb w9 w.heap.size Ay (.slice none 0 0) (.slice none 0 0)) (by rw [hw9.out];exact HW5.out.res.row);have HA:=Qh (show Bv w9 f m (Df d (nr+(ns+(n2+sn)))) L∧Ab (fun i=>i=f) w w9 by rw [hw9.out];exact HW5.out.answer HLT.out _);clear hw9;go_wp2;refine π (v:= .tuple #[plV Ay (.slice none 0 0) (.slice none 0 0),Vi Vk 4]) (Cz rfl _ _ w.heap.size Ay _ _ _ rfl rfl HP.out) rfl ?_;rw [HPE.out];exact⟨_,_,rfl,D8 _ _,J4 _ _,rfl,rfl,HA.out⟩
     ·have hsb:=HSBR.out;go_wp2;go_roundw
      case rel=>exact⟨k+1,n2+sn,by omega,by go_num,HW5,Qh (by rw [HSL.out];simp [Nat.add_assoc]),Qh (by omega)⟩
      case measure=>simp [intOf];omega
    ·obtain rfl:k=dl.length:=by omega
     have HSF:=Qs (He d dl=(true,n2)) (by rw [HSL.out,List.drop_length];rfl)
     have HPM:=Qh (show (Lv d mn)=if (Bn d lg).1.2.2=false∨lg.first - 1+((Bn d lg).1.2.1:Int)<mn.snapSeq then ((Ay,4),ns+n2+(Bn d lg).2)
      else ((⟨false,mn,straysD d true mn,((Bn d lg).1.1:Int),lg.first - 1+((Bn d lg).1.2.1:Int)⟩,0),ns+n2+(Bn d lg).2) by rw [HPM.out,HSF.out,γ (by simp)])
     have HAC:=Qh (show Calls prog 89 #[.pointer (some ⟨f,0,none⟩),sgV lg] wr fun e w'=>e= .returned (.tuple #[Vi Vk ((Bn d lg).1.1:Int),Vi Vk ((Bn d lg).1.2.1:Int),.bool (Bn d lg).1.2.2])∧Bv w' f m (Df (Df d (nr+(ns+n2))) (Bn d lg).2) L∧Ab (fun i=>i=f) wr w' from
      active_any wr f m (Df d (nr+(ns+n2))) L HW.out.fs HW.out.nib lg)
     have HCN:=Qs ((Bn d lg).1.2.1≤512∧(Bn d lg).1.1≤67108864) ((active_cnt (Df d (nr+(ns+n2))) lg).resolve_right fun h=>h HW.out.fs.ok);obtain⟨ar,har⟩: ∃ ar,ar=Bn d lg:=⟨_,rfl⟩;rw [←har] at HPM HAC HCN;obtain⟨⟨cu,cn,ok⟩,na⟩:=ar;dsimp only at HPM HAC HCN;obtain⟨b,off,rfl,hce⟩:=HHAT.out wr HW.out.seg dl.length lg HLK.out;have HCE:=Qh hce;have s5:=HW.out.man.c5;rw [HSH.out,HLL.out] at s5;have q2:(dl.length:Int)<((dl.length+1:Nat):Int):=by omega
     clear har hce HSL HNN hnn hcut;go_wp2_with (with_reducible refine Bc rfl (.tmp 83) rfl b (off+dl.length*4) lg rfl HCE.out ?_)
     with_reducible refine HAC.out.mono ?_
     rintro e w6 ⟨rfl,hf6,ht6⟩;have HW6:=Qh (HW.out.next hf (show Bv w6 f m (Df d (nr+(ns+n2+na))) L by rw [rdD_rdD] at hf6;rw [show nr+(ns+n2+na)=nr+(ns+n2)+na by omega];exact hf6) ht6);obtain⟨b',off',e',hce⟩:=HHAT.out w6 HW6.out.seg dl.length lg HLK.out;simp only [Option.some.injEq,Addr.mk.injEq,and_true] at e';obtain⟨rfl,rfl⟩:=e';have f1:w6.cell? ⟨b,off+dl.length*4+1,none⟩=some (Vi Vk lg.first):=hce 1 _ rfl;have s6:=HW6.out.man.c5;rw [HSH.out,HLL.out] at s6;have s7:=HW6.out.man.c4;have hlb:=HSG.out lg HLM.out;have hcn:=HCN.out;have hw2:IntKind.i64.wrap (lg.first - 1)=lg.first - 1:=by rw [ν];omega
     have hw3:IntKind.i64.wrap (lg.first - 1+(cn:Int))=lg.first - 1+(cn:Int):=by rw [ν];omega
     clear hf6 ht6 hce s5 HAC HW HCE hcn hlb;cases ok
     ·have HPE:=Qs (Bq d=((Ay,4),nr+(ns+n2+na))) (by rw [HPE.out,HPM.out,κ (.inl rfl)]);go_wp2_with (with_reducible refine Bz rfl (.tmp 2) (.tmp 106) rfl w.heap.size Ay Ay (.slice none 0 0) (.slice none 0 0) (.slice none 0 0) (.slice none 0 0) rfl rfl HW6.out.res rfl rfl ?_);intro w9 hw9;have HP:=Qs (Cb w9 w.heap.size Ay (.slice none 0 0) (.slice none 0 0)) (by rw [hw9.out];exact HW6.out.res.row);have HA:=Qh (show Bv w9 f m (Df d (nr+(ns+n2+na))) L∧Ab (fun i=>i=f) w w9 by rw [hw9.out];exact HW6.out.answer HLT.out _);clear hw9;go_wp2;refine π (v:= .tuple #[plV Ay (.slice none 0 0) (.slice none 0 0),Vi Vk 4]) (Cz rfl _ _ w.heap.size Ay _ _ _ rfl rfl HP.out) rfl ?_;rw [HPE.out];exact⟨_,_,rfl,D8 _ _,J4 _ _,rfl,rfl,HA.out⟩
     rcases hls:decide (lg.first - 1+(cn:Int)<mn.snapSeq) with _|_
     case true=>
      have HPE:=Qs (Bq d=((Ay,4),nr+(ns+n2+na))) (by rw [HPE.out,HPM.out,κ (.inr (ψ hls))]);go_wp2_with (with_reducible refine Bz rfl (.tmp 2) (.tmp 106) rfl w.heap.size Ay Ay (.slice none 0 0) (.slice none 0 0) (.slice none 0 0) (.slice none 0 0) rfl rfl HW6.out.res rfl rfl ?_);intro w9 hw9;have HP:=Qs (Cb w9 w.heap.size Ay (.slice none 0 0) (.slice none 0 0)) (by rw [hw9.out];exact HW6.out.res.row);have HA:=Qh (show Bv w9 f m (Df d (nr+(ns+n2+na))) L∧Ab (fun i=>i=f) w w9 by rw [hw9.out];exact HW6.out.answer HLT.out _);clear hw9;go_wp2;refine π (v:= .tuple #[plV Ay (.slice none 0 0) (.slice none 0 0),Vi Vk 4]) (Cz rfl _ _ w.heap.size Ay _ _ _ rfl rfl HP.out) rfl ?_;rw [HPE.out];exact⟨_,_,rfl,D8 _ _,J4 _ _,rfl,rfl,HA.out⟩
     have HPE:=Qs (Bq d=((⟨false,mn,straysD d true mn,(cu:Int),lg.first - 1+(cn:Int)⟩,0),nr+(ns+n2+na))) (by rw [HPE.out,HPM.out,γ];rintro(h|h);cases h;exact Γ hls h);have hbm:=HW6.out.bmf;obtain rfl:=HSH.out;go_wp2_with fail;refine ε (S:=fun w'=>Ab (fun k=>k=w.heap.size) w6 w') (by kernel_rfl) (Ab.below (Ac w6 1)) (fun hHeld=> ?_);refine tkl 0 bm 0 [Vi Vk mn.gen,Vi Vk mn.next,Vi Vk mn.floor,Vi Vk mn.snap,Vi Vk mn.snapSeq,.slice (some ⟨b,off,none⟩) mn.segs.length scap] rfl rfl (fun w' h j v hv=>by rw [Nat.zero_add];exact h.cell (by rw [HW6.out.man.cell];simpa [B3] using hv) (by simp only;omega)) underlying69 rfl (by rw [Ko];rfl) ?_;simp only [pA,pB,pC,pD];refine tq 1 rfl ?_;refine tkl 2 bm 0 [Vi Vk mn.gen,Vi Vk mn.next,Vi Vk mn.floor,Vi Vk mn.snap,Vi Vk mn.snapSeq,.slice (some ⟨b,off,none⟩) mn.segs.length scap] rfl rfl (fun w' h j v hv=>by rw [Nat.zero_add];exact h.cell (by rw [HW6.out.man.cell];simpa [B3] using hv) (by simp only;omega)) underlying69 rfl (by rw [Ko];rfl) ?_;simp only [pA,pB,pC,pD];refine tq 4 rfl ?_;refine tq 5 rfl ?_;have hbd:Below w6.heap.size w6 (World.drew w6):=Ac w6 1;have HPD:=Qh (HW6.out.res.below hbd);clear hbd;generalize World.drew w6=Wd at*;refine Rd 3 rfl fun K hK=> ?_;go_simp;go_at_call 90;refine(strays_there Wd f m (Df d (nr+(ns+n2+na))) L (HW6.out.fs.turned hHeld (fun k hk he=>by have:=HLT.out k hk;omega)) HDN.out mn _ (HW6.out.seg.turned hHeld (fun k hk=>by omega)).row (fun g hg=>by have:=HSG.out g hg;omega) (by omega)).mono ?_;rintro e w7 ⟨v7,rfl,ho7,hb7⟩;have HT7:=Qh (show Ab (fun k=>k=w.heap.size) w6 w7 from hHeld.trans (Ab.below hb7) fun i hi=> .inl hi);have HR7:=Qh (stIn_own (A:=fun k=>w6.heap.size≤k) (l:=straysD d true mn) (Oj ho7 hHeld.size) (fun _ h=>h));obtain⟨o7,cap7,rfl,_,_⟩:=Aj ho7;have HP7:=Qh (HPD.out.below hb7);have hlo:w.heap.size<w6.heap.size:=HW6.out.res.lt;clear ho7 hb7 hHeld HPD;go_wp2_with fail;refine hK.out _ _ HT7.out (fun hHeld=> ?_);clear hK K hHeld;refine tq 6 rfl ?_;refine Rd 7 rfl fun K hK=> ?_;rw [κ (by kernel_rfl)];refine wp_store_row 75 (.tmp 2) (.tmp 113) rfl w.heap.size (Gf ⟨false,mn,straysD d true mn,(cu:Int),lg.first - 1+(cn:Int)⟩ (.slice (some ⟨b,off,none⟩) mn.segs.length scap) (.slice o7 (straysD d true mn).length cap7)) rfl rfl 75 (Gf Ay (.slice none 0 0) (.slice none 0 0)) HP7.out plInfo rfl (plCs_all _ _ _ rfl rfl) ?_;have ht8:Ab (fun k=>k=w.heap.size) w7 (w7.setRow w.heap.size (Gf ⟨false,mn,straysD d true mn,(cu:Int),lg.first - 1+(cn:Int)⟩ (.slice (some ⟨b,off,none⟩) mn.segs.length scap) (.slice o7 (straysD d true mn).length cap7))):=Ax _ _ _;have HP8:=Qs (Cb (w7.setRow w.heap.size (Gf ⟨false,mn,straysD d true mn,(cu:Int),lg.first - 1+(cn:Int)⟩ (.slice (some ⟨b,off,none⟩) mn.segs.length scap) (.slice o7 (straysD d true mn).length cap7))) w.heap.size ⟨false,mn,straysD d true mn,(cu:Int),lg.first - 1+(cn:Int)⟩ (.slice (some ⟨b,off,none⟩) mn.segs.length scap) (.slice o7 (straysD d true mn).length cap7)) HP7.out.row;have HT8:=Qh (show Ab (fun k=>k=w.heap.size) w6 (w7.setRow w.heap.size (Gf ⟨false,mn,straysD d true mn,(cu:Int),lg.first - 1+(cn:Int)⟩ (.slice (some ⟨b,off,none⟩) mn.segs.length scap) (.slice o7 (straysD d true mn).length cap7))) from HT7.out.trans ht8 fun i hi=> .inl hi);have HR8:=Qh (HR7.out.turned ht8 fun k hk=>by omega);clear ht8 HR7 HT7 HP7;generalize w7.setRow w.heap.size (Gf ⟨false,mn,straysD d true mn,(cu:Int),lg.first - 1+(cn:Int)⟩ (.slice (some ⟨b,off,none⟩) mn.segs.length scap) (.slice o7 (straysD d true mn).length cap7))=w8 at*;refine hK.out _ _ HT8.out (fun hHeld=> ?_);clear hK K;refine tk 8 rfl ?v_1 ?hy_1 ?r_1
     case hy_1=>intro w hSw;go_simp;try with_reducible rfl
     simp only [pA];refine Ξ (by kernel_rfl) ?_ _;have HTE:=Qh (show Ab (fun i=>i=f) w w8 from HW6.out.top.trans HT8.out fun i hi=> .inr (by omega));have HSE:=Qh (show Fu (fun k=>w.heap.size≤k) w8 (.slice (some ⟨b,off,none⟩) mn.segs.length scap) mn.segs from(HW6.out.seg.turned HT8.out (fun k hk=>by omega)).mono (fun k hk=>by omega));have HFE:=Qs (Bv w8 f m (Df d (nr+(ns+n2+na))) L) (HW6.out.fs.turned HT8.out (fun k hk he=>by have:=HLT.out k hk;omega));clear hHeld;go_wp2;refine π (v:= .tuple #[plV ⟨false,mn,straysD d true mn,(cu:Int),lg.first - 1+(cn:Int)⟩ (.slice (some ⟨b,off,none⟩) mn.segs.length scap) (.slice o7 (straysD d true mn).length cap7),Vi Vk 0]) (Cz rfl _ _ w.heap.size _ _ _ _ rfl rfl HP8.out) rfl ?_;rw [HPE.out];exact⟨_,_,rfl,HSE.out,HR8.out.mono (fun k hk=>by omega),rfl,rfl,HFE.out,HTE.out⟩
theorem plan_bookless (w:World) (f m:Nat) (d:Af) (L:List Aq) (h:Bv w f m d L) (hn:Bh w) (h0:(B6 d).1.1.snap≤0):
  Calls prog 57 #[.pointer (some ⟨f,0,none⟩)] w (PlanP w f m d L (Bq d)):=
 plan_core w f m d L h hn fun hp=>absurd hp (by omega)
def runR (d:Af):(Pl×Int)×Af:=
 if (Bq d).1.2≠0 then ((Ay,(Bq d).1.2),Df d (Bq d).2)
 else if (B1 (Df d (Bq d).2) (Bq d).1.1).2≠0 then ((Ay,(B1 (Df d (Bq d).2) (Bq d).1.1).2),(B1 (Df d (Bq d).2) (Bq d).1.1).1)
 else ((Bq d).1,(B1 (Df d (Bq d).2) (Bq d).1.1).1)
theorem runR_bad {d:Af} (h:(Bq d).1.2≠0):runR d=((Ay,(Bq d).1.2),Df d (Bq d).2):=by unfold runR;rw [κ h]
theorem runR_off {d:Af} (h:(Bq d).1.2=0) (h2:(B1 (Df d (Bq d).2) (Bq d).1.1).2≠0):runR d=((Ay,(B1 (Df d (Bq d).2) (Bq d).1.1).2),(B1 (Df d (Bq d).2) (Bq d).1.1).1):=by unfold runR;rw [γ (fun k=>k h),κ h2]
theorem runR_good {d:Af} (h:(Bq d).1.2=0) (h2:(B1 (Df d (Bq d).2) (Bq d).1.1).2=0):runR d=((Bq d).1,(B1 (Df d (Bq d).2) (Bq d).1.1).1):=by unfold runR;rw [γ (fun k=>k h),γ (fun k=>k h2)]
theorem plan_manOk {d:Af} (h:(Bq d).1.2=0):Cy (Bq d).1.1.man=true:=by
 unfold Bq at h ⊢;split at h
 ·rename_i h1;exfalso;simp only at h;split at h
  ·cases h
  ·exact h1 h
 ·rename_i h1;rw [γ h1];split at h
  ·rename_i h2;rw [κ h2];unfold Il at h ⊢;split at h
   ·cases h
   ·rename_i h3;simp only [γ h3];exact firstM_ok
  ·rename_i h2;rw [γ h2];have hlo:=load_ok (d:=d) (by simpa using h2);simp only at h ⊢;unfold Lv at h ⊢;split at h
   ·cases h
   ·rename_i h3;rw [γ h3];split at h
    ·cases h
    ·rename_i h4;rw [γ h4];split at h
     ·cases h
     ·rename_i h5;rw [γ h5];exact hlo.1
theorem plan_rems {d:Af} (hc:d.files.length≤700) (h:(Bq d).1.2=0):(Bq d).1.1.remove.length≤700:=by
 obtain⟨_,_,t,m,e⟩:=plan_good h;rw [e];exact η (strays_len d t m) hc
theorem StIn.low {l:List (List UInt8)} (h:StIn A w v l):StIn (fun k=>A k∧k<w.heap.size) w v l:=by
 obtain⟨oa,cap,h1,h2,h3,h4⟩:=h;exact⟨oa,cap,h1,h2,h3,fun i x hx=>by obtain⟨b,off,e,ha,hc⟩:=h4 i x hx;exact⟨b,off,e,⟨ha,World.block_lt_of_cell? w _ hc⟩,hc⟩⟩
def RunQ (w:World) (f m:Nat) (L:List Aq) (r:(Pl×Int)×Af) (e:Ending) (w':World):Prop:=
 ∃ sv rv L',e= .returned (.tuple #[plV r.1.1 sv rv,Vi Vk r.1.2])∧Fu (fun k=>w.heap.size≤k∧ ¬ foot f m L' k) w' sv r.1.1.man.segs∧StIn (fun k=>w.heap.size≤k∧ ¬ foot f m L' k) w' rv r.1.1.remove∧sv.oneCell'=true∧rv.oneCell'=true∧
  Bv w' f m r.2 L'∧Ab (foot f m L) w w'∧ ∀ k,foot f m L' k→foot f m L k∨w.heap.size≤k
theorem run_core (w:World) (f m:Nat) (d:Af) (L:List Aq) (h:Bv w f m d L) (hn:Bh w) (hg: ¬ foot f m L 1) (hst:d.steps≤1152921504606846976)
  (hpl: ∀ W,Bv W f m d L→Bh W→Calls prog 57 #[.pointer (some ⟨f,0,none⟩)] W (PlanP W f m d L (Bq d))):
  Calls prog 31 #[.pointer (some ⟨f,0,none⟩)] w (RunQ w f m L (runR d)):=by
 have hff:foot f m L f:= .inl rfl;have HLT:=Qh h.lt;have HB0:=Qh (Aa w (.cells (Gf Ay (.slice none 0 0) (.slice none 0 0)) 75));have HR0:=Qh (Hv w Ay (.slice none 0 0) (.slice none 0 0));have HPL:=Qh (hpl _ (h.below HB0.out) (hn.below HB0.out));have HE1:=Qh (@runR_bad d);have HE2:=Qh (@runR_off d);have HE3:=Qh (@runR_good d);have HMO:=Qh (@plan_manOk d);have HRM:=Qh (@plan_rems d h.ok.count);have HBAD:=Qh (@plan_bad d);have HNB:=Qh hn;have HNL:=Qh hn.lt;have HNG:=Qh hg;have HST:=Qh hst;have hfl:=h.hd.lt;have HF:=Qs (f<w.heap.size) hfl;have HFO:=Qh hff;simp only [Gf,Ay,zeroM] at HB0 HR0 HPL;obtain⟨r,hr⟩: ∃ r,r=Bq d:=⟨_,rfl⟩;rw [←hr] at HPL HE1 HE2 HE3 HMO HRM HBAD;clear h hn hg hst hr hfl hff hpl;obtain⟨⟨p,e0⟩,nr⟩:=r;unfold PlanP at HPL;dsimp only at HPL HE1 HE2 HE3 HMO HRM HBAD;go_enter func31,ntmps31;go_wp2_with fail;refine HPL.out.mono ?_;rintro e w1 ⟨sv,rv,rfl,hsg,hsr,hone,hrone,hf1,ht1⟩;have HONE:=Qh hone;have HRONE:=Qh hrone;have HF1:=Qh hf1;have hsz0:w.heap.size<(w.alloc (.cells #[.bool false,Vi Vk 0,Vi Vk 0,Vi Vk 0,Vi Vk 0,Vi Vk 0,.slice none 0 0,.slice none 0 0,Vi Vk 0,Vi Vk 0] 75)).heap.size:=HR0.out.lt;have hsz1:=ht1.size;have HSG1:=Qh ((hsg.mono (A':=fun k=>w.heap.size<k) (fun k hk=>by omega)));have HSR1:=Qh ((hsr.mono (A':=fun k=>w.heap.size<k) (fun k hk=>by omega)));have HR1:=Qh (HR0.out.kept (ht1.block _ HR0.out.lt (fun hc=>by have:=HF.out;omega)));have HT1:=Qh (show Ab (fun i=>i=f) w w1 from(Ab.below HB0.out).trans ht1 fun i hi=> .inl hi);have HPz:=Qh (Hv w1 Ay (.slice none 0 0) (.slice none 0 0));have hba:=Aa w1 (.cells (Gf Ay (.slice none 0 0) (.slice none 0 0)) 75);simp only [Gf,Ay,zeroM] at HPz hba;clear hone hrone hsg hsr hf1 ht1 HPL HR0 HB0;go_wp2_with (with_reducible refine Bz rfl (.tmp 4) (.tmp 10) rfl w1.heap.size ⟨false,⟨0,0,0,0,0,[]⟩,[],0,0⟩ p (.slice none 0 0) (.slice none 0 0) sv rv rfl rfl HPz.out HONE.out HRONE.out ?_);intro w2 hw2;have hb2:Below w1.heap.size w1 w2:=by rw [hw2.out];exact Bw hba (μ _) _
 have HP2:=Qs (Cb w2 w1.heap.size p sv rv) (by rw [hw2.out];exact HPz.out.row);have HF2:=Qh (HF1.out.below hb2);have HSG2:=Qh (HSG1.out.below hb2);have HSR2:=Qh (HSR1.out.below hb2);have HR2:=Qh (HR1.out.below hb2);have HT2:=Qh (HT1.out.trans (Ab.below (S:=fun i=>i=f) hb2) fun i hi=> .inl hi);have HNB2:=Qs (Bh w2) (HNB.out.turned HT2.out (fun e=>HNG.out (by rw [e];exact HFO.out)) HNL.out);have hbb:w.heap.size<w1.heap.size:=HR1.out.lt;clear hw2 hb2 hba HPz HF1 HSG1 HSR1 HR1 HT1 HNB;generalize hb1e:w1.heap.size=b1 at*;rcases he:(e0 != 0) with _|_
 case true=>
  have hne:e0≠0:=by simpa using he
  have HE:=Qh (HE1.out hne);clear hne hb1e;go_wp2_with (with_reducible refine Bz rfl (.tmp 2) (.tmp 14) rfl w.heap.size ⟨false,⟨0,0,0,0,0,[]⟩,[],0,0⟩ ⟨false,⟨0,0,0,0,0,[]⟩,[],0,0⟩ (.slice none 0 0) (.slice none 0 0) (.slice none 0 0) (.slice none 0 0) rfl rfl HR2.out rfl rfl ?_);intro w3 hw3;have HR3:=Qs (Cb w3 w.heap.size Ay (.slice none 0 0) (.slice none 0 0)) (by rw [hw3.out];exact HR2.out.row);have ht3:Ab (fun k=>k=w.heap.size) w2 w3:=by rw [hw3.out];exact Ax _ _ _
  have HF3:=Qh (HF2.out.turned ht3 (fun k hk e=>by have:=HLT.out k hk;omega));have HT3:=Qs (Ab (foot f m L) w w3) ((HT2.out.trans ht3 fun i hi=> .inr (by omega)).mono fun i hi=>by subst hi;exact HFO.out);clear hw3 ht3;go_wp2;refine π (v:= .tuple #[plV Ay (.slice none 0 0) (.slice none 0 0),Vi Vk e0]) (Cz rfl _ _ w.heap.size Ay (.slice none 0 0) (.slice none 0 0) _ rfl rfl HR3.out) rfl ?_;rw [HE.out];exact⟨_,_,L,rfl,⟨none,0,rfl,μ _,by decide,fun i x hx=>by simp [Ay,zeroM] at hx⟩,⟨none,0,rfl,μ _,by decide,fun i x hx=>by simp [Ay] at hx⟩,rfl,rfl,HF3.out,HT3.out,fun k hk=> .inl hk⟩
 case false=>
  have h0:e0=0:=by simpa using he
  subst h0;clear HE1 HBAD he;have HMO':=Qh (HMO.out rfl);have HRM':=Qh (HRM.out rfl);have HE2':=Qh (HE2.out rfl);have HE3':=Qh (HE3.out rfl);have hnf: ∀ k,w.heap.size<k→ ¬ foot f m L k:=fun k hk hc=>by have:=HLT.out k hc;omega
  have HRA:=Qh (recApply_good w2 f m (Df d nr) L HF2.out p sv rv (HSG2.out.mono hnf) (HSR2.out.mono hnf) HNB2.out HNG.out (by show d.steps+(p.remove.length:Int)+16<_;have:=HST.out;have:=HRM'.out;omega) HMO'.out);have HNF:=Qh hnf;clear HE2 HE3 HMO HRM hnf;obtain⟨a,ha⟩: ∃ a,a=B1 (Df d nr) p:=⟨_,rfl⟩;rw [←ha] at HRA HE2' HE3';clear ha;obtain⟨d',ea⟩:=a;unfold Fj at HRA;dsimp only at HRA HE2' HE3';go_wp2_with (with_reducible refine Na rfl (.tmp 4) rfl b1 p sv rv rfl HP2.out ?_);refine HRA.out.mono ?_;rintro e w3 ⟨rfl,hp⟩;have HP3:=Qh (HP2.out.kept (hp.block HP2.out.lt (HNF.out _ hbb)));have HR3:=Qh (HR2.out.kept (hp.block HR2.out.lt (fun hc=>by have:=HLT.out _ hc;omega)));obtain⟨L',hf3,ht3,hl3⟩:=hp;have hw12:=HT2.out.size;have HF3:=Qh hf3;have HSG3:=Qh (HSG2.out.low.turned ht3 (fun k hk=>HNF.out k hk.1));have HSR3:=Qh (HSR2.out.low.turned ht3 (fun k hk=>HNF.out k hk.1));have HT3:=Qs (Ab (foot f m L) w w3) ((HT2.out.mono fun i hi=>by subst hi;exact HFO.out).trans ht3 fun i hi=> .inl hi);have HL3:=Qs (∀ k,foot f m L' k→foot f m L k∨w2.heap.size≤k) hl3;have hlt2:b1<w2.heap.size:=HP2.out.lt;clear hf3 ht3 hl3 HRA HP2 HR2 HF2 HSG2 HSR2 HT2 HNB2 hb1e;rcases he:(ea != 0) with _|_
  case true=>
   have hne:ea≠0:=by simpa using he
   have HE:=Qh (HE2'.out hne);clear hne;go_wp2_with (with_reducible refine Bz rfl (.tmp 2) (.tmp 21) rfl w.heap.size ⟨false,⟨0,0,0,0,0,[]⟩,[],0,0⟩ ⟨false,⟨0,0,0,0,0,[]⟩,[],0,0⟩ (.slice none 0 0) (.slice none 0 0) (.slice none 0 0) (.slice none 0 0) rfl rfl HR3.out rfl rfl ?_);intro w4 hw4;have HR4:=Qs (Cb w4 w.heap.size Ay (.slice none 0 0) (.slice none 0 0)) (by rw [hw4.out];exact HR3.out.row);have ht4:Ab (fun k=>k=w.heap.size) w3 w4:=by rw [hw4.out];exact Ax _ _ _
   have HF4:=Qh (HF3.out.turned ht4 (fun k hk e=>by
    subst e;rcases HL3.out _ hk with h|h
    ·have:=HLT.out _ h;omega
    ·omega))
   have HT4:=Qs (Ab (foot f m L) w w4) (HT3.out.trans ht4 fun i hi=> .inr (by omega));clear hw4 ht4;go_wp2;refine π (v:= .tuple #[plV Ay (.slice none 0 0) (.slice none 0 0),Vi Vk ea]) (Cz rfl _ _ w.heap.size Ay (.slice none 0 0) (.slice none 0 0) _ rfl rfl HR4.out) rfl ?_;rw [HE.out];exact⟨_,_,L',rfl,⟨none,0,rfl,μ _,by decide,fun i x hx=>by simp [Ay,zeroM] at hx⟩,⟨none,0,rfl,μ _,by decide,fun i x hx=>by simp [Ay] at hx⟩,rfl,rfl,HF4.out,HT4.out,fun k hk=>(HL3.out k hk).imp id (fun h=>by omega)⟩
  case false=>
   have h0:ea=0:=by simpa using he
   subst h0;have HE:=Qh (HE3'.out rfl);go_wp2_with (first|(with_reducible refine Na rfl (.tmp 4) rfl b1 p sv rv rfl HP3.out ?_)|(with_reducible refine Bz rfl (.tmp 2) (.tmp 23) rfl w.heap.size ⟨false,⟨0,0,0,0,0,[]⟩,[],0,0⟩ p (.slice none 0 0) (.slice none 0 0) sv rv rfl rfl HR3.out HONE.out HRONE.out ?_));intro w4 hw4;have HR4:=Qs (Cb w4 w.heap.size p sv rv) (by rw [hw4.out];exact HR3.out.row);have ht4:Ab (fun k=>k=w.heap.size) w3 w4:=by rw [hw4.out];exact Ax _ _ _
   have HF4:=Qh (HF3.out.turned ht4 (fun k hk e=>by
    subst e;rcases HL3.out _ hk with h|h
    ·have:=HLT.out _ h;omega
    ·omega))
   have HT4:=Qs (Ab (foot f m L) w w4) (HT3.out.trans ht4 fun i hi=> .inr (by omega));have hA: ∀ k,w.heap.size<k∧k<w2.heap.size→w.heap.size≤k∧ ¬ foot f m L' k:=fun k hk=>⟨by omega,fun hc=>by
    rcases HL3.out _ hc with h|h
    ·have:=HLT.out _ h;omega
    ·omega⟩
   have HSG4:=Qh ((HSG3.out.turned ht4 (fun k hk=>by omega)).mono hA);have HSR4:=Qh ((HSR3.out.turned ht4 (fun k hk=>by omega)).mono hA);clear hw4 ht4 hA;go_wp2;refine π (v:= .tuple #[plV p sv rv,Vi Vk 0]) (Cz rfl _ _ w.heap.size p sv rv _ rfl rfl HR4.out) rfl ?_;rw [HE.out];exact⟨_,_,L',rfl,HSG4.out,HSR4.out,HONE.out,HRONE.out,HF4.out,HT4.out,fun k hk=>(HL3.out k hk).imp id (fun h=>by omega)⟩
theorem run_bookless (w:World) (f m:Nat) (d:Af) (L:List Aq) (h:Bv w f m d L) (hn:Bh w) (hg: ¬ foot f m L 1) (hst:d.steps≤1152921504606846976) (h0:(B6 d).1.1.snap≤0):
  Calls prog 31 #[.pointer (some ⟨f,0,none⟩)] w (RunQ w f m L (runR d)):=
 run_core w f m d L h hn hg hst fun W hF hN=>plan_bookless W f m d L hF hN h0
end Go.Proofs.YtgkdenejkcngnaaGreatDoor
